/-
  CasetreeFirst answers true for every input of bulk at most 1048576; the input reads as it did.
-/
import Derived.Test.YtplomildbmcmfaaGreatZA0
import Derived.Test.YtplomildbmcmfaaGreatZHQ
import Derived.Test.YtplomildbmcmfaaGreatZCK
import Derived.Test.YtplomildbmcmfaaGreatZAW
set_option maxRecDepth 100000
set_option maxHeartbeats 4000000
namespace Go.Proofs.YtplomildbmcmfaaGreat.casetreeFirst
open Go Go.AI
open Go.ChangeShapes Go.WideShapes Go.ChangeAt Go.RowKit
theorem own:ownKnob Tryz.prog.godebug=none:=by kernel_rfl
theorem bound {H:Type} {l:List (DataW H)} (hk:Rows.uptoSmall H l=true):Rows.uptoBulkAll l<=1048576:=of_decide_eq_true hk
theorem contract (H:Type)(enc:TypeId×Value->H)(W:World)(base:Nat)(args:Array Value)(ds gs:List (DataW H))(before:List MemPlace)
  (hval:∀(j:Nat) t v,Tryz.f6.params[j]?=some t->args[j]?=some v->Value.okWide Tryz.prog W .any base t v)
  (hW:DataW.Whole enc Tryz.prog Tryz.f6.params.toList Rows.casetreeFirstSpec.vars false W args.toList ds gs before) (hk:Rows.uptoSmall H (ds++gs)=true):
  Calls Tryz.prog 6 args W fun e W'=>∃v,e= .returned v/\Rows.casetreeFirstSpec.post enc Tryz.prog Tryz.f6 false true false false W args v W':=by
 have hW':=hW;obtain⟨p,q,hA0,hV,rfl,hfz,hnd⟩:=hW;have hA:DataW.TrodAll enc Tryz.prog W 0 (fun _=>true) true Tryz.f6.params.toList args.toList ds p:=hA0;rw[Tryz.params6] at hA hval;obtain⟨v0,vs0,d0,ds0,p0,q0,hargs,rfl,rfl,h0,r0⟩:=trodAll_cons hA;obtain⟨v1,vs1,d1,ds1,p1,q1,rfl,rfl,rfl,h1,r1⟩:=trodAll_cons r0;obtain⟨v2,vs2,d2,ds2,p2,q2,rfl,rfl,rfl,h2,r2⟩:=trodAll_cons r1;obtain⟨rfl,rfl,rfl⟩:=trodAll_nil r2;obtain rfl:args=#[v0,v1,v2]:=by cases args;simp_all
 obtain⟨rfl,rfl⟩:=trodVars_none hV;obtain⟨x0,hx0,hG0⟩:=aUc (hval 0 22 v0 rfl rfl) h0;obtain⟨x1,y1,hx1,hy1,hG1⟩:=aPb (hval 1 28 v1 rfl rfl) h1;obtain⟨x2,hx2,hG2⟩:=aPc (hval 2 29 v2 rfl rfl) h2;have hb:=bound hk;simp only[bM1,Rows.uptoBulkAll] at hb;have ga0:=hG0 (by omega);have ga1:=hG1 (by omega);obtain⟨ga2,gb2⟩:=hG2 (by omega);refine aM7 (avs:=[eU x0, .agg (x1.cells.map .p++[iA y1]), .p (.sl 6 (clPs x2))]) rfl rfl rfl (by rw[Tryz.params6];intro t ht;simp at ht;(first|(rcases ht with rfl|rfl|rfl)|(rcases ht with rfl|rfl)|subst ht)<;>exact of_decide_eq_true (by kernel_rfl)) hW' ?_ ?_
 ·simp only[RepL];exact⟨_,_,rfl,hx0,_,_,rfl,hx1,_,_,rfl,hx2,rfl⟩
 ·exact mU (fun g=>aAw g) [] WF.nil x0 ga0 x1 ga1.1 ga1.2.2 ga1.2.1 y1 hy1.1 hy1.2 x2 (by omega) (fun c hc=>⟨(gb2 c hc).1,(gb2 c hc).2.1,(gb2 c hc).2.2,by have:=(gb2 c hc).2.1.1;omega⟩)
theorem lifted (os:Os)(started:os.Started)(H:Type)(enc:TypeId×Value->H)(F:Stop.Interp):
  ReturnsInHanded {} Tryz.checked os 6 .any ((Rows.OpenSpec.upto Rows.casetreeFirstSpec).pre6 enc Tryz.prog Tryz.f6 Rows.casetreeFirstUptoRow.domain false) (((Rows.OpenSpec.upto Rows.casetreeFirstSpec).at F).post enc Tryz.prog Tryz.f6 false true false false):=by
 refine returnsInHanded_of_cond (C:=Tryz.checked) (s:=Rows.OpenSpec.upto Rows.casetreeFirstSpec) (k:=Rows.uptoSmall) rfl own started (by kernel_rfl) Tryz.func6
  (OpenSpec.witness (enc:=enc) (C:=Tryz.checked) (s:=Rows.OpenSpec.upto Rows.casetreeFirstSpec) (k:=Rows.uptoSmall) rfl false ⟨#[],#[.slice none 0 0, .agg #[.int .i64 0, .int .i64 0, .string .empty, .slice none 0 0, .slice none 0 0, .int .i64 0], .slice none 0 0],[]⟩ 8 (by kernel_rfl) (by kernel_rfl) (by kernel_rfl)
   (x:=([.nil, .agg [.agg [.lit (.int .i64 0), .lit (.int .i64 0), .lit (.string []), .nil, .nil], .lit (.int .i64 0)], .nil],[],[])) (by kernel_rfl) rfl (by kernel_rfl)) ?_
 intro W base args ds gs before hval hW _ hk _;exact contract H enc W base args ds gs before hval hW hk
theorem closed:joinedFacts Tryz.pinned.checked.prog 6 Tryz.f6 (Rows.OpenSpec.upto Rows.casetreeFirstSpec).bare Rows.casetreeFirstUptoRow=true:=by
 unfold joinedFacts;exact(kX (kX (kX (kX (kX (kX (kX (kX (kX (kX (kX (kX (kX (kX (kX (kX (kX (kX (kX (kX (kX (kX (kX (kX (kX (kX (kX (kX (kX (kX (kX (by as_aux_lemma=>kernel_rfl) (by as_aux_lemma=>kernel_rfl)) (by as_aux_lemma=>kernel_rfl)) (by as_aux_lemma=>kernel_rfl)) (by as_aux_lemma=>kernel_rfl)) (by as_aux_lemma=>kernel_rfl)) (by as_aux_lemma=>kernel_rfl)) (by as_aux_lemma=>kernel_rfl)) (by as_aux_lemma=>kernel_rfl)) (by as_aux_lemma=>kernel_rfl)) (by as_aux_lemma=>kernel_rfl)) (by as_aux_lemma=>kernel_rfl)) (by as_aux_lemma=>kernel_rfl)) (by as_aux_lemma=>kernel_rfl)) (by as_aux_lemma=>kernel_rfl)) (by as_aux_lemma=>kernel_rfl)) (by as_aux_lemma=>kernel_rfl)) (by as_aux_lemma=>kernel_rfl)) (by as_aux_lemma=>kernel_rfl)) (by as_aux_lemma=>kernel_rfl)) (by as_aux_lemma=>kernel_rfl)) (by as_aux_lemma=>kernel_rfl)) (by as_aux_lemma=>kernel_rfl)) (by as_aux_lemma=>kernel_rfl)) (by as_aux_lemma=>kernel_rfl)) aMb) (by rw[aCe];rfl)) (by rw[aQw];rfl)) (by as_aux_lemma=>kernel_rfl)) (by as_aux_lemma=>kernel_rfl)) (by as_aux_lemma=>kernel_rfl)) (by as_aux_lemma=>kernel_rfl))
theorem proved:Rows.CasetreeFirstUptoSaid:=
 OpenClaim.holds_of_cond 6 Tryz.f6 rfl rfl rfl rfl rfl rfl rfl ⟨rfl,rfl,rfl,rfl,rfl⟩ rfl rfl rfl rfl rfl (by kernel_rfl) Tryz.func6 closed
  (of_decide_eq_true (by kernel_rfl)) (by unfold Func.isWrapper;first|(rw[if_pos (by decide+kernel)];kernel_rfl)|(rw[if_neg (by decide+kernel)];exact⟨rfl,rfl⟩))
  (fun os started H enc _ F=>lifted os started H enc F)
end Go.Proofs.YtplomildbmcmfaaGreat.casetreeFirst
