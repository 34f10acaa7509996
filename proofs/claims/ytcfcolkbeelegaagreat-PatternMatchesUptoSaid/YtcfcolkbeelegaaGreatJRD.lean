import Derived.Test.YtcfcolkbeelegaaGreatJA0
import Derived.Test.YtcfcolkbeelegaaGreatJFLP
import Derived.Test.YtcfcolkbeelegaaGreatJPJ
import Derived.Test.YtcfcolkbeelegaaGreatJX13
import Derived.Test.YtcfcolkbeelegaaGreatJX23
import Derived.Test.YtcfcolkbeelegaaGreatJFR
import Derived.Test.YtcfcolkbeelegaaGreatJR2
import Derived.Test.YtcfcolkbeelegaaGreatJT11
import Derived.Test.YtcfcolkbeelegaaGreatJFL
import Derived.Test.YtcfcolkbeelegaaGreatJE12
import Derived.Test.YtcfcolkbeelegaaGreatJX2
import Derived.Test.YtcfcolkbeelegaaGreatJT8
set_option maxRecDepth 8000
set_option maxHeartbeats 16000000
namespace Go.AI.ND
open Go Go.AI
section
variable {pc:List Nat} {P:Program} {ops:Array Oper}
theorem iS {lo:List Nat} {Kont:List AV->Heap->Prop} (π2:List Nat):∀(π:List Nat)(hist:List Heap)(T:List AV)(h:Heap),drOps pc P ops lo (fun π=>DR pc P ops lo Kont (π++π2)) π hist T h->DR pc P ops lo Kont (π++π2) hist T h
 |[],_,_,_,d=>d
 |i::π,hist,T,h,d=>by
  simp only[drOps] at d;split at d
  ·exact d.elim
  ·rename_i o ho;split at d
   ·rename_i hw;exact⟨o,ho, .inl ⟨hw,iS π2 π _ _ _ d⟩⟩
   ·rename_i hw;split at d
    ·rename_i x h' hop;split at d
     ·rename_i hE;exact⟨o,ho, .inr (.inr (.inl ⟨hw,by unfold eF;rw[hE,d.1];rfl,x,h',hop,iS π2 π _ _ _ d.2⟩))⟩
     ·rename_i hE;have hE':isE o.op=false:=by simpa using hE
      have:=kP hE' hop;subst this;exact⟨o,ho, .inr (.inl ⟨hw,by unfold eF;rw[hE'];rfl,x, .inl hop,d.1,iS π2 π _ _ _ d.2⟩)⟩
    ·exact d
   ·exact d
theorem DR.goA {lo:List Nat} {Kont:List AV->Heap->Prop} (n:Nat) {π:List Nat} {hist:List Heap} {T:List AV} {h:Heap} (r:∀K:List Nat->List Heap->List AV->Heap->Prop,(∀π' hist T h,DR pc P ops lo Kont (π'++π.drop n) hist T h->K π' hist T h)->drOps pc P ops lo K (π.take n) hist T h):DR pc P ops lo Kont π hist T h:=by
 have:=iS (pc:=pc) (P:=P) (ops:=ops) (lo:=lo) (Kont:=Kont) (π.drop n) (π.take n) hist T h (r _ fun _ _ _ _ h=>h)
 rwa [bA4] at this
end
end Go.AI.ND
namespace Go.AI
open Go
theorem Rel.toTok {E:Env} {h:Heap} {w:World} (r:Rel E h.at w)(hf:Fresh E h.length) {id b cap sz:Nat} {es:List (List PV)} (hat:h.at id=some (.cells (buf sz es (cap-es.length))))(hg0:E.g id=some b)(hes:∀e∈es,e.length=sz)(hn:es.length<=cap):
  let E':Env:= {ro:=fun b' off=>E.ro b' off\/(b'=b/\off<es.length*sz),g:=E.g,t:=fun i=>if i=h.length then some ⟨some b,cap,es.length⟩ else E.t i}
  let h':Heap:=h.set id none++[some (.tok es.length sz)]
  Rel E' h'.at w/\Fr E h.at w E' h'.at w/\Fresh E' (h.length+1):=by
 intro E' h';obtain⟨b0,vs,hg1,hrow,hreps⟩:=r.objs id _ hat;rw[hg0] at hg1;cases hg1;have hcl:=hreps.length;rw[kQ hes] at hcl;have hmul:(es.length+(cap-es.length))*sz=cap*sz:=by congr 1;omega
 have hlt:=cP hat
 have hx:Ext E w E' w:=⟨fun _ _ h=> .inl h,fun _ _ _=>rfl,fun _ _ h=>h,fun i L e=>by
  refine⟨L,?_,aYw _,fun _=>rfl⟩;show(if i=h.length then _ else E.t i)=some L;rw[if_neg (fun he=>by rw[he,(hf _ (aYw _)).2] at e;cases e)];exact e⟩
 have hnew:h'.at h.length=some (.tok es.length sz):=by
  have:=dR (h.set id none) (some (.tok es.length sz)) h.length;rw[bAt,if_pos rfl] at this;exact this
 have hold:∀i o,i≠h.length->h'.at i=some o->h.at i=some o/\i≠id:=by
  intro i o hne e;have:=dR (h.set id none) (some (.tok es.length sz)) i;exact y54
 have ht':∀i,i≠h.length->E'.t i=E.t i:=fun i hne=>if_neg hne
 have htn:E'.t h.length=some ⟨some b,cap,es.length⟩:=if_pos rfl;have hown:lO E h.at id b:= .inl ⟨_,hat,rfl,hg0⟩
 have hO:∀i b',lO E' h'.at i b'->(i=h.length/\b'=b)\/(i≠h.length/\i≠id/\lO E h.at i b'):=by
  intro i b' ho
  by_cases e:i=h.length
  ·subst e;left;refine⟨rfl,?_⟩;rcases ho with ⟨o',h1,h3,h2⟩|⟨o',x,c,m,h1,hk,h2⟩
   ·rw[hnew] at h1;cases h1;simp[AO.named] at h3
   ·rw[htn] at h2;cases h2;rfl
  ·right;rcases ho with ⟨o',h1,h3,h2⟩|⟨o',x,c,m,h1,hk,h2⟩
   ·obtain⟨q1,q2⟩:=hold i o' e h1;exact⟨e,q2, .inl ⟨o',q1,h3,h2⟩⟩
   ·obtain⟨q1,q2⟩:=hold i o' e h1;rw[ht' i e] at h2;exact⟨e,q2, .inr ⟨o',x,c,m,q1,hk,h2⟩⟩
 have hbl:b<w.heap.size:=hrow.lt;refine⟨⟨fun i o hc hn2=>?_,fun i o n s k cs hc hk=>?_,fun i i' b' h1 h2=>?_,fun i o b' off hc hn2 hg hb=>?_,fun i o n s k cs b' c m off hc hk hg hl hb=>?_,fun b' off hb=>?_⟩,⟨fun _ _ _=>rfl,hx,fun b' off hb=>?_,aYw _,fun b' ⟨i,ho⟩=>?_,Kp.refl w⟩,fun i hi=>?_⟩
 ·have e:i≠h.length:=fun e=>by subst e;rw[hnew] at hc;cases hc;simp[AO.named] at hn2
  obtain⟨q1,_⟩:=hold i o e hc;obtain⟨b',hg,ho⟩:=r.objsO i o q1 hn2;exact⟨b',hg,ho.move hx rfl⟩
 ·by_cases e:i=h.length
  ·subst e;rw[hnew] at hc;cases hc;simp only[AO.tk,aYz,aZe] at hk;obtain⟨rfl,rfl,rfl,rfl⟩:=hk;refine⟨some b,cap,htn,hn,fun e=>(by cases e),fun b' hb=>?_⟩;cases hb;exact⟨vs,hrow,by omega,by simp[RepL]⟩
  ·obtain⟨q1,_⟩:=hold i o e hc;obtain⟨blk,cap2,ht,h1,h2,h3⟩:=r.toks i o n s k cs q1 hk;refine⟨blk,cap2,by rw[ht' i e];exact ht,h1,h2,fun b' hb=>?_⟩;obtain⟨us,hr,hl,hp⟩:=h3 b' hb;exact⟨us,hr,hl,hp.ext hx⟩
 ·exact y5i
 ·have e:i≠h.length:=fun e=>by subst e;rw[hnew] at hc;cases hc;simp[AO.named] at hn2
  obtain⟨q1,q2⟩:=hold i o e hc;rcases hb with hb|⟨rfl,_⟩
  ·exact r.sepO i o b' off q1 hn2 hg hb
  ·exact q2 (r.inj i id _ (.inl ⟨o,q1,hn2,hg⟩) hown)
 ·by_cases e:i=h.length
  ·subst e;rw[hnew] at hc;cases hc;simp only[AO.tk,aYz,aZe] at hk;obtain⟨rfl,rfl,rfl,rfl⟩:=hk;rw[htn] at hg;cases hg;rcases hb with hb|⟨_,hb⟩
   ·exact r.sepO id _ _ off hat rfl hg0 hb
   ·omega
  ·obtain⟨q1,q2⟩:=hold i o e hc;rw[ht' i e] at hg;rcases hb with hb|⟨rfl,_⟩
   ·exact r.sepT i o n s k cs b' c m off q1 hk hg hl hb
   ·exact q2 (r.inj i id _ (.inr ⟨o,_,c,m,q1,hk,hg⟩) hown)
 ·rcases hb with hb|⟨rfl,_⟩
  ·exact r.lt b' off hb
  ·exact hbl
 ·rcases hb with hb|⟨rfl,_⟩
  ·exact .inl hb
  ·exact .inr (.inl ⟨id,hown⟩)
 ·exact y87
 ·have hid':h.length+1<=i:=hi;exact⟨(hf i aB).1,by rw[ht' i aB];exact(hf i aB).2⟩
section
variable {P:Program} {rd:Option Nat} {nb:Nat} {k:List It} {T:List AV} {h:Heap} {D:List AD} {Q:AX->List AV->Heap->List AD->Prop}
theorem Run.ownS (slot:Nat) {id n cap sz m:Nat} {es:List (List PV)} (hs:nO T slot= .sm id 0 n cap sz)(hat:h.at id=some (.cells (buf sz es m)))(hes:∀e∈es,e.length=sz)(hn:es.length=n)(hcap:n<=cap)(hm:m=cap-n)
  (r:Run P rd nb k (T.set slot (.own h.length sz es)) (h.set id none++[some (.tok n sz)]) D Q):Run P rd nb k T h D Q:=by
 intro E w a s;subst hn hm;have hv:=s.tmps.get slot;rw[<-fD,hs] at hv;simp only[Rep] at hv;obtain⟨b,hg,hv⟩:=hv;obtain⟨b',vals,hg',hrow,hreps⟩:=s.rel.objs id _ hat;rw[hg] at hg';cases hg';obtain⟨f1,f2,f3⟩:=s.rel.toTok s.fresh hat hg hes hcap;have hl1:(h.set id none++[some (AO.tok es.length sz)]).length=h.length+1:=aA;have s':=s.move f2 f1 (by rw[hl1];exact f3);have hel:(es.flatten.map AV.p).length=es.length*sz:=by rw[aZo,aV hes]
 have hx:Rep {ro:=fun b' off=>E.ro b' off\/(b'=b/\off<es.length*sz),g:=E.g,t:=fun i=>if i=h.length then some ⟨some b,cap,es.length⟩ else E.t i} w (.own h.length sz es) (.slice (some ⟨b,0,none⟩) es.length cap):=by
  simp only[Rep];refine⟨⟨some b,cap,es.length⟩,by simp,aYw _,some b,cap,rfl,hcap, .inr ⟨b,rfl,?_⟩,fun _=>⟨rfl,rfl⟩⟩;refine RepEs.of_row (vs:=vals.take (es.length*sz)) hes (fun j v hj=>?_) ?_
  ·rw[bB1] at hj;split at hj
   ·rename_i hjl;refine⟨.inr ⟨rfl,by omega⟩,?_⟩;rw[hrow.cell,aZv];exact hj
   ·cases hj
  ·have:=(hreps.ext f2.ext).take (es.length*sz);unfold buf at this
   rwa [aZw aB,aZ6 aB] at this
 have hset:=s'.tmps.set hx slot
 have hsame:(a.tmps.toList).set slot (.slice (some ⟨b,0,none⟩) es.length cap)=a.tmps.toList:=by
  exact y5w
 exact y7c
end
end Go.AI
namespace Go.Proofs.YtcfcolkbeelegaaGreat
open Go Go.AI
theorem tA (d:Dc)(a:Int)(s:List UInt8):∀(l:List Ct)(i:Nat)(e:En),nU d a s l i=some e->∃j c,l[j]?=some c/\c.nm=s/\e=⟨4,a,((i+j:Nat):Int),d.ps,c.ty⟩
 |[],_,_,h=>by simp[nU] at h
 |x::l,i,e,h=>by
  simp only[nU] at h;split at h
  ·rename_i hn;exact⟨0,x,by simp,hn,by simpa using h.symm⟩
  ·obtain⟨j,c,h1,h2,h3⟩:=tA d a s l (i+1) e h;exact⟨j+1,c,by simpa using h1,h2,by rw[h3];congr 1;omega⟩
theorem aS0 (d:Dc)(a:Int)(s:List UInt8):∀(l:List Fu)(i:Nat)(e:En),nV d a s l i=some e->e.k=6
 |[],_,_,h=>by simp[nV] at h
 |x::l,i,e,h=>by
  simp only[nV] at h;split at h
  ·cases h;rfl
  ·exact aS0 d a s l (i+1) e h
theorem oF {s:List UInt8} :∀ {env:List Dc} {i:Nat} {e:En},dH s env i=some e->∃j d,env[j]?=some d/\s∈bE d/\e=rL d ((i+j:Nat):Int) s
 |[],_,_,h=>by simp[dH] at h
 |d::env,i,e,h=>by
  simp only[dH] at h;split at h
  ·rename_i hs;cases h;exact⟨0,d,by simp,hs,by simp⟩
  ·obtain⟨j,d',h1,h2,h3⟩:=oF h;exact⟨j+1,d',by simpa using h1,h2,by rw[h3];congr 1;omega⟩
theorem aLi {env:List Dc} {y:List UInt8} (h:(aM env y).2.2=true):∃(i j:Nat)(c:Ct),env[i]?=some (aM env y).1/\(aM env y).1.k=3/\(aM env y).1.cs[j]?=some c/\c.nm=y/\(aM env y).2.1=oH (aM env y).1 j:=by
 unfold aM at h⊢
 by_cases c:(gS env y).2.2=true/\0<=(gS env y).2.1
 rotate_left
 ·rw[if_neg c] at h;cases h
 rw[if_pos c];simp only;unfold gS at c⊢
 cases hz:dH y env 0 with
 |none=>rw[hz] at c;simp at c
 |some e=>
  rw[hz] at c;simp only at c⊢;obtain⟨i,d,h1,h2,h3⟩:=oF hz
  by_cases e3:e.k=3
  ·rw[if_pos e3] at c;simp at c
  rw[if_neg e3] at c⊢
  by_cases e4:e.k=4
  rotate_left
  ·rw[if_neg e4] at c;split at c<;>simp at c
  rw[if_pos e4] at c⊢;simp only
  have hat:e.at_.toNat=i/\d.k=3/\∃(j:Nat) (c:Ct),d.cs[j]?=some c/\c.nm=y/\e.it=j:=by
   unfold rL at h3;split at h3
   ·rename_i hk;rw[h3] at e4;simp only at e4;omega
   split at h3
   ·rename_i hk;split at h3
    ·rw[h3] at e4;simp at e4
    ·cases hc:nU d ((0+i:Nat):Int) y d.cs 0 with
     |none=>rw[hc] at h3;simp only[bBu] at h3;rw[h3] at e4;simp at e4
     |some e'=>
      rw[hc] at h3;simp only[aZb] at h3;obtain⟨j,cc,g1,g2,g3⟩:=tA _ _ _ _ _ _ hc;subst h3;subst g3;exact⟨by simp,hk,j,cc,g1,g2,by simp⟩
   ·cases hc:nV d ((0+i:Nat):Int) y d.fs 0 with
    |none=>rw[hc] at h3;simp only[bBu] at h3;rw[h3] at e4;simp at e4
    |some e'=>
     exact y90
  obtain⟨ha,hk,j,c,g1,g2,g3⟩:=hat;rw[ha,h1];simp only[aZb];exact⟨i,j,c,h1,hk,g1,g2,by rw[g3];simp⟩
section
variable {env:List Dc} {m:List UInt8} {cls:List Cl}
end
open Go Go.AI
def Dc.row (d:Dc):List AV:=d.cells.map .p
theorem Dc.av_row (d:Dc):d.av= .agg d.row:=rfl
theorem Dc.row_len (d:Dc):d.row.length=23:=by simp[Dc.row,aZ d]
theorem Dc.row_take (d:Dc):List.take 23 d.row=d.row:=aZ6 (by rw[d.row_len];omega)
theorem Dc.row_one (d:Dc):d.row.all vO=true:=aL8 d
theorem Dc.row_under (n:Nat)(d:Dc):AV.underL n d.row=true:=by simp[Dc.row]
theorem Dc.row_patch (d:Dc)(l:List AV)(h:l.length=23):patch l 0 d.row=d.row:=by
 have:=dV d.row l [] (by rw[h,d.row_len]);exact y61
theorem Dc.row_nm (d:Dc):d.row[1]?=some (.p (sP d.nm)):=by
 exact y3g
theorem Dc.row_cs (d:Dc):d.row[14]?=some (.p (.sl 6 (d.cs.map Ct.cells))):=by
 exact y3g
theorem Dc.row_fx (d:Dc):d.row[13]?=some (iA d.fx):=by
 exact y3g
attribute [simp] Dc.row_len Dc.row_take Dc.row_under Dc.row_nm Dc.row_cs Dc.row_fx
open Go Go.AI
@[simp] theorem Dc.row_cs' (d:Dc) (q:14<d.row.length):d.row[14]'q= .p (.sl 6 (d.cs.map Ct.cells)):=by
 have:=d.row_cs;exact y4o
end Go.Proofs.YtcfcolkbeelegaaGreat
namespace Go.AI
open Go
section
variable {P:Program} {rd:Option Nat} {nb:Nat} {k:List It} {T:List AV} {h:Heap} {D:List AD} {Q:AX->List AV->Heap->List AD->Prop} {all:Array Oper} {o:Oper} {rest:List Oper}
theorem Run.panicA {x:Operand} {t:TypeId} {y:AV} (ho:o.op= .panic x)(hw:aJ all T o=some true)(hx:aev T x= .ifc t y)(hq:Q (.panic (.ifc t y)) T h D):Run P rd nb (.ops all (o::rest)::k) T h D Q:=by
 intro E w a s;have hr:=aS s x;rw[hx] at hr;have hr':=hr;simp only[Rep] at hr;obtain⟨u,e,hu⟩:=hr;show wpListIn (fen rd) 0 P all (K P rd (Post nb Q E h w) k) (o::rest) a w;refine yu ?_;refine⟨fun _ _=>trivial,?_⟩;rw[Oper.semAt_eq _ _ _ (fun c hc=>by rw[hc] at ho;cases ho)];have:(execOp a.eval o).run P w= .halt (.panic (.iface t u)) w:=by simp[execOp,ho,Instr.panic,e]
 rw[this];show K P rd (Post nb Q E h w) k (.panic _) a w;rw[mU];exact⟨E,T,h,D, .panic (.ifc t y),hq,s,(Fr.refl _ _ _).toN _, .iface t u,rfl,by rw[e] at hr';exact hr'⟩
theorem Fin.panA {fn:Func} {R:AOut->Heap->Prop} {h0:Heap} {n:Nat} {l:List (Option AO)} {y:AV} (hn:h0.length=n)(hh:WF h0)(e:h=h0++l)(hy:y.under n=true)(hR:R (.panic y) h0):Fin P fn n R (.panic y) T h []:=by
 subst e hn;refine⟨rfl,y,h0++l,h0.length,Settles.weak (Weak.refl _) _,aYw _,by simp,hy,?_,?_⟩
 ·rw[cK];exact hh
 ·rw[cK];exact hR
end
end Go.AI
namespace Go.Proofs.YtcfcolkbeelegaaGreat
open Go Go.AI
inductive WO (α:Type) where
 |ok (a:α) (s:Int)
 |fail (s:Int)
 |out
def WO.bind {α β:Type} (x:WO α)(f:α->Int->WO β):WO β:=match x with
 | .ok a s=>f a s
 | .fail s=> .fail s
 | .out=> .out
def iK {α:Type} (s:Int)(f:Int->WO α):WO α:=if s-1<0 then .fail (s-1) else f (s-1)
def Tm.kid (t:Tm)(i:Nat):Tm:=(t.kids[i]?).getD zT
def sC (t:Tm)(vs:List Tm)(s:Int):WO Tm:=iK s fun s=>if(aI t vs 0).2≠0 then .fail s else .ok (aI t vs 0).1 s
def ixZ (d:Dc):Int:=if 0<((bY d.ty).1.length:Int)-d.fx then((bY d.ty).1.length:Int)-d.fx else 0
def kF (d:Dc):Int:=d.fx+1+d.cs.length+ixZ d
mutual
def kN (env:List Dc)(rec:Tm->Int->WO Tm):Tr->List Tm->Int->WO (Option (Tm×List Tm))
 | .mk k b v bs,vars,s=>if k=1 then(if v<0\/(vars.length:Int)<=v then .ok none s else(rec ((vars[v.toNat]?).getD zT) s).bind fun m s=>match hU env m with
   |none=> .ok none s
   |some co=>brF env rec (((co.d.cs[co.i]?).map Ct.nm).getD []) bs (vars++co.as_) s) else .ok (some (b,vars)) s
def brF (env:List Dc)(rec:Tm->Int->WO Tm)(n:List UInt8):List Br->List Tm->Int->WO (Option (Tm×List Tm))
 |[],_,s=> .ok none s
 | .mk c a t::bs,vars,s=>if c=n then(if a=true then .ok none s else kN env rec t vars s) else brF env rec n bs vars s
end
def rN (env:List Dc)(d:Dc)(ls:List Lv)(args:List Tm)(m:Tm)(s:Int):WO (Option Tm):=match hU env m with
 |none=> .ok none s
 |some co=>if co.d.nm≠d.nm\/d.rr.length<=co.i then .ok none s
  else if(bF (lvF ls false) ((d.rr[co.i]?).getD zT)).2≠0 then .ok none s
  else iK s fun s=> .ok (some (aN (aN (aN (bF (lvF ls false) ((d.rr[co.i]?).getD zT)).1 (args.take (d.fx+1+d.cs.length).toNat)) co.as_) (args.drop (kF d+1).toNat))) s
def aLs (env:List Dc)(rec:Tm->Int->WO Tm)(f:Fu)(ls:List Lv)(args:List Tm)(s:Int):WO (Option Tm):=
 if(args.length:Int)<f.ar then .ok none s
 else(kN env rec f.tr (args.take f.ar.toNat) s).bind fun o s=>match o with
  |none=> .ok none s
  |some (b,vars)=>if(bF (lvF ls false) b).2≠0 then .ok none s else(sC (bF (lvF ls false) b).1 vars.reverse s).bind fun b s=> .ok (some (aN b (args.drop f.ar.toNat))) s
def gD (env:List Dc)(rec:Tm->Int->WO Tm)(n:List UInt8)(ls:List Lv)(args:List Tm)(s:Int):WO (Option Tm):=
 if usB env n ls=false then .ok none s
 else
  let e:=(aK env n).1
  let d:=(env[e.at_.toNat]?).getD zDc
  if e.k=1 then(if(bF (lvF ls false) d.va).2≠0 then .ok none s else iK s fun s=> .ok (some (aN (bF (lvF ls false) d.va).1 args)) s)
  else if e.k=5 then(if(args.length:Int)<=kF d then .ok none s else(rec ((args[(kF d).toNat]?).getD zT) s).bind fun m s=>rN env d ls args m s)
  else if e.k=6 then aLs env rec ((d.fs[e.it.toNat]?).getD ⟨[],zT,0, .mk 0 zT 0 []⟩) ls args s
  else .ok none s
def aFc (env:List Dc)(rec:Tm->Int->WO Tm)(t:Tm)(s:Int):WO Tm:=
 let h:=(aG t).1
 let args:=(aG t).2
 if 40960<args.length then .fail s
 else if h.kind=5 then(if args=[] then .ok t s else(sC (h.kid 1) (args.take 1) s).bind fun b s=>rec (aN b (args.drop 1)) s)
 else if h.kind=11 then(sC (h.kid 2) [h.kid 1] s).bind fun b s=>rec (aN b args) s
 else if h.kind=9\/h.kind=10 then(rec (h.kid 0) s).bind fun p s=>if p.kind≠8 then .ok (aN (.mk h.kind 0 [] [] [p]) args) s else iK s fun s=>rec (aN (p.kid (h.kind-8).toNat) args) s
 else if h.kind=3 then(gD env rec h.name h.levels args s).bind fun o s=>match o with
  |some x=>rec x s
  |none=> .ok t s
 else .ok t s
def bM (env:List Dc):Nat->Tm->Int->WO Tm
 |0,_,_=> .out
 |n+1,t,s=>aFc env (bM env n) t s
open Go Go.AI
def pA (k:Int)(n:Nat):Prop:=(k=5->n=2)/\(k=11->n=3)/\(k=9->n=1)/\(k=10->n=1)/\(k=8->n=3)
def rP (k i:Int)(n:List UInt8)(ls:List Lv)(c:Nat):Prop:=
 (k=0->0<=i/\i<=65535/\n=[]/\ls=[]/\c=0)/\ls.length<=8/\(∀l∈ls,l.vars.length<=1048576)/\c<=3/\pA k c
mutual
def Tm.wf:Tm->Prop
 | .mk k i n ls ks=>rP k i n ls ks.length/\Tm.wfs ks
def Tm.wfs:List Tm->Prop
 |[]=>True
 |t::ts=>t.wf/\Tm.wfs ts
end
theorem Tm.wfs_iff:∀ {l:List Tm},Tm.wfs l↔∀t∈l,t.wf
 |[]=>by simp[Tm.wfs]
 |t::l=>by simp only[Tm.wfs,List.forall_mem_cons];rw[Tm.wfs_iff]
mutual
theorem Tm.wf_ok:∀(t:Tm)(m:Int),t.wf->65536<=m->t.ok m
 | .mk k i n ls ks,m,h,hm=>by
  simp only[Tm.wf,rP] at h;obtain⟨⟨h0,h1,h2,h3,_⟩,h4⟩:=h;simp only[Tm.ok,Tm.okN];refine⟨⟨fun hk=>?_,h1,h2,h3⟩,Tm.wfs_oks ks m k 0 h4 hm⟩;obtain⟨a,b,c,d,e⟩:=h0 hk;exact⟨a,by omega,c,d,bBp.1 e⟩
theorem Tm.wfs_oks:∀(l:List Tm)(m k:Int)(idx:Nat),Tm.wfs l->65536<=m->Tm.oks m k idx l
 |[],_,_,_,_,_=>by simp[Tm.oks]
 |t::l,m,k,idx,h,hm=>by
  simp only[Tm.wfs] at h;simp only[Tm.oks];have:=cE k idx;exact⟨Tm.wf_ok t _ h.1 aB,Tm.wfs_oks l m k (idx+1) h.2 hm⟩
end
theorem aWk {i:Int} (h0:0<=i)(h1:i<=65535):(vr i).wf:=by
 simp only[vr,Tm.wf,rP,pA,Tm.wfs];exact⟨⟨fun _=>⟨h0,h1,by simp⟩,by simp,by simp,by simp,by simp⟩,trivial⟩
theorem aWl:zT.wf:=by
 simp only[zT,Tm.wf,rP,pA,Tm.wfs];exact⟨⟨fun _=>⟨by omega,by omega,by simp⟩,by simp,by simp,by simp,by simp⟩,trivial⟩
theorem aWj {t:Tm} (h:t.wf)(i:Nat):(t.kid i).wf:=by
 obtain⟨k,x,n,ls,ks⟩:=t;simp only[Tm.wf] at h;unfold Tm.kid;simp only[Tm.kids]
 cases hg:ks[i]? with
 |none=>exact aWl
 |some a=>exact Tm.wfs_iff.1 h.2 a (aZ9 hg)
theorem aNm:zT.size=1:=rfl
theorem aQv (t:Tm)(i:Nat):(t.kid i).size<=t.size:=by
 obtain⟨k,x,n,ls,ks⟩:=t;unfold Tm.kid;simp only[Tm.kids]
 cases hg:ks[i]? with
 |none=>simp only[bBu,aNm,Tm.size];omega
 |some a=>
  obtain⟨hj,rfl⟩:=aYv.1 hg;have:=eL hj;simp only[aZb,Tm.size];omega
mutual
theorem aCs (d:Int)(h0:0<=d):∀(t:Tm)(b:Int),0<=b->t.wf->bX d 0 b t=false->(eV d 0 b t).wf
 | .mk k i n ls ks,b,hb0,h,hb=>by
  have h':=h;simp only[Tm.wf] at h;simp only[eV,bX] at hb⊢
  by_cases hk:k=0
  ·simp only[hk,if_true] at hb⊢;obtain⟨a1,a2,_⟩:=h.1.1 hk
   by_cases hc:i<0+b\/i+d<0+b
   ·rw[if_pos hc,<-hk];exact h'
   ·rw[if_neg hc];simp only[not_or,Int.not_lt] at hc;have hn:¬i<0+b:=aB;have hn2:¬i+d<0+b:=aB;simp only[hn,hn2,decide_false,bB7,Bool.true_and,bB5,bAo,Int.not_lt] at hb;exact aWk aB hb
  ·simp only[hk,if_false] at hb⊢;simp only[Tm.wf];obtain⟨h1,h2⟩:=aCq d h0 ks b k 0 hb0 h.2 hb;rw[h2];exact⟨h.1,h1⟩
theorem aCq (d:Int)(h0:0<=d):∀(l:List Tm)(b k:Int)(idx:Nat),0<=b->Tm.wfs l->bU d 0 b k idx l=false->Tm.wfs (eO d 0 b k idx l)/\(eO d 0 b k idx l).length=l.length
 |[],_,_,_,_,_,_=>by simp[eO,Tm.wfs]
 |t::l,b,k,idx,hb0,h,hb=>by
  simp only[Tm.wfs] at h;simp only[bU,bAm] at hb;have:=cE k idx;have h2:=aCq d h0 l b k (idx+1) hb0 h.2 hb.2;simp only[eO,Tm.wfs,aZ1];exact⟨⟨aCs d h0 t _ aB h.1 hb.1,h2.1⟩,by rw[h2.2]⟩
end
mutual
theorem aNw (vs:List Tm)(hv:∀v∈vs,v.wf):∀(t:Tm)(d:Int),0<=d->t.wf->fS vs d t=false->(aJr vs d t).wf
 | .mk k i n ls ks,d,hd,h,hb=>by
  have h':=h;simp only[Tm.wf] at h;simp only[aJr,fS] at hb⊢
  by_cases hk:k=0
  ·simp only[hk,if_true] at hb⊢;obtain⟨a1,a2,_⟩:=h.1.1 hk
   by_cases hc:d<=i
   ·simp only[hc,if_true] at hb⊢
    cases hx:vs[(i-d).toNat]? with
    |some x=>
     rw[hx] at hb;simp only at hb⊢;exact aCs d hd x 0 aB (hv x (aZ9 hx)) hb
    |none=>
     rw[hx] at hb;simp only[bAo,Int.not_lt] at hb⊢;rw[bBh] at hx;exact aWk aB hb
   ·simp only[hc,if_false];rw[<-hk];exact h'
  ·simp only[hk,if_false] at hb⊢;simp only[Tm.wf];obtain⟨h1,h2⟩:=aNv vs hv ks d k 0 hd h.2 hb;rw[h2];exact⟨h.1,h1⟩
theorem aNv (vs:List Tm)(hv:∀v∈vs,v.wf):∀(l:List Tm)(d k:Int)(idx:Nat),0<=d->Tm.wfs l->fN vs d k idx l=false->Tm.wfs (aCz vs d k idx l)/\(aCz vs d k idx l).length=l.length
 |[],_,_,_,_,_,_=>by simp[aCz,Tm.wfs]
 |t::l,d,k,idx,hd,h,hb=>by
  simp only[Tm.wfs] at h;simp only[fN,bAm] at hb;have:=cE k idx;have h2:=aNv vs hv l d k (idx+1) hd h.2 hb.2;simp only[aCz,Tm.wfs,aZ1];exact⟨⟨aNw vs hv t _ aB h.1 hb.1,h2.1⟩,by rw[h2.2]⟩
end
def Tm.at_ (t:Tm):Prop:=t.wf/\t.size<=4096
theorem aP3:zT.at_:=⟨aWl,by rw[aNm];omega⟩
theorem dY {t:Tm} (h:t.at_)(i:Nat):(t.kid i).at_:=⟨aWj h.1 i,by have:=aQv t i;have:=h.2;omega⟩
theorem uJ {t:Tm} {vs:List Tm} (ht:t.wf)(hv:∀v∈vs,v.wf):(aI t vs 0).1.at_:=by
 rw[lE t vs 0 aB];have hc:fP 0=0:=by simp[fP]
 rw[hc];unfold aCi
 by_cases h1:4096<(eW vs 0 t:Int)
 ·rw[if_pos h1];exact aP3
 rw[if_neg h1]
 by_cases h2:fS vs 0 t=true
 ·rw[if_pos h2];exact aP3
 rw[if_neg h2]
 by_cases h3:200<((aJr vs 0 t).depth:Int)
 ·rw[if_pos h3];exact aP3
 rw[if_neg h3];have hb:fS vs 0 t=false:=by simpa using h2
 refine⟨aNw vs hv t 0 aB ht hb,?_⟩;have:=(aFe vs (fun v hm=>Tm.wf_ok v _ (hv v hm) aB) t 0 65536 (Tm.wf_ok t _ ht aB) aB aB hb).2;simp only;omega
theorem aQ1 {l:List Int} (h:l.Nodup)(hk:∀i∈l,-65536<=i/\i<8):l.length<=65544:=by
 have hs:l⊆(List.range 65544).map fun n=>((n:Nat):Int)-65536:=by
  intro i hi;have:=hk i hi;refine aZq.2 ⟨(i+65536).toNat,bA5.2 aB,by omega⟩
 have:=bBt h hs;exact y6y
mutual
theorem aS5 {f:Lv->Lv×Int} (hf:∀l,(f l).1.vars.length<=1048576):∀t:Tm,t.wf->(lvT f t).wf
 | .mk k i n ls ks,h=>by
  simp only[Tm.wf] at h;simp only[lvT,Tm.wf,tU];obtain⟨⟨h0,h1,h2,h3,h4⟩,h5⟩:=h;refine⟨⟨fun hk=>?_,by simpa using h1,fun l hl=>?_,h3,h4⟩,aMg hf ks h5⟩
  ·obtain⟨a,b,c,d,e⟩:=h0 hk;exact⟨a,b,c,by rw[d];rfl,e⟩
  ·obtain⟨x,_,rfl⟩:=aZq.1 hl;exact hf x
theorem aMg {f:Lv->Lv×Int} (hf:∀l,(f l).1.vars.length<=1048576):∀l:List Tm,Tm.wfs l->Tm.wfs (yY f l)
 |[],_=>by simp[yY,Tm.wfs]
 |t::l,h=>by
  simp only[Tm.wfs] at h;simp only[yY,Tm.wfs];exact⟨aS5 hf t h.1,aMg hf l h.2⟩
end
mutual
theorem aHb (f:Lv->Lv×Int):∀t:Tm,(lvT f t).size=t.size
 | .mk k i n ls ks=>by simp only[lvT,Tm.size];rw[aBz f ks]
theorem aBz (f:Lv->Lv×Int):∀l:List Tm,Tm.sizes (yY f l)=Tm.sizes l
 |[]=>by simp[yY,Tm.sizes]
 |t::l=>by simp only[yY,Tm.sizes];rw[aHb f t,aBz f l]
end
theorem aQ6 (l:Lv):(aOq l).1.vars.length<=l.vars.length:=by
 unfold aOq;split
 ·simp
 split
 ·simp
 ·simp
theorem aJs (l:Lv)(vals:List Lv):(iJ l vals).1.vars.length<=1048576:=by
 unfold iJ
 by_cases h:(!aY l||!vals.all aY)=true
 ·rw[if_pos h];simp
 rw[if_neg h];split
 ·simp
 simp only[bAd,aZz,not_or,Bool.not_eq_false] at h;have hv:=Vd.of h.1;have hs:=StOk.all (metas:=false) (fun x hx=>Vd.of (aZf.1 h.2 x hx)) l.vars (fun v hv'=>⟨hv.i0 v hv',hv.i1 v hv',hv.v1 v hv'⟩) (StOk.start hv);have h1:=aQ1 hs.nd hs.k;have h2:=aQ6 ⟨(l.vars.foldl (gL vals false) (l.c,[])).1,mH (l.vars.foldl (gL vals false) (l.c,[])).2⟩;unfold aKb
 have h3:(mH (l.vars.foldl (gL vals false) (l.c,[])).2).length=(l.vars.foldl (gL vals false) (l.c,[])).2.length:=by
  simp[mH]
 simp only[aZo] at h1;simp only at h2;omega
theorem mQ {ls:List Lv} {t:Tm} (h:t.at_):(bF (lvF ls false) t).1.at_:=by
 unfold bF;split
 ·refine⟨aS5 (fun l=>?_) t h.1,by rw[aHb];exact h.2⟩;simp only[lvF,aZd,if_false];exact aJs l ls
 ·exact aP3
theorem aSa:∀(n:Nat)(t:Tm),t.wf->(spG n t).1.wf/\(spG n t).1.size<=t.size/\∀a∈(spG n t).2,a.wf/\a.size<t.size
 |0,t,h=>⟨h,aYw _,fun a ha=>by cases ha⟩
 |n+1,t,h=>by
  simp only[spG]
  cases hb:isB 4 t with
  |none=>exact⟨h,aYw _,fun a ha=>by cases ha⟩
  |some p=>
   obtain⟨f,a⟩:=p;have hs:=oJ hb;have hf:=f.size_pos
   have hk:f.wf/\a.wf:=by
    obtain⟨k,i,nm,ls,ks⟩:=t
    match ks,hb,h with
    |[x,y],hb,h=>
     simp only[isB] at hb;split at hb
     ·cases hb;simp only[Tm.wf,Tm.wfs] at h;exact⟨h.2.1,h.2.2.1⟩
     ·cases hb
    |[],hb,_=>simp[isB] at hb
    |[_],hb,_=>simp[isB] at hb
    |_::_::_::_,hb,_=>simp[isB] at hb
   obtain⟨h1,h2,h3⟩:=aSa n f hk.1;simp only;refine⟨h1,by omega,fun x hx=>?_⟩;rcases aZn.1 hx with hx|hx
   ·have:=h3 x hx;exact⟨this.1,by omega⟩
   ·simp at hx;subst hx;exact⟨hk.2,by omega⟩
theorem aQy {t:Tm} (h:t.wf):(aG t).1.wf/\(aG t).1.size<=t.size/\∀a∈(aG t).2,a.wf/\a.size<t.size:=aSa _ t h
theorem aPx (a b:Tm):isB 4 (vN a b)=some (a,b):=by simp[vN,isB]
theorem fM (t:Tm):∀l:List Tm,aG (aN t l)=((aG t).1,(aG t).2++l):=by
 have:∀(n:Nat) (l:List Tm),l.length=n->aG (aN t l)=((aG t).1,(aG t).2++l):=by
  intro n
  induction n with
  |zero=>intro l hl;rw[bBp] at hl;subst hl;simp[aN]
  |succ n ih=>
   intro l hl;obtain⟨l',a,rfl⟩:∃l' a,l=l'++[a]:=⟨l.dropLast,l.getLast (by intro e;rw[e] at hl;simp at hl),(List.dropLast_concat_getLast _).symm⟩;have h1:=ih l' (by simp at hl;omega);have e:aN t (l'++[a])=vN (aN t l') a:=by simp[aN]
   rw[e,gV (aPx _ _),h1];simp
 exact fun l=>this l.length l rfl
structure Gin (t:Tm):Prop where
 head:(aG t).1.at_
 args:∀a∈(aG t).2,a.at_
 len:(aG t).2.length<=1048576
structure Gout (t:Tm):Prop where
 head:(aG t).1.kind=3\/(aG t).1.kind=8->(aG t).1.at_
 args:∀a∈(aG t).2,a.at_
 len:(aG t).2.length<=40960
theorem Gin.of_at {t:Tm} (h:t.at_):Gin t:=by
 obtain⟨h1,h2,h3⟩:=aQy h.1;exact⟨⟨h1,by have:=h.2;omega⟩,fun a ha=>⟨(h3 a ha).1,by have:=(h3 a ha).2;have:=h.2;omega⟩,by have:=lF t;have:=h.2;omega⟩
theorem Gin.app {t:Tm} (h:Gin t) {l:List Tm} (hl:∀a∈l,a.at_)(hn:(aG t).2.length+l.length<=1048576):Gin (aN t l):=by
 refine⟨?_,fun a ha=>?_,?_⟩
 ·rw[fM];exact h.head
 ·rw[fM] at ha;rcases aZn.1 ha with ha|ha
  ·exact h.args a ha
  ·exact hl a ha
 ·rw[fM];simp only[aZ4];omega
theorem fR {t:Tm} (h:t.at_):(aG t).2.length<=4096:=by have:=lF t;have:=h.2;omega
open Go Go.AI
abbrev aBe:AV:= .ifc 298 (.agg [])
abbrev dU (env:List Dc)(s:Int):Option AO:=some (.cells [bW env,iA s])
def WPost (env:List Dc)(q:Nat)(h:Heap) {α:Type} (f:α->AV):WO α->AOut->Heap->Prop
 | .ok a s,o,h'=>o= .ret (f a)/\h'=h.set q (dU env s)
 | .fail s,o,h'=>o= .panic aBe/\h'=h.set q (dU env s)
 | .out,_,_=>False
theorem mB (env:List Dc)(s:Int)(hs0:-1000000<=s)(hs1:s<=1000000)(q:Nat)(h:Heap)(hh:WF h)(hq:h[q]?=some (dU env s)):
  ACalls Tryz.prog 260 [.ptr q 0] h fun o h'=>o=(if s-1<0 then .panic aBe else .ret (.tup []))/\h'=h.set q (dU env (s-1)):=by
 obtain⟨g1,g2,g3,g4,g5,hlt⟩:=idf hq;have hw:IntKind.i64.wrap (s-1)=s-1:=aQ aB aB;refine zE Tryz.func260 Tryz.ntmps260 ?_;refine sH hq hw ?_;refine zr1 g3 ?_
 by_cases hz:s-1<0
 ·refine kL hz ?_;refine y23 ?_;exact Fin.panA (h0:=h.set q (dU env (s-1))) aA (hh.set aA) (aZ0 _).symm rfl ⟨by simp[hz],rfl⟩
 ·refine vL hz ?_;refine Run.nil ?_;exact Fin.ret' (h0:=h.set q (dU env (s-1))) aA aA (hh.set aA) (aZ0 _).symm rfl rfl (Weak.refl _) rfl ⟨by simp[hz],rfl⟩
theorem nZ (env:List Dc)(s:Int)(hs0:-1000000<s)(hs1:s<=1000000)(t p:Tm)(hk:t.kind=9\/t.kind=10)(hp:p.kids.length=3)(q:Nat)(h:Heap)(hh:WF h)(hq:h[q]?=some (dU env s)):
  ACalls Tryz.prog 236 [.ptr q 0,t.av,p.av] h (WPost env q h Tm.av (iK s fun s=> .ok (p.kid (t.kind-8).toNat) s)):=by
 obtain⟨g1,g2,g3,g4,g5,hlt⟩:=idf hq;have c1:=fun(l:Heap) (hw:WF (h++l))=>mB env s aB hs1 q (h++l) hw (g1 l)
 simp only[g2] at c1;obtain⟨k,i,nm,ls,ks⟩:=t;obtain⟨k2,i2,nm2,ls2,ks2⟩:=p;simp only[Tm.kind,Tm.kids] at hk hp;unfold iK;obtain⟨⟨a1,a2,a3,a4,a5⟩,⟨b1,b2,b3,b4,b5⟩,⟨d1,d2,d3,d4,d5⟩,rfl⟩:∃a b c,ks2=[a,b,c]:=by match ks2,hp with|[a,b,c],_=>exact⟨a,b,c,rfl⟩
 by_cases hz:s-1<0
 ·rw[if_pos hz];simp only[if_pos hz] at c1;refine ACalls.of_run Tryz.func236 rfl ?_;simp only[Tryz.ntmps236,aZ1,aZ2,Tm.av,aH,List.map];refine rS ?_;refine Run.call rfl aF aA rfl (c1 _ (hh.app aA)) ?_ ?_
  ·rintro v h' ⟨hv,_⟩;cases hv
  rintro v h' ⟨hv,rfl⟩;exact y4f
 ·rw[if_neg hz];simp only[if_neg hz] at c1;simp only[];refine ACalls.of_run Tryz.func236 rfl ?_;simp only[Tryz.ntmps236,aZ1,aZ2,Tm.av,aH,List.map];refine rS ?_;refine zL (c1 _ (hh.app aA)) ?_;obtain⟨G,hG⟩:∃G,List.set h q (dU env (s-1))=G:=⟨_,rfl⟩;have hGl:h.length=G.length:=by rw[<-hG];simp
  have hGw:WF G:=by rw[<-hG];exact hh.set aA
  have hGq:G[q]?=some (dU env (s-1)):=by rw[<-hG];exact g3 _
  rw[hG];simp only[hGl];refine zo ?_;have w1:IntKind.i64.wrap 1=1:=rfl;have w2:IntKind.i64.wrap 2=2:=rfl;have w10:IntKind.i64.wrap 10=10:=rfl;have w11:IntKind.i64.wrap 11=11:=rfl;rcases hk with rfl|rfl
  all_goals
   refine zn ?_;refine aYk w1 w2 w10 w11 ?_;refine zx ?_;refine zF1 hGw ?_;exact⟨by simp[Tm.kid,Tm.kids,Tm.kind],hG.symm⟩
theorem jJ {d:Dc} (hd:d.good)(h0:0<=d.fx)(h1:d.fx<=1048576):0<=kF d/\kF d<=1099511627776:=by
 have h2:=(qM d.ty hd.ty.2.2 hd.ty.1).2.2.2;have h3:=hd.ty.1;have h4:=hd.csl;unfold kF ixZ;split<;>omega
theorem oY (h:Heap)(hh:WF h)(d:Dc)(hd:d.good)(h0:0<=d.fx)(h1:d.fx<=1048576):AC 274 [d.av] h (iA (kF d)):=by
 have c1:=fun g hw=>sJ g hw d.ty hd.ty.1
 have h2:=(qM d.ty hd.ty.2.2 hd.ty.1).2.2.2;have h3:=hd.ty.1;have h4:=hd.csl;obtain⟨z,hz⟩:∃z,kF d=z:=⟨_,rfl⟩;rw[hz];unfold kF ixZ at hz;obtain⟨kk,nm,pr,⟨k1,i1,n1,l1,s1⟩,⟨k2,i2,n2,l2,s2⟩,fx,cs,rp,⟨k3,i3,n3,l3,s3⟩,rr,fs⟩:=d;simp only at c1 h0 h1 h2 h3 h4 hz;generalize bY (Tm.mk k1 i1 n1 l1 s1)=r at c1 h2 hz;obtain⟨tel,⟨u1,u2,u3,u4,u5⟩⟩:=r;simp only at c1 h2 hz;simp only[Tm.av,aH,List.map] at c1;refine y1a ?_;refine cW Tryz.func274 Tryz.ntmps274 ?_;exact y3r
open Go Go.AI
@[simp] theorem Dc.row_fx' (d:Dc) (q:13<d.row.length):d.row[13]'q=iA d.fx:=by
 have:=d.row_fx;exact y4o
@[simp] theorem Dc.row_nm' (d:Dc) (q:1<d.row.length):d.row[1]'q= .p (sP d.nm):=by
 have:=d.row_nm;exact y4o
theorem tB (env:List Dc)(hg:Env.good env)(hf:aP env)(t:Tm)(hlen:(aG t).2.length<=1048576)(q:Nat)(s:Int)(h:Heap)(hh:WF h)(hq:h[q]?=some (dU env s)):
  AC 279 [.ptr q 0,t.av] h (.tup [.agg (nG (hU env t)).d.row,iA (nG (hU env t)).i, .p (.sl 5 (aL (nG (hU env t)).as_)),bA (hU env t).isSome]):=by
 obtain⟨hq',g2,g3,g4,g5,hlt⟩:=idf hq;have c1:=fun g hw=>zX g hw t hlen
 obtain⟨r,hr⟩:∃r,r=hU env t:=⟨_,rfl⟩;rw[<-hr];unfold hU at hr;generalize aG t=sp at hlen c1 hr;obtain⟨hd,xs⟩:=sp;simp only at hlen c1 hr;have c2:=fun g hw=>wF g hw env hd.name hg hf.1
 simp only[Dc.av_row] at c2;have hfc:=fF hf hd.name;generalize gS env hd.name=fz at c2 hfc hr;obtain⟨d,a,ok⟩:=fz;simp only at c2 hr;obtain⟨sk,hsk⟩:∃x,x=hd.kind:=⟨_,rfl⟩;rw[<-hsk] at hr;obtain⟨k,i,n,ls,ks⟩:=t;obtain⟨k2,i2,n2,l2,s2⟩:=hd;change sk=k2 at hsk;subst hsk;simp only[Tm.av,aH,List.map,Tm.name] at c1 c2 hfc⊢;have none_ret:r=none->AOut.ret (.tup [.agg zDc.row,iA 0, .p (.sl 5 []),bA false])=AOut.ret (.tup [.agg (nG r).d.row,iA (nG r).i, .p (.sl 5 (aL (nG r).as_)),bA r.isSome]):=fun e=>by rw[e];rfl
 have wk:Weak (.tup [.agg aY3,iA 0, .p (.prim (.slice none 0 0)),bA false]) (.tup [.agg zDc.row,iA 0, .p (.sl 5 []),bA false]):=Weak.tup (WeakL.cons oB (WeakL.cons (Weak.refl _) (WeakL.cons (Weak.nil 5) (WeakL.refl _))));refine cW Tryz.func279 Tryz.ntmps279 ?_;refine zL (c1 _ (hh.app aA)) ?_;refine zo ?_
 by_cases e0:sk=3
 rotate_left
 ·rw[if_pos e0] at hr;have e0':(sk !=3)=true:=by simpa using e0
  refine gB e0' ?_;exact y45
 subst e0;rw[if_neg aA] at hr;refine aV4 ?_;refine ND.Run.drawP (pc:=[6]) [0,0,0,0,0,0,0,0,0,0,0,0,1,2,2] [0,0,0,0,0,0,0,0,0,0,0,0,1,0,0] [0,1,3,7,0,16,63,127,255,255,255,0,2559,7167,16383] [11,0,1,2,3,4,5,6,7,8,12,9,10,13,14] aC aC ?_;refine zm1 hq' ?_;refine ND.DR.pcall rfl rfl rfl aA rfl rfl (fun g hg=>(c2) g ?_) ?_
 ·exact y2v
 refine aWq ?_;refine y9 ?_;refine nv ?_
 by_cases hbad:ok=true/\0<=a
 rotate_left
 ·rw[if_neg hbad] at hr
  have hb2:ok=true->a<0:=fun h1=>by
   exact Int.not_le.1 fun h2=>hbad ⟨h1,h2⟩
  cases ok with
  |false=>
   refine rI ?_;exact y45
  |true=>
   have hb3:=hb2 rfl;refine gB hb3 ?_;exact y45
 rw[if_pos hbad] at hr;obtain⟨rfl,ha0⟩:=hbad
 obtain⟨hm,hk3,hok,j,rfl,hjl⟩:d∈env/\d.k=3/\DcOk d/\∃j:Nat,a=j/\j<d.cs.length:=by
  rcases hfc with e|⟨d',a',e,h1,h2,h3,h4⟩
  ·simp at e
  ·simp only[aZe,and_true] at e;obtain⟨rfl,rfl⟩:=e;refine⟨h1,h2,h3,?_⟩;rcases h4 with h4|h4
   ·omega
   ·exact h4
 have hgd:=hg.2 d hm;have hfx0:=hok.fx0;have hfix:=hok.fix hk3;have hgj:d.cs[j]?=some d.cs[j]:=aYu hjl;rw[aZj,hgj] at hr;simp only at hr;have hcg:=hgd.cs _ (aYx hjl);have hla:=lY d.cs[j].ty
 have hfl:d.fx<=dI d.cs[j].ty:=by
  exact y7g
 rw[<-hla] at hfl;have hbl2:(bY d.cs[j].ty).1.length<=d.cs[j].ty.size:=(qM d.cs[j].ty hcg.2.2 hcg.1).2.2.2;have hcz:=hcg.1;have c3:=fun g hw=>sJ g hw d.cs[j].ty hcg.1
 clear hla hfix hcg hgd;have hgj':∀q:j<d.cs.length,d.cs[j]'q=d.cs[j]:=fun _=>rfl
 generalize hce:d.cs[j]=c at hgj hr hfl hbl2 hcz c3;generalize bY c.ty=qq at hr hfl hbl2 c3;obtain⟨bs,⟨u1,u2,u3,u4,u5⟩⟩:=qq;obtain⟨cn,⟨v1,v2,v3,v4,v5⟩⟩:=c;simp only at hr hfl hbl2 hcz c3;simp only[Tm.av,aH,List.map] at c3;obtain⟨N,hN⟩:∃N:Nat,d.fx=N:=⟨d.fx.toNat,by omega⟩;rw[hN] at hr hfl;have hj3:¬(j:Int)<0:=aB;have hNl:N<=bs.length:=aB;have hmax:(if(N:Int)<(bs.length:Int) then(bs.length:Int) else(N:Int))=bs.length:=by split<;>omega
 have hmax2:(if N<bs.length then(bs.length:Int) else(N:Int))=bs.length:=by split<;>omega
 refine aV4 ?_;refine aOl hgj ?_;refine zL (c3 _ (hh.app aA)) ?_;refine zo ?_
 by_cases e2:xs.length=bs.length
 ·rw[if_pos e2] at hr;have e2':((xs.length:Int) !=bs.length)=false:=by simp[e2]
  have e4:¬(xs.length:Int)<N:=aB;have e5:(N:Int)<=xs.length:=aB;have e6:N<=xs.length:=aB;have htk:List.take bs.length xs=xs:=aZ6 aB;refine zn ?_;refine zr3 hN hmax2 e2 ?_;refine zf ?_;refine ND.Run.drawP (pc:=[]) [0,0,0,0,0,0,0,1,1,1] [0,0,0,0,0,0,0,0,0,0] [0,0,0,0,8,28,1,67,255,511] [0,6,1,2,3,4,5,7,8,9] aC aC ?_;refine aYa hN e2 hNl ?_;refine y9 ?_;refine znx ?_;refine zF1 hh ?_;exact⟨by rw[hr];simp[nG,htk],rfl⟩
 ·rw[if_neg e2] at hr;have e2':((xs.length:Int) !=bs.length)=true:=by simp;omega
  refine zn ?_;refine zr3 hN hmax2 e2' ?_;refine y2a ?_;exact y45
end Go.Proofs.YtcfcolkbeelegaaGreat
