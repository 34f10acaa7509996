import Derived.Test.YtcfcolkbeelegaaGreatJA0
import Derived.Test.YtcfcolkbeelegaaGreatRows
import Derived.OpenShut
import Derived.JoinedCond
import Derived.ReadAgain
import Derived.Test.YtcfcolkbeelegaaGreatJG1
import Derived.Test.YtcfcolkbeelegaaGreatJE1
import Derived.ChangeMaps5
set_option maxRecDepth 8000
namespace Go.Proofs.YtcfcolkbeelegaaGreat
open Go.AI
def ioCodes:List Nat:=[104,97,114,110,101,115,115,32,50,48,53,101,101,98,97,100,99,56,57,100,99,102,54,49,53,56,51,56,48,101,53,49,51,56,56,52,99,56,101,57,53,100,51,51,97,53,98,97,52,50,98,55,100,98,57,100,57,57,56,102,57,50,54,99,55,56,101,98,98,50,50,101,32,99,117,116,32,97,116,32,101,117,99,108,105,100,47,101,117,99,108,105,100,108,97,119,48,52,46,83,117,98,115,116,76,101,118,101,108,115,32,101,117,99,108,105,100,47,101,117,99,108,105,100,108,97,119,49,56,46,80,97,116,116,101,114,110,77,97,116,99,104,101,115,32,101,117,99,108,105,100,47,101,117,99,108,105,100,108,97,119,49,56,46,80,97,116,116,101,114,110,67,111,118,101,114,115,32,101,117,99,108,105,100,47,101,117,99,108,105,100,108,97,119,49,56,46,80,97,116,116,101,114,110,70,105,114,115,116,32,101,117,99,108,105,100,47,101,117,99,108,105,100,108,97,119,49,56,46,80,97,116,116,101,114,110,73,110,115,116,97,110,99,101,115,32,101,117,99,108,105,100,47,101,117,99,108,105,100,108,97,119,49,56,46,80,97,116,116,101,114,110,82,101,98,117,105,108,100,115,32,101,117,99,108,105,100,47,101,117,99,108,105,100,108,97,119,49,56,46,80,97,116,116,101,114,110,71,114,111,119,115,32,101,117,99,108,105,100,47,101,117,99,108,105,100,108,97,119,49,56,46,80,97,116,116,101,114,110,67,104,101,99,107,115]
def kV:List Char:=ioCodes.map Char.ofNat
theorem aXw:Tryz.pinned.checked.prog.initOrder=String.ofList kV:=aC
theorem aM0:Tryz.pinned.checked.prog.initOrder.toList=kV:=by rw[aXw,String.toList_ofList]
theorem aPs:(behindMainWord (wordsSigns kV)).head?=some "cut".toList:=aC
theorem aR8 {l:List (List Char)} {c:List Char} (h:l.head?=some c):∃rest,l=c::rest:=by
 cases l with
 |nil=>cases h
 |cons x r=>injection h with h;exact⟨r,by rw[h]⟩
theorem aDi:∃rest,behindMainWord (wordsSigns kV)= "cut".toList::rest:=aR8 aPs
theorem words_io:behindMainWord (wordsSigns Tryz.pinned.checked.prog.initOrder.toList)=behindMainWord (wordsSigns kV):=congrArg (fun x=>behindMainWord (wordsSigns x)) aM0
theorem aNs (rest:List (List Char)):stripLifts liftWords ("cut".toList::rest)=([], "cut".toList::rest):=aC
theorem aQc:Tryz.pinned.checked.prog.laysLater=false:=aC
theorem aJ5:Tryz.pinned.checked.prog.bearsReflect=false:=aC
theorem aPf {P:Program} (h:P.doorRows=[]):P.doorFits []=true:=by
 unfold Program.doorFits;rw[h];simp
theorem aQb:Tryz.pinned.checked.prog.doorRows=[]:=aC
theorem aVj:("cut".toList== "gc".toList)=false:=aC
theorem aPd:("cut".toList== "spec".toList)=false:=aC
theorem aPh {P:Program} {rest:List (List Char)} (h:behindMainWord (wordsSigns P.initOrder.toList)= "cut".toList::rest)(h1:P.laysLater=false)(h2:P.bearsReflect=false)(h3:P.doorRows=[]):P.mayEnter=true:=by
 have h4:=aPf h3;unfold Program.mayEnter;rw[h];simp only[aNs,h1,h2,h4];simp
theorem aTr {P:Program} {rest:List (List Char)} (h:behindMainWord (wordsSigns P.initOrder.toList)= "cut".toList::rest):P.make=some .cut:=by
 unfold Program.make;rw[h];simp only[aVj,aPd,Bool.or_self,aZd,if_false,BEq.rfl,bBr,if_true]
theorem aMk:Tryz.pinned.checked.prog.mayEnter=true:=by
 obtain⟨rest,h⟩:=aDi;exact aPh (words_io.trans h) aQc aJ5 aQb
theorem aEi:Tryz.pinned.checked.prog.liftsFinal=false:=by
 unfold Program.liftsFinal Program.headLifts;rw[aM0]
 kernel_rfl
theorem aQ8:Tryz.pinned.checked.prog.make=some .cut:=by
 obtain⟨rest,h⟩:=aDi;exact aTr (words_io.trans h)
theorem mY {a b:Bool} (h:a=true)(k:b=true):(a&& b)=true:=by rw[h,k];rfl
end Go.Proofs.YtcfcolkbeelegaaGreat
namespace Go.AI
open Go
def fH (W:World):Env:= {ro:=fun b _=>b<W.heap.size,g:=fun _=>none,t:=fun _=>none}
theorem aAk (id:Nat):Heap.at [] id=none:=by simp[Heap.at]
theorem aNb (W:World):Rel (fH W) (Heap.at []) W:=by
 refine⟨fun id o h=>?_,fun id n sz h=>?_,fun id id' b h=>?_,fun id o b off h=>?_,fun id n sz b c m off h=>?_,fun b off h=>h⟩
 ·rw[aAk] at h;cases h
 ·intro m cs h';rw[aAk] at h';cases h'
 ·exact y9g
 ·rw[aAk] at h;cases h
 ·intro k off1 h';rw[aAk] at h';cases h'
theorem aEy (W:World)(n:Nat):Fresh (fH W) n:=fun _ _=>⟨rfl,rfl⟩
theorem aVx (W:World)(b:Nat):¬InG (fH W) (Heap.at []) b:=by
 rintro⟨id,h⟩;exact y9g
theorem aT4 {W:World} {b off:Nat} {v:Value} (h:W.cell? ⟨b,off,none⟩=some v):b<W.heap.size:=by
 unfold World.cell? at h;split at h
 ·rename_i heq;exact(bA8.1 heq).1
 ·cases h
theorem aHo {W:World} :∀(ps:List PV)(cs:List Value)(b off:Nat),RepL (fH W) W (ps.map .p) cs->(∀i v,cs[i]?=some v->W.cell? ⟨b,off+i,none⟩=some v)->RepAt (fH W) W b off ps
 |[],_,_,_,_,_=>trivial
 |x::xs,cs,b,off,h,hc=>by
  simp only[aZc,RepL,Rep] at h;obtain⟨v,us,rfl,h1,h2⟩:=h;have h0:=hc 0 v rfl;simp only[RepAt];refine⟨v,aT4 h0,h0,h1,aHo xs us b (off+1) h2 fun i w hi=>?_⟩;have:=hc (i+1) w (by simpa using hi);rw[show off+1+i=off+(i+1) by omega];exact this
theorem aGm {W:World} {a:Addr} {sz:Nat} {cs:List Value} (h:W.cells? 0 a sz=some cs):cs.length=sz/\∀i,i<sz->W.cell? (a.add i)=cs[i]?:=by
 simp only[World.cells?,Nat.zero_le,if_true] at h;exact⟨by simpa using mapM_some_length h,fun i hi=>by simpa using mapM_some_get h i i (by simp[hi])⟩
def GL {α β:Type} (G:α->β->Prop):List α->List β->Prop
 |[],[]=>True
 |x::xs,d::ds=>G x d/\GL G xs ds
 |_,_=>False
section
variable {H:Type} {enc:TypeId×Value->H} {P:Program} {W:World} {sp:Nat->Bool} {held:Bool} {n:Nat} {e:TypeId} {sz:Nat} {α:Type}
theorem wR (f:α->List PV)(G:α->DataW H->Prop)(hfl:∀x,(f x).length=sz)
  (ih:∀cs y,DataW.trod enc P W 0 sp held n e cs=some y->∃x,RepL (fH W) W ((f x).map .p) cs/\G x y.1):
  ∀(elems:List (DataW H×List MemPlace)) (b off:Nat),(∀i y,elems[i]?=some y->(W.cells? 0 ⟨b,off+i*sz,none⟩ sz).bind (DataW.trod enc P W 0 sp held n e)=some y)->
   ∃xs:List α,xs.length=elems.length/\RepEs (fH W) W b sz off (xs.map f)/\GL G xs (elems.map (·.1))
 |[],b,off,_=>⟨[],rfl,trivial,trivial⟩
 |y::ys,b,off,h=>by
  obtain⟨cs,hcs,hy⟩:=Option.bind_eq_some_iff.1 (h 0 y rfl);obtain⟨x,hx,hG⟩:=ih cs y hy
  obtain⟨xs,hl,hr,hGL⟩:=wR f G hfl ih ys b (off+sz) fun i z hz=>by
   have:=h (i+1) z (by simpa using hz);rw[show off+(i+1)*sz=off+sz+i*sz by rw[bB2];omega] at this;exact this
  refine⟨x::xs,by simp[hl],?_,hG,hGL⟩;simp only[aZc,RepEs];have hca:=aGm hcs;refine⟨hfl x,aHo _ cs _ _ hx fun i v hi=>?_,hr⟩;have hlt:i<sz:=by rw[<-hca.1];exact(aYv.1 hi).1
  have:=hca.2 i hlt;rw[hi] at this;rw[<-this];simp only[Addr.add];split
  ·rename_i h0;subst h0;simp
  ·simp
theorem dD {t:TypeId} (ht:P.underlying t=some (.slice e))(hsz:P.cellsOf e=sz)(hpos:0<sz)(f:α->List PV)(G:α->DataW H->Prop)(hfl:∀x,(f x).length=sz)
  (ih:∀m,m<n->∀cs y,DataW.trod enc P W 0 sp held m e cs=some y->∃x,RepL (fH W) W ((f x).map .p) cs/\G x y.1)
  {cs:List Value} {x:DataW H×List MemPlace} (h:DataW.trod enc P W 0 sp held n t cs=some x):
  ∃xs:List α,∃v,cs=[v]/\RepP (fH W) W (.sl sz (xs.map f)) v/\((xs=[]/\x.1= .nil)\/∃elems rest,x.1= .slice elems rest/\GL G xs elems):=by
 rcases DataW.trod_slice ht h with ⟨rfl,rfl⟩|⟨a,len,cap,elems,rest,m,rfl,rfl,rfl,_,hlc,_,hel,he,_,_⟩
 ·refine⟨[],_,rfl,?_, .inl ⟨rfl,rfl⟩⟩;simp only[RepP,bAa];exact⟨none,0,rfl,aYw _, .inl aA⟩
 ·rw[hsz] at he
  have hspot:elems≠[]->a.spot=none:=by
   intro hne;have hlen:0<len:=by rw[<-hel];exact bAw.2 hne
   have h0:=he 0 hlen;rw[aYu aB] at h0;obtain⟨cs,hcs,_⟩:=Option.bind_eq_some_iff.1 h0;have hca:=aGm hcs;have h1:=hca.2 0 hpos;rw[aYu aB] at h1;simp only[Nat.zero_mul,Addr.add,if_true] at h1;unfold World.cell? at h1;split at h1
   ·split at h1
    ·cases h1
    ·rename_i hs;simpa using hs
   ·cases h1
  by_cases hne:elems=[]
  ·subst hne;refine⟨[],_,rfl,?_, .inr ⟨_,_,rfl,trivial⟩⟩;simp only[RepP,bAa];exact⟨some a,cap,by simp[<-hel],Nat.zero_le _, .inl aA⟩
  ·have hs:=hspot hne
   obtain⟨xs,hl,hr,hG⟩:=wR (W:=W) (enc:=enc) (P:=P) (sp:=sp) (held:=held) (n:=m) (e:=e) (sz:=sz) f G hfl (fun cs y hy=>ih m aB cs y hy) elems a.block a.off fun i y hy=>by
    have hlt:i<len:=by rw[<-hel];exact(aYv.1 hy).1
    have:=he i hlt;rw[hy] at this;rw[<-this]
    congr 2
    simp only[Addr.add];split
    ·rename_i h0;rw[h0,<-hs];rfl
    ·rfl
   refine⟨xs,_,rfl,?_, .inr ⟨_,_,rfl,hG⟩⟩;simp only[RepP,aZo];refine⟨some a,cap,by rw[hl,hel],by omega, .inr ⟨a.block,a.off,by rw[<-hs],hr⟩⟩
end
end Go.AI
namespace Go.Proofs.YtcfcolkbeelegaaGreat
open Go Go.AI
open Rows (uptoBulk uptoBulkAll)
section
variable {H:Type} {enc:TypeId×Value->H} {W:World} {sp:Nat->Bool} {held:Bool}
theorem xZ:Tryz.prog.cellsOf 25=5:=aC
theorem aKz:Tryz.prog.cellsOf 90=2:=aC
theorem aGj:Tryz.prog.cellsOf 152=2:=aC
theorem aWi {n:Int} (h:(Lit.int .i64 n).wf=true):-9223372036854775808<=n/\n<=9223372036854775807:=by
 simpa [Lit.wf,IntKind.min,IntKind.max,IntKind.signed,IntKind.bits] using h
theorem jH {n:Nat} {cs:List Value} {x:DataW H×List MemPlace} (h:DataW.trod enc Tryz.prog W 0 sp held n 3 cs=some x):∃i:Int,cs=[.int .i64 i]/\RepP (fH W) W (iP i) (.int .i64 i)/\-9223372036854775808<=i/\i<=9223372036854775807:=by
 obtain⟨i,rfl,_,hw⟩:=DataW.trod_int Tryz.underlying3 h;exact⟨i,rfl,by simp[RepP,bH],aWi hw⟩
def GVar (v:Int×Int)(_:DataW H):Prop:=-9223372036854775808<=v.1
theorem aQj {n:Nat} {cs:List Value} {x:DataW H×List MemPlace} (h:DataW.trod enc Tryz.prog W 0 sp held n 152 cs=some x):
  ∃v:Int×Int,RepL (fH W) W (([iP v.1,iP v.2]:List PV).map .p) cs/\GVar v x.1:=by
 obtain⟨xs,m,rfl,rfl,hl,hlen,hf⟩:=DataW.trod_struct Tryz.underlying152 h;rw[aGj] at hl;obtain⟨c0,c1,rfl⟩:∃a b,cs=[a,b]:=by match cs,hl with|[a,b],_=>exact⟨a,b,rfl⟩
 obtain⟨x0,x1,rfl⟩:∃a b,xs=[a,b]:=by match xs,hlen with|[a,b],_=>exact⟨a,b,rfl⟩
 have h0:=hf 0 _ rfl;have h1:=hf 1 _ rfl;simp only[aZt,aZr] at h0 h1;obtain⟨i,e0,r0,b0,_⟩:=jH h0;obtain⟨j,e1,r1,_,_⟩:=jH h1
 injection e0 with e0;injection e1 with e1;subst e0;subst e1
 refine⟨(i,j),?_,b0⟩;simp only[aZc,bAa,RepL,Rep];exact⟨_,_,rfl,r0,_,_,rfl,r1,rfl⟩
theorem aG0 {α β:Type} {G:α->β->Prop} :∀ {xs:List α} {ds:List β},GL G xs ds->xs.length=ds.length
 |[],[],_=>rfl
 |_::_,_::_,h=>by simp only[aZ1,aG0 h.2]
 |[],_::_,h=>h.elim
 |_::_,[],h=>h.elim
theorem aG1 {α β:Type} {G:α->β->Prop} :∀ {xs:List α} {ds:List β},GL G xs ds->∀x∈xs,∃d∈ds,G x d
 |[],[],_,x,hx=>by cases hx
 |a::l,b::r,h,x,hx=>by
  rcases aZg.1 hx with rfl|hx
  ·exact⟨b,List.mem_cons_self,h.1⟩
  ·obtain⟨d,hd,hg⟩:=aG1 h.2 x hx;exact⟨d,bAq _ hd,hg⟩
 |[],_::_,h,_,_=>h.elim
 |_::_,[],h,_,_=>h.elim
theorem aVy (d:DataW H):1<=uptoBulk d:=by
 cases d with
 |lit l=>cases l<;>simp[uptoBulk]
 |nil=>simp[uptoBulk]
 |ptr d=>simp[uptoBulk]
 |slice elems spare=>simp[uptoBulk]
 |agg parts=>simp[uptoBulk]
 |iface t d=>simp[uptoBulk]
 |map entries=>simp[uptoBulk]
 |held h=>simp[uptoBulk]
theorem aMz {d:DataW H} {l:List (DataW H)} (h:d∈l):uptoBulk d<=uptoBulkAll l:=by
 induction l with
 |nil=>cases h
 |cons x r ih=>
  simp only[uptoBulkAll]
  cases aZg.1 h with
  |inl e=>subst e;omega
  |inr e=>have:=ih e;omega
theorem length_le (l:List (DataW H)):l.length<=uptoBulkAll l:=by
 induction l with
 |nil=>simp[uptoBulkAll]
 |cons x r ih=>have:=aVy x;simp only[uptoBulkAll,aZ1];omega
def GLv (l:Lv)(d:DataW H):Prop:=l.vars.length<=uptoBulk d/\∀v∈l.vars,-9223372036854775808<=v.1
theorem aU2 {n:Nat} {cs:List Value} {x:DataW H×List MemPlace} (h:DataW.trod enc Tryz.prog W 0 sp held n 90 cs=some x):
  ∃l:Lv,RepL (fH W) W (l.cells.map .p) cs/\GLv l x.1:=by
 obtain⟨xs,m,rfl,rfl,hl,hlen,hf⟩:=DataW.trod_struct Tryz.underlying90 h;rw[aKz] at hl;obtain⟨c0,c1,rfl⟩:∃a b,cs=[a,b]:=by match cs,hl with|[a,b],_=>exact⟨a,b,rfl⟩
 obtain⟨x0,x1,rfl⟩:∃a b,xs=[a,b]:=by match xs,hlen with|[a,b],_=>exact⟨a,b,rfl⟩
 have h0:=hf 0 _ rfl;have h1:=hf 1 _ rfl;simp only[aZt,aZr] at h0 h1;obtain⟨i,e0,r0,b0,_⟩:=jH h0;obtain⟨vs,v,e1,r1,hG⟩:=dD (α:=Int×Int) Tryz.underlying88 aGj aD (fun v=>[iP v.1,iP v.2]) GVar (fun _=>rfl) (fun m _ cs y hy=>aQj hy) h1
 injection e0 with e0;injection e1 with e1;subst e0;subst e1
 refine⟨⟨i,vs⟩,?_,?_⟩
 ·simp only[Lv.cells,aZc,bAa,RepL,Rep];exact⟨_,_,rfl,r0,_,_,rfl,r1,rfl⟩
 ·simp only[GLv,aZc,uptoBulk,uptoBulkAll];rcases hG with ⟨rfl,_⟩|⟨elems,rest,he,hG⟩
  ·simp
  ·rw[he];simp only[uptoBulk];have:=length_le elems;have:=aG0 hG;refine⟨by omega,fun v hv=>?_⟩;obtain⟨_,_,hg⟩:=aG1 hG v hv;exact hg
def GTm (t:Tm)(d:DataW H):Prop:=uptoBulk d<=1048576->t.size<=uptoBulk d/\t.fit/\t.lvs
theorem aKe:∀ {ts:List Tm} {ds:List (DataW H)},GL GTm ts ds->uptoBulkAll ds<=1048576->Tm.sizes ts<=uptoBulkAll ds/\Tm.fits ts/\Tm.lvss ts
 |[],[],_,_=>by simp[Tm.sizes,Tm.fits,Tm.lvss]
 |t::ts,d::ds,h,hb=>by
  simp only[uptoBulkAll] at hb;have h1:=h.1 aB;have h2:=aKe h.2 aB;simp only[Tm.sizes,Tm.fits,Tm.lvss,uptoBulkAll];exact⟨by omega,⟨h1.2.1,h2.2.1⟩,h1.2.2,h2.2.2⟩
 |[],_::_,h,_=>h.elim
 |_::_,[],h,_=>h.elim
theorem aEm (N:Nat):∀(n:Nat)(cs:List Value)(x:DataW H×List MemPlace),n<=N->DataW.trod enc Tryz.prog W 0 sp held n 25 cs=some x->
  ∃t:Tm,RepL (fH W) W (t.cells.map .p) cs/\GTm t x.1:=by
 induction N with
 | zero => intro n cs x hn h;obtain rfl:n=0:=aB
           simp[DataW.trod] at h
 |succ N ih=>
 intro n cs x hn h;obtain⟨xs,m,rfl,rfl,hl,hlen,hf⟩:=DataW.trod_struct Tryz.underlying25 h;rw[xZ] at hl;obtain⟨c0,c1,c2,c3,c4,rfl⟩:∃a b c d e,cs=[a,b,c,d,e]:=by match cs,hl with|[a,b,c,d,e],_=>exact⟨a,b,c,d,e,rfl⟩
 obtain⟨x0,x1,x2,x3,x4,rfl⟩:∃a b c d e,xs=[a,b,c,d,e]:=by match xs,hlen with|[a,b,c,d,e],_=>exact⟨a,b,c,d,e,rfl⟩
 have h0:=hf 0 _ rfl;have h1:=hf 1 _ rfl;have h2:=hf 2 _ rfl;have h3:=hf 3 _ rfl;have h4:=hf 4 _ rfl;simp only[aZt,aZr] at h0 h1 h2 h3 h4;obtain⟨k,e0,r0,_,_⟩:=jH h0;obtain⟨i,e1,r1,b1,b1'⟩:=jH h1;obtain⟨s,e2,_,_⟩:=DataW.trod_string Tryz.underlying9 h2;obtain⟨ls,v3,e3,r3,hG3⟩:=dD (α:=Lv) Tryz.underlying22 aKz aD Lv.cells GLv (fun _=>rfl) (fun m _ cs y hy=>aU2 hy) h3;obtain⟨ks,v4,e4,r4,hG4⟩:=dD (α:=Tm) Tryz.underlying23 xZ aD Tm.cells GTm (fun t=>by cases t;rfl) (fun m' hm cs y hy=>ih m' cs y aB hy) h4
 injection e0 with e0;injection e1 with e1;injection e2 with e2;injection e3 with e3;injection e4 with e4
 subst e0;subst e1;subst e2;subst e3;subst e4;refine⟨.mk k i s.data.toList ls ks,?_,?_⟩
 ·simp only[aH,aZc,bAa,RepL,Rep,aW,dA];exact⟨_,_,rfl,r0,_,_,rfl,r1,_,_,rfl,by simp[RepP,bH],_,_,rfl,r3,_,_,rfl,r4,rfl⟩
 ·intro hb;simp only[aZc,bAa,uptoBulk,uptoBulkAll] at hb⊢
  have hk:Tm.sizes ks<=uptoBulk x4.1/\Tm.fits ks/\Tm.lvss ks:=by
   rcases hG4 with ⟨rfl,_⟩|⟨elems,rest,he,hG⟩
   ·simp[Tm.sizes,Tm.fits,Tm.lvss]
   ·rw[he] at hb⊢;simp only[uptoBulk] at hb⊢;have:=aKe hG aB;exact⟨by omega,this.2⟩
  have hlv:ls.length<=1048576/\∀l∈ls,l.vars.length<=1048576/\∀v∈l.vars,-9223372036854775808<=v.1:=by
   rcases hG3 with ⟨rfl,_⟩|⟨elems,rest,he,hG⟩
   ·simp
   ·rw[he] at hb;simp only[uptoBulk] at hb;have:=length_le elems;have:=aG0 hG;refine⟨by omega,fun l hl=>?_⟩;obtain⟨d,hd,hg⟩:=aG1 hG l hl;have:=aMz hd;exact⟨by have:=hg.1;omega,hg.2⟩
  simp only[Tm.size,Tm.fit,Tm.lvs];exact⟨by omega,⟨hlv.1,hlv.2,b1,b1',hk.2.1⟩,hlv.1,fun l hl=>(hlv.2 l hl).1,hk.2.2⟩
end
open Go Go.AI
open Go.ChangeShapes Go.WideShapes Go.ChangeAt Go.RowKit
theorem kids:Kids Tryz.prog (·<Tryz.prog.types.size):=kids_rows aC aC
theorem full:∀t e,t<Tryz.prog.types.size->Tryz.prog.underlying t=some (.slice e)->0<Tryz.prog.cellsOf e:=slices_full_of Tryz.prog aC
section
variable {H:Type} {enc:TypeId×Value->H} {W W':World}
theorem aUc (h:∀b,b<W.heap.size->W'.heap[b]?=W.heap[b]?)(p:MemPlace)(hp:p.block<W.heap.size):W.sameAt W' p:=by
 cases p with
 |cell b off=>simp only[World.sameAt,World.cell?];rw[h b hp]
 |map b=>exact h b hp
theorem pD {sp:Nat->Bool} (hs:∀b,b<W.heap.size->W'.heap[b]?=W.heap[b]?):∀ {ts:List TypeId} {vs:List Value} {ds:List (DataW H)} {ps:List MemPlace},
  DataW.TrodAll enc Tryz.prog W 0 sp true ts vs ds ps->DataW.TrodAll enc Tryz.prog W' 0 sp true ts vs ds ps
 |[],[],[],_,h=>h
 |_::_,_::_,_::_,_,⟨p,q,⟨n,h1⟩,h2,e⟩=>⟨p,q,⟨n,DataW.trod_carry n _ _ _ h1 fun x hx=>aUc hs x (DataW.trod_lt n _ _ _ h1 x hx)⟩,pD hs h2,e⟩
theorem kept (kp:Kp W W')(hs:∀b,b<W.heap.size->W'.heap[b]?=W.heap[b]?)(may:MemPlace->Prop):W.keptBut W' may:=by
 refine⟨kp.1,kp.2,fun i hi=>?_⟩;rw[hs i hi]
 cases W.heap[i]? with
 |none=>trivial
 |some o=>cases o<;>first|exact⟨rfl,rfl,rfl,fun _ _=>rfl⟩|exact .inr ⟨rfl,rfl⟩|rfl
theorem aM5 {f:FuncId} {fn:Func} {s:ChangeSpec} {args:Array Value} {ds gs:List (DataW H)} {before:List MemPlace} {avs:List AV}
  (hvars:s.vars=[]) (hres:fn.resultTypes=#[4]) (hspec:s.fn H ds= {results:=[.lit (.bool true)],args:=ds})
  (hT:∀t∈fn.params.toList,t<Tryz.prog.types.size)
  (hW:DataW.Whole enc Tryz.prog fn.params.toList s.vars false W args.toList ds gs before)
  (hrep:RepL (fH W) W avs args.toList) (hc:ACalls Tryz.prog f avs [] fun o h'=>o= .ret (bA true)/\h'=[]):
  Calls Tryz.prog f args W fun e W'=>∃v,e= .returned v/\s.post enc Tryz.prog fn false true false false W args v W':=by
 have hW':=hW;obtain⟨p,q,hA,hV,rfl,hfz,hnd⟩:=hW;rw[hvars] at hV;obtain⟨rfl,rfl⟩:=trodVars_none hV;have hcall:=hc (fH W) W args.toList (aNb W) (aEy W 0) hrep;rw[show List.toArray args.toList=args from Array.toArray_toList] at hcall;refine hcall.mono fun e W1 ⟨out,h',E',⟨ho,hh⟩,hr,hf,hre,hfr⟩=>?_
 subst ho;simp only[aAd] at hre;obtain⟨v,rfl,hv⟩:=hre;simp only[Rep,RepP] at hv;obtain⟨rfl,_⟩:=hv;have hs:∀b,b<W.heap.size->W1.heap[b]?=W.heap[b]?:=fun b hb=>hfr.same b hb (aVx W b)
 have e2:s.fn H (ds++[])= {results:=[.lit (.bool true)],args:=ds} :=by rw[aZ0];exact hspec
 refine⟨_,rfl,ds,[],p++[],[],p,[],hW',?_,?_,?_,kept hfr.kp hs _,fun h=>by cases h⟩
 ·rw[e2,hres];exact trodAll_cons_mk (shut_bool Tryz.underlying4 _) trodAll_mk0
 ·rw[e2];exact pD hs (DataW.TrodAll.respare kids full hT hA fun x hx=>by simpa using hW'.lt x (by simpa using hx))
 ·rw[e2,hvars]
  rfl
end
theorem aSw {H:Type} {enc:TypeId×Value->H} {W:World} {v:Value} {d:DataW H} {p:List MemPlace} {base:Nat}
  (hv:Value.okWide Tryz.prog W .any base 23 v) (h:DataW.Trod enc Tryz.prog W 0 (fun _=>true) true 23 v d p):∃ts:List Tm,Rep (fH W) W (.p (.sl 5 (aL ts))) v/\(Rows.uptoBulk d<=1048576->Tm.sizes ts<=Rows.uptoBulk d/\Tm.fits ts/\Tm.lvss ts):=by
 obtain⟨a,len,cap,rfl⟩:=okWide_slice Tryz.underlying23 hv;obtain⟨n,hn⟩:=h;obtain⟨xs,v',e,r,hG⟩:=dD (α:=Tm) Tryz.underlying23 xZ aD Tm.cells GTm (fun t=>by cases t;rfl) (fun m' _ cs y hy=>aEm m' m' cs y (aYw _) hy) hn;simp[Value.cells] at e;subst e;refine⟨xs,by simp only[Rep,dA];exact r,fun hb=>?_⟩;rcases hG with ⟨rfl,hd⟩|⟨elems,rest,he,hG⟩
 ·simp[Tm.sizes,Tm.fits,Tm.lvss]
 ·simp only at he;subst he;simp only[Rows.uptoBulk] at hb⊢;have:=aKe hG aB;exact⟨by omega,this.2⟩
end Go.Proofs.YtcfcolkbeelegaaGreat
namespace Go.AI
open Go
theorem Run.rangeG {P:Program} {nb:Nat} {k:List It} {T:List AV} {h:Heap} {D:List AD} {Q:AX->List AV->Heap->List AD->Prop} {g:Operand} {ps:Array Tmp} {ag bd:Code} {gf:FuncId} {cap:List AV} (hg:aev T g= .fn (.func gf) [] cap)(he:aX P gf=true)
  (r:∀l Tl ag' bd',Tl=T->ag'=ag->bd'=bd->∃R:AOut->Heap->Prop,ACalls P gf (.fn (.yield l) [] []::cap) (h++[some (.aux .dblk),some (.aux (.loop l .ready none Tl ps ag' bd'))]) R/\
   ∀o h',R o h'->∃v st j,o= .ret v/\h'.at (h.length+1)=some (.aux (.loop l st j Tl ps ag' bd'))/\st≠ .busy/\
    Run P none nb (match j with|none=>k|some c=> .code c::k) T (h'.set (h.length+1) (some (.aux (.loop l .exhausted j Tl ps ag' bd')))) ((.yield h.length,[],[])::D) Q):
  Run P none nb (.code (.rangeFunc g ps ag bd)::k) T h D Q:=Run.range hg he fun l=>r l T ag bd rfl rfl rfl
theorem Run.codeEq {P:Program} {rd:Option Nat} {nb:Nat} {k:List It} {T:List AV} {h:Heap} {D:List AD} {Q:AX->List AV->Heap->List AD->Prop} {c c':Code} (e:c'=c)(r:Run P rd nb (.code c::k) T h D Q):Run P rd nb (.code c'::k) T h D Q:=e▸r
theorem Run.tEq {P:Program} {rd:Option Nat} {nb:Nat} {k:List It} {T T':List AV} {h:Heap} {D:List AD} {Q:AX->List AV->Heap->List AD->Prop} (e:T=T')(r:Run P rd nb k T' h D Q):Run P rd nb k T h D Q:=e▸r
end Go.AI
namespace Go.Proofs.YtcfcolkbeelegaaGreat
open Go Go.AI
open Go Go.AI
structure Ct where
 nm:List UInt8
 ty:Tm
mutual
inductive Tr where
 |mk (k:Int) (b:Tm) (v:Int) (bs:List Br)
inductive Br where
 |mk (c:List UInt8) (a:Bool) (t:Tr)
end
structure Fu where
 nm:List UInt8
 ty:Tm
 ar:Int
 tr:Tr
structure Dc where
 k:Int
 nm:List UInt8
 ps:Int
 ty:Tm
 va:Tm
 fx:Int
 cs:List Ct
 rp:Int
 rt:Tm
 rr:List Tm
 fs:List Fu
def Ct.cells (c:Ct):List PV:=sP c.nm::c.ty.cells
abbrev bP (b:Bool):PV:= .prim (.bool b)
mutual
def Tr.cells:Tr->List PV
 | .mk k b v bs=>iP k::(b.cells++[iP v, .sl 10 (aSz bs)])
def Br.cells:Br->List PV
 | .mk c a t=>sP c::bP a::t.cells
def aSz:List Br->List (List PV)
 |[]=>[]
 |b::bs=>b.cells::aSz bs
end
theorem dX:∀l:List Br,aSz l=l.map Br.cells
 |[]=>by simp[aSz]
 |b::l=>by simp[aSz,dX l]
def Fu.cells (f:Fu):List PV:=sP f.nm::(f.ty.cells++(iP f.ar::f.tr.cells))
def Dc.cells (d:Dc):List PV:=iP d.k::sP d.nm::iP d.ps::(d.ty.cells++(d.va.cells++(iP d.fx:: .sl 6 (d.cs.map Ct.cells)::iP d.rp::(d.rt.cells++[.sl 5 (aL d.rr), .sl 15 (d.fs.map Fu.cells)]))))
def Dc.av (d:Dc):AV:= .agg (d.cells.map .p)
def Tr.av (t:Tr):AV:= .agg (t.cells.map .p)
abbrev bW (env:List Dc):AV:= .p (.sl 23 (env.map Dc.cells))
theorem aD3 (t:Tm):t.cells.length=5:=by cases t;rfl
theorem aB8 (c:Ct):c.cells.length=6:=by simp[Ct.cells]
theorem rC (t:Tr):t.cells.length=8:=by cases t;simp[Tr.cells]
theorem aAs (b:Br):b.cells.length=10:=by cases b;simp[Br.cells,rC]
theorem aBm (f:Fu):f.cells.length=15:=by simp[Fu.cells,rC]
theorem aZ (d:Dc):d.cells.length=23:=by simp[Dc.cells]
def Tm.good (t:Tm):Prop:=t.size<=1048576/\t.fit/\t.lvs
mutual
def Tr.size:Tr->Nat
 | .mk _ _ _ bs=>1+Br.sizes bs
def Br.size:Br->Nat
 | .mk _ _ t=>1+t.size
def Br.sizes:List Br->Nat
 |[]=>0
 |b::bs=>b.size+Br.sizes bs
end
mutual
def Tr.good:Tr->Prop
 | .mk _ b _ bs=>b.good/\bs.length<=1048576/\Br.goods bs
def Br.good:Br->Prop
 | .mk _ _ t=>t.good
def Br.goods:List Br->Prop
 |[]=>True
 |b::bs=>b.good/\Br.goods bs
end
theorem Br.goods_at {l:List Br} (h:Br.goods l):∀b∈l,b.good:=by
 induction l with
 |nil=>intro b hb;cases hb
 |cons x l ih=>
  simp only[Br.goods] at h;intro b hb
  cases aZg.1 hb with
  |inl e=>subst e;exact h.1
  |inr e=>exact ih h.2 b e
theorem vX {l:List Br} {b:Br} (h:b∈l):b.size<=Br.sizes l:=by
 induction l with
 |nil=>cases h
 |cons x l ih=>
  simp only[Br.sizes];exact y56
def Fu.good (f:Fu):Prop:=f.ty.good/\f.tr.good
structure Dc.good (d:Dc):Prop where
 ty:d.ty.good
 va:d.va.good
 rt:d.rt.good
 csl:d.cs.length<=1048576
 cs:∀c∈d.cs,c.ty.good
 rrl:d.rr.length<=1048576
 rr:∀t∈d.rr,t.good
 fsl:d.fs.length<=1048576
 fs:∀f∈d.fs,f.good
def Env.good (env:List Dc):Prop:=env.length<=1048576/\∀d∈env,d.good
open Go Go.AI
open Rows (uptoBulk uptoBulkAll)
open Go.ChangeShapes Go.WideShapes Go.ChangeAt Go.RowKit
section
variable {H:Type} {enc:TypeId×Value->H} {W:World} {sp:Nat->Bool} {held:Bool}
theorem aKy:Tryz.prog.cellsOf 63=23:=aC
theorem aGi:Tryz.prog.cellsOf 141=6:=aC
theorem aP5:Tryz.prog.cellsOf 265=8:=aC
theorem aGk:Tryz.prog.cellsOf 267=15:=aC
theorem aGl:Tryz.prog.cellsOf 291=10:=aC
theorem aV7 {α:Type} {G:α->DataW H->Prop} {Q:α->Prop} (hq:∀x d,G x d->uptoBulk d<=1048576->Q x) {xs:List α} {ds:List (DataW H)} (h:GL G xs ds)(hb:uptoBulkAll ds<=1048576):xs.length<=1048576/\∀x∈xs,Q x:=by
 refine⟨by have:=aG0 h;have:=length_le ds;omega,fun x hx=>?_⟩;obtain⟨d,hd,hg⟩:=aG1 h x hx;have:=aMz hd;exact hq x d hg aB
theorem jL {α:Type} {G:α->DataW H->Prop} {Q:α->Prop} (hq:∀x d,G x d->uptoBulk d<=1048576->Q x) {xs:List α} {x:DataW H} (h:(xs=[]/\x= .nil)\/∃elems rest,x= .slice elems rest/\GL G xs elems)(hb:uptoBulk x<=1048576):xs.length<=1048576/\∀x∈xs,Q x:=by
 rcases h with ⟨rfl,_⟩|⟨elems,rest,rfl,hG⟩
 ·simp
 ·simp only[uptoBulk] at hb;exact aV7 hq hG aB
theorem aC7 {n:Nat} {cs:List Value} {x:DataW H×List MemPlace} (h:DataW.trod enc Tryz.prog W 0 sp held n 9 cs=some x):∃(s:List UInt8)(v:Value),cs=[v]/\RepP (fH W) W (sP s) v:=by
 obtain⟨s,rfl,_⟩:=DataW.trod_string Tryz.underlying9 h;exact⟨s.data.toList,_,rfl,by simp[RepP,bH]⟩
theorem aW0 {n:Nat} {cs:List Value} {x:DataW H×List MemPlace} (h:DataW.trod enc Tryz.prog W 0 sp held n 4 cs=some x):∃b:Bool,cs=[.bool b]/\RepP (fH W) W (bP b) (.bool b):=by
 obtain⟨b,rfl,_⟩:=DataW.trod_bool Tryz.underlying4 h;exact⟨b,rfl,by simp[RepP,bH]⟩
theorem uE {n:Nat} {cs:List Value} {x:DataW H×List MemPlace} (h:DataW.trod enc Tryz.prog W 0 sp held n 25 cs=some x):∃t:Tm,RepL (fH W) W (t.cells.map .p) cs/\(uptoBulk x.1<=1048576->t.good):=by
 obtain⟨t,ht,hg⟩:=aEm n n cs x (aYw _) h;exact⟨t,ht,fun hb=>by have:=hg hb;exact⟨by omega,this.2⟩⟩
def GCt (c:Ct)(d:DataW H):Prop:=uptoBulk d<=1048576->c.ty.good
theorem aTz {n:Nat} {cs:List Value} {x:DataW H×List MemPlace} (h:DataW.trod enc Tryz.prog W 0 sp held n 141 cs=some x):∃c:Ct,RepL (fH W) W (c.cells.map .p) cs/\GCt c x.1:=by
 obtain⟨xs,m,rfl,rfl,hl,hlen,hf⟩:=DataW.trod_struct Tryz.underlying141 h;rw[aGi] at hl;obtain⟨c0,c1,c2,c3,c4,c5,rfl⟩:∃a b c d e f,cs=[a,b,c,d,e,f]:=by match cs,hl with|[a,b,c,d,e,f],_=>exact⟨a,b,c,d,e,f,rfl⟩
 obtain⟨x0,x1,rfl⟩:∃a b,xs=[a,b]:=by match xs,hlen with|[a,b],_=>exact⟨a,b,rfl⟩
 have h0:=hf 0 _ rfl;have h1:=hf 1 _ rfl;simp only[aZt,aZr] at h0 h1;obtain⟨s,v,e0,r0⟩:=aC7 h0;obtain⟨t,r1,g1⟩:=uE h1
 injection e0 with e0;subst e0
 refine⟨⟨s,t⟩,?_,fun hb=>?_⟩
 ·simp only[Ct.cells,aZc,RepL,Rep];exact⟨_,_,rfl,r0,r1⟩
 ·simp only[aZc,bAa,uptoBulk,uptoBulkAll] at hb;exact g1 aB
def GTr (t:Tr)(d:DataW H):Prop:=uptoBulk d<=1048576->t.good
def GBr (b:Br)(d:DataW H):Prop:=uptoBulk d<=1048576->b.good
theorem aH0:∀ {l:List Br},(∀b∈l,b.good)->Br.goods l
 |[],_=>trivial
 |b::l,h=>by
  simp only[Br.goods];exact⟨h b aA,aH0 fun x hx=>h x (bAq _ hx)⟩
theorem aU4 (N:Nat):∀(n:Nat)(cs:List Value)(x:DataW H×List MemPlace),n<=N->DataW.trod enc Tryz.prog W 0 sp held n 265 cs=some x->
  ∃t:Tr,RepL (fH W) W (t.cells.map .p) cs/\GTr t x.1:=by
 induction N with
 | zero => intro n cs x hn h;obtain rfl:n=0:=aB
           simp[DataW.trod] at h
 |succ N ih=>
 intro n cs x hn h;obtain⟨xs,m,rfl,rfl,hl,hlen,hf⟩:=DataW.trod_struct Tryz.underlying265 h;rw[aP5] at hl;obtain⟨c0,c1,c2,c3,c4,c5,c6,c7,rfl⟩:∃a b c d e f g h,cs=[a,b,c,d,e,f,g,h]:=by match cs,hl with|[a,b,c,d,e,f,g,h],_=>exact⟨a,b,c,d,e,f,g,h,rfl⟩
 obtain⟨x0,x1,x2,x3,rfl⟩:∃a b c d,xs=[a,b,c,d]:=by match xs,hlen with|[a,b,c,d],_=>exact⟨a,b,c,d,rfl⟩
 have h0:=hf 0 _ rfl;have h1:=hf 1 _ rfl;have h2:=hf 2 _ rfl;have h3:=hf 3 _ rfl;simp only[aZt,aZr] at h0 h1 h2 h3;obtain⟨k,e0,r0,_,_⟩:=jH h0;obtain⟨b,r1,g1⟩:=uE h1;obtain⟨v,e2,r2,_,_⟩:=jH h2
 obtain⟨bs,w,e3,r3,hG3⟩:=dD (α:=Br) Tryz.underlying263 aGl aD Br.cells GBr aAs (fun m' hm cs y hy=>by
  obtain⟨xs,m2,rfl,hy1,hl,hlen,hf⟩:=DataW.trod_struct Tryz.underlying291 hy;rw[aGl] at hl;obtain⟨d0,d1,d2,d3,d4,d5,d6,d7,d8,d9,rfl⟩:∃a b c d e f g h i j,cs=[a,b,c,d,e,f,g,h,i,j]:=by match cs,hl with|[a,b,c,d,e,f,g,h,i,j],_=>exact⟨a,b,c,d,e,f,g,h,i,j,rfl⟩
  obtain⟨y0,y1,y2,rfl⟩:∃a b c,xs=[a,b,c]:=by match xs,hlen with|[a,b,c],_=>exact⟨a,b,c,rfl⟩
  have k0:=hf 0 _ rfl;have k1:=hf 1 _ rfl;have k2:=hf 2 _ rfl;simp only[aZt,aZr] at k0 k1 k2;obtain⟨s,v,f0,q0⟩:=aC7 k0;obtain⟨bo,f1,q1⟩:=aW0 k1;obtain⟨t,q2,g2⟩:=ih m2 _ _ aB k2
  injection f0 with f0;injection f1 with f1;subst f0;subst f1
  refine⟨.mk s bo t,?_,fun hb=>?_⟩
  ·simp only[Br.cells,aZc,RepL,Rep];exact⟨_,_,rfl,q0,_,_,rfl,q1,q2⟩
  ·rw[hy1] at hb;simp only[aZc,bAa,uptoBulk,uptoBulkAll] at hb;simp only[Br.good];exact g2 aB) h3
 injection e0 with e0;injection e2 with e2;injection e3 with e3
 subst e0;subst e2;subst e3;refine⟨.mk k b v bs,?_,fun hb=>?_⟩
 ·simp only[Tr.cells,dX];show RepL (fH W) W (.p (iP k)::List.map AV.p (b.cells++[iP v, .sl 10 (bs.map Br.cells)])) (_::([c1,c2,c3,c4,c5]++[_,_]));rw[aZx];simp only[RepL,Rep];refine⟨_,_,rfl,r0,RepL.append r1 ?_⟩;simp only[aZc,bAa,RepL,Rep];exact⟨_,_,rfl,r2,_,_,rfl,r3,rfl⟩
 ·simp only[aZc,bAa,uptoBulk,uptoBulkAll] at hb;simp only[Tr.good];have h3:=jL (Q:=Br.good) (fun x d hg hb=>hg hb) hG3 aB;exact⟨g1 aB,h3.1,aH0 h3.2⟩
def GFu (f:Fu)(d:DataW H):Prop:=uptoBulk d<=1048576->f.good
theorem aU1 {n:Nat} {cs:List Value} {x:DataW H×List MemPlace} (h:DataW.trod enc Tryz.prog W 0 sp held n 267 cs=some x):∃f:Fu,RepL (fH W) W (f.cells.map .p) cs/\GFu f x.1:=by
 obtain⟨xs,m,rfl,rfl,hl,hlen,hf⟩:=DataW.trod_struct Tryz.underlying267 h;rw[aGk] at hl;obtain⟨c0,c1,c2,c3,c4,c5,c6,c7,c8,c9,c10,c11,c12,c13,c14,rfl⟩:∃a b c d e f g h i j k l m n o,cs=[a,b,c,d,e,f,g,h,i,j,k,l,m,n,o]:=by match cs,hl with|[a,b,c,d,e,f,g,h,i,j,k,l,m,n,o],_=>exact⟨a,b,c,d,e,f,g,h,i,j,k,l,m,n,o,rfl⟩
 obtain⟨x0,x1,x2,x3,rfl⟩:∃a b c d,xs=[a,b,c,d]:=by match xs,hlen with|[a,b,c,d],_=>exact⟨a,b,c,d,rfl⟩
 have h0:=hf 0 _ rfl;have h1:=hf 1 _ rfl;have h2:=hf 2 _ rfl;have h3:=hf 3 _ rfl;simp only[aZt,aZr] at h0 h1 h2 h3;obtain⟨s,v,e0,r0⟩:=aC7 h0;obtain⟨t,r1,g1⟩:=uE h1;obtain⟨a,e2,r2,_,_⟩:=jH h2;obtain⟨tr,r3,g3⟩:=aU4 m m _ _ (aYw _) h3
 injection e0 with e0;injection e2 with e2;subst e0;subst e2
 refine⟨⟨s,t,a,tr⟩,?_,fun hb=>?_⟩
 ·simp only[Fu.cells];show RepL (fH W) W (.p (sP s)::List.map AV.p (t.cells++(iP a::tr.cells))) (_::([c1,c2,c3,c4,c5]++(_::[c7,c8,c9,c10,c11,c12,c13,c14])));rw[aZx];simp only[RepL,Rep];refine⟨_,_,rfl,r0,RepL.append r1 ?_⟩;simp only[aZc,RepL,Rep];exact⟨_,_,rfl,r2,r3⟩
 ·simp only[aZc,bAa,uptoBulk,uptoBulkAll] at hb;exact⟨g1 aB,g3 aB⟩
def GDc (d:Dc)(x:DataW H):Prop:=uptoBulk x<=1048576->d.good
theorem aU0 {n:Nat} {cs:List Value} {x:DataW H×List MemPlace} (h:DataW.trod enc Tryz.prog W 0 sp held n 63 cs=some x):∃d:Dc,RepL (fH W) W (d.cells.map .p) cs/\GDc d x.1:=by
 obtain⟨xs,m,rfl,rfl,hl,hlen,hf⟩:=DataW.trod_struct Tryz.underlying63 h;rw[aKy] at hl
 obtain⟨c0,c1,c2,c3,c4,c5,c6,c7,c8,c9,c10,c11,c12,c13,c14,c15,c16,c17,c18,c19,c20,c21,c22,rfl⟩:∃a b c d e f g h i j k l m n o p q r s t u v w,cs=[a,b,c,d,e,f,g,h,i,j,k,l,m,n,o,p,q,r,s,t,u,v,w]:=by
  match cs,hl with|[a,b,c,d,e,f,g,h,i,j,k,l,m,n,o,p,q,r,s,t,u,v,w],_=>exact⟨a,b,c,d,e,f,g,h,i,j,k,l,m,n,o,p,q,r,s,t,u,v,w,rfl⟩
 obtain⟨x0,x1,x2,x3,x4,x5,x6,x7,x8,rfl⟩:∃a b c d e f g h i,xs=[a,b,c,d,e,f,g,h,i]:=by match xs,hlen with|[a,b,c,d,e,f,g,h,i],_=>exact⟨a,b,c,d,e,f,g,h,i,rfl⟩
 have h0:=hf 0 _ rfl;have h1:=hf 1 _ rfl;have h2:=hf 2 _ rfl;have h3:=hf 3 _ rfl;have h4:=hf 4 _ rfl;have h5:=hf 5 _ rfl;have h6:=hf 6 _ rfl;have h7:=hf 7 _ rfl;have h8:=hf 8 _ rfl;simp only[aZt,aZr] at h0 h1 h2 h3 h4 h5 h6 h7 h8;obtain⟨k,e0,r0,_,_⟩:=jH h0;obtain⟨nm,w1,e1,r1⟩:=aC7 h1;obtain⟨ps,e2,r2,_,_⟩:=jH h2;obtain⟨ty,r3,g3⟩:=uE h3;obtain⟨va,r4,g4⟩:=uE h4;obtain⟨fx,e5,r5,_,_⟩:=jH h5;obtain⟨ct,w6,e6,r6,hG6⟩:=dD (α:=Ct) Tryz.underlying58 aGi aD Ct.cells GCt aB8 (fun m' _ cs y hy=>aTz hy) h6;obtain⟨fu,w8,e8,r8,hG8⟩:=dD (α:=Fu) Tryz.underlying61 aGk aD Fu.cells GFu aBm (fun m' _ cs y hy=>aU1 hy) h8;obtain⟨zs,m7,hm7,hx7,hl7,hlen7,hf7⟩:=DataW.trod_struct Tryz.underlying60 h7;obtain⟨z0,z1,z2,rfl⟩:∃a b c,zs=[a,b,c]:=by match zs,hlen7 with|[a,b,c],_=>exact⟨a,b,c,rfl⟩
 have k0:=hf7 0 _ rfl;have k1:=hf7 1 _ rfl;have k2:=hf7 2 _ rfl;simp only[aZt,aZr] at k0 k1 k2;obtain⟨rp,f0,q0,_,_⟩:=jH k0;obtain⟨rt,q1,g1⟩:=uE k1;obtain⟨rr,w2,f2,q2,hG2⟩:=dD (α:=Tm) Tryz.underlying23 xZ aD Tm.cells GTm (fun t=>by cases t;rfl) (fun m' _ cs y hy=>aEm m' m' cs y (aYw _) hy) k2
 injection e0 with e0;injection e1 with e1;injection e2 with e2;injection e5 with e5;injection e6 with e6;injection e8 with e8;injection f0 with f0;injection f2 with f2
 subst e0;subst e1;subst e2;subst e5;subst e6;subst e8;subst f0;subst f2;refine⟨⟨k,nm,ps,ty,va,fx,ct,rp,rt,rr,fu⟩,?_,fun hb=>?_⟩
 ·simp only[Dc.cells]
  show RepL (fH W) W (.p (iP k):: .p (sP nm):: .p (iP ps)::List.map AV.p (ty.cells++(va.cells++(iP fx:: .sl 6 (ct.map Ct.cells)::iP rp::(rt.cells++[.sl 5 (aL rr), .sl 15 (fu.map Fu.cells)])))))
   (_::_::_::([c3,c4,c5,c6,c7]++([c8,c9,c10,c11,c12]++(_::_::_::([c16,c17,c18,c19,c20]++[_,_])))))
  rw[aZx,aZx];simp only[RepL,Rep];refine⟨_,_,rfl,r0,_,_,rfl,r1,_,_,rfl,r2,RepL.append r3 (RepL.append r4 ?_)⟩;simp only[aZc,aZx,RepL,Rep];refine⟨_,_,rfl,r5,_,_,rfl,r6,_,_,rfl,q0,RepL.append q1 ?_⟩;simp only[bAa,RepL,Rep,dA];exact⟨_,_,rfl,q2,_,_,rfl,r8,rfl⟩
 ·simp only[aZc,bAa,uptoBulk,uptoBulkAll] at hb;have hb7:uptoBulk x7.1=uptoBulk (DataW.agg (List.map (·.1) [z0,z1,z2])):=by rw[hx7]
  simp only[aZc,bAa,uptoBulk,uptoBulkAll] at hb7;have a6:=jL (Q:=fun c:Ct=>c.ty.good) (fun x d hg hb=>hg hb) hG6 aB;have a8:=jL (Q:=Fu.good) (fun x d hg hb=>hg hb) hG8 aB;have a2:=jL (Q:=Tm.good) (fun x d hg hb=>by have:=hg hb;exact⟨by omega,this.2⟩) hG2 aB;exact⟨g3 aB,g4 aB,g1 aB,a6.1,a6.2,a2.1,a2.2,a8.1,a8.2⟩
theorem aSv {v:Value} {d:DataW H} {p:List MemPlace} {base:Nat}
  (hv:Value.okWide Tryz.prog W .any base 36 v) (h:DataW.Trod enc Tryz.prog W 0 (fun _=>true) true 36 v d p):∃env:List Dc,Rep (fH W) W (bW env) v/\(uptoBulk d<=1048576->Env.good env):=by
 obtain⟨a,len,cap,rfl⟩:=okWide_slice Tryz.underlying36 hv;obtain⟨n,hn⟩:=h;obtain⟨xs,v',e,r,hG⟩:=dD (α:=Dc) Tryz.underlying36 aKy aD Dc.cells GDc aZ (fun m' _ cs y hy=>aU0 hy) hn;simp[Value.cells] at e;subst e;exact⟨xs,by simp only[Rep];exact r,fun hb=>jL (Q:=Dc.good) (fun x d hg hb=>hg hb) hG hb⟩
end
end Go.Proofs.YtcfcolkbeelegaaGreat
