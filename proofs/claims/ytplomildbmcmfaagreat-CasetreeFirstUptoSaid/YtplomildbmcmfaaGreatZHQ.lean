import Derived.Test.YtplomildbmcmfaaGreatZA0
import Derived.Test.YtplomildbmcmfaaGreatRows
import Derived.OpenShut
import Derived.JoinedCond
import Derived.ReadAgain
import Derived.Test.YtplomildbmcmfaaGreatZG1
import Derived.ChangeMaps5
import Derived.Test.YtplomildbmcmfaaGreatZX3
import Derived.Test.YtplomildbmcmfaaGreatZQCa
set_option maxRecDepth 8000
namespace Go.Proofs.YtplomildbmcmfaaGreat
open Go.AI
def ioCodes:List Nat:=[104,97,114,110,101,115,115,32,100,100,98,52,50,52,54,97,97,101,52,49,48,56,52,57,50,53,50,55,98,97,97,53,101,54,57,48,57,48,98,100,99,50,53,99,54,56,53,100,56,102,56,102,52,51,98,97,100,54,53,101,48,54,50,102,48,56,51,51,100,99,54,50,32,99,117,116,32,97,116,32,101,117,99,108,105,100,47,101,117,99,108,105,100,108,97,119,49,57,46,67,97,115,101,116,114,101,101,67,111,109,112,105,108,101,115,32,101,117,99,108,105,100,47,101,117,99,108,105,100,108,97,119,49,57,46,67,97,115,101,116,114,101,101,76,101,97,118,101,115,32,101,117,99,108,105,100,47,101,117,99,108,105,100,108,97,119,49,57,46,67,97,115,101,116,114,101,101,67,97,116,99,104,101,115,32,101,117,99,108,105,100,47,101,117,99,108,105,100,108,97,119,49,57,46,67,97,115,101,116,114,101,101,70,105,114,115,116,32,101,117,99,108,105,100,47,101,117,99,108,105,100,108,97,119,49,57,46,67,97,115,101,116,114,101,101,67,111,118,101,114,115,32,101,117,99,108,105,100,47,101,117,99,108,105,100,108,97,119,49,57,46,67,97,115,101,116,114,101,101,77,97,116,99,104,101,115]
def jM:List Char:=ioCodes.map Char.ofNat
theorem bH2:Tryz.pinned.checked.prog.initOrder=String.ofList jM:=aC
theorem aLv:Tryz.pinned.checked.prog.initOrder.toList=jM:=by rw[bH2,String.toList_ofList]
theorem aQe:(behindMainWord (wordsSigns jM)).head?=some "cut".toList:=aC
theorem aSj {l:List (List Char)} {c:List Char} (h:l.head?=some c):∃rest,l=c::rest:=by
 cases l with
 |nil=>cases h
 |cons x r=>injection h with h;exact⟨r,by rw[h]⟩
theorem aAb:∃rest,behindMainWord (wordsSigns jM)= "cut".toList::rest:=aSj aQe
theorem words_io:behindMainWord (wordsSigns Tryz.pinned.checked.prog.initOrder.toList)=behindMainWord (wordsSigns jM):=congrArg (fun x=>behindMainWord (wordsSigns x)) aLv
theorem aNw (rest:List (List Char)):stripLifts liftWords ("cut".toList::rest)=([], "cut".toList::rest):=aC
theorem aR0:Tryz.pinned.checked.prog.laysLater=false:=aC
theorem aHc:Tryz.pinned.checked.prog.bearsReflect=false:=aC
theorem aPk {P:Program} (h:P.doorRows=[]):P.doorFits []=true:=by
 unfold Program.doorFits;rw[h];simp
theorem aQz:Tryz.pinned.checked.prog.doorRows=[]:=aC
theorem bAk:("cut".toList== "gc".toList)=false:=aC
theorem aPh:("cut".toList== "spec".toList)=false:=aC
theorem aPs {P:Program} {rest:List (List Char)} (h:behindMainWord (wordsSigns P.initOrder.toList)= "cut".toList::rest)(h1:P.laysLater=false)(h2:P.bearsReflect=false)(h3:P.doorRows=[]):P.mayEnter=true:=by
 have h4:=aPk h3;unfold Program.mayEnter;rw[h];simp only[aNw,h1,h2,h4];simp
theorem aWt {P:Program} {rest:List (List Char)} (h:behindMainWord (wordsSigns P.initOrder.toList)= "cut".toList::rest):P.make=some .cut:=by
 unfold Program.make;rw[h];simp only[bAk,aPh,Bool.or_self,bMe,if_false,BEq.rfl,bOs,if_true]
theorem aMb:Tryz.pinned.checked.prog.mayEnter=true:=by
 obtain⟨rest,h⟩:=aAb;exact aPs (words_io.trans h) aR0 aHc aQz
theorem aCe:Tryz.pinned.checked.prog.liftsFinal=false:=by
 unfold Program.liftsFinal Program.headLifts;rw[aLv]
 kernel_rfl
theorem aQw:Tryz.pinned.checked.prog.make=some .cut:=by
 obtain⟨rest,h⟩:=aAb;exact aWt (words_io.trans h)
theorem kX {a b:Bool} (h:a=true)(k:b=true):(a&& b)=true:=by rw[h,k];rfl
end Go.Proofs.YtplomildbmcmfaaGreat
namespace Go.AI
open Go
def dD (W:World):Env:= {ro:=fun b _=>b<W.heap.size,g:=fun _=>none,t:=fun _=>none}
theorem at_nil (id:Nat):Heap.at [] id=none:=by simp[Heap.at]
theorem aNf (W:World):Rel (dD W) (Heap.at []) W:=by
 refine⟨fun id o h=>?_,fun id n sz h=>?_,fun id id' b h=>?_,fun id o b off h=>?_,fun id n sz b c m off h=>?_,fun b off h=>h⟩
 ·rw[at_nil] at h;cases h
 ·intro m cs h';rw[at_nil] at h';cases h'
 ·exact y84
 ·rw[at_nil] at h;cases h
 ·intro k off1 h';rw[at_nil] at h';cases h'
theorem aCm (W:World)(n:Nat):Fresh (dD W) n:=fun _ _=>⟨rfl,rfl⟩
theorem bCs (W:World)(b:Nat):¬InG (dD W) (Heap.at []) b:=by
 rintro⟨id,h⟩;exact y84
theorem aUh {W:World} {b off:Nat} {v:Value} (h:W.cell? ⟨b,off,none⟩=some v):b<W.heap.size:=by
 unfold World.cell? at h;split at h
 ·rename_i heq;exact(bN9.1 heq).1
 ·cases h
theorem aF1 {W:World} :∀(ps:List PV)(cs:List Value)(b off:Nat),RepL (dD W) W (ps.map .p) cs->(∀i v,cs[i]?=some v->W.cell? ⟨b,off+i,none⟩=some v)->RepAt (dD W) W b off ps
 |[],_,_,_,_,_=>trivial
 |x::xs,cs,b,off,h,hc=>by
  simp only[bMd,RepL,Rep] at h;obtain⟨v,us,rfl,h1,h2⟩:=h;have h0:=hc 0 v rfl;simp only[RepAt];refine⟨v,aUh h0,h0,h1,aF1 xs us b (off+1) h2 fun i w hi=>?_⟩;have:=hc (i+1) w (by simpa using hi);rw[show off+1+i=off+(i+1) by omega];exact this
theorem aE1 {W:World} {a:Addr} {sz:Nat} {cs:List Value} (h:W.cells? 0 a sz=some cs):cs.length=sz/\∀i,i<sz->W.cell? (a.add i)=cs[i]?:=by
 simp only[World.cells?,Nat.zero_le,if_true] at h;exact⟨by simpa using mapM_some_length h,fun i hi=>by simpa using mapM_some_get h i i (by simp[hi])⟩
def GL {α β:Type} (G:α->β->Prop):List α->List β->Prop
 |[],[]=>True
 |x::xs,d::ds=>G x d/\GL G xs ds
 |_,_=>False
section
variable {H:Type} {enc:TypeId×Value->H} {P:Program} {W:World} {sp:Nat->Bool} {held:Bool} {n:Nat} {e:TypeId} {sz:Nat} {α:Type}
theorem tZ (f:α->List PV)(G:α->DataW H->Prop)(hfl:∀x,(f x).length=sz)
  (ih:∀cs y,DataW.trod enc P W 0 sp held n e cs=some y->∃x,RepL (dD W) W ((f x).map .p) cs/\G x y.1):
  ∀(elems:List (DataW H×List MemPlace)) (b off:Nat),(∀i y,elems[i]?=some y->(W.cells? 0 ⟨b,off+i*sz,none⟩ sz).bind (DataW.trod enc P W 0 sp held n e)=some y)->
   ∃xs:List α,xs.length=elems.length/\RepEs (dD W) W b sz off (xs.map f)/\GL G xs (elems.map (·.1))
 |[],b,off,_=>⟨[],rfl,trivial,trivial⟩
 |y::ys,b,off,h=>by
  obtain⟨cs,hcs,hy⟩:=Option.bind_eq_some_iff.1 (h 0 y rfl);obtain⟨x,hx,hG⟩:=ih cs y hy
  obtain⟨xs,hl,hr,hGL⟩:=tZ f G hfl ih ys b (off+sz) fun i z hz=>by
   have:=h (i+1) z (by simpa using hz);rw[show off+(i+1)*sz=off+sz+i*sz by rw[bO3];omega] at this;exact this
  refine⟨x::xs,by simp[hl],?_,hG,hGL⟩;simp only[bMd,RepEs];have hca:=aE1 hcs;refine⟨hfl x,aF1 _ cs _ _ hx fun i v hi=>?_,hr⟩;have hlt:i<sz:=by rw[<-hca.1];exact(bLw.1 hi).1
  have:=hca.2 i hlt;rw[hi] at this;rw[<-this];simp only[Addr.add];split
  ·rename_i h0;subst h0;simp
  ·simp
theorem bM {t:TypeId} (ht:P.underlying t=some (.slice e))(hsz:P.cellsOf e=sz)(hpos:0<sz)(f:α->List PV)(G:α->DataW H->Prop)(hfl:∀x,(f x).length=sz)
  (ih:∀m,m<n->∀cs y,DataW.trod enc P W 0 sp held m e cs=some y->∃x,RepL (dD W) W ((f x).map .p) cs/\G x y.1)
  {cs:List Value} {x:DataW H×List MemPlace} (h:DataW.trod enc P W 0 sp held n t cs=some x):
  ∃xs:List α,∃v,cs=[v]/\RepP (dD W) W (.sl sz (xs.map f)) v/\((xs=[]/\x.1= .nil)\/∃elems rest,x.1= .slice elems rest/\GL G xs elems):=by
 rcases DataW.trod_slice ht h with ⟨rfl,rfl⟩|⟨a,len,cap,elems,rest,m,rfl,rfl,rfl,_,hlc,_,hel,he,_,_⟩
 ·refine⟨[],_,rfl,?_, .inl ⟨rfl,rfl⟩⟩;simp only[RepP,bNb];exact⟨none,0,rfl,bLx _, .inl aA⟩
 ·rw[hsz] at he
  have hspot:elems≠[]->a.spot=none:=by
   intro hne;have hlen:0<len:=by rw[<-hel];exact bNx.2 hne
   have h0:=he 0 hlen;rw[bLv aB] at h0;obtain⟨cs,hcs,_⟩:=Option.bind_eq_some_iff.1 h0;have hca:=aE1 hcs;have h1:=hca.2 0 hpos;rw[bLv aB] at h1;simp only[Nat.zero_mul,Addr.add,if_true] at h1;unfold World.cell? at h1;split at h1
   ·split at h1
    ·cases h1
    ·rename_i hs;simpa using hs
   ·cases h1
  by_cases hne:elems=[]
  ·subst hne;refine⟨[],_,rfl,?_, .inr ⟨_,_,rfl,trivial⟩⟩;simp only[RepP,bNb];exact⟨some a,cap,by simp[<-hel],Nat.zero_le _, .inl aA⟩
  ·have hs:=hspot hne
   obtain⟨xs,hl,hr,hG⟩:=tZ (W:=W) (enc:=enc) (P:=P) (sp:=sp) (held:=held) (n:=m) (e:=e) (sz:=sz) f G hfl (fun cs y hy=>ih m aB cs y hy) elems a.block a.off fun i y hy=>by
    have hlt:i<len:=by rw[<-hel];exact(bLw.1 hy).1
    have:=he i hlt;rw[hy] at this;rw[<-this]
    congr 2
    simp only[Addr.add];split
    ·rename_i h0;rw[h0,<-hs];rfl
    ·rfl
   refine⟨xs,_,rfl,?_, .inr ⟨_,_,rfl,hG⟩⟩;simp only[RepP,bMp];refine⟨some a,cap,by rw[hl,hel],by omega, .inr ⟨a.block,a.off,by rw[<-hs],hr⟩⟩
end
end Go.AI
namespace Go.Proofs.YtplomildbmcmfaaGreat
open Go Go.AI
open Rows (uptoBulk uptoBulkAll)
section
variable {H:Type} {enc:TypeId×Value->H} {W:World} {sp:Nat->Bool} {held:Bool}
theorem mV:Tryz.prog.cellsOf 26=5:=aC
theorem uY:Tryz.prog.cellsOf 122=2:=aC
theorem aDx:Tryz.prog.cellsOf 124=2:=aC
theorem bE5 {n:Int} (h:(Lit.int .i64 n).wf=true):-9223372036854775808<=n/\n<=9223372036854775807:=by
 simpa [Lit.wf,IntKind.min,IntKind.max,IntKind.signed,IntKind.bits] using h
theorem fD {n:Nat} {cs:List Value} {x:DataW H×List MemPlace} (h:DataW.trod enc Tryz.prog W 0 sp held n 3 cs=some x):∃i:Int,cs=[.int .i64 i]/\RepP (dD W) W (iP i) (.int .i64 i)/\-9223372036854775808<=i/\i<=9223372036854775807:=by
 obtain⟨i,rfl,_,hw⟩:=DataW.trod_int Tryz.underlying3 h;exact⟨i,rfl,by simp[RepP,isPrim],bE5 hw⟩
def GVar (v:Int×Int)(_:DataW H):Prop:=-9223372036854775808<=v.1
theorem aR5 {n:Nat} {cs:List Value} {x:DataW H×List MemPlace} (h:DataW.trod enc Tryz.prog W 0 sp held n 124 cs=some x):
  ∃v:Int×Int,RepL (dD W) W (([iP v.1,iP v.2]:List PV).map .p) cs/\GVar v x.1:=by
 obtain⟨xs,m,rfl,rfl,hl,hlen,hf⟩:=DataW.trod_struct Tryz.underlying124 h;rw[aDx] at hl;obtain⟨c0,c1,rfl⟩:∃a b,cs=[a,b]:=by match cs,hl with|[a,b],_=>exact⟨a,b,rfl⟩
 obtain⟨x0,x1,rfl⟩:∃a b,xs=[a,b]:=by match xs,hlen with|[a,b],_=>exact⟨a,b,rfl⟩
 have h0:=hf 0 _ rfl;have h1:=hf 1 _ rfl;simp only[bMu,bMs] at h0 h1;obtain⟨i,e0,r0,b0,_⟩:=fD h0;obtain⟨j,e1,r1,_,_⟩:=fD h1
 injection e0 with e0;injection e1 with e1;subst e0;subst e1
 refine⟨(i,j),?_,b0⟩;simp only[bMd,bNb,RepL,Rep];exact⟨_,_,rfl,r0,_,_,rfl,r1,rfl⟩
theorem GL_len {α β:Type} {G:α->β->Prop} :∀ {xs:List α} {ds:List β},GL G xs ds->xs.length=ds.length
 |[],[],_=>rfl
 |_::_,_::_,h=>by simp only[bM2,GL_len h.2]
 |[],_::_,h=>h.elim
 |_::_,[],h=>h.elim
theorem GL_mem {α β:Type} {G:α->β->Prop} :∀ {xs:List α} {ds:List β},GL G xs ds->∀x∈xs,∃d∈ds,G x d
 |[],[],_,x,hx=>by cases hx
 |a::l,b::r,h,x,hx=>by
  rcases bMh.1 hx with rfl|hx
  ·exact⟨b,List.mem_cons_self,h.1⟩
  ·obtain⟨d,hd,hg⟩:=GL_mem h.2 x hx;exact⟨d,bNr _ hd,hg⟩
 |[],_::_,h,_,_=>h.elim
 |_::_,[],h,_,_=>h.elim
theorem aTl (d:DataW H):1<=uptoBulk d:=by
 cases d with
 |lit l=>cases l<;>simp[uptoBulk]
 |nil=>simp[uptoBulk]
 |ptr d=>simp[uptoBulk]
 |slice elems spare=>simp[uptoBulk]
 |agg parts=>simp[uptoBulk]
 |iface t d=>simp[uptoBulk]
 |map entries=>simp[uptoBulk]
 |held h=>simp[uptoBulk]
theorem part_le {d:DataW H} {l:List (DataW H)} (h:d∈l):uptoBulk d<=uptoBulkAll l:=by
 induction l with
 |nil=>cases h
 |cons x r ih=>
  simp only[uptoBulkAll]
  cases bMh.1 h with
  |inl e=>subst e;omega
  |inr e=>have:=ih e;omega
theorem length_le (l:List (DataW H)):l.length<=uptoBulkAll l:=by
 induction l with
 |nil=>simp[uptoBulkAll]
 |cons x r ih=>have:=aTl x;simp only[uptoBulkAll,bM2];omega
def GLv (l:Lv)(d:DataW H):Prop:=l.vars.length<=uptoBulk d/\∀v∈l.vars,-9223372036854775808<=v.1
theorem aMo {n:Nat} {cs:List Value} {x:DataW H×List MemPlace} (h:DataW.trod enc Tryz.prog W 0 sp held n 122 cs=some x):
  ∃l:Lv,RepL (dD W) W (l.cells.map .p) cs/\GLv l x.1:=by
 obtain⟨xs,m,rfl,rfl,hl,hlen,hf⟩:=DataW.trod_struct Tryz.underlying122 h;rw[uY] at hl;obtain⟨c0,c1,rfl⟩:∃a b,cs=[a,b]:=by match cs,hl with|[a,b],_=>exact⟨a,b,rfl⟩
 obtain⟨x0,x1,rfl⟩:∃a b,xs=[a,b]:=by match xs,hlen with|[a,b],_=>exact⟨a,b,rfl⟩
 have h0:=hf 0 _ rfl;have h1:=hf 1 _ rfl;simp only[bMu,bMs] at h0 h1;obtain⟨i,e0,r0,b0,_⟩:=fD h0;obtain⟨vs,v,e1,r1,hG⟩:=bM (α:=Int×Int) Tryz.underlying120 aDx aD (fun v=>[iP v.1,iP v.2]) GVar (fun _=>rfl) (fun m _ cs y hy=>aR5 hy) h1
 injection e0 with e0;injection e1 with e1;subst e0;subst e1
 refine⟨⟨i,vs⟩,?_,?_⟩
 ·simp only[Lv.cells,bMd,bNb,RepL,Rep];exact⟨_,_,rfl,r0,_,_,rfl,r1,rfl⟩
 ·simp only[GLv,bMd,uptoBulk,uptoBulkAll];rcases hG with ⟨rfl,_⟩|⟨elems,rest,he,hG⟩
  ·simp
  ·rw[he];simp only[uptoBulk];have:=length_le elems;have:=GL_len hG;refine⟨by omega,fun v hv=>?_⟩;obtain⟨_,_,hg⟩:=GL_mem hG v hv;exact hg
def GTm (t:Tm)(d:DataW H):Prop:=uptoBulk d<=1048576->t.size<=uptoBulk d/\t.fit/\t.lvs
theorem aT6:∀ {ts:List Tm} {ds:List (DataW H)},GL GTm ts ds->uptoBulkAll ds<=1048576->Tm.sizes ts<=uptoBulkAll ds/\Tm.fits ts/\Tm.lvss ts
 |[],[],_,_=>by simp[Tm.sizes,Tm.fits,Tm.lvss]
 |t::ts,d::ds,h,hb=>by
  simp only[uptoBulkAll] at hb;have h1:=h.1 aB;have h2:=aT6 h.2 aB;simp only[Tm.sizes,Tm.fits,Tm.lvss,uptoBulkAll];exact⟨by omega,⟨h1.2.1,h2.2.1⟩,h1.2.2,h2.2.2⟩
 |[],_::_,h,_=>h.elim
 |_::_,[],h,_=>h.elim
theorem aMp (N:Nat):∀(n:Nat)(cs:List Value)(x:DataW H×List MemPlace),n<=N->DataW.trod enc Tryz.prog W 0 sp held n 26 cs=some x->
  ∃t:Tm,RepL (dD W) W (t.cells.map .p) cs/\GTm t x.1:=by
 induction N with
 | zero => intro n cs x hn h;obtain rfl:n=0:=aB
           simp[DataW.trod] at h
 |succ N ih=>
 intro n cs x hn h;obtain⟨xs,m,rfl,rfl,hl,hlen,hf⟩:=DataW.trod_struct Tryz.underlying26 h;rw[mV] at hl;obtain⟨c0,c1,c2,c3,c4,rfl⟩:∃a b c d e,cs=[a,b,c,d,e]:=by match cs,hl with|[a,b,c,d,e],_=>exact⟨a,b,c,d,e,rfl⟩
 obtain⟨x0,x1,x2,x3,x4,rfl⟩:∃a b c d e,xs=[a,b,c,d,e]:=by match xs,hlen with|[a,b,c,d,e],_=>exact⟨a,b,c,d,e,rfl⟩
 have h0:=hf 0 _ rfl;have h1:=hf 1 _ rfl;have h2:=hf 2 _ rfl;have h3:=hf 3 _ rfl;have h4:=hf 4 _ rfl;simp only[bMu,bMs] at h0 h1 h2 h3 h4;obtain⟨k,e0,r0,_,_⟩:=fD h0;obtain⟨i,e1,r1,b1,b1'⟩:=fD h1;obtain⟨s,e2,_,_⟩:=DataW.trod_string Tryz.underlying9 h2;obtain⟨ls,v3,e3,r3,hG3⟩:=bM (α:=Lv) Tryz.underlying23 uY aD Lv.cells GLv (fun _=>rfl) (fun m _ cs y hy=>aMo hy) h3;obtain⟨ks,v4,e4,r4,hG4⟩:=bM (α:=Tm) Tryz.underlying24 mV aD Tm.cells GTm (fun t=>by cases t;rfl) (fun m' hm cs y hy=>ih m' cs y aB hy) h4
 injection e0 with e0;injection e1 with e1;injection e2 with e2;injection e3 with e3;injection e4 with e4
 subst e0;subst e1;subst e2;subst e3;subst e4;refine⟨.mk k i s.data.toList ls ks,?_,?_⟩
 ·exact y55
 ·intro hb;simp only[bMd,bNb,uptoBulk,uptoBulkAll] at hb⊢
  have hk:Tm.sizes ks<=uptoBulk x4.1/\Tm.fits ks/\Tm.lvss ks:=by
   rcases hG4 with ⟨rfl,_⟩|⟨elems,rest,he,hG⟩
   ·simp[Tm.sizes,Tm.fits,Tm.lvss]
   ·rw[he] at hb⊢;simp only[uptoBulk] at hb⊢;have:=aT6 hG aB;exact⟨by omega,this.2⟩
  have hlv:ls.length<=1048576/\∀l∈ls,l.vars.length<=1048576/\∀v∈l.vars,-9223372036854775808<=v.1:=by
   exact y3v
  simp only[Tm.size,Tm.fit,Tm.lvs];exact⟨by omega,⟨hlv.1,hlv.2,b1,b1',hk.2.1⟩,hlv.1,fun l hl=>(hlv.2 l hl).1,hk.2.2⟩
end
open Go Go.AI
open Go.ChangeShapes Go.WideShapes Go.ChangeAt Go.RowKit
theorem kids:Kids Tryz.prog (·<Tryz.prog.types.size):=kids_rows aC aC
theorem full:∀t e,t<Tryz.prog.types.size->Tryz.prog.underlying t=some (.slice e)->0<Tryz.prog.cellsOf e:=slices_full_of Tryz.prog aC
section
variable {H:Type} {enc:TypeId×Value->H} {W W':World}
theorem aXd (h:∀b,b<W.heap.size->W'.heap[b]?=W.heap[b]?)(p:MemPlace)(hp:p.block<W.heap.size):W.sameAt W' p:=by
 cases p with
 |cell b off=>simp only[World.sameAt,World.cell?];rw[h b hp]
 |map b=>exact h b hp
theorem mL {sp:Nat->Bool} (hs:∀b,b<W.heap.size->W'.heap[b]?=W.heap[b]?):∀ {ts:List TypeId} {vs:List Value} {ds:List (DataW H)} {ps:List MemPlace},
  DataW.TrodAll enc Tryz.prog W 0 sp true ts vs ds ps->DataW.TrodAll enc Tryz.prog W' 0 sp true ts vs ds ps
 |[],[],[],_,h=>h
 |_::_,_::_,_::_,_,⟨p,q,⟨n,h1⟩,h2,e⟩=>⟨p,q,⟨n,DataW.trod_carry n _ _ _ h1 fun x hx=>aXd hs x (DataW.trod_lt n _ _ _ h1 x hx)⟩,mL hs h2,e⟩
theorem kept (kp:Kp W W')(hs:∀b,b<W.heap.size->W'.heap[b]?=W.heap[b]?)(may:MemPlace->Prop):W.keptBut W' may:=by
 refine⟨kp.1,kp.2,fun i hi=>?_⟩;rw[hs i hi]
 cases W.heap[i]? with
 |none=>trivial
 |some o=>cases o<;>first|exact⟨rfl,rfl,rfl,fun _ _=>rfl⟩|exact .inr ⟨rfl,rfl⟩|rfl
theorem aM7 {f:FuncId} {fn:Func} {s:ChangeSpec} {args:Array Value} {ds gs:List (DataW H)} {before:List MemPlace} {avs:List AV}
  (hvars:s.vars=[]) (hres:fn.resultTypes=#[4]) (hspec:s.fn H ds= {results:=[.lit (.bool true)],args:=ds})
  (hT:∀t∈fn.params.toList,t<Tryz.prog.types.size)
  (hW:DataW.Whole enc Tryz.prog fn.params.toList s.vars false W args.toList ds gs before)
  (hrep:RepL (dD W) W avs args.toList) (hc:ACalls Tryz.prog f avs [] fun o h'=>o= .ret (bA true)/\h'=[]):
  Calls Tryz.prog f args W fun e W'=>∃v,e= .returned v/\s.post enc Tryz.prog fn false true false false W args v W':=by
 have hW':=hW;obtain⟨p,q,hA,hV,rfl,hfz,hnd⟩:=hW;rw[hvars] at hV;obtain⟨rfl,rfl⟩:=trodVars_none hV;have hcall:=hc (dD W) W args.toList (aNf W) (aCm W 0) hrep;rw[show List.toArray args.toList=args from Array.toArray_toList] at hcall;refine hcall.mono fun e W1 ⟨out,h',E',⟨ho,hh⟩,hr,hf,hre,hfr⟩=>?_
 subst ho;simp only[RepO] at hre;obtain⟨v,rfl,hv⟩:=hre;simp only[Rep,RepP] at hv;obtain⟨rfl,_⟩:=hv;have hs:∀b,b<W.heap.size->W1.heap[b]?=W.heap[b]?:=fun b hb=>hfr.same b hb (bCs W b)
 have e2:s.fn H (ds++[])= {results:=[.lit (.bool true)],args:=ds} :=by rw[bM1];exact hspec
 refine⟨_,rfl,ds,[],p++[],[],p,[],hW',?_,?_,?_,kept hfr.kp hs _,fun h=>by cases h⟩
 ·rw[e2,hres];exact trodAll_cons_mk (shut_bool Tryz.underlying4 _) trodAll_mk0
 ·rw[e2];exact mL hs (DataW.TrodAll.respare kids full hT hA fun x hx=>by simpa using hW'.lt x (by simpa using hx))
 ·rw[e2,hvars]
  rfl
end
open Go Go.AI
open Rows (uptoBulk uptoBulkAll)
open Go.ChangeShapes Go.WideShapes Go.ChangeAt Go.RowKit
section
variable {H:Type} {enc:TypeId×Value->H} {W:World} {sp:Nat->Bool} {held:Bool}
theorem aDy:Tryz.prog.cellsOf 131=23:=aC
theorem aDz:Tryz.prog.cellsOf 134=6:=aC
theorem aUj:Tryz.prog.cellsOf 36=8:=aC
theorem aE0:Tryz.prog.cellsOf 285=15:=aC
theorem aJ5:Tryz.prog.cellsOf 91=10:=aC
theorem bAc {α:Type} {G:α->DataW H->Prop} {Q:α->Prop} (hq:∀x d,G x d->uptoBulk d<=1048576->Q x) {xs:List α} {ds:List (DataW H)} (h:GL G xs ds)(hb:uptoBulkAll ds<=1048576):xs.length<=1048576/\∀x∈xs,Q x:=by
 refine⟨by have:=GL_len h;have:=length_le ds;omega,fun x hx=>?_⟩;obtain⟨d,hd,hg⟩:=GL_mem h x hx;have:=part_le hd;exact hq x d hg aB
theorem gX {α:Type} {G:α->DataW H->Prop} {Q:α->Prop} (hq:∀x d,G x d->uptoBulk d<=1048576->Q x) {xs:List α} {x:DataW H} (h:(xs=[]/\x= .nil)\/∃elems rest,x= .slice elems rest/\GL G xs elems)(hb:uptoBulk x<=1048576):xs.length<=1048576/\∀x∈xs,Q x:=by
 rcases h with ⟨rfl,_⟩|⟨elems,rest,rfl,hG⟩
 ·simp
 ·simp only[uptoBulk] at hb;exact bAc hq hG aB
theorem yY {n:Nat} {cs:List Value} {x:DataW H×List MemPlace} (h:DataW.trod enc Tryz.prog W 0 sp held n 9 cs=some x):∃(s:List UInt8)(v:Value),cs=[v]/\RepP (dD W) W (sP s) v:=by
 obtain⟨s,rfl,_⟩:=DataW.trod_string Tryz.underlying9 h;exact⟨s.data.toList,_,rfl,by simp[RepP,isPrim]⟩
theorem bCv {n:Nat} {cs:List Value} {x:DataW H×List MemPlace} (h:DataW.trod enc Tryz.prog W 0 sp held n 4 cs=some x):∃b:Bool,cs=[.bool b]/\RepP (dD W) W (bP b) (.bool b):=by
 obtain⟨b,rfl,_⟩:=DataW.trod_bool Tryz.underlying4 h;exact⟨b,rfl,by simp[RepP,isPrim]⟩
theorem qW {n:Nat} {cs:List Value} {x:DataW H×List MemPlace} (h:DataW.trod enc Tryz.prog W 0 sp held n 26 cs=some x):∃t:Tm,RepL (dD W) W (t.cells.map .p) cs/\(uptoBulk x.1<=1048576->t.good):=by
 obtain⟨t,ht,hg⟩:=aMp n n cs x (bLx _) h;exact⟨t,ht,fun hb=>by have:=hg hb;exact⟨by omega,this.2⟩⟩
def GCt (c:Ct)(d:DataW H):Prop:=uptoBulk d<=1048576->c.ty.good
theorem aWw {n:Nat} {cs:List Value} {x:DataW H×List MemPlace} (h:DataW.trod enc Tryz.prog W 0 sp held n 134 cs=some x):∃c:Ct,RepL (dD W) W (c.cells.map .p) cs/\GCt c x.1:=by
 obtain⟨xs,m,rfl,rfl,hl,hlen,hf⟩:=DataW.trod_struct Tryz.underlying134 h;rw[aDz] at hl;obtain⟨c0,c1,c2,c3,c4,c5,rfl⟩:∃a b c d e f,cs=[a,b,c,d,e,f]:=by match cs,hl with|[a,b,c,d,e,f],_=>exact⟨a,b,c,d,e,f,rfl⟩
 obtain⟨x0,x1,rfl⟩:∃a b,xs=[a,b]:=by match xs,hlen with|[a,b],_=>exact⟨a,b,rfl⟩
 have h0:=hf 0 _ rfl;have h1:=hf 1 _ rfl;simp only[bMu,bMs] at h0 h1;obtain⟨s,v,e0,r0⟩:=yY h0;obtain⟨t,r1,g1⟩:=qW h1
 injection e0 with e0;subst e0
 refine⟨⟨s,t⟩,?_,fun hb=>?_⟩
 ·simp only[Ct.cells,bMd,RepL,Rep];exact⟨_,_,rfl,r0,r1⟩
 ·simp only[bMd,bNb,uptoBulk,uptoBulkAll] at hb;exact g1 aB
def GTr (t:Tr)(d:DataW H):Prop:=uptoBulk d<=1048576->t.good
def GBr (b:Br)(d:DataW H):Prop:=uptoBulk d<=1048576->b.good
theorem aEh:∀ {l:List Br},(∀b∈l,b.good)->Br.goods l
 |[],_=>trivial
 |b::l,h=>by
  simp only[Br.goods];exact⟨h b aA,aEh fun x hx=>h x (bNr _ hx)⟩
theorem aX0 (N:Nat):∀(n:Nat)(cs:List Value)(x:DataW H×List MemPlace),n<=N->DataW.trod enc Tryz.prog W 0 sp held n 36 cs=some x->
  ∃t:Tr,RepL (dD W) W (t.cells.map .p) cs/\GTr t x.1:=by
 induction N with
 | zero => intro n cs x hn h;obtain rfl:n=0:=aB
           simp[DataW.trod] at h
 |succ N ih=>
 intro n cs x hn h;obtain⟨xs,m,rfl,rfl,hl,hlen,hf⟩:=DataW.trod_struct Tryz.underlying36 h;rw[aUj] at hl;obtain⟨c0,c1,c2,c3,c4,c5,c6,c7,rfl⟩:∃a b c d e f g h,cs=[a,b,c,d,e,f,g,h]:=by match cs,hl with|[a,b,c,d,e,f,g,h],_=>exact⟨a,b,c,d,e,f,g,h,rfl⟩
 obtain⟨x0,x1,x2,x3,rfl⟩:∃a b c d,xs=[a,b,c,d]:=by match xs,hlen with|[a,b,c,d],_=>exact⟨a,b,c,d,rfl⟩
 have h0:=hf 0 _ rfl;have h1:=hf 1 _ rfl;have h2:=hf 2 _ rfl;have h3:=hf 3 _ rfl;simp only[bMu,bMs] at h0 h1 h2 h3;obtain⟨k,e0,r0,_,_⟩:=fD h0;obtain⟨b,r1,g1⟩:=qW h1;obtain⟨v,e2,r2,_,_⟩:=fD h2
 obtain⟨bs,w,e3,r3,hG3⟩:=bM (α:=Br) Tryz.underlying34 aJ5 aD Br.cells GBr xK (fun m' hm cs y hy=>by
  obtain⟨xs,m2,rfl,hy1,hl,hlen,hf⟩:=DataW.trod_struct Tryz.underlying91 hy;rw[aJ5] at hl;obtain⟨d0,d1,d2,d3,d4,d5,d6,d7,d8,d9,rfl⟩:∃a b c d e f g h i j,cs=[a,b,c,d,e,f,g,h,i,j]:=by match cs,hl with|[a,b,c,d,e,f,g,h,i,j],_=>exact⟨a,b,c,d,e,f,g,h,i,j,rfl⟩
  obtain⟨y0,y1,y2,rfl⟩:∃a b c,xs=[a,b,c]:=by match xs,hlen with|[a,b,c],_=>exact⟨a,b,c,rfl⟩
  have k0:=hf 0 _ rfl;have k1:=hf 1 _ rfl;have k2:=hf 2 _ rfl;simp only[bMu,bMs] at k0 k1 k2;obtain⟨s,v,f0,q0⟩:=yY k0;obtain⟨bo,f1,q1⟩:=bCv k1;obtain⟨t,q2,g2⟩:=ih m2 _ _ aB k2
  injection f0 with f0;injection f1 with f1;subst f0;subst f1
  refine⟨.mk s bo t,?_,fun hb=>?_⟩
  ·simp only[Br.cells,bMd,RepL,Rep];exact⟨_,_,rfl,q0,_,_,rfl,q1,q2⟩
  ·rw[hy1] at hb;simp only[bMd,bNb,uptoBulk,uptoBulkAll] at hb;simp only[Br.good];exact g2 aB) h3
 injection e0 with e0;injection e2 with e2;injection e3 with e3
 subst e0;subst e2;subst e3;refine⟨.mk k b v bs,?_,fun hb=>?_⟩
 ·simp only[Tr.cells,brPs_eq];show RepL (dD W) W (.p (iP k)::List.map AV.p (b.cells++[iP v, .sl 10 (bs.map Br.cells)])) (_::([c1,c2,c3,c4,c5]++[_,_]));rw[bMy];simp only[RepL,Rep];refine⟨_,_,rfl,r0,RepL.append r1 ?_⟩;simp only[bMd,bNb,RepL,Rep];exact⟨_,_,rfl,r2,_,_,rfl,r3,rfl⟩
 ·simp only[bMd,bNb,uptoBulk,uptoBulkAll] at hb;simp only[Tr.good];have h3:=gX (Q:=Br.good) (fun x d hg hb=>hg hb) hG3 aB;exact⟨g1 aB,h3.1,aEh h3.2⟩
def GFu (f:Fu)(d:DataW H):Prop:=uptoBulk d<=1048576->f.good
theorem aWy {n:Nat} {cs:List Value} {x:DataW H×List MemPlace} (h:DataW.trod enc Tryz.prog W 0 sp held n 285 cs=some x):∃f:Fu,RepL (dD W) W (f.cells.map .p) cs/\GFu f x.1:=by
 obtain⟨xs,m,rfl,rfl,hl,hlen,hf⟩:=DataW.trod_struct Tryz.underlying285 h;rw[aE0] at hl;obtain⟨c0,c1,c2,c3,c4,c5,c6,c7,c8,c9,c10,c11,c12,c13,c14,rfl⟩:∃a b c d e f g h i j k l m n o,cs=[a,b,c,d,e,f,g,h,i,j,k,l,m,n,o]:=by match cs,hl with|[a,b,c,d,e,f,g,h,i,j,k,l,m,n,o],_=>exact⟨a,b,c,d,e,f,g,h,i,j,k,l,m,n,o,rfl⟩
 obtain⟨x0,x1,x2,x3,rfl⟩:∃a b c d,xs=[a,b,c,d]:=by match xs,hlen with|[a,b,c,d],_=>exact⟨a,b,c,d,rfl⟩
 have h0:=hf 0 _ rfl;have h1:=hf 1 _ rfl;have h2:=hf 2 _ rfl;have h3:=hf 3 _ rfl;simp only[bMu,bMs] at h0 h1 h2 h3;obtain⟨s,v,e0,r0⟩:=yY h0;obtain⟨t,r1,g1⟩:=qW h1;obtain⟨a,e2,r2,_,_⟩:=fD h2;obtain⟨tr,r3,g3⟩:=aX0 m m _ _ (bLx _) h3
 injection e0 with e0;injection e2 with e2;subst e0;subst e2
 refine⟨⟨s,t,a,tr⟩,?_,fun hb=>?_⟩
 ·simp only[Fu.cells];show RepL (dD W) W (.p (sP s)::List.map AV.p (t.cells++(iP a::tr.cells))) (_::([c1,c2,c3,c4,c5]++(_::[c7,c8,c9,c10,c11,c12,c13,c14])));rw[bMy];simp only[RepL,Rep];refine⟨_,_,rfl,r0,RepL.append r1 ?_⟩;simp only[bMd,RepL,Rep];exact⟨_,_,rfl,r2,r3⟩
 ·simp only[bMd,bNb,uptoBulk,uptoBulkAll] at hb;exact⟨g1 aB,g3 aB⟩
def GDc (d:Dc)(x:DataW H):Prop:=uptoBulk x<=1048576->d.good
theorem aWx {n:Nat} {cs:List Value} {x:DataW H×List MemPlace} (h:DataW.trod enc Tryz.prog W 0 sp held n 131 cs=some x):∃d:Dc,RepL (dD W) W (d.cells.map .p) cs/\GDc d x.1:=by
 obtain⟨xs,m,rfl,rfl,hl,hlen,hf⟩:=DataW.trod_struct Tryz.underlying131 h;rw[aDy] at hl
 obtain⟨c0,c1,c2,c3,c4,c5,c6,c7,c8,c9,c10,c11,c12,c13,c14,c15,c16,c17,c18,c19,c20,c21,c22,rfl⟩:∃a b c d e f g h i j k l m n o p q r s t u v w,cs=[a,b,c,d,e,f,g,h,i,j,k,l,m,n,o,p,q,r,s,t,u,v,w]:=by
  match cs,hl with|[a,b,c,d,e,f,g,h,i,j,k,l,m,n,o,p,q,r,s,t,u,v,w],_=>exact⟨a,b,c,d,e,f,g,h,i,j,k,l,m,n,o,p,q,r,s,t,u,v,w,rfl⟩
 obtain⟨x0,x1,x2,x3,x4,x5,x6,x7,x8,rfl⟩:∃a b c d e f g h i,xs=[a,b,c,d,e,f,g,h,i]:=by match xs,hlen with|[a,b,c,d,e,f,g,h,i],_=>exact⟨a,b,c,d,e,f,g,h,i,rfl⟩
 have h0:=hf 0 _ rfl;have h1:=hf 1 _ rfl;have h2:=hf 2 _ rfl;have h3:=hf 3 _ rfl;have h4:=hf 4 _ rfl;have h5:=hf 5 _ rfl;have h6:=hf 6 _ rfl;have h7:=hf 7 _ rfl;have h8:=hf 8 _ rfl;simp only[bMu,bMs] at h0 h1 h2 h3 h4 h5 h6 h7 h8;obtain⟨k,e0,r0,_,_⟩:=fD h0;obtain⟨nm,w1,e1,r1⟩:=yY h1;obtain⟨ps,e2,r2,_,_⟩:=fD h2;obtain⟨ty,r3,g3⟩:=qW h3;obtain⟨va,r4,g4⟩:=qW h4;obtain⟨fx,e5,r5,_,_⟩:=fD h5;obtain⟨ct,w6,e6,r6,hG6⟩:=bM (α:=Ct) Tryz.underlying126 aDz aD Ct.cells GCt xV (fun m' _ cs y hy=>aWw hy) h6;obtain⟨fu,w8,e8,r8,hG8⟩:=bM (α:=Fu) Tryz.underlying129 aE0 aD Fu.cells GFu yH (fun m' _ cs y hy=>aWy hy) h8;obtain⟨zs,m7,hm7,hx7,hl7,hlen7,hf7⟩:=DataW.trod_struct Tryz.underlying128 h7;obtain⟨z0,z1,z2,rfl⟩:∃a b c,zs=[a,b,c]:=by match zs,hlen7 with|[a,b,c],_=>exact⟨a,b,c,rfl⟩
 have k0:=hf7 0 _ rfl;have k1:=hf7 1 _ rfl;have k2:=hf7 2 _ rfl;simp only[bMu,bMs] at k0 k1 k2;obtain⟨rp,f0,q0,_,_⟩:=fD k0;obtain⟨rt,q1,g1⟩:=qW k1;obtain⟨rr,w2,f2,q2,hG2⟩:=bM (α:=Tm) Tryz.underlying24 mV aD Tm.cells GTm (fun t=>by cases t;rfl) (fun m' _ cs y hy=>aMp m' m' cs y (bLx _) hy) k2
 injection e0 with e0;injection e1 with e1;injection e2 with e2;injection e5 with e5;injection e6 with e6;injection e8 with e8;injection f0 with f0;injection f2 with f2
 subst e0;subst e1;subst e2;subst e5;subst e6;subst e8;subst f0;subst f2;refine⟨⟨k,nm,ps,ty,va,fx,ct,rp,rt,rr,fu⟩,?_,fun hb=>?_⟩
 ·simp only[Dc.cells]
  show RepL (dD W) W (.p (iP k):: .p (sP nm):: .p (iP ps)::List.map AV.p (ty.cells++(va.cells++(iP fx:: .sl 6 (ct.map Ct.cells)::iP rp::(rt.cells++[.sl 5 (tmPs rr), .sl 15 (fu.map Fu.cells)])))))
   (_::_::_::([c3,c4,c5,c6,c7]++([c8,c9,c10,c11,c12]++(_::_::_::([c16,c17,c18,c19,c20]++[_,_])))))
  rw[bMy,bMy];simp only[RepL,Rep];refine⟨_,_,rfl,r0,_,_,rfl,r1,_,_,rfl,r2,RepL.append r3 (RepL.append r4 ?_)⟩;simp only[bMd,bMy,RepL,Rep];refine⟨_,_,rfl,r5,_,_,rfl,r6,_,_,rfl,q0,RepL.append q1 ?_⟩;simp only[bNb,RepL,Rep,tmPs_eq];exact⟨_,_,rfl,q2,_,_,rfl,r8,rfl⟩
 ·simp only[bMd,bNb,uptoBulk,uptoBulkAll] at hb;have hb7:uptoBulk x7.1=uptoBulk (DataW.agg (List.map (·.1) [z0,z1,z2])):=by rw[hx7]
  simp only[bMd,bNb,uptoBulk,uptoBulkAll] at hb7;have a6:=gX (Q:=fun c:Ct=>c.ty.good) (fun x d hg hb=>hg hb) hG6 aB;have a8:=gX (Q:=Fu.good) (fun x d hg hb=>hg hb) hG8 aB;have a2:=gX (Q:=Tm.good) (fun x d hg hb=>by have:=hg hb;exact⟨by omega,this.2⟩) hG2 aB;exact⟨g3 aB,g4 aB,g1 aB,a6.1,a6.2,a2.1,a2.2,a8.1,a8.2⟩
theorem aUc {v:Value} {d:DataW H} {p:List MemPlace} {base:Nat}
  (hv:Value.okWide Tryz.prog W .any base 22 v) (h:DataW.Trod enc Tryz.prog W 0 (fun _=>true) true 22 v d p):∃env:List Dc,Rep (dD W) W (eU env) v/\(uptoBulk d<=1048576->Env.good env):=by
 obtain⟨a,len,cap,rfl⟩:=okWide_slice Tryz.underlying22 hv;obtain⟨n,hn⟩:=h;obtain⟨xs,v',e,r,hG⟩:=bM (α:=Dc) Tryz.underlying22 aDy aD Dc.cells GDc bB (fun m' _ cs y hy=>aWx hy) hn;simp[Value.cells] at e;subst e;exact⟨xs,by simp only[Rep];exact r,fun hb=>gX (Q:=Dc.good) (fun x d hg hb=>hg hb) hG hb⟩
end
open Go Go.AI
open Rows (uptoBulk uptoBulkAll)
open Go.ChangeShapes Go.WideShapes Go.ChangeAt Go.RowKit
section
variable {H:Type} {enc:TypeId×Value->H} {W:World} {sp:Nat->Bool} {held:Bool}
theorem aJ4:Tryz.prog.cellsOf 54=6:=aC
theorem aB3:Tryz.prog.cellsOf 86=3:=aC
def GPt (p:Pt)(d:DataW H):Prop:=uptoBulk d<=1048576->p.size<=uptoBulk d
theorem aIt:∀ {ts:List Pt} {ds:List (DataW H)},GL GPt ts ds->uptoBulkAll ds<=1048576->Pt.sizes ts<=uptoBulkAll ds
 |[],[],_,_=>by simp[Pt.sizes]
 |t::ts,d::ds,h,hb=>by
  simp only[uptoBulkAll] at hb;have h1:=h.1 aB;have h2:=aIt h.2 aB;simp only[Pt.sizes,uptoBulkAll];omega
 |[],_::_,h,_=>h.elim
 |_::_,[],h,_=>h.elim
theorem aEz (l:List Pt):ptPs l=l.map Pt.cells:=by
 induction l with
 |nil=>rfl
 |cons p l ih=>simp only[ptPs,ih,bMd]
theorem aWz (N:Nat):∀(n:Nat)(cs:List Value)(x:DataW H×List MemPlace),n<=N->DataW.trod enc Tryz.prog W 0 sp held n 86 cs=some x->
  ∃p:Pt,RepL (dD W) W (p.cells.map .p) cs/\GPt p x.1:=by
 induction N with
 | zero => intro n cs x hn h;obtain rfl:n=0:=aB
           simp[DataW.trod] at h
 |succ N ih=>
 intro n cs x hn h;obtain⟨xs,m,rfl,rfl,hl,hlen,hf⟩:=DataW.trod_struct Tryz.underlying86 h;rw[aB3] at hl;obtain⟨c0,c1,c2,rfl⟩:∃a b c,cs=[a,b,c]:=by match cs,hl with|[a,b,c],_=>exact⟨a,b,c,rfl⟩
 obtain⟨x0,x1,x2,rfl⟩:∃a b c,xs=[a,b,c]:=by match xs,hlen with|[a,b,c],_=>exact⟨a,b,c,rfl⟩
 have h0:=hf 0 _ rfl;have h1:=hf 1 _ rfl;have h2:=hf 2 _ rfl;simp only[bMu,bMs] at h0 h1 h2;obtain⟨k,e0,r0,_,_⟩:=fD h0;obtain⟨s,v,e1,r1⟩:=yY h1;obtain⟨ps,w,e2,r2,hG2⟩:=bM (α:=Pt) Tryz.underlying38 aB3 aD Pt.cells GPt (fun p=>by cases p;rfl) (fun m' hm cs y hy=>ih m' cs y aB hy) h2
 injection e0 with e0;injection e1 with e1;injection e2 with e2
 subst e0;subst e1;subst e2;refine⟨.mk k s ps,?_,fun hb=>?_⟩
 ·simp only[pcells_mk,aEz,bMd,bNb,RepL,Rep];exact⟨_,_,rfl,r0,_,_,rfl,r1,_,_,rfl,r2,rfl⟩
 ·simp only[bMd,bNb,uptoBulk,uptoBulkAll] at hb⊢;simp only[Pt.size];rcases hG2 with ⟨rfl,_⟩|⟨elems,rest,he,hG⟩
  ·simp[Pt.sizes]
  ·rw[he] at hb⊢;simp only[uptoBulk] at hb⊢;have:=aIt hG aB;omega
end
open Go Go.AI
open Rows (uptoBulk uptoBulkAll)
open Go.ChangeShapes Go.WideShapes Go.ChangeAt Go.RowKit
section
variable {H:Type} {enc:TypeId×Value->H} {W:World} {sp:Nat->Bool} {held:Bool}
def GTn (t:Tm)(d:DataW H):Prop:=uptoBulk d<=1048576->t.size<=uptoBulk d/\t.fit/\t.lvs/\t.nm
theorem aT5:∀ {ts:List Tm} {ds:List (DataW H)},GL GTn ts ds->uptoBulkAll ds<=1048576->Tm.sizes ts<=uptoBulkAll ds/\Tm.fits ts/\Tm.lvss ts/\Tm.nms ts
 |[],[],_,_=>by simp[Tm.sizes,Tm.fits,Tm.lvss,Tm.nms]
 |t::ts,d::ds,h,hb=>by
  simp only[uptoBulkAll] at hb;have h1:=h.1 aB;have h2:=aT5 h.2 aB;simp only[Tm.sizes,Tm.fits,Tm.lvss,Tm.nms,uptoBulkAll];exact⟨by omega,⟨h1.2.1,h2.2.1⟩,⟨h1.2.2.1,h2.2.2.1⟩,h1.2.2.2,h2.2.2.2⟩
 |[],_::_,h,_=>h.elim
 |_::_,[],h,_=>h.elim
theorem aR4 (N:Nat):∀(n:Nat)(cs:List Value)(x:DataW H×List MemPlace),n<=N->DataW.trod enc Tryz.prog W 0 sp held n 26 cs=some x->
  ∃t:Tm,RepL (dD W) W (t.cells.map .p) cs/\GTn t x.1:=by
 induction N with
 | zero => intro n cs x hn h;obtain rfl:n=0:=aB
           simp[DataW.trod] at h
 |succ N ih=>
 intro n cs x hn h;obtain⟨xs,m,rfl,rfl,hl,hlen,hf⟩:=DataW.trod_struct Tryz.underlying26 h;rw[mV] at hl;obtain⟨c0,c1,c2,c3,c4,rfl⟩:∃a b c d e,cs=[a,b,c,d,e]:=by match cs,hl with|[a,b,c,d,e],_=>exact⟨a,b,c,d,e,rfl⟩
 obtain⟨x0,x1,x2,x3,x4,rfl⟩:∃a b c d e,xs=[a,b,c,d,e]:=by match xs,hlen with|[a,b,c,d,e],_=>exact⟨a,b,c,d,e,rfl⟩
 have h0:=hf 0 _ rfl;have h1:=hf 1 _ rfl;have h2:=hf 2 _ rfl;have h3:=hf 3 _ rfl;have h4:=hf 4 _ rfl;simp only[bMu,bMs] at h0 h1 h2 h3 h4;obtain⟨k,e0,r0,_,_⟩:=fD h0;obtain⟨i,e1,r1,b1,b1'⟩:=fD h1;obtain⟨s,e2,es,_⟩:=DataW.trod_string Tryz.underlying9 h2;obtain⟨ls,v3,e3,r3,hG3⟩:=bM (α:=Lv) Tryz.underlying23 uY aD Lv.cells GLv (fun _=>rfl) (fun m _ cs y hy=>aMo hy) h3;obtain⟨ks,v4,e4,r4,hG4⟩:=bM (α:=Tm) Tryz.underlying24 mV aD Tm.cells GTn (fun t=>by cases t;rfl) (fun m' hm cs y hy=>ih m' cs y aB hy) h4
 injection e0 with e0;injection e1 with e1;injection e2 with e2;injection e3 with e3;injection e4 with e4
 subst e0;subst e1;subst e2;subst e3;subst e4;refine⟨.mk k i s.data.toList ls ks,?_,?_⟩
 ·exact y55
 ·intro hb;simp only[bMd,bNb,uptoBulk,uptoBulkAll] at hb⊢
  have hk:Tm.sizes ks<=uptoBulk x4.1/\Tm.fits ks/\Tm.lvss ks/\Tm.nms ks:=by
   rcases hG4 with ⟨rfl,_⟩|⟨elems,rest,he,hG⟩
   ·simp[Tm.sizes,Tm.fits,Tm.lvss,Tm.nms]
   ·rw[he] at hb⊢;simp only[uptoBulk] at hb⊢;have:=aT5 hG aB;exact⟨by omega,this.2⟩
  have hlv:ls.length<=1048576/\∀l∈ls,l.vars.length<=1048576/\∀v∈l.vars,-9223372036854775808<=v.1:=by
   exact y3v
  have hsl:s.data.toList.length<=1048576:=by
   rw[es] at hb;simp only[uptoBulk] at hb;omega
  simp only[Tm.size,Tm.fit,Tm.lvs,Tm.nm];exact⟨by omega,⟨hlv.1,hlv.2,b1,b1',hk.2.1⟩,⟨hlv.1,fun l hl=>(hlv.2 l hl).1,hk.2.2.1⟩,by omega,hk.2.2.2⟩
def GCm (c:Cl)(d:DataW H):Prop:=uptoBulk d<=1048576->Pt.sizes c.ps<=1048576/\c.b.good/\c.b.nm
theorem aR3 {n:Nat} {cs:List Value} {x:DataW H×List MemPlace} (h:DataW.trod enc Tryz.prog W 0 sp held n 54 cs=some x):∃c:Cl,RepL (dD W) W (c.cells.map .p) cs/\GCm c x.1:=by
 obtain⟨xs,m,rfl,rfl,hl,hlen,hf⟩:=DataW.trod_struct Tryz.underlying54 h;rw[aJ4] at hl;obtain⟨c0,c1,c2,c3,c4,c5,rfl⟩:∃a b c d e f,cs=[a,b,c,d,e,f]:=by match cs,hl with|[a,b,c,d,e,f],_=>exact⟨a,b,c,d,e,f,rfl⟩
 obtain⟨x0,x1,rfl⟩:∃a b,xs=[a,b]:=by match xs,hlen with|[a,b],_=>exact⟨a,b,rfl⟩
 have h0:=hf 0 _ rfl;have h1:=hf 1 _ rfl;simp only[bMu,bMs] at h0 h1;obtain⟨ps,w,e0,r0,hG0⟩:=bM (α:=Pt) Tryz.underlying38 aB3 aD Pt.cells GPt (fun p=>by cases p;rfl) (fun m' _ cs y hy=>aWz m' m' cs y (bLx _) hy) h0;obtain⟨t,r1,g1⟩:=aR4 _ _ _ _ (bLx _) h1
 injection e0 with e0;subst e0
 refine⟨⟨ps,t⟩,?_,fun hb=>?_⟩
 ·simp only[Cl.cells,aEz,bMd,RepL,Rep];exact⟨_,_,rfl,r0,r1⟩
 ·simp only[bMd,bNb,uptoBulk,uptoBulkAll] at hb;have g:=g1 aB;have gs:=g.1;refine⟨?_,⟨by show t.size<=1048576;omega,g.2.1,g.2.2.1⟩,g.2.2.2⟩;rcases hG0 with ⟨rfl,_⟩|⟨elems,rest,he,hG⟩
  ·simp[Pt.sizes]
  ·rw[he] at hb;simp only[uptoBulk] at hb;have:=aIt hG aB;show Pt.sizes ps<=1048576;omega
end
theorem aPc {H:Type} {enc:TypeId×Value->H} {W:World} {v:Value} {d:DataW H} {p:List MemPlace} {base:Nat}
  (hv:Value.okWide Tryz.prog W .any base 29 v) (h:DataW.Trod enc Tryz.prog W 0 (fun _=>true) true 29 v d p):∃cls:List Cl,Rep (dD W) W (.p (.sl 6 (clPs cls))) v/\(uptoBulk d<=1048576->cls.length+1<=uptoBulk d/\∀c∈cls,Pt.sizes c.ps<=1048576/\c.b.good/\c.b.nm):=by
 obtain⟨a,len,cap,rfl⟩:=okWide_slice Tryz.underlying29 hv;obtain⟨n,hn⟩:=h;obtain⟨xs,v',e,r,hG⟩:=bM (α:=Cl) Tryz.underlying29 aJ4 aD Cl.cells GCm (fun c=>by obtain⟨_,⟨_,_,_,_,_⟩⟩:=c;rfl) (fun m' _ cs y hy=>aR3 hy) hn;simp[Value.cells] at e;subst e;refine⟨xs,by simp only[Rep];exact r,fun hb=>⟨?_,(gX (Q:=fun c:Cl=>Pt.sizes c.ps<=1048576/\c.b.good/\c.b.nm) (fun x d hg hb=>hg hb) hG hb).2⟩⟩;simp only at hG;rcases hG with ⟨rfl,hd⟩|⟨elems,rest,he,hG⟩
 ·exact aTl d
 ·subst he;have h1:=length_le elems;have h2:=GL_len hG;simp only[uptoBulk];omega
theorem aUi:Tryz.prog.cellsOf 28=6:=aC
theorem aPb {H:Type} {enc:TypeId×Value->H} {W:World} {v:Value} {d:DataW H} {p:List MemPlace} {base:Nat}
  (hv:Value.okWide Tryz.prog W .any base 28 v) (h:DataW.Trod enc Tryz.prog W 0 (fun _=>true) true 28 v d p):∃(t:Tm) (n:Int),Rep (dD W) W (.agg (t.cells.map .p++[iA n])) v/\(-9223372036854775808<=n/\n<=9223372036854775807)/\(uptoBulk d<=1048576->t.good):=by
 obtain⟨cs,rfl,hcs⟩:=okWide_struct Tryz.underlying28 hv;obtain⟨n,hn⟩:=h;obtain⟨xs,m,rfl,e1,hl,hlen,hf⟩:=DataW.trod_struct Tryz.underlying28 hn;rw[aUi] at hl;simp only[Value.cells] at hl hf;obtain⟨c0,c1,c2,c3,c4,c5,hcl⟩:∃a b c d e f,cs.toList=[a,b,c,d,e,f]:=by match cs.toList,hl with|[a,b,c,d,e,f],_=>exact⟨a,b,c,d,e,f,rfl⟩
 obtain⟨x0,x1,rfl⟩:∃a b,xs=[a,b]:=by match xs,hlen with|[a,b],_=>exact⟨a,b,rfl⟩
 rw[hcl] at hf;have h0:=hf 0 _ rfl;have h1:=hf 1 _ rfl;simp only[bMu,bMs] at h0 h1;obtain⟨t,r0,g0⟩:=qW h0;obtain⟨i,q1,r1,b1,b2⟩:=fD h1
 injection q1 with q1;subst q1
 refine⟨t,i,?_,⟨b1,b2⟩,fun hb=>?_⟩
 ·simp only[Rep];refine⟨cs.toList,by simp,?_⟩;rw[hcl];have:=RepL.append (ys:=[iA i]) r0 (by simp only[RepL,Rep];exact⟨_,_,rfl,r1,rfl⟩);simpa [mV] using this
 ·obtain⟨e1,_⟩:=Prod.mk.inj e1;rw[e1] at hb;simp only[bMd,bNb,uptoBulk,uptoBulkAll] at hb;exact g0 aB
end Go.Proofs.YtplomildbmcmfaaGreat
