import Derived.Test.YtplomildbmcmfaaGreatZA0
import Derived.Laws.Strings
import Derived.Test.YtplomildbmcmfaaGreatZD
set_option maxRecDepth 8000
set_option maxHeartbeats 4000000
namespace Go.Proofs.YtplomildbmcmfaaGreat
open Go Go.AI
def sameVar (a b:Int×Int):Bool:=a.1==b.1&& a.2==b.2
abbrev varsAt (xs ys:List (Int×Int))(j:Nat):Bool:=match xs[j]?,ys[j]? with|some u,some v=>sameVar u v|_,_=>true
def gB (a b:Lv):Bool:=
 !(a.c !=b.c||(a.vars.length:Int) !=b.vars.length)&& bH (varsAt a.vars b.vars) a.vars.length
theorem aHz (h:Heap)(hh:WF h)(a b:Lv)(hb:a.vars.length<=1048576):ACalls Tryz.prog 105 [a.av,b.av] h fun o h'=>o= .ret (bA (gB a b))/\h'=h:=by
 obtain⟨c,vs⟩:=a;obtain⟨c',vs'⟩:=b;simp only at hb;simp only[Lv.av,Lv.cells,List.map];refine zER Tryz.func105 Tryz.ntmps105 ?_;refine Run.regJ [2,3] 19 (c !=c'||(vs.length:Int) !=vs'.length) (fun K J=>?_) ?_
 ·simp;exact y1x
 refine y6 ?_;simp;refine Run.condB rfl (fun h0=>?_) (fun h0=>?_)
 ·refine zA ?_;refine zF2 hh ?_;exact⟨by simp only[gB,h0];simp,rfl⟩
 ·have hl:vs.length=vs'.length:=by simp at h0;omega
  refine znr ?_;refine Run.loopS [2,3] (fun j:Nat=>j<=vs.length/\bH (varsAt vs vs') j=true) (fun j=>vs.length-j) (fun j=>[(5,iA j)]) (fun _=>_) 0 (by simp[bH]) ?_ rfl ?_
  ·exact zS
  ·rintro j ⟨hj,hall⟩ IH;refine cK ?_
   by_cases hjl:j<vs.length
   ·have hg:vs[j]?=some vs[j]:=bLv hjl;have hg':vs'[j]?=some vs'[j]:=bLv aB;obtain⟨⟨x,y⟩,hxy⟩:∃p,vs[j]=p:=⟨_,rfl⟩;obtain⟨⟨x',y'⟩,hxy'⟩:∃p,vs'[j]'aB=p:=⟨_,rfl⟩;rw[hxy] at hg;rw[hxy'] at hg';refine znt1 hjl ?_;refine Run.draw [0,0,0,0,0,0,0,0,0,0,0] [0,0,0,0,0,0,0,0,0,0,0] [0,1,0,7,15,0,32,0,224,480,1023] [0,1,2,3,4,5,6,7,8,9,10] aC aC ?_;refine zd2 hg hg' ?_;refine y8 ?_;refine nv ?_;refine Run.condB rfl (fun h1=>?_) (fun h1=>?_)
    ·refine zA ?_;have h2:sameVar (x,y) (x',y')=false:=by simp only[sameVar];simp at h1⊢;omega
     have:=aT (p:=varsAt vs vs') hjl (by simp only[varsAt,hg,hg',h2]);refine zF2 hh ?_;exact⟨by simp only[gB,this];simp,rfl⟩
    ·exact y4q
   ·have hje:j=vs.length:=aB;subst hje;refine znfen ?_;refine zA ?_;refine zF2 hh ?_;exact⟨by simp only[gB,h0,hall];simp,rfl⟩
abbrev sR (xs ys:List Lv)(j:Nat):Bool:=match xs[j]?,ys[j]? with|some u,some v=>gB u v|_,_=>true
def sameLvs (xs ys:List Lv):Bool:=
 !((xs.length:Int) !=ys.length)&& bH (sR xs ys) xs.length
@[simp] theorem bGd (t:Lv):List.take 2 (List.map AV.p t.cells)=List.map AV.p t.cells:=aCy t
theorem aCq (h:Heap)(hh:WF h)(xs ys:List Lv)(hb:xs.length<=1048576)(hbv:∀l∈xs,l.vars.length<=1048576):ACalls Tryz.prog 55 [.p (.sl 2 (lvPs xs)), .p (.sl 2 (lvPs ys))] h fun o h'=>o= .ret (bA (sameLvs xs ys))/\h'=h:=by
 refine dE Tryz.func55 Tryz.ntmps55 ?_
 by_cases hl:xs.length=ys.length
 ·have h0:((xs.length:Int) !=ys.length)=false:=by simp[hl]
  refine znf1r hl ?_;refine Run.loopS [0,1] (fun j:Nat=>j<=xs.length/\bH (sR xs ys) j=true) (fun j=>xs.length-j) (fun j=>[(5,iA j)]) (fun _=>_) 0 (by simp[bH]) ?_ rfl ?_
  ·exact zS
  ·rintro j ⟨hj,hall⟩ IH;refine cK ?_
   by_cases hjl:j<xs.length
   ·have hg:xs[j]?=some xs[j]:=bLv hjl;have hg':ys[j]?=some ys[j]:=bLv aB;have hv:=hbv _ (bLy hjl);generalize xs[j]=u at hg hv;generalize ys[j]'aB=v at hg';refine znt1 hjl ?_;refine y18 ?_;refine zd2 hg hg' ?_;refine DR.call (args:=[u.av,v.av]) rfl rfl rfl aA rfl (aHz h hh u v hv) ?_;refine zd ?_;refine y8 ?_;refine nv ?_;refine Run.condB rfl (fun h1=>?_) (fun h1=>?_)
    ·refine zA ?_;have h2:gB u v=false:=by simpa using h1
     have:=aT (p:=sR xs ys) hjl (by simp only[sR,hg,hg',h2]);refine zF3 hh ?_;exact⟨by simp only[sameLvs,this];simp,rfl⟩
    ·refine znr ?_;have h2:gB u v=true:=by simpa using h1
     refine IH (j+1) _ _ ⟨by omega,by rw[allTo_succ,hall];simp only[sR,hg,hg',h2];rfl⟩ aB ?_ rfl;exact zS
   ·exact y4r
 ·exact y3y
def eM (a b:Tm):Bool:=
 !(a.kind !=b.kind||a.index !=b.index||!(a.name==b.name)||!sameLvs a.levels b.levels||(a.kids.length:Int) !=b.kids.length)
mutual
def sameT:Tm->Tm->Bool
 | .mk k i n ls ks, .mk k' i' n' ls' ks'=>eM (.mk k i n ls ks) (.mk k' i' n' ls' ks')&& iW ks ks'
def iW:List Tm->List Tm->Bool
 |a::xs,b::ys=>sameT a b&& iW xs ys
 |_,_=>true
end
abbrev tmsAt (xs ys:List Tm)(j:Nat):Bool:=match xs[j]?,ys[j]? with|some u,some v=>sameT u v|_,_=>true
theorem rC:∀(xs ys:List Tm),iW xs ys=bH (tmsAt xs ys) xs.length
 |[],ys=>by simp[iW,bH]
 |x::xs,[]=>by simp only[iW];symm;rw[dJ];intro j _;simp[tmsAt]
 |x::xs,y::ys=>by
  simp only[iW,rC xs ys];rw[bMt,bM8,dJ,dJ];constructor
  ·rintro⟨h1,h2⟩ j hj
   cases j with
   |zero=>simpa [tmsAt] using h1
   |succ j=>simpa [tmsAt] using h2 j (by simpa using hj)
  ·intro h;exact⟨by simpa [tmsAt] using h 0 aA,fun j hj=>by simpa [tmsAt] using h (j+1) (by simpa using hj)⟩
mutual
def Tm.lvs:Tm->Prop
 | .mk _ _ _ ls ks=>ls.length<=1048576/\(∀l∈ls,l.vars.length<=1048576)/\Tm.lvss ks
def Tm.lvss:List Tm->Prop
 |[]=>True
 |t::ts=>t.lvs/\Tm.lvss ts
end
theorem Tm.lvss_at {l:List Tm} (h:Tm.lvss l):∀t∈l,t.lvs:=by
 induction l with
 |nil=>intro t ht;cases ht
 |cons x l ih=>
  simp only[Tm.lvss] at h;intro t ht
  cases bMh.1 ht with
  |inl e=>subst e;exact h.1
  |inr e=>exact ih h.2 t e
theorem kH (N:Nat):∀(a b:Tm)(h:Heap),a.size<=N->a.size<=1099511627776->a.lvs->WF h->ACalls Tryz.prog 23 [a.av,b.av] h fun o h'=>o= .ret (bA (sameT a b))/\h'=h:=by
 induction N with
 |zero=>intro t _ h hN;cases t;simp[Tm.size] at hN
 |succ N ih=>
 intro a b h hN hsz hlv hh;obtain⟨k,i,n,ls,ks⟩:=a;obtain⟨k',i',n',ls',ks'⟩:=b;simp only[Tm.size] at hN hsz;have hll:=aR ks;simp only[Tm.lvs] at hlv;have hlvs:=aCq (h++[some (.cells [iA k,iA i, .p (sP n), .p (.sl 2 (lvPs ls)), .p (.sl 5 (tmPs ks))]),some (.cells [iA k',iA i', .p (sP n'), .p (.sl 2 (lvPs ls')), .p (.sl 5 (tmPs ks'))])]) (hh.app aA) ls ls' hlv.1 hlv.2.1;refine ACalls.of_run Tryz.func23 rfl ?_;simp only[Tryz.ntmps23,bM2,bM3,Tm.av,cells_mk,List.map];refine znr ?_
 have hcase:(k !=k')=true\/((k !=k')=false/\(i !=i')=true)\/((k !=k')=false/\(i !=i')=false/\(n==n')=false)\/((k !=k')=false/\(i !=i')=false/\(n==n')=true):=by
  cases k !=k'<;>cases i !=i'<;>cases (n==n')<;>simp
 have no:eM (.mk k i n ls ks) (.mk k' i' n' ls' ks')=false->sameT (.mk k i n ls ks) (.mk k' i' n' ls' ks')=false:=fun e=>by simp only[sameT,e];rfl
 rcases hcase with c1|⟨c1,c2⟩|⟨c1,c2,c3⟩|⟨c1,c2,c3⟩
 ·have:=no (by simp only[eM,Tm.kind,c1];rfl);refine sD c1 ?_;exact y3w
 ·have:=no (by simp only[eM,Tm.kind,Tm.index,c1,c2];rfl);refine zn ?_;refine zr2 c1 c2 ?_;exact y3w
 ·have:=no (by simp only[eM,Tm.kind,Tm.index,Tm.name,c1,c2,c3];rfl);refine zn ?_;refine zr3 c1 c2 c3 ?_;exact y3w
 ·have hd0:eM (.mk k i n ls ks) (.mk k' i' n' ls' ks')=!(!sameLvs ls ls'||(ks.length:Int) !=ks'.length):=by
   simp only[eM,Tm.kind,Tm.index,Tm.name,Tm.levels,Tm.kids,c1,c2,c3,bO6,bOo]
  refine zn ?_;refine zr3 c1 c2 c3 ?_;refine Run.call rfl aA aA rfl hlvs ?_ ?_
  ·rintro v h' ⟨hv,rfl⟩;simp only[AOut.ret.injEq] at hv;subst hv;refine Run.opsJ [2,3] 41 (!sameLvs ls ls'||(ks.length:Int) !=ks'.length) (fun K J=>?_) ?_
   ·simp;exact y1x
   simp only[setMany,keepT];simp;refine Run.condB rfl (fun h0=>?_) (fun h0=>?_)
   ·have:=no (by rw[hd0,h0];rfl);exact y3w
   ·have hl:ks.length=ks'.length:=by simp at h0;omega
    have hst:sameT (.mk k i n ls ks) (.mk k' i' n' ls' ks')=iW ks ks':=by simp only[sameT,hd0,h0];rfl
    rw[rC] at hst;refine znr ?_;refine Run.loopS [2,3] (fun j:Nat=>j<=ks.length/\bH (tmsAt ks ks') j=true) (fun j=>ks.length-j) (fun j=>[(5,iA j)]) (fun _=>_) 0 (by simp[bH]) ?_ rfl ?_
    ·exact zS
    ·rintro j ⟨hj,hall⟩ IH;refine cK ?_
     by_cases hjl:j<ks.length
     ·have hg:ks[j]?=some ks[j]:=bLv hjl;have hg':ks'[j]?=some ks'[j]:=bLv aB;have hs:=dO hjl;have hlj:=Tm.lvss_at hlv.2.2 _ (bLy hjl);generalize ks[j]=u at hg hs hlj;generalize ks'[j]'aB=v at hg';refine znt1 hjl ?_;refine Run.draw [0,0,0,0,0,0,0,0,0,0,0,1] [0,0,0,0,0,0,0,0,0,0,0,0] [0,1,0,7,15,0,32,0,224,480,1023,2047] [0,1,2,3,4,5,6,7,8,9,10,11] aC aC ?_;refine zd2 hg hg' ?_;refine DR.call (args:=[u.av,v.av]) rfl rfl rfl aA rfl (ih u v _ aB aB hlj (hh.app aA)) ?_;refine zd ?_;refine y8 ?_;refine nv ?_;refine Run.condB rfl (fun h1=>?_) (fun h1=>?_)
      ·refine zA ?_;have h2:sameT u v=false:=by simpa using h1
       have:=aT (p:=tmsAt ks ks') hjl (by simp only[tmsAt,hg,hg',h2]);refine zF2 hh ?_;exact⟨by rw[hst,this];rfl,rfl⟩
      ·exact y52
     ·have hje:j=ks.length:=aB;subst hje;refine znfen ?_;refine zA ?_;refine zF2 hh ?_;exact⟨by rw[hst,hall];rfl,rfl⟩
  ·rintro v h' ⟨hv,_⟩;cases hv
open Go Go.AI
theorem uJ (N:Nat):∀(t:Tm)(h:Heap),t.size<=N->t.size<=1099511627776->WF h->ACalls Tryz.prog 234 [t.av] h fun o h'=>o= .ret (iA t.depth)/\h'=h:=by
 induction N with
 |zero=>intro t h hN;cases t;simp[Tm.size] at hN
 |succ N ih=>
 intro t h hN hsz hh;obtain⟨k,i,n,ls,ks⟩:=t;simp only[Tm.size] at hN hsz;have hll:=aR ks;refine ACalls.of_run Tryz.func234 rfl ?_;simp only[Tryz.ntmps234,bM2,bM3,Tm.av,cells_mk,List.map];refine sE ?_;refine Run.loopS [7,8] (fun j:Nat=>j<=ks.length) (fun j=>ks.length-j) (fun j=>[(3,iA (Tm.depths (ks.take j):Nat)),(9,iA j)]) (fun _=>_) 0 aA ?_ rfl ?_
 ·simp[Tm.depths];exact zK
 ·intro j hj IH;refine cK ?_
  by_cases hjl:j<ks.length
  ·have hg:ks[j]?=some ks[j]:=bLv hjl;have hs:=dO hjl;have htk:ks.take (j+1)=ks.take j++[ks[j]]:=bM6 hjl;have hd1:=iC ks[j];have hd2:=kN ks j;refine aDi hjl hg ?_;refine Run.call (args:=[ks[j].av]) rfl rfl aA rfl (ih ks[j] _ aB aB (hh.app aA)) ?_ ?_
   ·rintro v h' ⟨hv,rfl⟩;simp only[AOut.ret.injEq] at hv;subst hv;refine zor ?_;refine Run.keep [3,7,8,9] ?_;simp;refine yq ?_;refine IH (j+1) _ _ aB aB ?_ aA;exact y54
   ·rintro v h' ⟨hv,_⟩;cases hv
  ·exact y4k
@[simp] theorem patch2 (a b:AV) (t:Lv):patch [a,b] 0 (t.cells.map AV.p)=t.cells.map AV.p:=by cases t;rfl
def tG (xs ys:List (Int×Int)):Bool:=!((xs.length:Int) !=ys.length)&& bH (varsAt xs ys) xs.length
theorem aGk (h:Heap)(hh:WF h)(xs ys:List (Int×Int))(hb:xs.length<=1048576):ACalls Tryz.prog 214 [.p (.sl 2 (jC xs)), .p (.sl 2 (jC ys))] h fun o h'=>o= .ret (bA (tG xs ys))/\h'=h:=by
 refine dE Tryz.func214 Tryz.ntmps214 ?_
 by_cases hl:xs.length=ys.length
 ·have h0:((xs.length:Int) !=ys.length)=false:=by simp[hl]
  refine znf1r hl ?_;refine Run.loopS [0,1,11,12] (fun j:Nat=>j<=xs.length/\bH (varsAt xs ys) j=true) (fun j=>xs.length-j) (fun j=>[(13,iA j)]) (fun _=>_) 0 (by simp[bH]) ?_ rfl ?_
  ·exact zS
  ·rintro j ⟨hj,hall⟩ IH;refine cK ?_
   by_cases hjl:j<xs.length
   ·have hg:xs[j]?=some xs[j]:=bLv hjl;have hg':ys[j]?=some ys[j]:=bLv aB;generalize xs[j]=u at hg;generalize ys[j]'aB=v at hg';obtain⟨x,y⟩:=u;obtain⟨x',y'⟩:=v;refine lH hjl ?_;refine Run.draw [0,0,0,0,0,0,0,0,0] [0,0,0,0,0,0,0,0,0] [0,0,3,7,0,0,48,112,255] [0,1,2,3,4,5,6,7,8] aC aC ?_;refine zd2 hg hg' ?_;refine y8 ?_;refine nv ?_;refine Run.condB rfl (fun h1=>?_) (fun h1=>?_)
    ·refine zA ?_;have h2:sameVar (x,y) (x',y')=false:=by simp only[sameVar];simp at h1⊢;omega
     have:=aT (p:=varsAt xs ys) hjl (by simp only[varsAt,hg,hg',h2]);refine zF3 hh ?_;exact⟨by simp only[tG,this];simp,rfl⟩
    ·exact y4q
   ·have hje:j=xs.length:=aB;subst hje;refine znfen ?_;refine zA ?_;refine zF3 hh ?_;exact⟨by simp only[tG,h0,hall];simp,rfl⟩
 ·have h0:((xs.length:Int) !=ys.length)=true:=by simp;omega
  have hl':¬(xs.length:Int)=ys.length:=aB;refine znt1 hl' ?_;refine zA ?_;refine zF3 hh ?_;exact⟨by simp only[tG,h0];simp,rfl⟩
theorem aNo (a b:Lv):gB a b=(a.c==b.c&& tG a.vars b.vars):=by
 simp only[gB,tG]
 cases h1:a.c !=b.c<;>cases h2:(a.vars.length:Int) !=b.vars.length<;>simp_all
theorem wD (h:Heap)(hh:WF h)(a b:Lv)(hb:a.vars.length<=1048576):ACalls Tryz.prog 146 [a.av,b.av] h fun o h'=>o= .ret (bA (gB a b))/\h'=h:=by
 rw[aNo];obtain⟨c,vs⟩:=a;obtain⟨c',vs'⟩:=b;simp only at hb⊢;have he:=aGk (h++[some (.cells [iA c, .p (.sl 2 (jC vs))]),some (.cells [iA c', .p (.sl 2 (jC vs'))])]) (hh.app aA) vs vs' hb;simp only[Lv.av,Lv.cells,List.map];refine zER Tryz.func146 Tryz.ntmps146 ?_
 cases h1:c==c' with
 |false=>
  refine aOv h1 ?_;refine zF2 hh ?_;exact⟨rfl,rfl⟩
 |true=>
  refine sD h1 ?_;refine Run.call rfl aA aA rfl he ?_ ?_
  ·rintro v h' ⟨hv,rfl⟩;simp only[AOut.ret.injEq] at hv;subst hv;refine zox ?_;exact Fin.ret' aA rfl hh rfl rfl rfl (Weak.of_eq (by simp[bR])) rfl ⟨rfl,rfl⟩
  ·rintro v h' ⟨hv,_⟩;cases hv
theorem aKb (h:Heap)(hh:WF h)(xs ys:List Lv)(hb:xs.length<=1048576)(hbv:∀l∈xs,l.vars.length<=1048576):
  ACalls Tryz.prog 145 [.p (.sl 2 (lvPs xs)), .p (.sl 2 (lvPs ys)), .p (.prim (.func (.func 146) #[] #[]))] h fun o h'=>o= .ret (bA (sameLvs xs ys))/\h'=h:=by
 refine dE Tryz.func145 Tryz.ntmps145 ?_
 by_cases hl:xs.length=ys.length
 ·have h0:((xs.length:Int) !=ys.length)=false:=by simp[hl]
  refine znf1r hl ?_;refine Run.loopS [0,1,2,15,16] (fun j:Nat=>j<=xs.length/\bH (sR xs ys) j=true) (fun j=>xs.length-j) (fun j=>[(17,iA j)]) (fun _=>_) 0 (by simp[bH]) ?_ rfl ?_
  ·exact zS
  ·rintro j ⟨hj,hall⟩ IH;refine cK ?_
   by_cases hjl:j<xs.length
   ·have hg:xs[j]?=some xs[j]:=bLv hjl;have hg':ys[j]?=some ys[j]:=bLv aB;have hv:=hbv _ (bLy hjl);generalize xs[j]=u at hg hv;generalize ys[j]'aB=v at hg';refine iY hjl hg ?_;refine zr1 hg' ?_;refine zr ?_;refine Run.call (args:=[u.av,v.av]) rfl rfl aA rfl (wD _ (hh.app aA) u v hv) ?_ ?_
    rotate_left
    ·rintro v h' ⟨hv,_⟩;cases hv
    rintro v0 h' ⟨hv0,rfl⟩;simp only[AOut.ret.injEq] at hv0;subst hv0;refine zo ?_;refine Run.condB rfl (fun h1=>?_) (fun h1=>?_)
    ·refine zA ?_;have h2:gB u v=false:=by simpa using h1
     have:=aT (p:=sR xs ys) hjl (by simp only[sR,hg,hg',h2]);refine zF2 hh ?_;exact⟨by simp only[sameLvs,this];simp,rfl⟩
    ·refine znr ?_;have h2:gB u v=true:=by simpa using h1
     refine Run.keep [0,1,2,15,16,17] ?_;refine y10 ?_;refine IH (j+1) _ _ ⟨by omega,by rw[allTo_succ,hall];simp only[sR,hg,hg',h2];rfl⟩ aB ?_ aA;exact zS
   ·exact y4r
 ·exact y3y
theorem aKd (h:Heap)(hh:WF h)(xs ys:List Tm)(hb:xs.length<=1099511627776)(H:∀u∈xs,∀(v:Tm)(h:Heap),WF h->ACalls Tryz.prog 86 [u.av,v.av] h fun o h'=>o= .ret (bA (sameT u v))/\h'=h):
  ACalls Tryz.prog 147 [.p (.sl 5 (tmPs xs)), .p (.sl 5 (tmPs ys)), .p (.prim (.func (.func 86) #[] #[]))] h fun o h'=>o= .ret (bA (!((xs.length:Int) !=ys.length)&& iW xs ys))/\h'=h:=by
 rw[rC];refine dE Tryz.func147 Tryz.ntmps147 ?_
 by_cases hl:xs.length=ys.length
 ·have h0:((xs.length:Int) !=ys.length)=false:=by simp[hl]
  rw[h0];refine aIr ?_;refine Run.loopS [0,1,2,15,16] (fun j:Nat=>j<=xs.length/\bH (tmsAt xs ys) j=true) (fun j=>xs.length-j) (fun j=>[(17,iA j)]) (fun _=>_) 0 (by simp[bH]) ?_ rfl ?_
  ·exact zS
  ·rintro j ⟨hj,hall⟩ IH;refine cK ?_
   by_cases hjl:j<xs.length
   ·have hg:xs[j]?=some xs[j]:=bLv hjl;have hg':ys[j]?=some ys[j]:=bLv aB;have hv:=H _ (bLy hjl);generalize xs[j]=u at hg hv;generalize ys[j]'aB=v at hg';refine iY hjl hg ?_;refine zr1 hg' ?_;refine zr ?_;refine Run.call (args:=[u.av,v.av]) rfl rfl aA rfl (hv v _ (hh.app aA)) ?_ ?_
    rotate_left
    ·rintro v h' ⟨hv,_⟩;cases hv
    rintro v0 h' ⟨hv0,rfl⟩;simp only[AOut.ret.injEq] at hv0;subst hv0;refine zo ?_;refine Run.condB rfl (fun h1=>?_) (fun h1=>?_)
    ·refine zA ?_;have h2:sameT u v=false:=by simpa using h1
     have:=aT (p:=tmsAt xs ys) hjl (by simp only[tmsAt,hg,hg',h2]);refine zF2 hh ?_;exact⟨by simp only[this];simp,rfl⟩
    ·refine znr ?_;have h2:sameT u v=true:=by simpa using h1
     refine Run.keep [0,1,2,15,16,17] ?_;refine y10 ?_;refine IH (j+1) _ _ ⟨by omega,by rw[allTo_succ,hall];simp only[tmsAt,hg,hg',h2];rfl⟩ aB ?_ aA;exact zS
   ·have hje:j=xs.length:=aB;subst hje;refine znfen ?_;refine zA ?_;refine zF3 hh ?_;exact⟨by simp only[hall];simp,rfl⟩
 ·have h0:((xs.length:Int) !=ys.length)=true:=by simp;omega
  have hl':¬(xs.length:Int)=ys.length:=aB;rw[h0];refine znt ?_;refine zA ?_;refine zF3 hh ?_;exact⟨by simp,rfl⟩
theorem aO8 (N:Nat):∀(a b:Tm)(h:Heap),a.size<=N->a.size<=1099511627776->a.lvs->WF h->ACalls Tryz.prog 86 [a.av,b.av] h fun o h'=>o= .ret (bA (sameT a b))/\h'=h:=by
 induction N with
 |zero=>intro t _ h hN;cases t;simp[Tm.size] at hN
 |succ N ih=>
 intro a b h hN hsz hlv hh;obtain⟨k,i,n,ls,ks⟩:=a;obtain⟨k',i',n',ls',ks'⟩:=b;simp only[Tm.size] at hN hsz;simp only[Tm.lvs] at hlv;have hll:=aR ks;obtain⟨H,hH⟩:∃H:Heap,H=h++[some (.cells [iA k,iA i, .p (sP n), .p (.sl 2 (lvPs ls)), .p (.sl 5 (tmPs ks))]),some (.cells [iA k',iA i', .p (sP n'), .p (.sl 2 (lvPs ls')), .p (.sl 5 (tmPs ks'))])]:=⟨_,rfl⟩;have hwf:WF H:=by rw[hH];exact hh.app aA
 have hlvs:=aKb H hwf ls ls' hlv.1 hlv.2.1
 have htms:=aKd H hwf ks ks' aB (fun u hu v h hh=>by
  obtain⟨j,hj,rfl⟩:=List.mem_iff_getElem.1 hu;have:=dO hj;exact ih _ v h aB aB (Tm.lvss_at hlv.2.2 _ hu) hh)
 rw[hH] at hlvs htms;refine ACalls.of_run Tryz.func86 rfl ?_;simp only[Tryz.ntmps86,bM2,bM3,Tm.av,cells_mk,List.map];refine znr ?_
 have hst:sameT (.mk k i n ls ks) (.mk k' i' n' ls' ks')=(!(k !=k')&& (!(i !=i')&& ((n==n')&& (sameLvs ls ls'&& (!((ks.length:Int) !=ks'.length)&& iW ks ks'))))):=by
  simp only[sameT,eM,Tm.kind,Tm.index,Tm.name,Tm.levels,Tm.kids]
  cases k !=k'<;>cases i !=i'<;>cases n==n'<;>cases sameLvs ls ls'<;>cases (ks.length:Int) !=ks'.length<;>simp
 rw[hst]
 cases c1:k==k' with
 |false=>
  have c1':(k !=k')=true:=by simp only[bne,c1];rfl
  refine aOv c1 ?_;refine zF2 hh ?_;exact⟨by rw[c1'];rfl,rfl⟩
 |true=>
 have c1':(k !=k')=false:=by simp only[bne,c1];rfl
 cases c2:i==i' with
 |false=>
  have c2':(i !=i')=true:=by simp only[bne,c2];rfl
  refine zn ?_;refine zr2 c1 c2 ?_;refine zx ?_;exact y42
 |true=>
 have c2':(i !=i')=false:=by simp only[bne,c2];rfl
 cases c3:n==n' with
 |false=>
  refine zn ?_;refine zr3 c1 c2 c3 ?_;refine zx ?_;exact y42
 |true=>
 refine zn ?_;refine zr3 c1 c2 c3 ?_;refine Run.call rfl aA aA rfl hlvs ?_ ?_
 rotate_left
 ·rintro v h' ⟨hv,_⟩;cases hv
 rintro v0 h' ⟨hv0,rfl⟩;simp only[AOut.ret.injEq] at hv0;subst hv0
 cases c4:sameLvs ls ls' with
 |false=>
  refine zox ?_;exact y42
 |true=>
 refine zo ?_;refine Run.call rfl aA aA rfl htms ?_ ?_
 rotate_left
 ·rintro v h' ⟨hv,_⟩;cases hv
 rintro v0 h' ⟨hv0,rfl⟩;simp only[AOut.ret.injEq] at hv0;subst hv0;refine zox ?_;exact y42
end Go.Proofs.YtplomildbmcmfaaGreat
