import Derived.Test.YtcfcolkbeelegaaGreatJA0
import Derived.Test.YtcfcolkbeelegaaGreatJD
import Derived.Test.YtcfcolkbeelegaaGreatJE1
import Derived.Test.YtcfcolkbeelegaaGreatJE12
set_option maxRecDepth 8000
set_option maxHeartbeats 8000000
namespace Go.Proofs.YtcfcolkbeelegaaGreat
open Go Go.AI
mutual
def nd1 (m:Int):Tm->Int
 | .mk _ _ _ _ ks=>1+nd m 0 ks
def nd (most n:Int):List Tm->Int
 |[]=>n
 |t::ts=>if most<n then n else nd most (n+nd1 (most-n) t) ts
end
mutual
theorem aMp:∀(t:Tm)(m:Int),1<=nd1 m t/\nd1 m t<=t.size
 | .mk _ _ _ _ ks,m=>by simp only[nd1,Tm.size];have:=zG ks m 0;omega
theorem zG:∀(l:List Tm)(m n:Int),n<=nd m n l/\nd m n l<=n+Tm.sizes l
 |[],m,n=>by simp[nd,Tm.sizes]
 |t::ts,m,n=>by
  simp only[nd,Tm.sizes];split
  ·omega
  ·have h1:=aMp t (m-n);have h2:=zG ts m (n+nd1 (m-n) t);omega
end
theorem aTd {α:Type} {l:List α} {j:Nat} {x:α} (h:l[j]?=some x):l.drop j=x::l.drop (j+1):=by
 obtain⟨hj,rfl⟩:=aYv.1 h;exact bAu hj
theorem oM (N:Nat):∀(l:List Tm)(most:Int)(h:Heap),Tm.sizes l<=N->Tm.sizes l<=1099511627776->-1099511627776<=most->most<=1099511627776->WF h->
  AC 63 [iA most, .p (.sl 5 (aL l))] h (iA (nd most 0 l)):=by
 induction N with
 |zero=>
  intro l most h hN hsz hm1 hm2 hh
  cases l with
  |cons x l=>have:=x.size_pos;simp only[Tm.sizes] at hN;omega
  |nil=>
  refine zE Tryz.func63 Tryz.ntmps63 ?_;refine iQ ?_;refine Run.loopS [0,1,5,8,9] (fun _:Unit=>True) (fun _=>0) (fun _=>[(10,iA 0)]) (fun _=>_) () trivial ?_ rfl ?_
  ·simp[aL];exact zK
  ·intro _ _ _;simp;refine zA ?_;exact y3a
 |succ N ih=>
 intro l most h hN hsz hm1 hm2 hh;have hll:=aR l;refine zE Tryz.func63 Tryz.ntmps63 ?_;refine iQ ?_;refine Run.loopS (ι:=Nat×Int) [0,1,8,9] (fun p=>p.1<=l.length/\0<=p.2/\p.2<=Tm.sizes (l.take p.1)/\nd most 0 l=nd most p.2 (l.drop p.1)) (fun p=>l.length-p.1) (fun p=>[(5,iA p.2),(10,iA p.1)]) (fun _=>_) (0,0) (by simp[Tm.sizes]) ?_ rfl ?_
 ·exact zS
 ·rintro⟨j,n⟩ ⟨hj,hn0,hn1,hnd⟩ IH;simp only at hj hn0 hn1 hnd;have hst:=cQ l j;refine cI ?_
  by_cases hjl:j<l.length
  ·have hg:l[j]?=some l[j]:=aYu hjl;have hst2:=fY l j _ hg;have hst3:=cQ l (j+1);rw[aTd hg] at hnd;generalize l[j]=u at hg hst2 hnd;obtain⟨k,i,nm,ls,ks⟩:=u;simp only[Tm.size] at hst2;refine nT hjl hg ?_
   by_cases hmn:most<n
   ·refine dF hmn ?_;refine zA ?_;refine Fin.ret' aA rfl hh rfl rfl rfl (Weak.refl _) rfl ⟨?_,rfl⟩;rw[hnd,nd,if_pos hmn];rfl
   ·refine dJ hmn ?_;have hb:=zG ks (most-n) 0;refine Run.call (args:=[iA (most-n), .p (.sl 5 (aL ks))]) rfl rfl aA rfl (ih ks (most-n) _ aB aB aB aB (hh.app aA)) ?_ ?_
    ·rintro v h' ⟨hv,rfl⟩;simp only[AOut.ret.injEq] at hv;subst hv;refine zor ?_;refine Run.keep [0,1,5,8,9,10] ?_;refine ye ?_;refine IH (j+1,n+(1+nd (most-n) 0 ks)) _ _ ⟨by simp only;omega,by simp only;omega,by simp only;omega,?_⟩ (by simp only;omega) ?_ aA
     ·rw[hnd,nd,if_neg hmn];rfl
     ·exact zS
    ·rintro v h' ⟨hv,_⟩;cases hv
  ·have hje:j=l.length:=aB;subst hje;refine dP ?_;refine zA ?_;refine Fin.ret' aA rfl hh (aZ0 _).symm rfl rfl (Weak.refl _) rfl ⟨?_,rfl⟩;rw[hnd,bAn];rfl
def aBy (ls:List Lv)(j:Nat):Bool:=match ls[j]? with|some l=>!decide (20<(l.vars.length:Int))|none=>true
def pI (ls:List Lv):Bool:=!bB (aBy ls) ls.length
theorem aPl (h:Heap)(hh:WF h)(l:Lv):AC 91 [l.av] h (bA (decide (20<(l.vars.length:Int)))):=by
 obtain⟨c,vs⟩:=l;refine y12 ?_;refine zE Tryz.func91 Tryz.ntmps91 ?_;refine nv ?_;refine zA ?_;refine zF2 hh ?_;exact⟨rfl,rfl⟩
theorem aLx (h:Heap)(hh:WF h)(ls:List Lv)(hb:ls.length<=1048576):ACalls Tryz.prog 94 [.p (.sl 2 (aW ls)), .p (.prim (.func (.func 91) #[] #[]))] h fun o h'=>∃r:Int,o= .ret (iA r)/\h'=h/\decide (0<=r)=pI ls:=by
 refine cW Tryz.func94 Tryz.ntmps94 ?_;refine Run.loopS [0,1,6,7] (fun j:Nat=>j<=ls.length/\bB (aBy ls) j=true) (fun j=>ls.length-j) (fun j=>[(8,iA j)]) (fun _=>_) 0 (by simp[bB]) ?_ rfl ?_
 ·exact zS
 ·rintro j ⟨hj,hall⟩ IH;refine cI ?_
  by_cases hjl:j<ls.length
  ·have hg:ls[j]?=some ls[j]:=aYu hjl;generalize ls[j]=u at hg;refine qL hjl hg ?_;refine Run.call (args:=[u.av]) rfl rfl aA rfl (aPl h hh u) ?_ ?_
   ·rintro v h' ⟨hv,rfl⟩;simp only[AOut.ret.injEq] at hv;subst hv;refine zo ?_
    by_cases h1:20<(u.vars.length:Int)
    ·refine dF h1 ?_;refine zA ?_;have:=aU (p:=aBy ls) hjl (by simp only[aBy,hg];simp[h1]);refine zF3 hh ?_;exact⟨j,rfl,rfl,by simp[pI,this]⟩
    ·refine dJ h1 ?_;refine IH (j+1) _ _ ⟨by omega,by rw[bK,hall];simp only[aBy,hg];simp[h1]⟩ aB ?_ rfl;exact zS
   ·rintro v h' ⟨hv,_⟩;cases hv
  ·have hje:j=ls.length:=aB;subst hje;refine dP ?_;refine zA ?_;refine zF3 hh ?_;exact⟨-1,rfl,rfl,by simp[pI,hall]⟩
theorem aB6 (h:Heap)(hh:WF h)(ls:List Lv)(hb:ls.length<=1048576):AC 46 [.p (.sl 2 (aW ls)), .p (.prim (.func (.func 91) #[] #[]))] h (bA (pI ls)):=by
 refine cW Tryz.func46 Tryz.ntmps46 ?_;refine Run.call rfl rfl aA rfl (aLx h hh ls hb) ?_ ?_
 ·rintro v h' ⟨r,hv,rfl,hr⟩;exact y3j
 ·rintro v h' ⟨r,hv,_⟩;cases hv
open Go Go.AI
mutual
def aPk:Tm->Bool
 | .mk _ _ n ls ks=>!decide (200<(n.length:Int))&& !decide (20<(ls.length:Int))&& !pI ls&& (!decide (200<nd 200 0 ks)&& wH ks)
def wH:List Tm->Bool
 |[]=>true
 |t::ts=>aPk t&& wH ts
end
def aPm (l:List Tm):Bool:=!decide (200<nd 200 0 l)&& wH l
def kT (l:List Tm)(j:Nat):Bool:=match l[j]? with|some t=>aPk t|none=>true
theorem aBf:∀(l:List Tm),wH l=bB (kT l) l.length
 |[]=>by simp[wH,bB]
 |x::l=>by
  simp only[wH,aBf l];rw[aZs,aZ7,cJ,cJ];constructor
  ·rintro⟨h1,h2⟩ j hj
   cases j with
   |zero=>simpa [kT] using h1
   |succ j=>simpa [kT] using h2 j (by simpa using hj)
  ·intro h;exact⟨by simpa [kT] using h 0 aA,fun j hj=>by simpa [kT] using h (j+1) (by simpa using hj)⟩
theorem aTf (N:Nat):∀(l:List Tm)(h:Heap),Tm.sizes l<=N->Tm.sizes l<=1099511627776->Tm.lvss l->WF h->
  AC 44 [.p (.sl 5 (aL l))] h (bA (aPm l)):=by
 induction N with
 |zero=>
  intro l h hN hsz hlv hh
  cases l with
  |cons x l=>have:=x.size_pos;simp only[Tm.sizes] at hN;omega
  |nil=>
  have hn:=oM 0 [] 200 h (by simp[Tm.sizes]) (by simp[Tm.sizes]) aB aB hh;refine cW Tryz.func44 Tryz.ntmps44 ?_;refine Run.call rfl rfl aA rfl hn ?_ ?_
  ·rintro v h' ⟨hv,rfl⟩;simp only[AOut.ret.injEq] at hv;subst hv;refine aYh ?_;refine yw ?_;refine Run.loopS [8,9] (fun _:Unit=>True) (fun _=>0) (fun _=>[(10,iA 0)]) (fun _=>_) () trivial ?_ rfl ?_
   ·simp[aL];exact zK
   ·intro _ _ _;simp;refine zA ?_;exact y3a
  ·rintro v h' ⟨hv,_⟩;cases hv
 |succ N ih=>
 intro l h hN hsz hlv hh;have hll:=aR l;have hn:=oM (Tm.sizes l) l 200 h (aYw _) hsz aB aB hh;refine cW Tryz.func44 Tryz.ntmps44 ?_;refine rl rfl rfl aA rfl hn ?_;refine zo ?_
 by_cases h0:200<nd 200 0 l
 ·refine dF h0 ?_;refine zA ?_;refine zF3 hh ?_;exact⟨by simp[aPm,h0],rfl⟩
 have hfew:aPm l=bB (kT l) l.length:=by simp only[aPm,h0,aBf];simp
 rw[hfew];refine dJ h0 ?_;refine Run.loopS [8,9] (fun j:Nat=>j<=l.length/\bB (kT l) j=true) (fun j=>l.length-j) (fun j=>[(10,iA j)]) (fun _=>_) 0 (by simp[bB]) ?_ rfl ?_
 ·exact zS
 rintro j ⟨hj,hall⟩ IH;refine cI ?_
 by_cases hjl:j<l.length
 ·have hg:l[j]?=some l[j]:=aYu hjl;have hs:=eL hjl;have hlj:=Tm.lvss_at hlv _ (aYx hjl);generalize l[j]=u at hg hs hlj;obtain⟨k,i,nm,ls,ks⟩:=u;simp only[Tm.size] at hs;simp only[Tm.lvs] at hlj;have no:aPk (.mk k i nm ls ks)=false->bB (kT l) l.length=false:=fun e=>aU hjl (by simp only[kT,hg,e])
  have yes:aPk (.mk k i nm ls ks)=true->bB (kT l) (j+1)=true:=fun e=>by rw[bK,hall];simp only[kT,hg,e];rfl
  refine jO hjl hg ?_
  by_cases c1:200<(nm.length:Int)
  ·refine nv ?_;refine Run.reg fun K J=>?_
   simp[ByteArray.size,c1];refine zj ?_;clear J;refine zA ?_;refine zF2 hh ?_;exact⟨by rw[no (by simp only[aPk,c1];rfl)];rfl,rfl⟩
  by_cases c2:20<(ls.length:Int)
  ·refine nv ?_;refine Run.reg fun K J=>?_
   simp[ByteArray.size,c1,c2];refine zj ?_;clear J;refine zA ?_;refine zF2 hh ?_;exact⟨by rw[no (by simp only[aPk,c1,c2];rfl)];rfl,rfl⟩
  refine nv ?_;refine Run.reg fun K J=>?_
  simp[ByteArray.size,c1,c2];refine zj ?_;clear J;refine Run.call rfl aA aA rfl (aB6 _ (hh.app aA) ls hlj.1) ?_ ?_
  rotate_left
  ·rintro v h' ⟨hv,_⟩;cases hv
  rintro v h' ⟨hv,rfl⟩;simp only[AOut.ret.injEq] at hv;subst hv
  cases c3:pI ls with
  |true=>
   refine zo ?_;refine zA ?_;refine zF2 hh ?_;exact⟨by rw[no (by simp only[aPk,c1,c2,c3];rfl)];rfl,rfl⟩
  |false=>
   refine zo ?_;refine Run.call rfl aA aA rfl (ih ks _ aB aB hlj.2.2 (hh.app aA)) ?_ ?_
   rotate_left
   ·rintro v h' ⟨hv,_⟩;cases hv
   rintro v h' ⟨hv,rfl⟩;simp only[AOut.ret.injEq] at hv;subst hv;have hf1:aPk (.mk k i nm ls ks)=aPm ks:=by simp only[aPk,c1,c2,c3,aPm];rfl
   refine zo ?_
   cases c4:aPm ks with
   |false=>
    refine zA ?_;refine zF2 hh ?_;exact⟨by rw[no (by rw[hf1,c4])];rfl,rfl⟩
   |true=>
    refine aAc ?_;refine Run.keep [8,9,10] ?_;refine ye ?_;refine IH (j+1) _ _ ⟨by omega,yes (by rw[hf1,c4])⟩ aB ?_ aA;exact zS
 have hje:j=l.length:=aB;subst hje;refine dP ?_;refine zA ?_;refine zF3 hh ?_;exact⟨by rw[hall];rfl,rfl⟩
open Go Go.AI
def eQ (vars params metas levels:Int)(t:Tm):Int:=
 if chk (if vars<0 then 0 else vars) params metas levels 0 t≠0 then chk (if vars<0 then 0 else vars) params metas levels 0 t
 else if 4096<(t.size:Int) then 5 else if 200<(t.depth:Int) then 7 else 0
theorem sO (h:Heap)(hh:WF h)(t:Tm)(vars params metas levels:Int)(hsz:t.size<=1099511627776)(hf:t.fit):
  AC 45 [t.av,iA vars,iA params,iA metas,iA levels] h (iA (eQ vars params metas levels t)):=by
 have hh1:WF (h++[some (.cells (t.cells.map .p))]):=hh.app aA;have hc:=aT5 (if vars<0 then 0 else vars) params metas levels t.size t 0 _ (aYw _) hf aB aB hh1;have hs:=pB t.size t _ (aYw _) hsz hh1;have hd:=oD t.size t _ (aYw _) hsz hh1;have hz:∃z,eQ vars params metas levels t=z:=⟨_,rfl⟩;obtain⟨z,hz⟩:=hz;rw[hz];unfold eQ at hz;generalize chk (if vars<0 then 0 else vars) params metas levels 0 t=e at hc hz;generalize t.size=sz at hs hz;generalize t.depth=dp at hd hz;obtain⟨k,i,n,ls,ks⟩:=t;refine ACalls.of_run Tryz.func45 rfl ?_;simp only[Tryz.ntmps45,aZ1,aZ2,Tm.av,aH,List.map];refine rS ?_;refine rl rfl rfl aA rfl hc ?_;refine zor ?_
 by_cases h1:e=0
 ·rw[if_neg (by simp[h1])] at hz;refine dJ h1 ?_;refine rl rfl rfl aA rfl hs ?_;refine zo ?_
  by_cases h2:4096<(sz:Int)
  ·rw[if_pos h2] at hz;refine dF h2 ?_;exact y57
  rw[if_neg h2] at hz;refine dJ h2 ?_;refine rl rfl rfl aA rfl hd ?_;refine zo ?_
  by_cases h3:200<(dp:Int)
  ·rw[if_pos h3] at hz;refine dF h3 ?_;exact y57
  rw[if_neg h3] at hz;refine vL h3 ?_;exact y57
 ·rw[if_pos h1] at hz;refine dF h1 ?_;exact y57
def aBo (l:List Tm)(j:Nat):Bool:=match l[j]? with|some t=>eQ 65536 8 65536 65536 t==0|none=>true
def aBp (l:List Tm):Bool:=aPm l&& bB (aBo l) l.length
theorem aGz (h:Heap)(hh:WF h)(l:List Tm)(hsz:Tm.sizes l<=1099511627776)(hlv:Tm.lvss l)(hf:Tm.fits l):
  AC 11 [.p (.sl 5 (aL l))] h (bA (aBp l)):=by
 have hll:=aR l;have hfe:=aTf (Tm.sizes l) l h (aYw _) hsz hlv hh;refine cW Tryz.func11 Tryz.ntmps11 ?_;refine rl rfl rfl aA rfl hfe ?_
 cases hfb:aPm l with
 |false=>
  refine zo ?_;refine zA ?_;refine zF3 hh ?_;exact⟨by simp[aBp,hfb],rfl⟩
 |true=>
  refine rJ ?_;refine Run.loopS [8,9] (fun j:Nat=>j<=l.length/\bB (aBo l) j=true) (fun j=>l.length-j) (fun j=>[(10,iA j)]) (fun _=>_) 0 (by simp[bB]) ?_ rfl ?_
  ·exact zS
  rintro j ⟨hj,hall⟩ IH;refine cI ?_
  by_cases hjl:j<l.length
  ·have hg:l[j]?=some l[j]:=aYu hjl;have hs:=eL hjl;have hfj:=Tm.fits_at hf _ (aYx hjl);generalize l[j]=u at hg hs hfj;refine nT hjl hg ?_;have hck:=fun(g:Heap) (hg:WF g)=>sO g hg u 65536 8 65536 65536 aB hfj
   refine rl (args:=[u.av,iA 65536,iA 8,iA 65536,iA 65536]) rfl rfl aA rfl (hck _ (hh.app aA)) ?_;refine zo ?_
   by_cases h1:eQ 65536 8 65536 65536 u=0
   ·refine dJ h1 ?_;refine Run.keep [8,9,10] ?_;refine ye ?_;refine IH (j+1) _ _ ⟨by omega,by rw[bK,hall];simp only[aBo,hg,h1];rfl⟩ aB ?_ aA;exact zS
   ·refine dF h1 ?_;refine zA ?_;have:=aU (p:=aBo l) hjl (by simp only[aBo,hg];simpa using h1);refine zF2 hh ?_;exact⟨by simp[aBp,this],rfl⟩
  ·have hje:j=l.length:=aB;subst hje;refine dP ?_;refine zA ?_;refine zF3 hh ?_;exact⟨by simp[aBp,hfb,hall],rfl⟩
end Go.Proofs.YtcfcolkbeelegaaGreat
namespace Go.AI
open Go
def WeakP (x y:PV):Prop:=∀E w v,RepP E w x v->RepP E w y v
def WeakPL (xs ys:List PV):Prop:=xs.length=ys.length/\∀E w b off,RepAt E w b off xs->RepAt E w b off ys
def WeakPs (es es':List (List PV)):Prop:=es.length=es'.length/\∀E w b sz off,RepEs E w b sz off es->RepEs E w b sz off es'
theorem WeakP.refl (x:PV):WeakP x x:=fun _ _ _ h=>h
theorem WeakP.nil (sz:Nat):WeakP (.prim (.slice none 0 0)) (.sl sz []):=fun E w v h=>Weak.nil sz E w v h
theorem WeakPL.nil:WeakPL [] []:=⟨rfl,fun _ _ _ _ h=>h⟩
theorem WeakPL.cons {x y:PV} {xs ys:List PV} (h:WeakP x y)(hs:WeakPL xs ys):WeakPL (x::xs) (y::ys):=⟨by simp[hs.1],fun E w b off r=>by
 simp only[RepAt] at r⊢;obtain⟨v,r1,r2,r3,r4⟩:=r;exact⟨v,r1,r2,h E w v r3,hs.2 E w b _ r4⟩⟩
theorem WeakPs.nil:WeakPs [] []:=⟨rfl,fun _ _ _ _ _ h=>h⟩
theorem WeakPs.cons {x y:List PV} {xs ys:List (List PV)} (h:WeakPL x y)(hs:WeakPs xs ys):WeakPs (x::xs) (y::ys):=⟨by simp[hs.1],fun E w b sz off r=>by
 simp only[RepEs] at r⊢;obtain⟨r1,r2,r3⟩:=r;exact⟨by rw[<-h.1];exact r1,h.2 E w b _ r2,hs.2 E w b sz _ r3⟩⟩
theorem WeakP.sl {sz:Nat} {es es':List (List PV)} (h:WeakPs es es'):WeakP (.sl sz es) (.sl sz es'):=fun E w v r=>by
 simp only[RepP] at r⊢;obtain⟨a,cap,rfl,h1,h2⟩:=r;refine⟨a,cap,by rw[h.1],by rw[<-h.1];exact h1,?_⟩;rcases h2 with rfl|⟨b,off,rfl,h3⟩
 ·left;have:=h.1;cases es' with
  |nil=>rfl
  |cons _ _=>simp at this
 ·exact .inr ⟨b,off,rfl,h.2 _ _ _ _ _ h3⟩
theorem WeakP.av {x y:PV} (h:WeakP x y):Weak (.p x) (.p y):=fun E w v r=>by simp only[Rep] at r⊢;exact h E w v r
theorem ACalls.weak {P:Program} {f:FuncId} {args args':List AV} {h:Heap} {R:AOut->Heap->Prop} (hw:WeakL args args')(c:ACalls P f args' h R):ACalls P f args h R:=
 fun E w vs h1 h2 h3=>c E w vs h1 h2 (hw E w vs h3)
end Go.AI
namespace Go.Proofs.YtcfcolkbeelegaaGreat
open Go Go.AI
def aUw:List UInt8:=[78,97,116]
def natT:Tm:= .mk 3 0 aUw [] []
def vN (a b:Tm):Tm:= .mk 4 0 [] [] [a,b]
open Go Go.AI
theorem aF4 (l:Lv):oX l l=true:=by
 simp only[oX,bne_self_eq_false,Bool.or_self,bB7,Bool.true_and];rw[cJ];intro j hj;simp[xF,hj,qC]
theorem aCn (l:List Lv):kE l l=true:=by
 simp only[kE,bne_self_eq_false,bB7,Bool.true_and];rw[cJ];intro j hj;simp[aJ0,hj,aF4]
theorem zR (t:Tm):gW t t=true:=by simp[gW,aCn]
mutual
theorem xA:∀t:Tm,fQ t t=true
 | .mk k i n ls ks=>by simp only[fQ,zR,Bool.true_and];exact nM ks
theorem nM:∀l:List Tm,lH l l=true
 |[]=>by simp only[lH]
 |t::ts=>by simp only[lH,xA t,nM ts,Bool.and_self]
end
theorem tI {e:Int} {l:List Int} (h:aT (e::l)=0):e=0/\aT l=0:=by
 simp only[aT] at h;split at h
 ·exact⟨by assumption,h⟩
 ·exact absurd h (by assumption)
mutual
theorem aAr (by_ fr f0:Int)(hf:f0=if 65536<fr then 65536 else fr):∀(t:Tm)(s d:Int),t.ok (65536+d)->
  bld (eY (fA by_ fr)) s t d=if bX by_ f0 d t=true then .bad 24 s else .ok (eV by_ f0 d t) s
 | .mk k i n ls ks,s,d,h=>by
  simp only[Tm.ok,Tm.okN] at h;simp only[bld,bX,eV]
  by_cases hk:k=0
  ·obtain⟨h1,h2,rfl,rfl,rfl⟩:=h.1.1 hk;subst hk;simp only[eY,fA,Tm.kind,Tm.index,if_true]
   by_cases c1:i-d<fr
   ·have c1':i<f0+d:=by rw[hf];split<;>omega
    simp[c1,c1',Tm.bare]
   ·have c0:f0=fr:=by rw[hf,if_neg aB]
    subst c0;have c1':¬i<f0+d:=aB;simp only[c1,if_false]
    by_cases c2:by_<0/\i-d<f0-by_
    ·have c2':i+by_<f0+d:=aB;simp[c2,c1',c2']
    ·have c2':¬i+by_<f0+d:=aB;simp only[c2,if_false]
     by_cases c3:65535<i+by_
     ·simp[c1',c2',c3]
     ·simp[c1',c2',c3]
  ·simp only[eY,Tm.kind,hk,if_false,Tm.bare];have e:=vW by_ fr f0 hf ks s k d 0 h.2;simp only[e];split
   ·rename_i heq;split at heq
    ·rename_i hb;rw[if_pos hb];injection heq with h1 h2;subst h1;subst h2;rfl
    ·cases heq
   ·rename_i heq;split at heq
    ·cases heq
    ·rename_i hb;rw[if_neg hb];injection heq with h1 h2;subst h1;subst h2;rfl
theorem vW (by_ fr f0:Int)(hf:f0=if 65536<fr then 65536 else fr):∀(ks:List Tm)(s k d:Int)(idx:Nat),Tm.oks (65536+d) k idx ks->
  lS (eY (fA by_ fr)) s k d idx ks=if bU by_ f0 d k idx ks=true then .bad 24 s else .ok (eO by_ f0 d k idx ks) s
 |[],s,k,d,idx,h=>by simp[lS,bU,eO]
 |t::ts,s,k,d,idx,h=>by
  simp only[Tm.oks] at h;simp only[lS,bU,eO];rw[aAr by_ fr f0 hf t s (d+aO k idx) (by rw[<-Int.add_assoc];exact h.1)]
  by_cases hb:bX by_ f0 (d+aO k idx) t=true
  ·simp only[hb,if_true,bBr]
  ·rw[if_neg hb];simp only;rw[vW by_ fr f0 hf ts s k d (idx+1) h.2];rw[Bool.not_eq_true] at hb
   by_cases hb2:bU by_ f0 d k (idx+1) ts=true
   ·simp only[hb,hb2,if_true,Bool.or_true]
   ·rw[Bool.not_eq_true] at hb2;simp only[hb,hb2,Bool.or_false,aZd,if_false]
end
end Go.Proofs.YtcfcolkbeelegaaGreat
