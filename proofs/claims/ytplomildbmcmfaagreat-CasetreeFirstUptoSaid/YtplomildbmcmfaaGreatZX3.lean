import Derived.Test.YtplomildbmcmfaaGreatZA0
import Derived.Test.YtplomildbmcmfaaGreatZE13
import Derived.Test.YtplomildbmcmfaaGreatZM1
import Derived.Test.YtplomildbmcmfaaGreatZE7
import Derived.Test.YtplomildbmcmfaaGreatZEVq
set_option maxRecDepth 8000
namespace Go.Proofs.YtplomildbmcmfaaGreat
open Go Go.AI
structure Ct where
 nm:List UInt8
 ty:Tm
mutual
inductive Tr where
 |mk (k:Int) (b:Tm) (v:Int) (bs:List Br)
inductive Br where
 |mk (c:List UInt8) (a:Bool) (t:Tr)
end
structure Fu where
 nm:List UInt8
 ty:Tm
 ar:Int
 tr:Tr
structure Dc where
 k:Int
 nm:List UInt8
 ps:Int
 ty:Tm
 va:Tm
 fx:Int
 cs:List Ct
 rp:Int
 rt:Tm
 rr:List Tm
 fs:List Fu
def Ct.cells (c:Ct):List PV:=sP c.nm::c.ty.cells
abbrev bP (b:Bool):PV:= .prim (.bool b)
mutual
def Tr.cells:Tr->List PV
 | .mk k b v bs=>iP k::(b.cells++[iP v, .sl 10 (bAf bs)])
def Br.cells:Br->List PV
 | .mk c a t=>sP c::bP a::t.cells
def bAf:List Br->List (List PV)
 |[]=>[]
 |b::bs=>b.cells::bAf bs
end
theorem brPs_eq:∀l:List Br,bAf l=l.map Br.cells
 |[]=>by simp[bAf]
 |b::l=>by simp[bAf,brPs_eq l]
def Fu.cells (f:Fu):List PV:=sP f.nm::(f.ty.cells++(iP f.ar::f.tr.cells))
def Dc.cells (d:Dc):List PV:=iP d.k::sP d.nm::iP d.ps::(d.ty.cells++(d.va.cells++(iP d.fx:: .sl 6 (d.cs.map Ct.cells)::iP d.rp::(d.rt.cells++[.sl 5 (tmPs d.rr), .sl 15 (d.fs.map Fu.cells)]))))
def Dc.av (d:Dc):AV:= .agg (d.cells.map .p)
def Tr.av (t:Tr):AV:= .agg (t.cells.map .p)
abbrev eU (env:List Dc):AV:= .p (.sl 23 (env.map Dc.cells))
theorem xV (c:Ct):c.cells.length=6:=by simp[Ct.cells]
theorem oO (t:Tr):t.cells.length=8:=by cases t;simp[Tr.cells]
theorem xK (b:Br):b.cells.length=10:=by cases b;simp[Br.cells,oO]
theorem yH (f:Fu):f.cells.length=15:=by simp[Fu.cells,oO]
theorem bB (d:Dc):d.cells.length=23:=by simp[Dc.cells]
def Tm.good (t:Tm):Prop:=t.size<=1048576/\t.fit/\t.lvs
mutual
def Tr.size:Tr->Nat
 | .mk _ _ _ bs=>1+Br.sizes bs
def Br.size:Br->Nat
 | .mk _ _ t=>1+t.size
def Br.sizes:List Br->Nat
 |[]=>0
 |b::bs=>b.size+Br.sizes bs
end
mutual
def Tr.good:Tr->Prop
 | .mk _ b _ bs=>b.good/\bs.length<=1048576/\Br.goods bs
def Br.good:Br->Prop
 | .mk _ _ t=>t.good
def Br.goods:List Br->Prop
 |[]=>True
 |b::bs=>b.good/\Br.goods bs
end
theorem Br.goods_at {l:List Br} (h:Br.goods l):∀b∈l,b.good:=by
 induction l with
 |nil=>intro b hb;cases hb
 |cons x l ih=>
  simp only[Br.goods] at h;intro b hb
  cases bMh.1 hb with
  |inl e=>subst e;exact h.1
  |inr e=>exact ih h.2 b e
theorem tC {l:List Br} {b:Br} (h:b∈l):b.size<=Br.sizes l:=by
 induction l with
 |nil=>cases h
 |cons x l ih=>
  simp only[Br.sizes];rcases bMh.1 h with rfl|h
  ·omega
  ·have:=ih h;omega
def Fu.good (f:Fu):Prop:=f.ty.good/\f.tr.good
structure Dc.good (d:Dc):Prop where
 ty:d.ty.good
 va:d.va.good
 rt:d.rt.good
 csl:d.cs.length<=1048576
 cs:∀c∈d.cs,c.ty.good
 rrl:d.rr.length<=1048576
 rr:∀t∈d.rr,t.good
 fsl:d.fs.length<=1048576
 fs:∀f∈d.fs,f.good
def Env.good (env:List Dc):Prop:=env.length<=1048576/\∀d∈env,d.good
open Go Go.AI
def aU0 (P:Bool->Prop)(o:AOut):Prop:=∃b,o= .ret (bA b)/\P b
def bGi (P:Int->Prop)(o:AOut):Prop:=∃e,o= .ret (iA e)/\P e
theorem fS (h:Heap)(hh:WF h)(t:Tm)(hg:t.good):ACalls Tryz.prog 215 [t.av] h fun o h'=>aU0 (fun _=>True) o/\h'=h:=by
 have h1:=fun g hw=>mK t.size t g (bLx _) (by have:=hg.1;omega) hw
 have h2:=fun g hw=>lS t.size t g (bLx _) (by have:=hg.1;omega) hw
 generalize t.size=s at h1;generalize t.depth=d at h2;obtain⟨k,i,n,ls,ks⟩:=t;simp only[Tm.av,cells_mk,List.map] at h1 h2⊢;refine dE Tryz.func215 Tryz.ntmps215 ?_;refine zL (h1 _ (hh.app aA)) ?_
 by_cases c1:(s:Int)<=400
 ·refine zo1 c1 ?_;refine zL (h2 _ (hh.app aA)) ?_;refine zox ?_;exact y6r
 ·refine zo1 c1 ?_;refine zx ?_;exact y6r
theorem pI (h:Heap)(hh:WF h)(t:Tm)(hg:t.good):ACalls Tryz.prog 269 [t.av] h fun o h'=>o= .ret (bA (sameT t zT))/\h'=h:=by
 have hc:=fun g hw=>kH t.size t zT g (bLx _) (by have:=hg.1;omega) hg.2.2 hw
 generalize sameT t zT=b at hc⊢;obtain⟨k,i,n,ls,ks⟩:=t;simp only[Tm.av,cells_mk,List.map] at hc⊢;refine dE Tryz.func269 Tryz.ntmps269 ?_;refine zL (ACalls.weak (WeakL.cons (Weak.refl _) (WeakL.cons Weak.zT WeakL.nil)) (hc _ (hh.app aA))) ?_;refine zox ?_;exact y29
def dR (l:List (List UInt8)):List (List PV):=l.map fun s=>[sP s]
@[simp] theorem aTq (l:List (List UInt8)):(dR l).length=l.length:=by simp[dR]
@[simp] theorem bDw (l:List (List UInt8)) (i:Nat):(dR l)[i]?=(l[i]?).map fun s=>[sP s] :=by simp[dR]
theorem aC3 (h:Heap)(hh:WF h)(l:List (List UInt8))(s:List UInt8)(hl:l.length<=1099511627776):ACalls Tryz.prog 250 [.p (.sl 1 (dR l)), .p (sP s)] h fun o h'=>o= .ret (bA (decide (s∈l)))/\h'=h:=by
 refine dE Tryz.func250 Tryz.ntmps250 ?_;refine Run.loopS [0,1] (fun j:Nat=>j<=l.length/\s∉l.take j) (fun j=>l.length-j) (fun j=>[(5,iA j)]) (fun _=>_) 0 aA ?_ rfl ?_
 ·exact zS
 rintro j ⟨hj,hall⟩ IH;refine cK ?_
 by_cases hjl:j<l.length
 ·have hg:l[j]?=some l[j]:=bLv hjl;have htk:l.take (j+1)=l.take j++[l[j]]:=bM6 hjl;have hmem:l[j]∈l:=bLy hjl;generalize l[j]=x at hg htk hmem;refine iY hjl hg ?_
  by_cases hx:x=s
  ·refine znt1 hx ?_;refine zA ?_;refine zF3 hh ?_;exact⟨by simp[hx▸hmem],rfl⟩
  ·refine znf1r hx ?_;refine IH (j+1) _ _ ⟨by omega,by rw[htk];simp[hall];exact fun e=>hx e.symm⟩ aB ?_ rfl;exact zS
 ·have hje:j=l.length:=aB;subst hje;rw[bMm] at hall;refine znfen ?_;refine zA ?_;refine zF3 hh ?_;exact⟨by simp[hall],rfl⟩
def fP:Tm->Nat
 | .mk k _ _ _ [_,b]=>if k=6 then fP b+1 else 0
 |_=>0
theorem aEq:∀(N:Nat)(t:Tm),t.size<=N->fP t<=t.size
 |0,t,h=>by have:=t.size_pos;omega
 |N+1, .mk k i n ls ks,h=>by
  match ks with
  |[]=>simp[fP]
  |[a]=>simp[fP]
  |[a,b]=>
   simp only[fP,Tm.size,Tm.sizes] at h⊢;split
   ·have:=aEq N b aB;omega
   ·omega
  |a::b::c::r=>simp[fP]
theorem qP (h:Heap)(hh:WF h)(t:Tm)(hs:t.size<=1048576):ACalls Tryz.prog 330 [t.av] h fun o h'=>o= .ret (iA (fP t))/\h'=h:=by
 have hle:=aEq t.size t (bLx _);obtain⟨T,hT⟩:∃T,T=fP t:=⟨_,rfl⟩;rw[<-hT] at hle⊢;obtain⟨k,i,n,ls,ks⟩:=t;simp only[Tm.av,cells_mk,List.map] at hle⊢;refine dE Tryz.func330 Tryz.ntmps330 ?_;refine Run.loopS (ι:=Tm×Nat) [1] (fun p=>fP p.1+p.2=T/\p.1.size<=1048576) (fun p=>p.1.size) (fun p=>[(3,iA p.2)]) (fun p=>h++[some (.cells (p.1.cells.map .p))]) (.mk k i n ls ks,0) ⟨by simp[hT],hs⟩ ?_ aA ?_
 ·exact zS
 rintro⟨u,m⟩ ⟨hu,hus⟩ IH;obtain⟨k,i,n,ls,ks⟩:=u;simp only at hu hus;have hks:=aR ks;simp only[Tm.size] at hus;refine zsn ?_;refine Run.regJ [1,3] 12 (k==6&& (ks.length:Int)==2) (fun K J=>?_) ?_
 ·simp;exact y1x
 refine y6 ?_;simp;refine Run.condB rfl (fun h1=>?_) (fun h1=>?_)
 ·have h1':k=6/\ks.length=2:=by simp at h1;omega
  obtain⟨rfl,h2⟩:=h1';obtain⟨a,b,hab⟩:∃a b,ks=[a,b]:=by match ks,h2 with|[a,b],_=>exact⟨a,b,rfl⟩
  have hg:ks[1]?=some b:=by rw[hab];rfl
  have hlt:b.size<(Tm.mk 6 i n ls ks).size:=by rw[hab];simp[Tm.size,Tm.sizes];omega
  rw[hab] at hu hus;simp only[fP,if_true] at hu;simp only[Tm.sizes] at hus;have hml:fP b+(m+1)=T:=aB;have hbs:b.size<=1048576:=aB;clear hu hus hab hks;have hm:m<=1048576:=aB;refine znr ?_;obtain⟨k',i',n',ls',ks'⟩:=b;refine sD hg ?_;refine IH (.mk k' i' n' ls' ks',m+1) _ _ ⟨hml,hbs⟩ hlt ?_ aA;exact zS
 ·have:fP (.mk k i n ls ks)=0:=by
   match ks,h1 with
   |[],_=>simp[fP]
   |[a],_=>simp[fP]
   |[a,b],h1=>simp at h1;simp[fP,h1]
   |a::b::c::r,_=>simp[fP]
  rw[this] at hu;refine zn ?_;refine ze ?_;refine zn ?_;refine zA ?_;refine zF2 hh ?_;exact⟨by rw[<-hu];simp,rfl⟩
open Go Go.AI
structure En where
 k:Int
 at_:Int
 it:Int
 ps:Int
 ty:Tm
def En.cells (e:En):List PV:=iP e.k::iP e.at_::iP e.it::iP e.ps::e.ty.cells
def En.av (e:En):AV:= .agg (e.cells.map .p)
def zEn:En:=⟨0,0,0,0,zT⟩
def aIp:List UInt8:=[46,114,101,99]
def aW (d:Dc):List (List UInt8):=
 if d.k=0\/d.k=1\/d.k=2 then [d.nm] else if d.k=3 then d.nm::(d.cs.map Ct.nm++[d.nm++aIp]) else if d.k=4 then d.fs.map Fu.nm else []
def jH (d:Dc)(a:Int):List Ct->Nat->List (List UInt8×En)
 |[],_=>[]
 |c::cs,i=>(c.nm,⟨4,a,i,d.ps,c.ty⟩)::jH d a cs (i+1)
def jJ (d:Dc)(a:Int):List Fu->Nat->List (List UInt8×En)
 |[],_=>[]
 |f::fs,i=>(f.nm,⟨6,a,i,d.ps,f.ty⟩)::jJ d a fs (i+1)
def kZ (d:Dc)(a:Int):List (List UInt8×En):=
 if d.k=0\/d.k=1\/d.k=2 then [(d.nm,⟨d.k,a,0,d.ps,d.ty⟩)]
 else if d.k=3 then(d.nm,⟨3,a,0,d.ps,d.ty⟩)::(jH d a d.cs 0++[(d.nm++aIp,⟨5,a,0,d.rp,d.rt⟩)])
 else if d.k=4 then jJ d a d.fs 0 else []
def bI (s:List UInt8):List (List UInt8×En)->Option En
 |[]=>none
 |(x,e)::l=>if x=s then some e else bI s l
def qE (s:List UInt8):List Dc->Nat->Option En
 |[],_=>none
 |d::env,i=>match bI s (kZ d i) with
  |some e=>some e
  |none=>qE s env (i+1)
def sM (d:Dc)(a:Int)(s:List UInt8):List Ct->Nat->Option En
 |[],_=>none
 |c::cs,i=>if c.nm=s then some ⟨4,a,i,d.ps,c.ty⟩ else sM d a s cs (i+1)
def sN (d:Dc)(a:Int)(s:List UInt8):List Fu->Nat->Option En
 |[],_=>none
 |f::fs,i=>if f.nm=s then some ⟨6,a,i,d.ps,f.ty⟩ else sN d a s fs (i+1)
def wT (d:Dc)(a:Int)(s:List UInt8):En:=
 if d.k=0\/d.k=1\/d.k=2 then⟨d.k,a,0,d.ps,d.ty⟩
 else if d.k=3 then(if s=d.nm then⟨3,a,0,d.ps,d.ty⟩ else(sM d a s d.cs 0).getD ⟨5,a,0,d.rp,d.rt⟩)
 else(sN d a s d.fs 0).getD ⟨0,a,0,d.ps,d.ty⟩
def dX (s:List UInt8):List Dc->Nat->Option En
 |[],_=>none
 |d::env,i=>if s∈aW d then some (wT d i s) else dX s env (i+1)
theorem kP (s:List UInt8):∀l m:List (List UInt8×En),bI s (l++m)=match bI s l with|some e=>some e|none=>bI s m
 |[],m=>rfl
 |(x,e)::l,m=>by
  simp only[bLz,bI];split
  ·rfl
  ·exact kP s l m
theorem aEe (d:Dc)(a:Int)(s:List UInt8):∀(l:List Ct)(i:Nat),bI s (jH d a l i)=sM d a s l i
 |[],_=>rfl
 |c::l,i=>by simp only[jH,bI,sM,aEe d a s l (i+1)]
theorem aEf (d:Dc)(a:Int)(s:List UInt8):∀(l:List Fu)(i:Nat),bI s (jJ d a l i)=sN d a s l i
 |[],_=>rfl
 |c::l,i=>by simp only[jJ,bI,sN,aEf d a s l (i+1)]
theorem xU (d:Dc)(a:Int)(s:List UInt8):∀(l:List Ct)(i:Nat),(sM d a s l i).isSome=decide (s∈l.map Ct.nm)
 |[],_=>by simp[sM]
 |c::l,i=>by
  simp only[sM]
  by_cases h:c.nm=s
  ·simp[h]
  ·have h':¬s=c.nm:=fun e=>h e.symm
   rw[if_neg h,xU d a s l (i+1)];simp[h']
theorem yG (d:Dc)(a:Int)(s:List UInt8):∀(l:List Fu)(i:Nat),(sN d a s l i).isSome=decide (s∈l.map Fu.nm)
 |[],_=>by simp[sN]
 |c::l,i=>by
  simp only[sN]
  by_cases h:c.nm=s
  ·simp[h]
  ·have h':¬s=c.nm:=fun e=>h e.symm
   rw[if_neg h,yG d a s l (i+1)];simp[h']
theorem aLb (d:Dc)(a:Int)(s:List UInt8):bI s (kZ d a)=if s∈aW d then some (wT d a s) else none:=by
 unfold kZ aW wT
 by_cases h1:d.k=0\/d.k=1\/d.k=2
 ·simp only[h1,if_true,bI,List.mem_singleton]
  by_cases h:d.nm=s
  ·simp[h]
  ·have h':¬s=d.nm:=fun e=>h e.symm
   simp[h,h']
 ·by_cases h2:d.k=3
  ·rw[if_neg h1,if_neg h1,if_neg h1,if_pos h2,if_pos h2,if_pos h2];simp only[bI,kP,aEe]
   by_cases h:d.nm=s
   ·simp[h]
   ·have h':¬s=d.nm:=fun e=>h e.symm
    rw[if_neg h];have hc:=xU d a s d.cs 0
    cases hx:sM d a s d.cs 0 with
    |some e=>
     rw[hx] at hc;have hm:s∈d.cs.map Ct.nm:=by simpa using hc.symm
     have hm2:s∈d.nm::(d.cs.map Ct.nm++[d.nm++aIp]):=bNr _ (bNl _ hm);rw[if_pos hm2,if_neg h'];simp
    |none=>
     rw[hx] at hc;have hm:¬s∈d.cs.map Ct.nm:=by simpa using hc.symm
     by_cases hr:d.nm++aIp=s
     ·have hm2:s∈d.nm::(d.cs.map Ct.nm++[d.nm++aIp]):=bNr _ (List.mem_append_right _ (by simp[hr]));rw[if_pos hm2,if_neg h',if_pos hr];simp
     ·have hm2:¬s∈d.nm::(d.cs.map Ct.nm++[d.nm++aIp]):=by
       simp only[bMh,bMo,List.not_mem_nil,or_false,not_or];exact⟨h',hm,fun e=>hr e.symm⟩
      rw[if_neg hm2,if_neg hr]
  ·by_cases h3:d.k=4
   ·rw[if_neg h1,if_neg h1,if_neg h1,if_neg h2,if_neg h2,if_neg h2,if_pos h3,if_pos h3];rw[aEf];have hc:=yG d a s d.fs 0
    cases hx:sN d a s d.fs 0 with
    |some e=>
     rw[hx] at hc;have hm:s∈d.fs.map Fu.nm:=by simpa using hc.symm
     rw[if_pos hm];simp
    |none=>
     rw[hx] at hc;have hm:¬s∈d.fs.map Fu.nm:=by simpa using hc.symm
     rw[if_neg hm]
   ·rw[if_neg h1,if_neg h1,if_neg h2,if_neg h2,if_neg h3,if_neg h3];simp[bI]
theorem yC (s:List UInt8):∀(env:List Dc)(i:Nat),qE s env i=dX s env i
 |[],_=>rfl
 |d::env,i=>by
  simp only[qE,dX,aLb]
  by_cases h:s∈aW d
  ·simp[h]
  ·simp only[if_neg h];exact yC s env (i+1)
def EnOk (env:List Dc)(i:Nat)(e:En):Prop:=∃(j:Nat)(d:Dc),e.at_=((i+j:Nat):Int)/\env[j]?=some d/\0<=e.it/\(e.k=4->e.it<d.cs.length)/\((e.k=3\/e.k=4\/e.k=5)->d.k=3)
theorem aJe (d:Dc)(a:Int)(s:List UInt8):∀(l:List Ct)(i:Nat)(e:En),sM d a s l i=some e->e.k=4/\e.at_=a/\(i:Int)<=e.it/\e.it<i+l.length
 |[],_,_,h=>by simp[sM] at h
 |c::l,i,e,h=>by
  simp only[sM] at h;split at h
  ·cases h;exact⟨rfl,rfl,by simp,by simp;omega⟩
  ·have:=aJe d a s l (i+1) e h;simp only[bM2];exact⟨this.1,this.2.1,by omega,by omega⟩
theorem aLi (d:Dc)(a:Int)(s:List UInt8):∀(l:List Fu)(i:Nat)(e:En),sN d a s l i=some e->e.k=6/\e.at_=a/\(i:Int)<=e.it
 |[],_,_,h=>by simp[sN] at h
 |c::l,i,e,h=>by
  simp only[sN] at h;split at h
  ·cases h;exact⟨rfl,rfl,by simp⟩
  ·have:=aLi d a s l (i+1) e h;exact⟨this.1,this.2.1,by omega⟩
theorem aVk (d:Dc)(a:Int)(s:List UInt8)(_hs:s∈aW d):(wT d a s).at_=a/\0<=(wT d a s).it/\((wT d a s).k=4->(wT d a s).it<d.cs.length)/\(((wT d a s).k=3\/(wT d a s).k=4\/(wT d a s).k=5)->d.k=3):=by
 unfold wT
 by_cases h1:d.k=0\/d.k=1\/d.k=2
 ·rw[if_pos h1];exact⟨rfl,by simp,fun h=>by simp only at h;omega,fun h=>by simp only at h;omega⟩
 ·rw[if_neg h1]
  by_cases h2:d.k=3
  ·rw[if_pos h2];split
   ·exact⟨rfl,by simp,fun h=>by simp at h,fun _=>h2⟩
   ·cases hx:sM d a s d.cs 0 with
    |none=>exact⟨rfl,by simp,fun h=>by simp at h,fun _=>h2⟩
    |some e=>
     have:=aJe d a s d.cs 0 e hx;simp only[bMc];exact⟨this.2.1,by omega,fun _=>by omega,fun _=>h2⟩
  ·rw[if_neg h2]
   cases hx:sN d a s d.fs 0 with
   |none=>exact⟨rfl,by simp,fun h=>by simp at h,fun h=>by simp at h⟩
   |some e=>
    have:=aLi d a s d.fs 0 e hx;simp only[bMc];exact⟨this.2.1,by omega,fun h=>by omega,fun h=>by omega⟩
theorem lV (s:List UInt8):∀(env:List Dc)(i:Nat)(e:En),dX s env i=some e->EnOk env i e
 |[],_,_,h=>by simp[dX] at h
 |d::env,i,e,h=>by
  simp only[dX] at h;split at h
  ·rename_i hs;cases h;have:=aVk d i s hs;exact⟨0,d,by rw[this.1];simp,rfl,this.2⟩
  ·obtain⟨j,d',h1,h2,h3⟩:=lV s env (i+1) e h;exact⟨j+1,d',by rw[h1];congr 1;omega,by simpa using h2,h3⟩
end Go.Proofs.YtplomildbmcmfaaGreat
namespace Go.AI
open Go
@[simp] theorem bA7 (a b:List UInt8):(ByteArray.mk a.toArray++ByteArray.mk b.toArray)=ByteArray.mk (a++b).toArray:=by
 apply ByteArray.ext;simp
@[simp] theorem bGc (a:List UInt8):(ByteArray.mk a.toArray).size=a.length:=by simp[ByteArray.size]
end Go.AI
namespace Go.Proofs.YtplomildbmcmfaaGreat
open Go Go.AI
theorem nR (l:List (List UInt8)):∀e∈dR l,e.length=1:=by
 intro e he;obtain⟨z,_,rfl⟩:=bMr.1 he
 rfl
theorem uH (l:List (List UInt8))(s:List UInt8):dR l++[[sP s]]=dR (l++[s]):=by simp[dR]
@[simp] theorem aUp (l:List Ct) (j:Nat):(l.map Ct.cells)[j]?=(l[j]?).map Ct.cells:=aA
theorem aLy (k:Int):k=0\/k=1\/k=2\/k=3\/k=4\/((k==0)=false/\(k==1)=false/\(k==2)=false/\(k==3)=false/\(k==4)=false):=by simp;omega
set_option maxHeartbeats 8000000 in
theorem qR (h:Heap)(hh:WF h)(d:Dc)(hn:d.nm.length<=1099511627776)(hc:d.cs.length<=1048576)(hf:d.fs.length<=1048576):ACalls Tryz.prog 251 [d.av] h fun o h'=>o= .ret (.p (.sl 1 (dR (aW d))))/\h'=h:=by
 have hk:=aLy d.k;obtain⟨r,hr⟩:∃r,r=aW d:=⟨_,rfl⟩;rw[<-hr];unfold aW at hr;obtain⟨k,nm,ps,⟨k1,i1,n1,l1,s1⟩,⟨k2,i2,n2,l2,s2⟩,fx,cs,rp,⟨k3,i3,n3,l3,s3⟩,rr,fs⟩:=d;simp only at hn hc hf hr hk;simp only[Dc.av,Dc.cells,cells_mk,List.map,bLz,bM4];refine dE Tryz.func251 Tryz.ntmps251 ?_;rcases hk with rfl|rfl|rfl|rfl|rfl|⟨e0,e1,e2,e3,e4⟩
 ·rw[if_pos aB] at hr;refine znrt ?_;refine zt ?_;refine yi ?_;exact y28
 ·rw[if_pos aB] at hr;refine znrfrt ?_;refine zt ?_;refine yi ?_;exact y28
 ·rw[if_pos aB] at hr;refine znrfrfrt ?_;refine yi ?_;exact y28
 ·rw[if_neg aB,if_pos rfl] at hr;refine aAi ?_;refine yl ?_;refine yl ?_;refine zt ?_;refine Run.regPre 2 fun K J=>?_
  refine yd ?_;simp;refine zi ?_;clear J;refine yb ?_;refine Run.buildV (sz:=1) (es:=[[sP nm]]) rfl (by simp[awanted]) aA aA ?_;refine zs ?_;refine zor ?_
  refine Run.loopS [1] (fun j:Nat=>j<=cs.length) (fun j=>cs.length-j) (fun j=>[(3, .vec (h.length+1) (j+1)),(4,iA j)])
   (fun j=>h++[some (.cells [iA 3, .p (sP nm),iA ps, .p (iP k1), .p (iP i1), .p (sP n1), .p (.sl 2 (lvPs l1)), .p (.sl 5 (tmPs s1)), .p (iP k2), .p (iP i2), .p (sP n2), .p (.sl 2 (lvPs l2)), .p (.sl 5 (tmPs s2)),iA fx, .p (.sl 6 (cs.map Ct.cells)),iA rp, .p (iP k3), .p (iP i3), .p (sP n3), .p (.sl 2 (lvPs l3)), .p (.sl 5 (tmPs s3)), .p (.sl 5 (tmPs rr)), .p (.sl 15 (fs.map Fu.cells))]),some (.vec 1 (dR (nm::(cs.take j).map Ct.nm)))]) 0 aA ?_ (by simp[dR]) ?_
  ·exact zS
  intro j hj IH;refine cK ?_
  by_cases hjl:j<cs.length
  ·have hg:cs[j]?=some cs[j]:=bLv hjl;have htk:cs.take (j+1)=cs.take j++[cs[j]]:=bM6 hjl;have hmin:min j cs.length=j:=bNc hj;obtain⟨⟨x,y⟩,hxy⟩:∃c,cs[j]=c:=⟨_,rfl⟩;rw[hxy] at hg htk;refine znt1 hjl ?_;refine Run.regPre 8 fun K J=>?_
   refine yd ?_;simp[hg,Ct.cells];refine zi ?_;clear J;refine yb ?_;refine Run.appendV (id:=h.length+1) (es:=dR (nm::(cs.take j).map Ct.nm)) (ys:=[[sP x]]) (sz:=1) (by_:=16) (e:=9) rfl (by simp[awanted]) rfl rfl rfl rfl (by simp[hmin]) aA (nR _) aA aA aA (by simp;omega) (by simp;omega) ?_;simp[hmin];refine zor ?_;refine IH (j+1) _ _ aB aB ?_ ?_
   ·exact zS
   ·rw[htk];simp[dR]
  ·have hje:j=cs.length:=aB;subst hje;have hsz:nm.length+4<=9223372036854775807:=aB;have htl:List.take cs.length (cs.map Ct.nm)=cs.map Ct.nm:=bM7 aA;rw[htl];refine znfen ?_;refine Run.regPre 5 fun K J=>?_
   refine yd ?_;simp[hsz];refine zi ?_;clear J;refine yb ?_;refine Run.appendV (id:=h.length+1) (es:=dR (nm::cs.map Ct.nm)) (ys:=[[sP (nm++aIp)]]) (sz:=1) (by_:=16) (e:=9) rfl (by simp[awanted]) rfl rfl rfl rfl aA aA (nR _) (by simp[aIp]) aA aA (by simp;omega) (by simp;omega) ?_;refine zs ?_;refine zo ?_;refine Run.keep [2] ?_;simp;refine Run.freezeV 2 (id:=h.length+1) (n:=cs.length+1+1) (sz:=1) (es:=dR (nm::cs.map Ct.nm)++[[sP (nm++aIp)]]) aA aA (by rw[uH];exact nR _) aA ?_;simp;refine Run.ret ?_;refine zF1 hh ?_;exact⟨by rw[hr,uH];rfl,rfl⟩
 ·rw[if_neg aB,if_neg aB,if_pos rfl] at hr;refine aAi ?_;refine yl ?_;refine yl ?_;refine yl ?_;refine zt ?_;refine zr ?_;refine Run.tok 5 1 aA ?_;refine cK ?_
  refine Run.loopS [1] (fun j:Nat=>j<=fs.length) (fun j=>fs.length-j) (fun j=>[(5, .own (h.length+1) 1 (dR ((fs.take j).map Fu.nm))),(6,iA j)])
   (fun j=>h++[some (.cells [iA 4, .p (sP nm),iA ps, .p (iP k1), .p (iP i1), .p (sP n1), .p (.sl 2 (lvPs l1)), .p (.sl 5 (tmPs s1)), .p (iP k2), .p (iP i2), .p (sP n2), .p (.sl 2 (lvPs l2)), .p (.sl 5 (tmPs s2)),iA fx, .p (.sl 6 (cs.map Ct.cells)),iA rp, .p (iP k3), .p (iP i3), .p (sP n3), .p (.sl 2 (lvPs l3)), .p (.sl 5 (tmPs s3)), .p (.sl 5 (tmPs rr)), .p (.sl 15 (fs.map Fu.cells))]),some (.tok j 1)]) 0 aA ?_ aA ?_
  ·simp[dR];exact zK
  intro j hj IH;refine cK ?_
  by_cases hjl:j<fs.length
  ·have hg:fs[j]?=some fs[j]:=bLv hjl;have htk:fs.take (j+1)=fs.take j++[fs[j]]:=bM6 hjl;have hmin:min j fs.length=j:=bNc hj;have hb1:(j+1)*16<=140737488355328:=aB;have hb2:j+1<=9223372036854775807:=aB;obtain⟨⟨x,y,z,w⟩,hxy⟩:∃c,fs[j]=c:=⟨_,rfl⟩;rw[hxy] at hg htk;refine znt1 hjl ?_;refine bLs hg hmin hb1 hb2 ?_;refine zr ?_;refine IH (j+1) _ _ aB aB ?_ ?_
   ·rw[htk];simp[dR];exact zK
   ·simp
  ·have hje:j=fs.length:=aB;subst hje;have htl:List.take fs.length (fs.map Fu.nm)=fs.map Fu.nm:=bM7 aA;rw[htl];refine znfenrx ?_;exact Fin.ret' (h0:=h) (xs:=[.own (h.length+1) 1 (dR (fs.map Fu.nm))]) aA rfl hh rfl aA rfl (Weak.own _ _ _) aA ⟨by rw[hr],rfl⟩
 ·rw[if_neg (by simp at e0 e1 e2;omega),if_neg (by simpa using e3),if_neg (by simpa using e4)] at hr;refine cY e0 e1 e2 e3 ?_;refine zr1 e4 ?_;refine zf ?_;refine yi ?_;exact Fin.ret' (h0:=h) (xs:=[.p (.prim (.slice none 0 0))]) aA rfl hh rfl aA rfl (Weak.nil 1) aA ⟨by rw[hr];rfl,rfl⟩
end Go.Proofs.YtplomildbmcmfaaGreat
