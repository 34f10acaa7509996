import Derived.Test.YtplomildbmcmfaaGreatZA0
import Derived.Test.YtplomildbmcmfaaGreatZG1
import Derived.Test.YtplomildbmcmfaaGreatZE13
import Derived.Test.YtplomildbmcmfaaGreatProg
import Derived.Shelf.Lays
import Derived.KernelRfl
import Derived.Test.YtplomildbmcmfaaGreatZM1
import Derived.Test.YtplomildbmcmfaaGreatZEVc
import Derived.Test.YtplomildbmcmfaaGreatZEVq
set_option maxRecDepth 8000
set_option maxHeartbeats 8000000
namespace Go.Proofs.YtplomildbmcmfaaGreat
open Go Go.AI
mutual
def lJ (vs:List Tm)(e n d:Int):Tm->Tm×Int×Int
 | .mk k i nm ls ks=>
  if 4096<n then(.mk k i nm ls ks,e,n)
  else if k=0 then
   (if d<=i then
    (match vs[(i-d).toNat]? with
     |some x=>(dQ d 0 0 x,gH (bE d 0 0 x) e,n+x.size)
     |none=>(vr (i-vs.length),gH (decide (65535<i-vs.length)) e,n+1))
   else(.mk k i nm ls ks,e,n+1))
  else(.mk k i nm ls (cV vs e (n+1) d k 0 ks).1,(cV vs e (n+1) d k 0 ks).2.1,(cV vs e (n+1) d k 0 ks).2.2)
def cV (vs:List Tm)(e n d k:Int)(idx:Nat):List Tm->List Tm×Int×Int
 |[]=>([],e,n)
 |t::ts=>
  ((lJ vs e n (d+aI k idx) t).1::(cV vs (lJ vs e n (d+aI k idx) t).2.1 (lJ vs e n (d+aI k idx) t).2.2 d k (idx+1) ts).1,
   (cV vs (lJ vs e n (d+aI k idx) t).2.1 (lJ vs e n (d+aI k idx) t).2.2 d k (idx+1) ts).2.1,
   (cV vs (lJ vs e n (d+aI k idx) t).2.1 (lJ vs e n (d+aI k idx) t).2.2 d k (idx+1) ts).2.2)
end
theorem uG (vs:List Tm)(d k:Int):∀(l:List Tm)(e n:Int)(idx:Nat)(t:Tm),
  cV vs e n d k idx (l++[t])=((cV vs e n d k idx l).1++[(lJ vs (cV vs e n d k idx l).2.1 (cV vs e n d k idx l).2.2 (d+aI k (idx+l.length:Nat)) t).1],
   (lJ vs (cV vs e n d k idx l).2.1 (cV vs e n d k idx l).2.2 (d+aI k (idx+l.length:Nat)) t).2.1,(lJ vs (cV vs e n d k idx l).2.1 (cV vs e n d k idx l).2.2 (d+aI k (idx+l.length:Nat)) t).2.2)
 |[],e,n,idx,t=>by simp[cV]
 |x::l,e,n,idx,t=>by simp only[bLz,cV,uG vs d k l _ _ (idx+1) t];simp[bO0,bOn 1]
theorem oN (vs:List Tm)(d k:Int):∀(l:List Tm)(e n:Int)(idx:Nat),(cV vs e n d k idx l).1.length=l.length
 |[],e,n,idx=>rfl
 |x::l,e,n,idx=>by simp[cV,oN vs d k l]
mutual
def aIq (vs:List Tm)(d:Int):Tm->Tm
 | .mk k i nm ls ks=>
  if k=0 then(if d<=i then(match vs[(i-d).toNat]? with|some x=>dQ d 0 0 x|none=>vr (i-vs.length)) else .mk k i nm ls ks)
  else .mk k i nm ls (aI6 vs d k 0 ks)
def aI6 (vs:List Tm)(d k:Int)(idx:Nat):List Tm->List Tm
 |[]=>[]
 |t::ts=>aIq vs (d+aI k idx) t::aI6 vs d k (idx+1) ts
end
mutual
def fE (vs:List Tm)(d:Int):Tm->Bool
 | .mk k i _ _ ks=>
  if k=0 then(if d<=i then(match vs[(i-d).toNat]? with|some x=>bE d 0 0 x|none=>decide (65535<i-vs.length)) else false)
  else eY vs d k 0 ks
def eY (vs:List Tm)(d k:Int)(idx:Nat):List Tm->Bool
 |[]=>false
 |t::ts=>fE vs (d+aI k idx) t||eY vs d k (idx+1) ts
end
mutual
def cR (vs:List Tm)(d:Int):Tm->Nat
 | .mk k i _ _ ks=>
  if k=0 then(if d<=i then(match vs[(i-d).toNat]? with|some x=>x.size|none=>1) else 1)
  else 1+dS vs d k 0 ks
def dS (vs:List Tm)(d k:Int)(idx:Nat):List Tm->Nat
 |[]=>0
 |t::ts=>cR vs (d+aI k idx) t+dS vs d k (idx+1) ts
end
theorem pZ (e:Int):gH false e=e:=rfl
mutual
theorem vZ (vs:List Tm):∀(t:Tm)(e n d:Int),(n+cR vs d t<=4096->lJ vs e n d t=(aIq vs d t,gH (fE vs d t) e,n+cR vs d t))/\(4096<n+cR vs d t->4096<(lJ vs e n d t).2.2)
 | .mk k i nm ls ks,e,n,d=>by
  simp only[lJ,aIq,fE,cR]
  by_cases hn:4096<n
  ·simp only[hn,if_true];exact⟨fun h=>by omega,fun _=>by first|trivial|exact hn⟩
  simp only[hn,if_false]
  by_cases hk:k=0
  ·simp only[hk,if_true]
   by_cases hd:d<=i
   ·simp only[hd,if_true]
    cases vs[(i-d).toNat]? with
    |some x=>simp
    |none=>simp
   ·simp only[hd,if_false];simp[pZ]
  ·simp only[hk,if_false];have:=rB vs ks e (n+1) d k 0;refine⟨fun h=>?_,fun h=>this.2 aB⟩;rw[this.1 aB];simp;omega
theorem rB (vs:List Tm):∀(ks:List Tm)(e n d k:Int)(idx:Nat),(n+dS vs d k idx ks<=4096->cV vs e n d k idx ks=(aI6 vs d k idx ks,gH (eY vs d k idx ks) e,n+dS vs d k idx ks))/\(4096<n+dS vs d k idx ks->4096<(cV vs e n d k idx ks).2.2)
 |[],e,n,d,k,idx=>by simp[cV,aI6,eY,dS,pZ]
 |t::ts,e,n,d,k,idx=>by
  simp only[cV,aI6,eY,dS];have h1:=vZ vs t e n (d+aI k idx)
  by_cases hc:n+cR vs (d+aI k idx) t<=4096
  ·rw[h1.1 hc];simp only;have h2:=rB vs ts (gH (fE vs (d+aI k idx) t) e) (n+cR vs (d+aI k idx) t) d k (idx+1);refine⟨fun h=>?_,fun h=>h2.2 aB⟩;rw[h2.1 aB,qA];simp;omega
  ·have h3:=h1.2 aB;have h2:=rB vs ts (lJ vs e n (d+aI k idx) t).2.1 (lJ vs e n (d+aI k idx) t).2.2 d k (idx+1);exact⟨fun h=>by omega,fun h=>h2.2 aB⟩
end
def cT (dp:Int):Int:=if 65536<dp then 65536 else dp
theorem aTt {vs:List Tm} {i b dp:Int} (h0:0<=dp)(hi:i<65536+b)(hd:cT dp+b<=i):
  (∀x,vs[(i-(cT dp+b)).toNat]?=some x->(0<=i-b-dp/\i-b-dp<vs.length)/\vs[(i-b-dp).toNat]?=some x/\cT dp+b=dp+b)/\
  (vs[(i-(cT dp+b)).toNat]?=none->¬(0<=i-b-dp/\i-b-dp<vs.length))/\cT dp=dp:=by
 have hc:cT dp=dp:=by unfold cT at*;split at hd<;>split<;>omega
 rw[hc] at hd⊢;rw[show i-(dp+b)=i-b-dp by omega];refine⟨fun x hx=>?_,fun hx=>?_,rfl⟩
 ·have:=(bLw.1 hx).1;exact⟨by omega,hx,rfl⟩
 ·rw[bOi] at hx;omega
mutual
theorem aAy (vs:List Tm)(hvl:vs.length<=1048576)(hvs:∀v∈vs,v.size<=1099511627776)(dp:Int)(h0:0<=dp)(h1:dp<=9223372036854775807):
  ∀(t:Tm) (s b:Int),t.ok (65536+b)->0<=b->b+t.size<=1099511627776->0<=s->s<=4096->
   (s+cR vs (cT dp+b) t<=4096->∃u,bld (gE dp (vs.map fun v=>(v.size:Int))) s t b= .ok u (s+cR vs (cT dp+b) t))/\
   (4096<s+cR vs (cT dp+b) t->∃s',bld (gE dp (vs.map fun v=>(v.size:Int))) s t b= .bad 5 s')
 | .mk k i nm ls ks,s,b,hok,hb,hbs,hs0,hs1=>by
  simp only[Tm.ok,Tm.okN] at hok;simp only[Tm.size] at hbs;simp only[bld,cR]
  by_cases hk:k=0
  ·obtain⟨i1,i2,rfl,rfl,rfl⟩:=hok.1.1 hk;subst hk;have hvz:eR dp vs.length (.mk 0 i [] [] []) b=if 0<=i-b-dp/\i-b-dp<vs.length then i-b-dp else-1:=rX (len:=vs.length) (t:= .mk 0 i [] [] []) (b:=b) h0 h1 (by simp only[Tm.index];omega) (by simp only[Tm.index];omega) hvl
   have hcnt:aJa dp (vs.map fun v=>(v.size:Int)) (.mk 0 i [] [] []) b=(if cT dp+b<=i then(match vs[(i-(cT dp+b)).toNat]? with|some x=>x.size|none=>1) else 1:Nat):=by
    simp only[aJa,Tm.kind,bMp,hvz,true_and]
    by_cases hd:cT dp+b<=i
    ·simp only[hd,if_true];have hv:=aTt (vs:=vs) h0 i2 hd
     cases hx:vs[(i-(cT dp+b)).toNat]? with
     |some x=>
      obtain⟨c1,c2,_⟩:=hv.1 x hx;rw[if_pos c1,if_pos aB];simp[c2]
     |none=>
      rw[if_neg (hv.2.1 hx),if_neg aB];rfl
    ·simp only[hd,if_false];have:¬(0<=i-b-dp/\i-b-dp<vs.length):=by unfold cT at hd;split at hd<;>omega
     rw[if_neg this,if_neg aB];rfl
   have hbd:(if cT dp+b<=i then(match vs[(i-(cT dp+b)).toNat]? with|some x=>x.size|none=>1) else 1:Nat)<=1099511627776:=by
    split
    ·split
     ·rename_i x hx;exact hvs x (bMa hx)
     ·omega
    ·omega
   simp only[gE,hcnt,if_true,Tm.kind];generalize (if cT dp+b<=i then(match vs[(i-(cT dp+b)).toNat]? with|some x=>x.size|none=>1) else 1:Nat)=z at*;rw[wrap_id (n:=s+z) aB aB];constructor
   ·intro h;rw[if_neg aB];exact⟨_,rfl⟩
   ·intro h;rw[if_pos h];exact⟨_,rfl⟩
  ·simp only[hk,if_false]
   have hcnt:aJa dp (vs.map fun v=>(v.size:Int)) (.mk k i nm ls ks) b=1:=by
    simp only[aJa,Tm.kind,hk,false_and,if_false]
   simp only[gE,hcnt,Tm.kind,hk,if_false];rw[wrap_id (n:=s+1) aB aB]
   by_cases h5:4096<s+1
   ·simp only[h5,if_true];exact⟨fun h=>by omega,fun _=>⟨_,rfl⟩⟩
   simp only[h5,if_false];have:=aDu vs hvl hvs dp h0 h1 ks (s+1) b k 0 hok.2 hb aB aB aB;constructor
   ·intro h;obtain⟨u,hu⟩:=this.1 aB;rw[hu];simp only;exact⟨_,by congr 1;omega⟩
   ·intro h;obtain⟨s',hu⟩:=this.2 aB;rw[hu];exact⟨_,rfl⟩
theorem aDu (vs:List Tm)(hvl:vs.length<=1048576)(hvs:∀v∈vs,v.size<=1099511627776)(dp:Int)(h0:0<=dp)(h1:dp<=9223372036854775807):
  ∀(ks:List Tm) (s b k:Int) (idx:Nat),Tm.oks (65536+b) k idx ks->0<=b->b+1+Tm.sizes ks<=1099511627776->0<=s->s<=4096->
   (s+dS vs (cT dp+b) k idx ks<=4096->∃u,kY (gE dp (vs.map fun v=>(v.size:Int))) s k b idx ks= .ok u (s+dS vs (cT dp+b) k idx ks))/\
   (4096<s+dS vs (cT dp+b) k idx ks->∃s',kY (gE dp (vs.map fun v=>(v.size:Int))) s k b idx ks= .bad 5 s')
 |[],s,b,k,idx,_,_,_,_,_=>by
  simp only[kY,dS];exact⟨fun _=>⟨_,by simp;rfl⟩,fun h=>by omega⟩
 |t::ts,s,b,k,idx,hok,hb,hbs,hs0,hs1=>by
  simp only[Tm.oks] at hok;simp only[Tm.sizes] at hbs;simp only[kY,dS];have hz:=bL k idx;have e1:=aAy vs hvl hvs dp h0 h1 t s (b+aI k idx) (by rw[<-Int.add_assoc];exact hok.1) aB aB hs0 hs1;rw[<-Int.add_assoc] at e1
  by_cases hc:s+cR vs (cT dp+b+aI k idx) t<=4096
  ·obtain⟨u,hu⟩:=e1.1 hc;rw[hu];simp only;have e2:=aDu vs hvl hvs dp h0 h1 ts (s+cR vs (cT dp+b+aI k idx) t) b k (idx+1) hok.2 hb aB aB hc;constructor
   ·intro h;obtain⟨u2,hu2⟩:=e2.1 aB;rw[hu2];simp only;exact⟨_,by congr 1;omega⟩
   ·intro h;obtain⟨s2,hu2⟩:=e2.2 aB;rw[hu2];exact⟨_,rfl⟩
  ·obtain⟨s',hu⟩:=e1.2 aB;rw[hu];exact⟨fun h=>by omega,fun _=>⟨_,rfl⟩⟩
end
mutual
theorem aAz (vs:List Tm)(hvl:vs.length<=1048576)(hvo:∀v∈vs,v.ok 65536)(dp:Int)(h0:0<=dp)(h1:dp<=9223372036854775807):
  ∀(t:Tm) (s b:Int),t.ok (65536+b)->0<=b->b+t.size<=1099511627776->
   bld (cX (dB dp vs)) s t b=if fE vs (cT dp+b) t=true then .bad 24 s else .ok (aIq vs (cT dp+b) t) s
 | .mk k i nm ls ks,s,b,hok,hb,hbs=>by
  simp only[Tm.ok,Tm.okN] at hok;simp only[Tm.size] at hbs;simp only[bld,fE,aIq]
  by_cases hk:k=0
  ·obtain⟨i1,i2,rfl,rfl,rfl⟩:=hok.1.1 hk;subst hk;have hvz:eR dp vs.length (.mk 0 i [] [] []) b=if 0<=i-b-dp/\i-b-dp<vs.length then i-b-dp else-1:=rX (len:=vs.length) (t:= .mk 0 i [] [] []) (b:=b) h0 h1 (by simp only[Tm.index];omega) (by simp only[Tm.index];omega) hvl
   obtain⟨v,hv0⟩:∃v,eR dp vs.length (.mk 0 i [] [] []) b=v:=⟨_,rfl⟩
   have hrep:dB dp vs s (.mk 0 i [] [] []) b=if 0<=v then(match vs[v.toNat]? with
     |some x=>(match gV (dp+b) 0 x with
      | .ok t' _=> .ok t' s
      | .bad e _=> .bad e s)
     |none=> .ok (.mk 0 i [] [] []) s)
    else if i-b<dp then .ok (.mk 0 i [] [] []) s
    else if 65535<i-vs.length then .bad 24 s else .ok (vr (i-vs.length)) s:=by rw[<-hv0];rfl
   rw[hv0] at hvz;simp only[cX,Tm.kind,if_true,hrep]
   by_cases hd:cT dp+b<=i
   ·simp only[hd,if_true];have hv:=aTt (vs:=vs) h0 i2 hd
    cases hx:vs[(i-(cT dp+b)).toNat]? with
    |some x=>
     obtain⟨c1,c2,c3⟩:=hv.1 x hx;rw[if_pos c1] at hvz;rw[if_pos (show 0<=v by omega),hvz,c2,c3];simp only[gV];rw[pP (dp+b) 0 0 aA x 0 0 (by simpa using hvo x (bMa hx))]
     by_cases hbad:bE (dp+b) 0 0 x=true
     ·simp[hbad]
     ·simp[hbad]
    |none=>
     have hc:=hv.2.1 hx;have hcap:=hv.2.2;rw[if_neg hc] at hvz;rw[if_neg (show¬0<=v by omega),if_neg (show¬i-b<dp by omega)]
     by_cases h5:65535<i-vs.length
     ·simp[h5]
     ·simp[h5]
   ·simp only[hd,if_false];have:¬(0<=i-b-dp/\i-b-dp<vs.length):=by unfold cT at hd;split at hd<;>omega
    rw[if_neg this] at hvz;rw[if_neg (show¬0<=v by omega),if_pos (show i-b<dp by unfold cT at hd;split at hd<;>omega)];simp
  ·simp only[cX,Tm.kind,hk,if_false,Tm.bare];have e:=aDw vs hvl hvo dp h0 h1 ks s b k 0 hok.2 hb aB;simp only[e]
   by_cases hbad:eY vs (cT dp+b) k 0 ks=true
   ·simp[hbad]
   ·simp[hbad,Tm.withKids]
theorem aDw (vs:List Tm)(hvl:vs.length<=1048576)(hvo:∀v∈vs,v.ok 65536)(dp:Int)(h0:0<=dp)(h1:dp<=9223372036854775807):
  ∀(ks:List Tm) (s b k:Int) (idx:Nat),Tm.oks (65536+b) k idx ks->0<=b->b+1+Tm.sizes ks<=1099511627776->
   kY (cX (dB dp vs)) s k b idx ks=if eY vs (cT dp+b) k idx ks=true then .bad 24 s else .ok (aI6 vs (cT dp+b) k idx ks) s
 |[],s,b,k,idx,_,_,_=>by simp[kY,eY,aI6]
 |t::ts,s,b,k,idx,hok,hb,hbs=>by
  simp only[Tm.oks] at hok;simp only[Tm.sizes] at hbs;simp only[kY,eY,aI6];have hz:=bL k idx;have e1:=aAz vs hvl hvo dp h0 h1 t s (b+aI k idx) (by rw[<-Int.add_assoc];exact hok.1) aB aB;rw[<-Int.add_assoc] at e1;rw[e1]
  by_cases hb1:fE vs (cT dp+b+aI k idx) t=true
  ·simp[hb1]
  ·rw[if_neg hb1];simp only;rw[aDw vs hvl hvo dp h0 h1 ts s b k (idx+1) hok.2 hb aB];rw[Bool.not_eq_true] at hb1
   by_cases hb2:eY vs (cT dp+b) k (idx+1) ts=true
   ·simp[hb1,hb2]
   ·simp[hb1,hb2]
end
def aM (t:Tm)(vs:List Tm)(dp:Int):Tm×Int:=
 if dp<0 then(zT,2)
 else if 4096<(lJ vs 0 0 (cT dp) t).2.2 then(zT,5)
 else if(lJ vs 0 0 (cT dp) t).2.1≠0 then(zT,(lJ vs 0 0 (cT dp) t).2.1)
 else if 200<((lJ vs 0 0 (cT dp) t).1.depth:Int) then(zT,7) else((lJ vs 0 0 (cT dp) t).1,0)
def zM (t:Tm)(vs:List Tm)(d:Int):Tm×Int:=
 if 4096<(cR vs d t:Int) then(zT,5) else if fE vs d t=true then(zT,24) else if 200<((aIq vs d t).depth:Int) then(zT,7) else(aIq vs d t,0)
theorem jS (t:Tm)(vs:List Tm)(dp:Int)(h0:0<=dp):aM t vs dp=zM t vs (cT dp):=by
 have hr:=vZ vs t 0 0 (cT dp);rw[aM,if_neg aB,zM]
 by_cases hc:4096<(cR vs (cT dp) t:Int)
 ·rw[if_pos (hr.2 aB),if_pos hc]
 ·rw[hr.1 aB,if_neg (by simp only;omega),if_neg hc]
  cases fE vs (cT dp) t<;>simp[gH,dN]
theorem aNe (t:Tm)(vs:List Tm)(dp:Int)(hok:t.ok 65536)(hsz:t.size<=1048576)(hvl:vs.length<=1048576)(hvo:∀v∈vs,v.ok 65536)(hvs:∀v∈vs,v.size<=1099511627776)(h1:dp<=9223372036854775807):
  eL t vs dp=aM t vs dp:=by
 by_cases h0:dp<0
 ·simp[eL,aM,h0]
 rw[jS t vs dp aB,eL,if_neg h0,zM];have hc:=aAy vs hvl hvs dp aB h1 t 0 0 (by simpa using hok) aB aB aB aB;have hs:=aAz vs hvl hvo dp aB h1 t 0 0 (by simpa using hok) aB aB;simp only[Int.add_zero,Int.zero_add] at hc hs
 by_cases h5:4096<(cR vs (cT dp) t:Int)
 ·obtain⟨s',hu⟩:=hc.2 h5;rw[hu,if_pos h5]
 ·obtain⟨u,hu⟩:=hc.1 aB;rw[hu,if_neg h5,hs];simp only
  by_cases hb:fE vs (cT dp) t=true
  ·simp[hb]
  ·simp[hb]
mutual
theorem rG (d f:Int):∀(t:Tm)(dp m:Int),t.ok m->(dQ d f dp t).size=t.size
 | .mk k i n ls ks,dp,m,h=>by
  simp only[Tm.ok,Tm.okN] at h;simp only[dQ]
  by_cases hk:k=0
  ·obtain⟨_,_,rfl,rfl,rfl⟩:=h.1.1 hk;simp only[hk,if_true];split
   ·rfl
   ·rfl
  ·simp only[hk,if_false,Tm.size];rw[rE d f ks dp k m 0 h.2]
theorem rE (d f:Int):∀(l:List Tm)(dp k m:Int)(idx:Nat),Tm.oks m k idx l->Tm.sizes (dH d f dp k idx l)=Tm.sizes l
 |[],dp,k,m,idx,_=>rfl
 |t::ts,dp,k,m,idx,h=>by
  simp only[Tm.oks] at h;simp only[dH,Tm.sizes];rw[rG d f t _ _ h.1,rE d f ts dp k m (idx+1) h.2]
end
mutual
theorem aA0 (d f:Int)(hf:0<=f):∀(t:Tm)(dp M m:Int),t.ok m->65536+dp<=M->m<=M->0<=dp->bE d f dp t=false->(dQ d f dp t).ok M
 | .mk k i n ls ks,dp,M,m,h,hM,hm,hdp,hb=>by
  simp only[Tm.ok,Tm.okN] at h;simp only[dQ];simp only[bE] at hb
  by_cases hk:k=0
  ·obtain⟨h1,h2,rfl,rfl,rfl⟩:=h.1.1 hk;simp only[hk,if_true] at hb⊢
   by_cases hc:i<f+dp\/i+d<f+dp
   ·rw[if_pos hc];simp only[Tm.ok,Tm.okN,Tm.oks];exact⟨⟨fun _=>⟨h1,by omega,trivial,trivial,trivial⟩,by simp,by simp,by simp⟩,trivial⟩
   ·rw[if_neg hc];simp only[vr,Tm.ok,Tm.okN,Tm.oks];simp at hb;exact⟨⟨fun _=>⟨by omega,by omega,trivial,trivial,trivial⟩,by simp,by simp,by simp⟩,trivial⟩
  ·simp only[hk,if_false] at hb⊢;simp only[Tm.ok,Tm.okN];have hl:(dH d f dp k 0 ks).length=ks.length:=iQ d f dp k ks 0;exact⟨⟨fun h0=>absurd h0 hk,h.1.2.1,h.1.2.2.1,by rw[hl];exact h.1.2.2.2⟩,zZ d f hf ks dp M m k 0 h.2 hM hm hdp hb⟩
theorem zZ (d f:Int)(hf:0<=f):∀(l:List Tm)(dp M m k:Int)(idx:Nat),Tm.oks m k idx l->65536+dp<=M->m<=M->0<=dp->aV d f dp k idx l=false->Tm.oks M k idx (dH d f dp k idx l)
 |[],dp,M,m,k,idx,_,_,_,_,_=>trivial
 |t::ts,dp,M,m,k,idx,h,hM,hm,hdp,hb=>by
  simp only[Tm.oks] at h;simp only[aV,bNn] at hb;have hz:=bL k idx;simp only[dH,Tm.oks];exact⟨aA0 d f hf t _ _ _ h.1 aB aB aB hb.1,zZ d f hf ts dp M m k (idx+1) h.2 hM hm hdp hb.2⟩
end
theorem rN (vs:List Tm)(d k:Int):∀(l:List Tm)(idx:Nat),(aI6 vs d k idx l).length=l.length
 |[],idx=>rfl
 |x::l,idx=>by simp[aI6,rN vs d k l]
mutual
theorem aNz (vs:List Tm)(hvo:∀v∈vs,v.ok 65536):∀(t:Tm)(d m:Int),t.ok m->0<=d->65536+d<=m->fE vs d t=false->(aIq vs d t).ok m/\(aIq vs d t).size=cR vs d t
 | .mk k i n ls ks,d,m,h,hd,hm,hb=>by
  have h':=h;simp only[Tm.ok,Tm.okN] at h;simp only[aIq,cR];simp only[fE] at hb
  by_cases hk:k=0
  ·obtain⟨h1,h2,rfl,rfl,rfl⟩:=h.1.1 hk;simp only[hk,if_true] at hb⊢
   by_cases hc:d<=i
   ·simp only[hc,if_true] at hb⊢
    cases hx:vs[(i-d).toNat]? with
    |some x=>
     rw[hx] at hb;simp only at hb⊢;have hxo:=hvo x (bMa hx);refine⟨aA0 d 0 aB x 0 m 65536 hxo aB aB aB hb,?_⟩;exact rG d 0 x 0 65536 hxo
    |none=>
     rw[hx] at hb;simp at hb;rw[bOi] at hx;simp only[vr,Tm.ok,Tm.okN,Tm.oks];exact⟨⟨⟨fun _=>⟨by omega,by omega,trivial,trivial,trivial⟩,by simp,by simp,by simp⟩,trivial⟩,rfl⟩
   ·simp only[hc,if_false];exact⟨by rw[<-hk];exact h',rfl⟩
  ·simp only[hk,if_false] at hb⊢;have hl:=rN vs d k ks 0;have:=aNy vs hvo ks d m k 0 h.2 hd hm hb;simp only[Tm.ok,Tm.okN,Tm.size];exact⟨⟨⟨fun h0=>absurd h0 hk,h.1.2.1,h.1.2.2.1,by rw[hl];exact h.1.2.2.2⟩,this.1⟩,by rw[this.2]⟩
theorem aNy (vs:List Tm)(hvo:∀v∈vs,v.ok 65536):∀(l:List Tm)(d m k:Int)(idx:Nat),Tm.oks m k idx l->0<=d->65536+d<=m->eY vs d k idx l=false->Tm.oks m k idx (aI6 vs d k idx l)/\Tm.sizes (aI6 vs d k idx l)=dS vs d k idx l
 |[],d,m,k,idx,_,_,_,_=>⟨trivial,rfl⟩
 |t::ts,d,m,k,idx,h,hd,hm,hb=>by
  simp only[Tm.oks] at h;simp only[eY,bNn] at hb;have hz:=bL k idx;have e1:=aNz vs hvo t (d+aI k idx) (m+aI k idx) h.1 aB aB hb.1;have e2:=aNy vs hvo ts d m k (idx+1) h.2 hd hm hb.2;simp only[aI6,Tm.oks,Tm.sizes,dS];exact⟨⟨e1.1,e2.1⟩,by rw[e1.2,e2.2]⟩
end
mutual
theorem nL:∀(t:Tm)(m M:Int),t.ok m->m<=M->t.ok M
 | .mk k i n ls ks,m,M,h,hM=>by
  simp only[Tm.ok,Tm.okN] at h⊢;exact⟨⟨fun hk=>by have:=h.1.1 hk;exact⟨this.1,by omega,this.2.2⟩,h.1.2⟩,aEw ks m M k 0 h.2 hM⟩
theorem aEw:∀(l:List Tm)(m M k:Int)(idx:Nat),Tm.oks m k idx l->m<=M->Tm.oks M k idx l
 |[],_,_,_,_,_,_=>trivial
 |t::ts,m,M,k,idx,h,hM=>by
  simp only[Tm.oks] at h⊢;exact⟨nL t _ _ h.1 aB,aEw ts m M k (idx+1) h.2 hM⟩
end
open Go Go.AI
def kI (l:List Int):List (List PV):=l.map fun x=>[iP x]
@[simp] theorem aTi (l:List Int):(kI l).length=l.length:=by simp[kI]
@[simp] theorem bCf (l:List Int) (i:Nat):(kI l)[i]?=(l[i]?).map fun x=>[iP x] :=by simp[kI]
end Go.Proofs.YtplomildbmcmfaaGreat
namespace Go.AI
open Go
theorem Run.weakAt {P:Program} {rd:Option Nat} {nb:Nat} {k:List It} {T:List AV} {h:Heap} {D:List AD} {Q:AX->List AV->Heap->List AD->Prop} (slot:Nat)(y:AV)(hw:Weak (tget T slot) y)(r:Run P rd nb k (T.set slot y) h D Q):Run P rd nb k T h D Q:=by
 refine Run.weak ?_ r;intro E w vs hT;have hv:=hT.get slot;rw[<-tget_eq] at hv;have hset:=hT.set (hw E w _ hv) slot
 have hsame:vs.set slot (vs.getD slot undef)=vs:=by
  apply bNj;intro j;refine y1t ?_;split
  ·rename_i e;subst e;rcases bNi slot vs.length with l|l
   ·simp[l]
   ·have l':¬slot<vs.length:=aB;simp[l']
  ·rfl
 rwa [hsame] at hset
end Go.AI
namespace Go.Proofs.YtplomildbmcmfaaGreat.aw03
open Go Go.AI
def lt:List Tm:=[.mk 3 0 [78,97,116] [] [], .mk 4 0 [] [] [vr 0,vr 1]]
def ls:List Lv:=[⟨0,[(1,0)]⟩]
def t3:Tm:= .mk 3 0 [78,97,116] [] [vr 0]
def t4:Tm:= .mk 0 7 [120] [] []
end Go.Proofs.YtplomildbmcmfaaGreat.aw03
namespace Go.Proofs.YtplomildbmcmfaaGreat
open Go Go.AI
mutual
theorem aXb (vs:List Tm):∀(t:Tm)(e n d:Int),0<=n->0<=(lJ vs e n d t).2.2
 | .mk k i nm ls ks,e,n,d,h=>by
  simp only[lJ];split
  ·exact h
  ·split
   ·split
    ·split
     ·simp only;omega
     ·simp only;omega
    ·simp only;omega
   ·exact vY vs ks e (n+1) d k 0 aB
theorem vY (vs:List Tm):∀(l:List Tm)(e n d k:Int)(idx:Nat),0<=n->0<=(cV vs e n d k idx l).2.2
 |[],e,n,d,k,idx,h=>h
 |t::ts,e,n,d,k,idx,h=>by
  simp only[cV];exact vY vs ts _ _ d k (idx+1) (aXb vs t e n _ h)
end
theorem aSn (vs:List Tm)(hvl:vs.length<=1048576)(hvs:∀v∈vs,v.size<=1048576/\v.idx)(N:Nat):
  ∀(t:Tm) (depth err nodes:Int) (h:Heap) (id:Nat),t.size<=N->t.size<=1048576->t.idx->0<=depth->depth+t.size<=1099511627776->0<=nodes->WF h->h[id]?=some (wk err nodes)->
  ACalls Tryz.prog 128 [.ptr id 0,t.av, .p (.sl 5 (tmPs vs)),iA depth] h fun o h'=>o= .ret (lJ vs err nodes depth t).1.av/\h'=h.set id (wk (lJ vs err nodes depth t).2.1 (lJ vs err nodes depth t).2.2):=by
 induction N with
 |zero=>intro t _ _ _ _ _ hN;have:=t.size_pos;omega
 |succ N ih=>
 intro t depth err nodes h id hN hB hidx hdp hdB hn0 hh hid;obtain⟨g1,g2,g3,g4,g5,hlt⟩:=idf hid;obtain⟨r,hr⟩:∃r,r=lJ vs err nodes depth t:=⟨_,rfl⟩;rw[<-hr];obtain⟨k,i,n,ls,ks⟩:=t;simp only[lJ] at hr;simp only[Tm.size] at hN hB hdB;simp only[Tm.idx] at hidx;refine ACalls.of_run Tryz.func128 rfl ?_;simp only[Tryz.ntmps128,bM2,bM3,Tm.av,cells_mk,List.map];refine wQ g1 ?_
 by_cases hn4:4096<nodes
 ·rw[if_pos hn4] at hr;subst hr;refine dV hn4 ?_;refine Fin.ret' (h0:=h) aA rfl hh rfl aE rfl (Weak.of_eq aA) aA ⟨rfl,by simp[iM hid]⟩
 rw[if_neg hn4] at hr;refine aFh hn4 ?_;have hw1:IntKind.i64.wrap (nodes+1)=nodes+1:=wrap_id aB aB
 by_cases hk0:k=0
 ·subst hk0;obtain⟨hi1,hi2⟩:=hidx.1 rfl;rw[if_pos rfl] at hr;have hwi:IntKind.i64.wrap (i-depth)=i-depth:=wrap_id aB aB
  by_cases hdi:depth<=i
  ·rw[if_pos hdi] at hr;have hz0:¬i-depth<0:=aB
   cases hx:vs[(i-depth).toNat]? with
   |some x=>
    rw[hx] at hr;simp only at hr;have hxm:=hvs x (bMa hx);have hxl:=(bLw.1 hx).1;have hlt2:i-depth<vs.length:=aB;have hsz:=fun(g:Heap) (hg:WF g)=>mK x.size x g (bLx _) aB hg
    have hsh:=fun(g:Heap) (hg:WF g) (hy:g[id]?=some (wk err (nodes+x.size)))=>aIi depth 0 aB aB aB aB (nodes+x.size) x.size x 0 err g id (bLx _) hxm.1 hxm.2 aB aB hg hy
    have hws:IntKind.i64.wrap (nodes+x.size)=nodes+x.size:=wrap_id aB aB;generalize dQ depth 0 0 x=q at hr hsh;generalize bE depth 0 0 x=bad at hr hsh;generalize x.size=z at hr hsz hsh hws;subst hr;obtain⟨qk,qi,qn,qls,qks⟩:=q;obtain⟨xk,xi,xn,xls,xks⟩:=x;refine zn ?_;refine zr3 hdi hwi hlt2 ?_;refine zt ?_;refine zr3 hwi hz0 hx ?_;refine Run.draw [0,0,0,0,0,0,1,1,1,1] [0,0,0,0,0,0,0,0,0,1] [0,1,3,7,0,16,63,127,255,511] [4,5,0,1,2,3,6,7,8,9] aC aC ?_;refine zd ?_;refine DR.call (args:=[(Tm.mk xk xi xn xls xks).av]) rfl rfl rfl aA rfl (hsz _ (hh.app aA)) ?_;refine zd3 g1 g2 hws ?_;refine y8 ?_;refine znr ?_;refine rl (args:=[.ptr id 0,(Tm.mk xk xi xn xls xks).av,iA depth,iA 0,iA 0]) rfl aF aA rfl (hsh _ ((hh.set aA).app aA) (g4 _ _)) ?_;simp only[g5];refine zox ?_;refine Fin.ret' (h0:=h.set id (wk (gH bad err) (nodes+z))) aA aA (hh.set aA) rfl aE rfl (Weak.of_eq aA) aA ⟨rfl,rfl⟩
   |none=>
    rw[hx] at hr;simp only at hr;rw[bOi] at hx;have hlt2:¬i-depth<vs.length:=aB;have hwl:IntKind.i64.wrap (i-vs.length)=i-vs.length:=wrap_id aB aB;refine zn ?_;refine zr3 hdi hwi hlt2 ?_;refine zf ?_;refine zr3 g1 g2 hw1 ?_;refine zr ?_;refine zt ?_;refine zr ?_;refine zt1 hdi ?_;refine zr1 hwl ?_;generalize i-(vs.length:Int)=z at hr;subst hr;refine rl (args:=[.ptr id 0,iA z]) rfl aF aA rfl (oQ _ ((hh.set aA).app aA) id err (nodes+1) z (g4 _ _)) ?_;simp only[g5];refine zov6 ?_;refine zx ?_;refine Fin.ret' (h0:=h.set id (wk (if 65535<z then dN err 24 else err) (nodes+1))) aA aA (hh.set aA) rfl aE rfl (Weak.of_eq (by simp[vr])) aA ⟨rfl,by simp[gH]⟩
  ·rw[if_neg hdi] at hr;subst hr;refine znr1f hdi ?_;refine zr3 g1 g2 hw1 ?_;refine zr ?_;refine zt ?_;refine zr ?_;refine zf1 hdi ?_;refine yi ?_;refine Fin.ret' (h0:=h.set id (wk err (nodes+1))) aA aA (hh.set aA) rfl aE rfl (Weak.of_eq aA) aA ⟨rfl,rfl⟩
 ·rw[if_neg hk0] at hr;subst hr;have hkb:(k==0)=false:=by simpa using hk0
  refine znr1f hkb ?_;refine zr3 g1 g2 hw1 ?_;refine zr ?_;refine zf1 hk0 ?_;refine zr ?_;refine zr ?_;refine Run.tok 10 5 aA ?_;simp
  refine Run.loopS [0,2,3,5,8] (fun j:Nat=>j<=ks.length) (fun j=>ks.length-j) (fun j=>[(10, .own (h.length+2) 5 (tmPs (cV vs err (nodes+1) depth k 0 (ks.take j)).1)),(11,iA j)])
   (fun j=>h.set id (wk (cV vs err (nodes+1) depth k 0 (ks.take j)).2.1 (cV vs err (nodes+1) depth k 0 (ks.take j)).2.2)++[some (.cells [iA k,iA i, .p (sP n), .p (.sl 2 (lvPs ls)), .p (.sl 5 (tmPs ks))]),some (.cells zTm),some (.tok j 5)])
   0 aA ?_ ?_ ?_
  ·simp[cV,tmPs];exact zK
  ·simp[cV]
  ·intro j hj IH;refine cK ?_
   by_cases hjl:j<ks.length
   ·refine znt1 hjl ?_;have hg:ks[j]?=some ks[j]:=bLv hjl;have hbz:=jF k j;have hs:=gW ks j _ hg;have hs2:=cQ ks (j+1);have hs3:=aR ks;have hnn:=vY vs (ks.take j) err (nodes+1) depth k 0 aB;have hlen:=oN vs depth k (ks.take j) err (nodes+1) 0;have hsn:=uG vs depth k (ks.take j) err (nodes+1) 0 ks[j];have hmin:min j ks.length=j:=bNc hj;simp only[bMn,hmin,bMw] at hsn hlen;have htk:ks.take (j+1)=ks.take j++[ks[j]]:=bM6 hjl;rw[<-htk] at hsn;generalize cV vs err (nodes+1) depth k 0 (ks.take j)=R0 at hnn hlen hsn;obtain⟨l0,e0,n0⟩:=R0;simp only at hnn hlen hsn;have hcall:=fun(g:Heap) (hg:WF g) (hy:g[id]?=some (wk e0 n0))=>ih ks[j] (depth+aI k j) e0 n0 g id aB aB (Tm.idxs_at hidx.2 _ (bLy hjl)) aB aB hnn hg hy
    generalize lJ vs e0 n0 (depth+aI k j) ks[j]=R1 at hsn hcall;obtain⟨t1,e1,n1⟩:=R1;simp only at hsn hcall;refine nv ?_;refine Run.draw [0,0,0,0,0,0,0,0,0,0,0,0,0,1,1,2,2,3] [0,0,0,0,0,0,0,0,0,0,0,0,0,0,1,0,2,0] [0,0,0,4,0,28,60,0,0,0,512,0,3584,7936,16382,32766,65535,131071] [9,10,11,12,1,2,3,4,5,6,7,8,13,14,0,15,16,17] aC aC ?_;refine y1g ?_;refine zd1 hg ?_;refine DR.call (args:=[.ptr id 0,ks[j].av, .p (.sl 5 (tmPs vs)),iA (depth+aI k j)]) rfl rfl rfl aA rfl (hcall _ (WF.app (WF.set hh aA) aA) (g4 _ _)) ?_;have hb1:(j+1)*80<=140737488355328:=aB;have hb2:j+1<=9223372036854775807:=aB;refine zd4 g5 hlen hb1 hb2 ?_;refine y8 ?_;refine znr ?_;refine IH (j+1) _ _ aB aB ?_ ?_
    ·rw[hsn,tmPs_snoc];exact zS
    ·rw[hsn]
   ·have hje:j=ks.length:=aB;subst hje;refine oR ?_;refine yi ?_;refine Fin.ret' (h0:=h.set id (wk (cV vs err (nodes+1) depth k 0 ks).2.1 (cV vs err (nodes+1) depth k 0 ks).2.2)) aA aA (hh.set aA) rfl aE rfl ?_ ?_ ⟨rfl,rfl⟩
    ·refine Weak.agg ?_;exact zK
    ·simp
theorem zG (h:Heap)(hh:WF h)(t:Tm)(vs:List Tm)(dp:Int)(hvl:vs.length<=1048576)(hvs:∀v∈vs,v.size<=1048576/\v.idx)(hsz:t.size<=1048576)(hix:t.idx)(hout:(aM t vs dp).2=0\/(aM t vs dp).2=7->(lJ vs 0 0 (cT dp) t).1.size<=1099511627776):
  ACalls Tryz.prog 75 [t.av, .p (.sl 5 (tmPs vs)),iA dp] h fun o h'=>o= .ret (.tup [(aM t vs dp).1.av,iA (aM t vs dp).2])/\h'=h:=by
 obtain⟨r,hr⟩:∃r,r=aM t vs dp:=⟨_,rfl⟩;rw[<-hr] at hout⊢;unfold aM at hr
 by_cases hd0:dp<0
 ·rw[if_pos hd0] at hr;subst hr;obtain⟨k,i,n,ls,ks⟩:=t;refine ACalls.of_run Tryz.func75 rfl ?_;simp only[Tryz.ntmps75,bM2,bM3,Tm.av,cells_mk,List.map];refine wR hd0 ?_;exact y2s
 rw[if_neg hd0] at hr;have hcap:0<=cT dp/\cT dp<=65536:=by unfold cT;split<;>omega
 have hw:=fun(g:Heap) (hg:WF g) (id:Nat) (hid:g[id]?=some (wk 0 0))=>aSn vs hvl hvs t.size t (cT dp) 0 0 g id (bLx _) hsz hix hcap.1 aB aB hg hid
 generalize lJ vs 0 0 (cT dp) t=R at hr hw hout;obtain⟨q,e,nn⟩:=R;simp only at hr hw hout;have hmin:(if(65536:Int)<dp then(65536:Int) else dp)=cT dp:=rfl;generalize cT dp=dd at hw hmin;have hdep:=fun(g:Heap) (hg:WF g) (hs:q.size<=1099511627776)=>lS q.size q g (bLx _) hs hg
 generalize q.depth=qd at hr hdep;obtain⟨k,i,n,ls,ks⟩:=t;generalize hqs:q.size=qsz at hout hdep;obtain⟨qk,qi,qn,qls,qks⟩:=q;refine ACalls.of_run Tryz.func75 rfl ?_;simp only[Tryz.ntmps75,bM2,bM3,Tm.av,cells_mk,List.map];refine znrr ?_;refine zf1 hd0 ?_;refine zr ?_;refine zr1 hmin ?_;refine rl (args:=[.ptr (h.length+2) 0,(Tm.mk k i n ls ks).av, .p (.sl 5 (tmPs vs)),iA dd]) rfl aF aA rfl (hw _ (hh.app aA) (h.length+2) aA) ?_;refine zor ?_
 by_cases h4:4096<nn
 ·rw[if_pos h4] at hr;subst hr;refine dV h4 ?_;refine Fin.ret' (h0:=h) (xs:=[.agg zTm,iA 5]) aA rfl hh rfl aA rfl (Weak.tup (WeakL.cons Weak.zT (WeakL.refl _))) aA ⟨rfl,rfl⟩
 rw[if_neg h4] at hr;refine znf1r h4 ?_
 by_cases h5:e=0
 ·rw[if_neg (by simp[h5])] at hr;refine aFh h5 ?_
  have hqb:qsz<=1099511627776:=by
   apply hout;rw[hr]
   by_cases h7:200<(qd:Int)
   ·rw[if_pos h7];exact .inr rfl
   ·rw[if_neg h7];exact .inl rfl
  refine znr ?_;refine rl (args:=[(Tm.mk qk qi qn qls qks).av]) rfl aF aA rfl (hdep _ (hh.app aA) hqb) ?_;refine zo ?_
  by_cases h7:200<(qd:Int)
  ·rw[if_pos h7] at hr;subst hr;refine dV h7 ?_;exact y5o
  ·rw[if_neg h7] at hr;subst hr;refine aFi h7 ?_;exact y2h
 ·rw[if_pos h5] at hr;subst hr;refine znt1 h5 ?_;refine Run.draw [0,0,0,0,0,0,1] [0,0,0,0,0,0,0] [0,0,2,6,14,1,63] [0,5,1,2,3,4,6] aC aC ?_;refine zd ?_;refine y8 ?_;refine znx ?_;exact y5p
theorem zF (h:Heap)(hh:WF h)(t:Tm)(vs:List Tm)(r:Tm×Int)(hc:∀g:Heap,WF g->ACalls Tryz.prog 75 [t.av, .p (.sl 5 (tmPs vs)),iA 0] g fun o h'=>o= .ret (.tup [r.1.av,iA r.2])/\h'=g):
  ACalls Tryz.prog 34 [t.av, .p (.sl 5 (tmPs vs))] h fun o h'=>o= .ret (.tup [r.1.av,iA r.2])/\h'=h:=by
 obtain⟨t2,e⟩:=r;obtain⟨k,i,nm,ls,ks⟩:=t;obtain⟨k2,i2,nm2,ls2,ks2⟩:=t2;refine ACalls.of_run Tryz.func34 rfl ?_;simp only[Tryz.ntmps34,bM2,bM3,Tm.av,cells_mk,List.map];refine znrr ?_;refine rl (args:=[(Tm.mk k i nm ls ks).av, .p (.sl 5 (tmPs vs)),iA 0]) rfl aF aA rfl (hc _ (hh.app aA)) ?_;refine zox ?_;exact y2h
end Go.Proofs.YtplomildbmcmfaaGreat
