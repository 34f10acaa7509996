import Derived.Test.YtcfcolkbeelegaaGreatWA0
import Derived.Test.YtcfcolkbeelegaaGreatWG1
import Derived.Test.YtcfcolkbeelegaaGreatWE12
import Derived.Test.YtcfcolkbeelegaaGreatWH5
import Derived.Test.YtcfcolkbeelegaaGreatWM2
set_option maxRecDepth 8000
set_option maxHeartbeats 8000000
namespace Go.Proofs.YtcfcolkbeelegaaGreat
open Go Go.AI
mutual
def nM (vs:List Tm)(e n d:Int):Tm->Tm×Int×Int
 | .mk k i nm ls ks=>
  if 4096<n then(.mk k i nm ls ks,e,n)
  else if k=0 then
   (if d<=i then
    (match vs[(i-d).toNat]? with
     |some x=>(eT d 0 0 x,gH (bY d 0 0 x) e,n+x.size)
     |none=>(vr (i-vs.length),gH (decide (65535<i-vs.length)) e,n+1))
   else(.mk k i nm ls ks,e,n+1))
  else(.mk k i nm ls (eR vs e (n+1) d k 0 ks).1,(eR vs e (n+1) d k 0 ks).2.1,(eR vs e (n+1) d k 0 ks).2.2)
def eR (vs:List Tm)(e n d k:Int)(idx:Nat):List Tm->List Tm×Int×Int
 |[]=>([],e,n)
 |t::ts=>
  ((nM vs e n (d+aO k idx) t).1::(eR vs (nM vs e n (d+aO k idx) t).2.1 (nM vs e n (d+aO k idx) t).2.2 d k (idx+1) ts).1,
   (eR vs (nM vs e n (d+aO k idx) t).2.1 (nM vs e n (d+aO k idx) t).2.2 d k (idx+1) ts).2.1,
   (eR vs (nM vs e n (d+aO k idx) t).2.1 (nM vs e n (d+aO k idx) t).2.2 d k (idx+1) ts).2.2)
end
theorem wR (vs:List Tm)(d k:Int):∀(l:List Tm)(e n:Int)(idx:Nat)(t:Tm),
  eR vs e n d k idx (l++[t])=((eR vs e n d k idx l).1++[(nM vs (eR vs e n d k idx l).2.1 (eR vs e n d k idx l).2.2 (d+aO k (idx+l.length:Nat)) t).1],
   (nM vs (eR vs e n d k idx l).2.1 (eR vs e n d k idx l).2.2 (d+aO k (idx+l.length:Nat)) t).2.1,(nM vs (eR vs e n d k idx l).2.1 (eR vs e n d k idx l).2.2 (d+aO k (idx+l.length:Nat)) t).2.2)
 |[],e,n,idx,t=>by simp[eR]
 |x::l,e,n,idx,t=>by simp only[aYf,eR,wR vs d k l _ _ (idx+1) t];simp[bAg,bB3 1]
theorem qS (vs:List Tm)(d k:Int):∀(l:List Tm)(e n:Int)(idx:Nat),(eR vs e n d k idx l).1.length=l.length
 |[],e,n,idx=>rfl
 |x::l,e,n,idx=>by simp[eR,qS vs d k l]
mutual
def aJb (vs:List Tm)(d:Int):Tm->Tm
 | .mk k i nm ls ks=>
  if k=0 then(if d<=i then(match vs[(i-d).toNat]? with|some x=>eT d 0 0 x|none=>vr (i-vs.length)) else .mk k i nm ls ks)
  else .mk k i nm ls (aCn vs d k 0 ks)
def aCn (vs:List Tm)(d k:Int)(idx:Nat):List Tm->List Tm
 |[]=>[]
 |t::ts=>aJb vs (d+aO k idx) t::aCn vs d k (idx+1) ts
end
mutual
def fS (vs:List Tm)(d:Int):Tm->Bool
 | .mk k i _ _ ks=>
  if k=0 then(if d<=i then(match vs[(i-d).toNat]? with|some x=>bY d 0 0 x|none=>decide (65535<i-vs.length)) else false)
  else fO vs d k 0 ks
def fO (vs:List Tm)(d k:Int)(idx:Nat):List Tm->Bool
 |[]=>false
 |t::ts=>fS vs (d+aO k idx) t||fO vs d k (idx+1) ts
end
mutual
def eU (vs:List Tm)(d:Int):Tm->Nat
 | .mk k i _ _ ks=>
  if k=0 then(if d<=i then(match vs[(i-d).toNat]? with|some x=>x.size|none=>1) else 1)
  else 1+fP vs d k 0 ks
def fP (vs:List Tm)(d k:Int)(idx:Nat):List Tm->Nat
 |[]=>0
 |t::ts=>eU vs (d+aO k idx) t+fP vs d k (idx+1) ts
end
theorem sV (e:Int):gH false e=e:=rfl
mutual
theorem zD (vs:List Tm):∀(t:Tm)(e n d:Int),(n+eU vs d t<=4096->nM vs e n d t=(aJb vs d t,gH (fS vs d t) e,n+eU vs d t))/\(4096<n+eU vs d t->4096<(nM vs e n d t).2.2)
 | .mk k i nm ls ks,e,n,d=>by
  simp only[nM,aJb,fS,eU]
  by_cases hn:4096<n
  ·simp only[hn,if_true];exact⟨fun h=>by omega,fun _=>by first|trivial|exact hn⟩
  simp only[hn,if_false]
  by_cases hk:k=0
  ·simp only[hk,if_true]
   by_cases hd:d<=i
   ·simp only[hd,if_true]
    cases vs[(i-d).toNat]? with
    |some x=>simp
    |none=>simp
   ·simp only[hd,if_false];simp[sV]
  ·simp only[hk,if_false];have:=uL vs ks e (n+1) d k 0;refine⟨fun h=>?_,fun h=>this.2 aB⟩;rw[this.1 aB];simp;omega
theorem uL (vs:List Tm):∀(ks:List Tm)(e n d k:Int)(idx:Nat),(n+fP vs d k idx ks<=4096->eR vs e n d k idx ks=(aCn vs d k idx ks,gH (fO vs d k idx ks) e,n+fP vs d k idx ks))/\(4096<n+fP vs d k idx ks->4096<(eR vs e n d k idx ks).2.2)
 |[],e,n,d,k,idx=>by simp[eR,aCn,fO,fP,sV]
 |t::ts,e,n,d,k,idx=>by
  simp only[eR,aCn,fO,fP];have h1:=zD vs t e n (d+aO k idx)
  by_cases hc:n+eU vs (d+aO k idx) t<=4096
  ·rw[h1.1 hc];simp only;have h2:=uL vs ts (gH (fS vs (d+aO k idx) t) e) (n+eU vs (d+aO k idx) t) d k (idx+1);refine⟨fun h=>?_,fun h=>h2.2 aB⟩;rw[h2.1 aB,sW];simp;omega
  ·have h3:=h1.2 aB;have h2:=uL vs ts (nM vs e n (d+aO k idx) t).2.1 (nM vs e n (d+aO k idx) t).2.2 d k (idx+1);exact⟨fun h=>by omega,fun h=>h2.2 aB⟩
end
def fQ (dp:Int):Int:=if 65536<dp then 65536 else dp
theorem aRz {vs:List Tm} {i b dp:Int} (h0:0<=dp)(hi:i<65536+b)(hd:fQ dp+b<=i):
  (∀x,vs[(i-(fQ dp+b)).toNat]?=some x->(0<=i-b-dp/\i-b-dp<vs.length)/\vs[(i-b-dp).toNat]?=some x/\fQ dp+b=dp+b)/\
  (vs[(i-(fQ dp+b)).toNat]?=none->¬(0<=i-b-dp/\i-b-dp<vs.length))/\fQ dp=dp:=by
 have hc:fQ dp=dp:=by unfold fQ at*;split at hd<;>split<;>omega
 rw[hc] at hd⊢;rw[show i-(dp+b)=i-b-dp by omega];refine⟨fun x hx=>?_,fun hx=>?_,rfl⟩
 ·have:=(aYc.1 hx).1;exact⟨by omega,hx,rfl⟩
 ·rw[bAy] at hx;omega
mutual
theorem aDk (vs:List Tm)(hvl:vs.length<=1048576)(hvs:∀v∈vs,v.size<=1099511627776)(dp:Int)(h0:0<=dp)(h1:dp<=9223372036854775807):
  ∀(t:Tm) (s b:Int),t.ok (65536+b)->0<=b->b+t.size<=1099511627776->0<=s->s<=4096->
   (s+eU vs (fQ dp+b) t<=4096->∃u,bld (iS dp (vs.map fun v=>(v.size:Int))) s t b= .ok u (s+eU vs (fQ dp+b) t))/\
   (4096<s+eU vs (fQ dp+b) t->∃s',bld (iS dp (vs.map fun v=>(v.size:Int))) s t b= .bad 5 s')
 | .mk k i nm ls ks,s,b,hok,hb,hbs,hs0,hs1=>by
  simp only[Tm.ok,Tm.okN] at hok;simp only[Tm.size] at hbs;simp only[bld,eU]
  by_cases hk:k=0
  ·obtain⟨i1,i2,rfl,rfl,rfl⟩:=hok.1.1 hk;subst hk;have hvz:gE dp vs.length (.mk 0 i [] [] []) b=if 0<=i-b-dp/\i-b-dp<vs.length then i-b-dp else-1:=uX (len:=vs.length) (t:= .mk 0 i [] [] []) (b:=b) h0 h1 (by simp only[Tm.index];omega) (by simp only[Tm.index];omega) hvl
   have hcnt:aKk dp (vs.map fun v=>(v.size:Int)) (.mk 0 i [] [] []) b=(if fQ dp+b<=i then(match vs[(i-(fQ dp+b)).toNat]? with|some x=>x.size|none=>1) else 1:Nat):=by
    simp only[aKk,Tm.kind,aZ5,hvz,true_and]
    by_cases hd:fQ dp+b<=i
    ·simp only[hd,if_true];have hv:=aRz (vs:=vs) h0 i2 hd
     cases hx:vs[(i-(fQ dp+b)).toNat]? with
     |some x=>
      obtain⟨c1,c2,_⟩:=hv.1 x hx;rw[if_pos c1,if_pos aB];simp[c2]
     |none=>
      rw[if_neg (hv.2.1 hx),if_neg aB];rfl
    ·simp only[hd,if_false];have:¬(0<=i-b-dp/\i-b-dp<vs.length):=by unfold fQ at hd;split at hd<;>omega
     rw[if_neg this,if_neg aB];rfl
   have hbd:(if fQ dp+b<=i then(match vs[(i-(fQ dp+b)).toNat]? with|some x=>x.size|none=>1) else 1:Nat)<=1099511627776:=by
    split
    ·split
     ·rename_i x hx;exact hvs x (aYq hx)
     ·omega
    ·omega
   simp only[iS,hcnt,if_true,Tm.kind];generalize (if fQ dp+b<=i then(match vs[(i-(fQ dp+b)).toNat]? with|some x=>x.size|none=>1) else 1:Nat)=z at*;rw[aP (n:=s+z) aB aB];constructor
   ·intro h;rw[if_neg aB];exact⟨_,rfl⟩
   ·intro h;rw[if_pos h];exact⟨_,rfl⟩
  ·simp only[hk,if_false]
   have hcnt:aKk dp (vs.map fun v=>(v.size:Int)) (.mk k i nm ls ks) b=1:=by
    simp only[aKk,Tm.kind,hk,false_and,if_false]
   simp only[iS,hcnt,Tm.kind,hk,if_false];rw[aP (n:=s+1) aB aB]
   by_cases h5:4096<s+1
   ·simp only[h5,if_true];exact⟨fun h=>by omega,fun _=>⟨_,rfl⟩⟩
   simp only[h5,if_false];have:=aFx vs hvl hvs dp h0 h1 ks (s+1) b k 0 hok.2 hb aB aB aB;constructor
   ·intro h;obtain⟨u,hu⟩:=this.1 aB;rw[hu];simp only;exact⟨_,by congr 1;omega⟩
   ·intro h;obtain⟨s',hu⟩:=this.2 aB;rw[hu];exact⟨_,rfl⟩
theorem aFx (vs:List Tm)(hvl:vs.length<=1048576)(hvs:∀v∈vs,v.size<=1099511627776)(dp:Int)(h0:0<=dp)(h1:dp<=9223372036854775807):
  ∀(ks:List Tm) (s b k:Int) (idx:Nat),Tm.oks (65536+b) k idx ks->0<=b->b+1+Tm.sizes ks<=1099511627776->0<=s->s<=4096->
   (s+fP vs (fQ dp+b) k idx ks<=4096->∃u,lM (iS dp (vs.map fun v=>(v.size:Int))) s k b idx ks= .ok u (s+fP vs (fQ dp+b) k idx ks))/\
   (4096<s+fP vs (fQ dp+b) k idx ks->∃s',lM (iS dp (vs.map fun v=>(v.size:Int))) s k b idx ks= .bad 5 s')
 |[],s,b,k,idx,_,_,_,_,_=>by
  simp only[lM,fP];exact⟨fun _=>⟨_,by simp;rfl⟩,fun h=>by omega⟩
 |t::ts,s,b,k,idx,hok,hb,hbs,hs0,hs1=>by
  simp only[Tm.oks] at hok;simp only[Tm.sizes] at hbs;simp only[lM,fP];have hz:=cD k idx;have e1:=aDk vs hvl hvs dp h0 h1 t s (b+aO k idx) (by rw[<-Int.add_assoc];exact hok.1) aB aB hs0 hs1;rw[<-Int.add_assoc] at e1
  by_cases hc:s+eU vs (fQ dp+b+aO k idx) t<=4096
  ·obtain⟨u,hu⟩:=e1.1 hc;rw[hu];simp only;have e2:=aFx vs hvl hvs dp h0 h1 ts (s+eU vs (fQ dp+b+aO k idx) t) b k (idx+1) hok.2 hb aB aB hc;constructor
   ·intro h;obtain⟨u2,hu2⟩:=e2.1 aB;rw[hu2];simp only;exact⟨_,by congr 1;omega⟩
   ·intro h;obtain⟨s2,hu2⟩:=e2.2 aB;rw[hu2];exact⟨_,rfl⟩
  ·obtain⟨s',hu⟩:=e1.2 aB;rw[hu];exact⟨fun h=>by omega,fun _=>⟨_,rfl⟩⟩
end
mutual
theorem aDl (vs:List Tm)(hvl:vs.length<=1048576)(hvo:∀v∈vs,v.ok 65536)(dp:Int)(h0:0<=dp)(h1:dp<=9223372036854775807):
  ∀(t:Tm) (s b:Int),t.ok (65536+b)->0<=b->b+t.size<=1099511627776->
   bld (eW (eZ dp vs)) s t b=if fS vs (fQ dp+b) t=true then .bad 24 s else .ok (aJb vs (fQ dp+b) t) s
 | .mk k i nm ls ks,s,b,hok,hb,hbs=>by
  simp only[Tm.ok,Tm.okN] at hok;simp only[Tm.size] at hbs;simp only[bld,fS,aJb]
  by_cases hk:k=0
  ·obtain⟨i1,i2,rfl,rfl,rfl⟩:=hok.1.1 hk;subst hk;have hvz:gE dp vs.length (.mk 0 i [] [] []) b=if 0<=i-b-dp/\i-b-dp<vs.length then i-b-dp else-1:=uX (len:=vs.length) (t:= .mk 0 i [] [] []) (b:=b) h0 h1 (by simp only[Tm.index];omega) (by simp only[Tm.index];omega) hvl
   obtain⟨v,hv0⟩:∃v,gE dp vs.length (.mk 0 i [] [] []) b=v:=⟨_,rfl⟩
   have hrep:eZ dp vs s (.mk 0 i [] [] []) b=if 0<=v then(match vs[v.toNat]? with
     |some x=>(match qT (dp+b) 0 x with
      | .ok t' _=> .ok t' s
      | .bad e _=> .bad e s)
     |none=> .ok (.mk 0 i [] [] []) s)
    else if i-b<dp then .ok (.mk 0 i [] [] []) s
    else if 65535<i-vs.length then .bad 24 s else .ok (vr (i-vs.length)) s:=by rw[<-hv0];rfl
   rw[hv0] at hvz;simp only[eW,Tm.kind,if_true,hrep]
   by_cases hd:fQ dp+b<=i
   ·simp only[hd,if_true];have hv:=aRz (vs:=vs) h0 i2 hd
    cases hx:vs[(i-(fQ dp+b)).toNat]? with
    |some x=>
     obtain⟨c1,c2,c3⟩:=hv.1 x hx;rw[if_pos c1] at hvz;rw[if_pos (show 0<=v by omega),hvz,c2,c3];simp only[qT];rw[aAh (dp+b) 0 0 aA x 0 0 (by simpa using hvo x (aYq hx))]
     by_cases hbad:bY (dp+b) 0 0 x=true
     ·simp[hbad]
     ·simp[hbad]
    |none=>
     have hc:=hv.2.1 hx;have hcap:=hv.2.2;rw[if_neg hc] at hvz;rw[if_neg (show¬0<=v by omega),if_neg (show¬i-b<dp by omega)]
     by_cases h5:65535<i-vs.length
     ·simp[h5]
     ·simp[h5]
   ·simp only[hd,if_false];have:¬(0<=i-b-dp/\i-b-dp<vs.length):=by unfold fQ at hd;split at hd<;>omega
    rw[if_neg this] at hvz;rw[if_neg (show¬0<=v by omega),if_pos (show i-b<dp by unfold fQ at hd;split at hd<;>omega)];simp
  ·simp only[eW,Tm.kind,hk,if_false,Tm.bare];have e:=aFz vs hvl hvo dp h0 h1 ks s b k 0 hok.2 hb aB;simp only[e]
   by_cases hbad:fO vs (fQ dp+b) k 0 ks=true
   ·simp[hbad]
   ·simp[hbad,Tm.withKids]
theorem aFz (vs:List Tm)(hvl:vs.length<=1048576)(hvo:∀v∈vs,v.ok 65536)(dp:Int)(h0:0<=dp)(h1:dp<=9223372036854775807):
  ∀(ks:List Tm) (s b k:Int) (idx:Nat),Tm.oks (65536+b) k idx ks->0<=b->b+1+Tm.sizes ks<=1099511627776->
   lM (eW (eZ dp vs)) s k b idx ks=if fO vs (fQ dp+b) k idx ks=true then .bad 24 s else .ok (aCn vs (fQ dp+b) k idx ks) s
 |[],s,b,k,idx,_,_,_=>by simp[lM,fO,aCn]
 |t::ts,s,b,k,idx,hok,hb,hbs=>by
  simp only[Tm.oks] at hok;simp only[Tm.sizes] at hbs;simp only[lM,fO,aCn];have hz:=cD k idx;have e1:=aDl vs hvl hvo dp h0 h1 t s (b+aO k idx) (by rw[<-Int.add_assoc];exact hok.1) aB aB;rw[<-Int.add_assoc] at e1;rw[e1]
  by_cases hb1:fS vs (fQ dp+b+aO k idx) t=true
  ·simp[hb1]
  ·rw[if_neg hb1];simp only;rw[aFz vs hvl hvo dp h0 h1 ts s b k (idx+1) hok.2 hb aB];rw[Bool.not_eq_true] at hb1
   by_cases hb2:fO vs (fQ dp+b) k (idx+1) ts=true
   ·simp[hb1,hb2]
   ·simp[hb1,hb2]
end
def aJ (t:Tm)(vs:List Tm)(dp:Int):Tm×Int:=
 if dp<0 then(zT,2)
 else if 4096<(nM vs 0 0 (fQ dp) t).2.2 then(zT,5)
 else if(nM vs 0 0 (fQ dp) t).2.1≠0 then(zT,(nM vs 0 0 (fQ dp) t).2.1)
 else if 200<((nM vs 0 0 (fQ dp) t).1.depth:Int) then(zT,7) else((nM vs 0 0 (fQ dp) t).1,0)
def aC7 (t:Tm)(vs:List Tm)(d:Int):Tm×Int:=
 if 4096<(eU vs d t:Int) then(zT,5) else if fS vs d t=true then(zT,24) else if 200<((aJb vs d t).depth:Int) then(zT,7) else(aJb vs d t,0)
theorem kX (t:Tm)(vs:List Tm)(dp:Int)(h0:0<=dp):aJ t vs dp=aC7 t vs (fQ dp):=by
 have hr:=zD vs t 0 0 (fQ dp);rw[aJ,if_neg aB,aC7]
 by_cases hc:4096<(eU vs (fQ dp) t:Int)
 ·rw[if_pos (hr.2 aB),if_pos hc]
 ·rw[hr.1 aB,if_neg (by simp only;omega),if_neg hc]
  cases fS vs (fQ dp) t<;>simp[gH,cN]
theorem aMo (t:Tm)(vs:List Tm)(dp:Int)(hok:t.ok 65536)(hsz:t.size<=1048576)(hvl:vs.length<=1048576)(hvo:∀v∈vs,v.ok 65536)(hvs:∀v∈vs,v.size<=1099511627776)(h1:dp<=9223372036854775807):
  gB t vs dp=aJ t vs dp:=by
 by_cases h0:dp<0
 ·simp[gB,aJ,h0]
 rw[kX t vs dp aB,gB,if_neg h0,aC7];have hc:=aDk vs hvl hvs dp aB h1 t 0 0 (by simpa using hok) aB aB aB aB;have hs:=aDl vs hvl hvo dp aB h1 t 0 0 (by simpa using hok) aB aB;simp only[Int.add_zero,Int.zero_add] at hc hs
 by_cases h5:4096<(eU vs (fQ dp) t:Int)
 ·obtain⟨s',hu⟩:=hc.2 h5;rw[hu,if_pos h5]
 ·obtain⟨u,hu⟩:=hc.1 aB;rw[hu,if_neg h5,hs];simp only
  by_cases hb:fS vs (fQ dp) t=true
  ·simp[hb]
  ·simp[hb]
mutual
theorem uP (d f:Int):∀(t:Tm)(dp m:Int),t.ok m->(eT d f dp t).size=t.size
 | .mk k i n ls ks,dp,m,h=>by
  simp only[Tm.ok,Tm.okN] at h;simp only[eT]
  by_cases hk:k=0
  ·obtain⟨_,_,rfl,rfl,rfl⟩:=h.1.1 hk;simp only[hk,if_true];split
   ·rfl
   ·rfl
  ·simp only[hk,if_false,Tm.size];rw[uN d f ks dp k m 0 h.2]
theorem uN (d f:Int):∀(l:List Tm)(dp k m:Int)(idx:Nat),Tm.oks m k idx l->Tm.sizes (eO d f dp k idx l)=Tm.sizes l
 |[],dp,k,m,idx,_=>rfl
 |t::ts,dp,k,m,idx,h=>by
  simp only[Tm.oks] at h;simp only[eO,Tm.sizes];rw[uP d f t _ _ h.1,uN d f ts dp k m (idx+1) h.2]
end
mutual
theorem aCf (d f:Int)(hf:0<=f):∀(t:Tm)(dp M m:Int),t.ok m->65536+dp<=M->m<=M->0<=dp->bY d f dp t=false->(eT d f dp t).ok M
 | .mk k i n ls ks,dp,M,m,h,hM,hm,hdp,hb=>by
  simp only[Tm.ok,Tm.okN] at h;simp only[eT];simp only[bY] at hb
  by_cases hk:k=0
  ·obtain⟨h1,h2,rfl,rfl,rfl⟩:=h.1.1 hk;simp only[hk,if_true] at hb⊢
   by_cases hc:i<f+dp\/i+d<f+dp
   ·rw[if_pos hc];simp only[Tm.ok,Tm.okN,Tm.oks];exact⟨⟨fun _=>⟨h1,by omega,trivial,trivial,trivial⟩,by simp,by simp,by simp⟩,trivial⟩
   ·rw[if_neg hc];simp only[vr,Tm.ok,Tm.okN,Tm.oks];simp at hb;exact⟨⟨fun _=>⟨by omega,by omega,trivial,trivial,trivial⟩,by simp,by simp,by simp⟩,trivial⟩
  ·simp only[hk,if_false] at hb⊢;simp only[Tm.ok,Tm.okN];have hl:(eO d f dp k 0 ks).length=ks.length:=jW d f dp k ks 0;exact⟨⟨fun h0=>absurd h0 hk,h.1.2.1,h.1.2.2.1,by rw[hl];exact h.1.2.2.2⟩,aCd d f hf ks dp M m k 0 h.2 hM hm hdp hb⟩
theorem aCd (d f:Int)(hf:0<=f):∀(l:List Tm)(dp M m k:Int)(idx:Nat),Tm.oks m k idx l->65536+dp<=M->m<=M->0<=dp->bU d f dp k idx l=false->Tm.oks M k idx (eO d f dp k idx l)
 |[],dp,M,m,k,idx,_,_,_,_,_=>trivial
 |t::ts,dp,M,m,k,idx,h,hM,hm,hdp,hb=>by
  simp only[Tm.oks] at h;simp only[bU,bA3] at hb;have hz:=cD k idx;simp only[eO,Tm.oks];exact⟨aCf d f hf t _ _ _ h.1 aB aB aB hb.1,aCd d f hf ts dp M m k (idx+1) h.2 hM hm hdp hb.2⟩
end
theorem uR (vs:List Tm)(d k:Int):∀(l:List Tm)(idx:Nat),(aCn vs d k idx l).length=l.length
 |[],idx=>rfl
 |x::l,idx=>by simp[aCn,uR vs d k l]
mutual
theorem aF0 (vs:List Tm)(hvo:∀v∈vs,v.ok 65536):∀(t:Tm)(d m:Int),t.ok m->0<=d->65536+d<=m->fS vs d t=false->(aJb vs d t).ok m/\(aJb vs d t).size=eU vs d t
 | .mk k i n ls ks,d,m,h,hd,hm,hb=>by
  have h':=h;simp only[Tm.ok,Tm.okN] at h;simp only[aJb,eU];simp only[fS] at hb
  by_cases hk:k=0
  ·obtain⟨h1,h2,rfl,rfl,rfl⟩:=h.1.1 hk;simp only[hk,if_true] at hb⊢
   by_cases hc:d<=i
   ·simp only[hc,if_true] at hb⊢
    cases hx:vs[(i-d).toNat]? with
    |some x=>
     rw[hx] at hb;simp only at hb⊢;have hxo:=hvo x (aYq hx);refine⟨aCf d 0 aB x 0 m 65536 hxo aB aB aB hb,?_⟩;exact uP d 0 x 0 65536 hxo
    |none=>
     rw[hx] at hb;simp at hb;rw[bAy] at hx;simp only[vr,Tm.ok,Tm.okN,Tm.oks];exact⟨⟨⟨fun _=>⟨by omega,by omega,trivial,trivial,trivial⟩,by simp,by simp,by simp⟩,trivial⟩,rfl⟩
   ·simp only[hc,if_false];exact⟨by rw[<-hk];exact h',rfl⟩
  ·simp only[hk,if_false] at hb⊢;have hl:=uR vs d k ks 0;have:=aNc vs hvo ks d m k 0 h.2 hd hm hb;simp only[Tm.ok,Tm.okN,Tm.size];exact⟨⟨⟨fun h0=>absurd h0 hk,h.1.2.1,h.1.2.2.1,by rw[hl];exact h.1.2.2.2⟩,this.1⟩,by rw[this.2]⟩
theorem aNc (vs:List Tm)(hvo:∀v∈vs,v.ok 65536):∀(l:List Tm)(d m k:Int)(idx:Nat),Tm.oks m k idx l->0<=d->65536+d<=m->fO vs d k idx l=false->Tm.oks m k idx (aCn vs d k idx l)/\Tm.sizes (aCn vs d k idx l)=fP vs d k idx l
 |[],d,m,k,idx,_,_,_,_=>⟨trivial,rfl⟩
 |t::ts,d,m,k,idx,h,hd,hm,hb=>by
  simp only[Tm.oks] at h;simp only[fO,bA3] at hb;have hz:=cD k idx;have e1:=aF0 vs hvo t (d+aO k idx) (m+aO k idx) h.1 aB aB hb.1;have e2:=aNc vs hvo ts d m k (idx+1) h.2 hd hm hb.2;simp only[aCn,Tm.oks,Tm.sizes,fP];exact⟨⟨e1.1,e2.1⟩,by rw[e1.2,e2.2]⟩
end
open Go Go.AI
def aPc (l:List Int):List (List PV):=l.map fun x=>[iP x]
@[simp] theorem aRl (l:List Int):(aPc l).length=l.length:=by simp[aPc]
@[simp] theorem aV8 (l:List Int) (i:Nat):(aPc l)[i]?=(l[i]?).map fun x=>[iP x] :=by simp[aPc]
end Go.Proofs.YtcfcolkbeelegaaGreat
namespace Go.AI
open Go
theorem Run.weakAt {P:Program} {rd:Option Nat} {nb:Nat} {k:List It} {T:List AV} {h:Heap} {D:List AD} {Q:AX->List AV->Heap->List AD->Prop} (slot:Nat)(y:AV)(hw:Weak (nF T slot) y)(r:Run P rd nb k (T.set slot y) h D Q):Run P rd nb k T h D Q:=by
 refine Run.weak ?_ r;intro E w vs hT;have hv:=hT.get slot;rw[<-fB] at hv;have hset:=hT.set (hw E w _ hv) slot
 have hsame:vs.set slot (vs.getD slot undef)=vs:=by
  apply aZz;intro j;refine y2b ?_;split
  ·rename_i e;subst e;rcases aZy slot vs.length with l|l
   ·simp[l]
   ·have l':¬slot<vs.length:=aB;simp[l']
  ·rfl
 rwa [hsame] at hset
end Go.AI
namespace Go.Proofs.YtcfcolkbeelegaaGreat.aw03
open Go Go.AI
def lt:List Tm:=[.mk 3 0 [78,97,116] [] [], .mk 4 0 [] [] [vr 0,vr 1]]
def ls:List Lv:=[⟨0,[(1,0)]⟩]
def t3:Tm:= .mk 3 0 [78,97,116] [] [vr 0]
def t4:Tm:= .mk 0 7 [120] [] []
end Go.Proofs.YtcfcolkbeelegaaGreat.aw03
namespace Go.Proofs.YtcfcolkbeelegaaGreat
open Go Go.AI
mutual
theorem aTv (vs:List Tm):∀(t:Tm)(e n d:Int),0<=n->0<=(nM vs e n d t).2.2
 | .mk k i nm ls ks,e,n,d,h=>by
  simp only[nM];split
  ·exact h
  ·split
   ·split
    ·split
     ·simp only;omega
     ·simp only;omega
    ·simp only;omega
   ·exact zC vs ks e (n+1) d k 0 aB
theorem zC (vs:List Tm):∀(l:List Tm)(e n d k:Int)(idx:Nat),0<=n->0<=(eR vs e n d k idx l).2.2
 |[],e,n,d,k,idx,h=>h
 |t::ts,e,n,d,k,idx,h=>by
  simp only[eR];exact zC vs ts _ _ d k (idx+1) (aTv vs t e n _ h)
end
theorem aQs (vs:List Tm)(hvl:vs.length<=1048576)(hvs:∀v∈vs,v.size<=1048576/\v.idx)(N:Nat):
  ∀(t:Tm) (depth err nodes:Int) (h:Heap) (id:Nat),t.size<=N->t.size<=1048576->t.idx->0<=depth->depth+t.size<=1099511627776->0<=nodes->WF h->h[id]?=some (wk err nodes)->
  ACalls Tryz.prog 265 [.ptr id 0,t.av, .p (.sl 5 (aL vs)),iA depth] h fun o h'=>o= .ret (nM vs err nodes depth t).1.av/\h'=h.set id (wk (nM vs err nodes depth t).2.1 (nM vs err nodes depth t).2.2):=by
 induction N with
 |zero=>intro t _ _ _ _ _ hN;have:=t.size_pos;omega
 |succ N ih=>
 intro t depth err nodes h id hN hB hidx hdp hdB hn0 hh hid;obtain⟨g1,g2,g3,g4,g5,hlt⟩:=idf hid;obtain⟨r,hr⟩:∃r,r=nM vs err nodes depth t:=⟨_,rfl⟩;rw[<-hr];obtain⟨k,i,n,ls,ks⟩:=t;simp only[nM] at hr;simp only[Tm.size] at hN hB hdB;simp only[Tm.idx] at hidx;refine ACalls.of_run Tryz.func265 rfl ?_;simp only[Tryz.ntmps265,aYi,aYj,Tm.av,aG,List.map];refine aFi g1 ?_
 by_cases hn4:4096<nodes
 ·rw[if_pos hn4] at hr;subst hr;refine fT hn4 ?_;refine Fin.ret' (h0:=h) aA rfl hh rfl aE rfl (Weak.of_eq aA) aA ⟨rfl,by simp[dP hid]⟩
 rw[if_neg hn4] at hr;refine vD hn4 ?_;have hw1:IntKind.i64.wrap (nodes+1)=nodes+1:=aP aB aB
 by_cases hk0:k=0
 ·subst hk0;obtain⟨hi1,hi2⟩:=hidx.1 rfl;rw[if_pos rfl] at hr;have hwi:IntKind.i64.wrap (i-depth)=i-depth:=aP aB aB
  by_cases hdi:depth<=i
  ·rw[if_pos hdi] at hr;have hz0:¬i-depth<0:=aB
   cases hx:vs[(i-depth).toNat]? with
   |some x=>
    rw[hx] at hr;simp only at hr;have hxm:=hvs x (aYq hx);have hxl:=(aYc.1 hx).1;have hlt2:i-depth<vs.length:=aB;have hsz:=fun(g:Heap) (hg:WF g)=>oR x.size x g (aYd _) aB hg
    have hsh:=fun(g:Heap) (hg:WF g) (hy:g[id]?=some (wk err (nodes+x.size)))=>wZ depth 0 aB aB aB aB (nodes+x.size) x.size x 0 err g id (aYd _) hxm.1 hxm.2 aB aB hg hy
    have hws:IntKind.i64.wrap (nodes+x.size)=nodes+x.size:=aP aB aB;generalize eT depth 0 0 x=q at hr hsh;generalize bY depth 0 0 x=bad at hr hsh;generalize x.size=z at hr hsz hsh hws;subst hr;obtain⟨qk,qi,qn,qls,qks⟩:=q;obtain⟨xk,xi,xn,xls,xks⟩:=x;refine zn ?_;refine zr3 hdi hwi hlt2 ?_;refine zt ?_;refine zr3 hwi hz0 hx ?_;refine yp ?_;refine DR.call (args:=[(Tm.mk xk xi xn xls xks).av]) rfl rfl rfl aA rfl (hsz _ (hh.app aA)) ?_;refine zd3 g1 g2 hws ?_;refine y9 ?_;refine znr ?_;refine rl (args:=[.ptr id 0,(Tm.mk xk xi xn xls xks).av,iA depth,iA 0,iA 0]) rfl aF aA rfl (hsh _ ((hh.set aA).app aA) (g4 _ _)) ?_;simp only[g5];refine zox ?_;refine Fin.ret' (h0:=h.set id (wk (gH bad err) (nodes+z))) aA aA (hh.set aA) rfl aE rfl (Weak.of_eq aA) aA ⟨rfl,rfl⟩
   |none=>
    rw[hx] at hr;simp only at hr;rw[bAy] at hx;have hlt2:¬i-depth<vs.length:=aB;have hwl:IntKind.i64.wrap (i-vs.length)=i-vs.length:=aP aB aB;refine zn ?_;refine zr3 hdi hwi hlt2 ?_;refine zf ?_;refine zr3 g1 g2 hw1 ?_;refine zr ?_;refine y2g ?_;refine zt1 hdi ?_;refine zr1 hwl ?_;generalize i-(vs.length:Int)=z at hr;subst hr;refine rl (args:=[.ptr id 0,iA z]) rfl aF aA rfl (qY _ ((hh.set aA).app aA) id err (nodes+1) z (g4 _ _)) ?_;simp only[g5];refine zov2 ?_;refine zx ?_;refine Fin.ret' (h0:=h.set id (wk (if 65535<z then cN err 24 else err) (nodes+1))) aA aA (hh.set aA) rfl aE rfl (Weak.of_eq (by simp[vr])) aA ⟨rfl,by simp[gH]⟩
  ·rw[if_neg hdi] at hr;subst hr;refine nI hdi ?_;refine zr3 g1 g2 hw1 ?_;refine zr ?_;refine y2g ?_;refine zf1 hdi ?_;refine zrx ?_;refine Fin.ret' (h0:=h.set id (wk err (nodes+1))) aA aA (hh.set aA) rfl aE rfl (Weak.of_eq aA) aA ⟨rfl,rfl⟩
 ·rw[if_neg hk0] at hr;subst hr;have hkb:(k==0)=false:=by simpa using hk0
  refine nI hkb ?_;refine zr3 g1 g2 hw1 ?_;refine zr ?_;refine zf1 hk0 ?_;refine y26 ?_;refine Run.tok 10 5 aA ?_;simp
  refine Run.loopS [0,2,3,5,8] (fun j:Nat=>j<=ks.length) (fun j=>ks.length-j) (fun j=>[(10, .own (h.length+2) 5 (aL (eR vs err (nodes+1) depth k 0 (ks.take j)).1)),(11,iA j)])
   (fun j=>h.set id (wk (eR vs err (nodes+1) depth k 0 (ks.take j)).2.1 (eR vs err (nodes+1) depth k 0 (ks.take j)).2.2)++[some (.cells [iA k,iA i, .p (sP n), .p (.sl 2 (aW ls)), .p (.sl 5 (aL ks))]),some (.cells zTm),some (.tok j 5)])
   0 aA ?_ ?_ ?_
  ·simp[eR,aL];exact zK
  ·simp[eR]
  ·intro j hj IH;refine cC ?_
   by_cases hjl:j<ks.length
   ·refine dD hjl ?_;have hg:ks[j]?=some ks[j]:=aYb hjl;have hbz:=aAd k j;have hs:=fY ks j _ hg;have hs2:=cP ks (j+1);have hs3:=aR ks;have hnn:=zC vs (ks.take j) err (nodes+1) depth k 0 aB;have hlen:=qS vs depth k (ks.take j) err (nodes+1) 0;have hsn:=wR vs depth k (ks.take j) err (nodes+1) 0 ks[j];have hmin:min j ks.length=j:=aZs hj;simp only[aZ3,hmin,aZc] at hsn hlen;have htk:ks.take (j+1)=ks.take j++[ks[j]]:=aYm hjl;rw[<-htk] at hsn;generalize eR vs err (nodes+1) depth k 0 (ks.take j)=R0 at hnn hlen hsn;obtain⟨l0,e0,n0⟩:=R0;simp only at hnn hlen hsn;have hcall:=fun(g:Heap) (hg:WF g) (hy:g[id]?=some (wk e0 n0))=>ih ks[j] (depth+aO k j) e0 n0 g id aB aB (Tm.idxs_at hidx.2 _ (aYe hjl)) aB aB hnn hg hy
    generalize nM vs e0 n0 (depth+aO k j) ks[j]=R1 at hsn hcall;obtain⟨t1,e1,n1⟩:=R1;simp only at hsn hcall;refine nv ?_;refine Run.draw [0,0,0,0,0,0,0,0,0,0,0,0,0,1,1,2,2,3] [0,0,0,0,0,0,0,0,0,0,0,0,0,0,1,0,2,0] [0,0,0,4,0,28,60,0,0,0,512,0,3584,7936,16382,32766,65535,131071] [9,10,11,12,1,2,3,4,5,6,7,8,13,14,0,15,16,17] aC aC ?_;refine y25 ?_;refine zd1 hg ?_;refine DR.call (args:=[.ptr id 0,ks[j].av, .p (.sl 5 (aL vs)),iA (depth+aO k j)]) rfl rfl rfl aA rfl (hcall _ (WF.app (WF.set hh aA) aA) (g4 _ _)) ?_;have hb1:(j+1)*80<=140737488355328:=aB;have hb2:j+1<=9223372036854775807:=aB;refine zd4 g5 hlen hb1 hb2 ?_;refine y9 ?_;refine znr ?_;refine IH (j+1) _ _ aB aB ?_ ?_
    ·rw[hsn,eV];exact zS
    ·rw[hsn]
   ·have hje:j=ks.length:=aB;subst hje;refine aHj ?_;refine Fin.ret' (h0:=h.set id (wk (eR vs err (nodes+1) depth k 0 ks).2.1 (eR vs err (nodes+1) depth k 0 ks).2.2)) aA aA (hh.set aA) rfl aE rfl ?_ ?_ ⟨rfl,rfl⟩
    ·exact y70
    ·simp
theorem aC5 (h:Heap)(hh:WF h)(t:Tm)(vs:List Tm)(dp:Int)(hvl:vs.length<=1048576)(hvs:∀v∈vs,v.size<=1048576/\v.idx)(hsz:t.size<=1048576)(hix:t.idx)(hout:(aJ t vs dp).2=0\/(aJ t vs dp).2=7->(nM vs 0 0 (fQ dp) t).1.size<=1099511627776):
  AC 238 [t.av, .p (.sl 5 (aL vs)),iA dp] h (.tup [(aJ t vs dp).1.av,iA (aJ t vs dp).2]):=by
 obtain⟨r,hr⟩:∃r,r=aJ t vs dp:=⟨_,rfl⟩;rw[<-hr] at hout⊢;unfold aJ at hr
 by_cases hd0:dp<0
 ·rw[if_pos hd0] at hr;subst hr;obtain⟨k,i,n,ls,ks⟩:=t;refine ACalls.of_run Tryz.func238 rfl ?_;simp only[Tryz.ntmps238,aYi,aYj,Tm.av,aG,List.map];refine aHl hd0 ?_;exact y3p
 rw[if_neg hd0] at hr;have hcap:0<=fQ dp/\fQ dp<=65536:=by unfold fQ;split<;>omega
 have hw:=fun(g:Heap) (hg:WF g) (id:Nat) (hid:g[id]?=some (wk 0 0))=>aQs vs hvl hvs t.size t (fQ dp) 0 0 g id (aYd _) hsz hix hcap.1 aB aB hg hid
 generalize nM vs 0 0 (fQ dp) t=R at hr hw hout;obtain⟨q,e,nn⟩:=R;simp only at hr hw hout;have hmin:(if(65536:Int)<dp then(65536:Int) else dp)=fQ dp:=rfl;generalize fQ dp=dd at hw hmin;have hdep:=fun(g:Heap) (hg:WF g) (hs:q.size<=1099511627776)=>nU q.size q g (aYd _) hs hg
 generalize q.depth=qd at hr hdep;obtain⟨k,i,n,ls,ks⟩:=t;generalize hqs:q.size=qsz at hout hdep;obtain⟨qk,qi,qn,qls,qks⟩:=q;refine ACalls.of_run Tryz.func238 rfl ?_;simp only[Tryz.ntmps238,aYi,aYj,Tm.av,aG,List.map];refine rI ?_;refine zf1 hd0 ?_;refine zr ?_;refine zr1 hmin ?_;refine rl (args:=[.ptr (h.length+2) 0,(Tm.mk k i n ls ks).av, .p (.sl 5 (aL vs)),iA dd]) rfl aF aA rfl (hw _ (hh.app aA) (h.length+2) aA) ?_;refine zor ?_
 by_cases h4:4096<nn
 ·rw[if_pos h4] at hr;subst hr;refine fT h4 ?_;refine Fin.ret' (h0:=h) (xs:=[.agg zTm,iA 5]) aA rfl hh rfl aA rfl (Weak.tup (WeakL.cons Weak.zT (WeakL.refl _))) aA ⟨rfl,rfl⟩
 rw[if_neg h4] at hr;refine dI h4 ?_
 by_cases h5:e=0
 ·rw[if_neg (by simp[h5])] at hr;refine vD h5 ?_
  have hqb:qsz<=1099511627776:=by
   apply hout;rw[hr]
   by_cases h7:200<(qd:Int)
   ·rw[if_pos h7];exact .inr rfl
   ·rw[if_neg h7];exact .inl rfl
  refine znr ?_;refine rl (args:=[(Tm.mk qk qi qn qls qks).av]) rfl aF aA rfl (hdep _ (hh.app aA) hqb) ?_;refine zo ?_
  by_cases h7:200<(qd:Int)
  ·rw[if_pos h7] at hr;subst hr;refine fT h7 ?_;exact y6t
  ·rw[if_neg h7] at hr;subst hr;refine xA h7 ?_;exact y3g
 ·rw[if_pos h5] at hr;subst hr;refine dD h5 ?_;refine y14 ?_;refine zd ?_;refine y9 ?_;refine znx ?_;exact y48
theorem aC4 (h:Heap)(hh:WF h)(t:Tm)(vs:List Tm)(r:Tm×Int)(hc:∀g:Heap,WF g->AC 238 [t.av, .p (.sl 5 (aL vs)),iA 0] g (.tup [r.1.av,iA r.2])):
  AC 213 [t.av, .p (.sl 5 (aL vs))] h (.tup [r.1.av,iA r.2]):=by
 obtain⟨t2,e⟩:=r;obtain⟨k,i,nm,ls,ks⟩:=t;obtain⟨k2,i2,nm2,ls2,ks2⟩:=t2;refine ACalls.of_run Tryz.func213 rfl ?_;simp only[Tryz.ntmps213,aYi,aYj,Tm.av,aG,List.map];refine rI ?_;refine rl (args:=[(Tm.mk k i nm ls ks).av, .p (.sl 5 (aL vs)),iA 0]) rfl aF aA rfl (hc _ (hh.app aA)) ?_;refine zox ?_;exact y3g
end Go.Proofs.YtcfcolkbeelegaaGreat
