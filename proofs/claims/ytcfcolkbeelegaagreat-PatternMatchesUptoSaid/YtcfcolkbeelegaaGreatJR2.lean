import Derived.Test.YtcfcolkbeelegaaGreatJA0
import Derived.Test.YtcfcolkbeelegaaGreatJG1
import Derived.Test.YtcfcolkbeelegaaGreatJE12
import Derived.Test.YtcfcolkbeelegaaGreatJH5
import Derived.Test.YtcfcolkbeelegaaGreatJM2
set_option maxRecDepth 8000
set_option maxHeartbeats 8000000
namespace Go.Proofs.YtcfcolkbeelegaaGreat
open Go Go.AI
mutual
def nW (vs:List Tm)(e n d:Int):Tm->Tm×Int×Int
 | .mk k i nm ls ks=>
  if 4096<n then(.mk k i nm ls ks,e,n)
  else if k=0 then
   (if d<=i then
    (match vs[(i-d).toNat]? with
     |some x=>(eV d 0 0 x,gI (bX d 0 0 x) e,n+x.size)
     |none=>(vr (i-vs.length),gI (decide (65535<i-vs.length)) e,n+1))
   else(.mk k i nm ls ks,e,n+1))
  else(.mk k i nm ls (eT vs e (n+1) d k 0 ks).1,(eT vs e (n+1) d k 0 ks).2.1,(eT vs e (n+1) d k 0 ks).2.2)
def eT (vs:List Tm)(e n d k:Int)(idx:Nat):List Tm->List Tm×Int×Int
 |[]=>([],e,n)
 |t::ts=>
  ((nW vs e n (d+aO k idx) t).1::(eT vs (nW vs e n (d+aO k idx) t).2.1 (nW vs e n (d+aO k idx) t).2.2 d k (idx+1) ts).1,
   (eT vs (nW vs e n (d+aO k idx) t).2.1 (nW vs e n (d+aO k idx) t).2.2 d k (idx+1) ts).2.1,
   (eT vs (nW vs e n (d+aO k idx) t).2.1 (nW vs e n (d+aO k idx) t).2.2 d k (idx+1) ts).2.2)
end
theorem wZ (vs:List Tm)(d k:Int):∀(l:List Tm)(e n:Int)(idx:Nat)(t:Tm),
  eT vs e n d k idx (l++[t])=((eT vs e n d k idx l).1++[(nW vs (eT vs e n d k idx l).2.1 (eT vs e n d k idx l).2.2 (d+aO k (idx+l.length:Nat)) t).1],
   (nW vs (eT vs e n d k idx l).2.1 (eT vs e n d k idx l).2.2 (d+aO k (idx+l.length:Nat)) t).2.1,(nW vs (eT vs e n d k idx l).2.1 (eT vs e n d k idx l).2.2 (d+aO k (idx+l.length:Nat)) t).2.2)
 |[],e,n,idx,t=>by simp[eT]
 |x::l,e,n,idx,t=>by simp only[aYy,eT,wZ vs d k l _ _ (idx+1) t];simp[bAz,bBm 1]
theorem rA (vs:List Tm)(d k:Int):∀(l:List Tm)(e n:Int)(idx:Nat),(eT vs e n d k idx l).1.length=l.length
 |[],e,n,idx=>rfl
 |x::l,e,n,idx=>by simp[eT,rA vs d k l]
mutual
def aJr (vs:List Tm)(d:Int):Tm->Tm
 | .mk k i nm ls ks=>
  if k=0 then(if d<=i then(match vs[(i-d).toNat]? with|some x=>eV d 0 0 x|none=>vr (i-vs.length)) else .mk k i nm ls ks)
  else .mk k i nm ls (aCz vs d k 0 ks)
def aCz (vs:List Tm)(d k:Int)(idx:Nat):List Tm->List Tm
 |[]=>[]
 |t::ts=>aJr vs (d+aO k idx) t::aCz vs d k (idx+1) ts
end
mutual
def fS (vs:List Tm)(d:Int):Tm->Bool
 | .mk k i _ _ ks=>
  if k=0 then(if d<=i then(match vs[(i-d).toNat]? with|some x=>bX d 0 0 x|none=>decide (65535<i-vs.length)) else false)
  else fN vs d k 0 ks
def fN (vs:List Tm)(d k:Int)(idx:Nat):List Tm->Bool
 |[]=>false
 |t::ts=>fS vs (d+aO k idx) t||fN vs d k (idx+1) ts
end
mutual
def eW (vs:List Tm)(d:Int):Tm->Nat
 | .mk k i _ _ ks=>
  if k=0 then(if d<=i then(match vs[(i-d).toNat]? with|some x=>x.size|none=>1) else 1)
  else 1+fO vs d k 0 ks
def fO (vs:List Tm)(d k:Int)(idx:Nat):List Tm->Nat
 |[]=>0
 |t::ts=>eW vs (d+aO k idx) t+fO vs d k (idx+1) ts
end
theorem tE (e:Int):gI false e=e:=rfl
mutual
theorem zQ (vs:List Tm):∀(t:Tm)(e n d:Int),(n+eW vs d t<=4096->nW vs e n d t=(aJr vs d t,gI (fS vs d t) e,n+eW vs d t))/\(4096<n+eW vs d t->4096<(nW vs e n d t).2.2)
 | .mk k i nm ls ks,e,n,d=>by
  simp only[nW,aJr,fS,eW]
  by_cases hn:4096<n
  ·simp only[hn,if_true];exact⟨fun h=>by omega,fun _=>by first|trivial|exact hn⟩
  simp only[hn,if_false]
  by_cases hk:k=0
  ·simp only[hk,if_true]
   by_cases hd:d<=i
   ·simp only[hd,if_true]
    cases vs[(i-d).toNat]? with
    |some x=>simp
    |none=>simp
   ·simp only[hd,if_false];simp[tE]
  ·simp only[hk,if_false];have:=uU vs ks e (n+1) d k 0;refine⟨fun h=>?_,fun h=>this.2 aB⟩;rw[this.1 aB];simp;omega
theorem uU (vs:List Tm):∀(ks:List Tm)(e n d k:Int)(idx:Nat),(n+fO vs d k idx ks<=4096->eT vs e n d k idx ks=(aCz vs d k idx ks,gI (fN vs d k idx ks) e,n+fO vs d k idx ks))/\(4096<n+fO vs d k idx ks->4096<(eT vs e n d k idx ks).2.2)
 |[],e,n,d,k,idx=>by simp[eT,aCz,fN,fO,tE]
 |t::ts,e,n,d,k,idx=>by
  simp only[eT,aCz,fN,fO];have h1:=zQ vs t e n (d+aO k idx)
  by_cases hc:n+eW vs (d+aO k idx) t<=4096
  ·rw[h1.1 hc];simp only;have h2:=uU vs ts (gI (fS vs (d+aO k idx) t) e) (n+eW vs (d+aO k idx) t) d k (idx+1);refine⟨fun h=>?_,fun h=>h2.2 aB⟩;rw[h2.1 aB,tF];simp;omega
  ·have h3:=h1.2 aB;have h2:=uU vs ts (nW vs e n (d+aO k idx) t).2.1 (nW vs e n (d+aO k idx) t).2.2 d k (idx+1);exact⟨fun h=>by omega,fun h=>h2.2 aB⟩
end
def fP (dp:Int):Int:=if 65536<dp then 65536 else dp
theorem aSg {vs:List Tm} {i b dp:Int} (h0:0<=dp)(hi:i<65536+b)(hd:fP dp+b<=i):
  (∀x,vs[(i-(fP dp+b)).toNat]?=some x->(0<=i-b-dp/\i-b-dp<vs.length)/\vs[(i-b-dp).toNat]?=some x/\fP dp+b=dp+b)/\
  (vs[(i-(fP dp+b)).toNat]?=none->¬(0<=i-b-dp/\i-b-dp<vs.length))/\fP dp=dp:=by
 have hc:fP dp=dp:=by unfold fP at*;split at hd<;>split<;>omega
 rw[hc] at hd⊢;rw[show i-(dp+b)=i-b-dp by omega];refine⟨fun x hx=>?_,fun hx=>?_,rfl⟩
 ·have:=(aYv.1 hx).1;exact⟨by omega,hx,rfl⟩
 ·rw[bBh] at hx;omega
mutual
theorem aDw (vs:List Tm)(hvl:vs.length<=1048576)(hvs:∀v∈vs,v.size<=1099511627776)(dp:Int)(h0:0<=dp)(h1:dp<=9223372036854775807):
  ∀(t:Tm) (s b:Int),t.ok (65536+b)->0<=b->b+t.size<=1099511627776->0<=s->s<=4096->
   (s+eW vs (fP dp+b) t<=4096->∃u,bld (iY dp (vs.map fun v=>(v.size:Int))) s t b= .ok u (s+eW vs (fP dp+b) t))/\
   (4096<s+eW vs (fP dp+b) t->∃s',bld (iY dp (vs.map fun v=>(v.size:Int))) s t b= .bad 5 s')
 | .mk k i nm ls ks,s,b,hok,hb,hbs,hs0,hs1=>by
  simp only[Tm.ok,Tm.okN] at hok;simp only[Tm.size] at hbs;simp only[bld,eW]
  by_cases hk:k=0
  ·obtain⟨i1,i2,rfl,rfl,rfl⟩:=hok.1.1 hk;subst hk;have hvz:gF dp vs.length (.mk 0 i [] [] []) b=if 0<=i-b-dp/\i-b-dp<vs.length then i-b-dp else-1:=vI (len:=vs.length) (t:= .mk 0 i [] [] []) (b:=b) h0 h1 (by simp only[Tm.index];omega) (by simp only[Tm.index];omega) hvl
   have hcnt:aL2 dp (vs.map fun v=>(v.size:Int)) (.mk 0 i [] [] []) b=(if fP dp+b<=i then(match vs[(i-(fP dp+b)).toNat]? with|some x=>x.size|none=>1) else 1:Nat):=by
    simp only[aL2,Tm.kind,aZo,hvz,true_and]
    by_cases hd:fP dp+b<=i
    ·simp only[hd,if_true];have hv:=aSg (vs:=vs) h0 i2 hd
     cases hx:vs[(i-(fP dp+b)).toNat]? with
     |some x=>
      obtain⟨c1,c2,_⟩:=hv.1 x hx;rw[if_pos c1,if_pos aB];simp[c2]
     |none=>
      rw[if_neg (hv.2.1 hx),if_neg aB];rfl
    ·simp only[hd,if_false];have:¬(0<=i-b-dp/\i-b-dp<vs.length):=by unfold fP at hd;split at hd<;>omega
     rw[if_neg this,if_neg aB];rfl
   have hbd:(if fP dp+b<=i then(match vs[(i-(fP dp+b)).toNat]? with|some x=>x.size|none=>1) else 1:Nat)<=1099511627776:=by
    split
    ·split
     ·rename_i x hx;exact hvs x (aZ9 hx)
     ·omega
    ·omega
   simp only[iY,hcnt,if_true,Tm.kind];generalize (if fP dp+b<=i then(match vs[(i-(fP dp+b)).toNat]? with|some x=>x.size|none=>1) else 1:Nat)=z at*;rw[aQ (n:=s+z) aB aB];constructor
   ·intro h;rw[if_neg aB];exact⟨_,rfl⟩
   ·intro h;rw[if_pos h];exact⟨_,rfl⟩
  ·simp only[hk,if_false]
   have hcnt:aL2 dp (vs.map fun v=>(v.size:Int)) (.mk k i nm ls ks) b=1:=by
    simp only[aL2,Tm.kind,hk,false_and,if_false]
   simp only[iY,hcnt,Tm.kind,hk,if_false];rw[aQ (n:=s+1) aB aB]
   by_cases h5:4096<s+1
   ·simp only[h5,if_true];exact⟨fun h=>by omega,fun _=>⟨_,rfl⟩⟩
   simp only[h5,if_false];have:=aGc vs hvl hvs dp h0 h1 ks (s+1) b k 0 hok.2 hb aB aB aB;constructor
   ·intro h;obtain⟨u,hu⟩:=this.1 aB;rw[hu];simp only;exact⟨_,by congr 1;omega⟩
   ·intro h;obtain⟨s',hu⟩:=this.2 aB;rw[hu];exact⟨_,rfl⟩
theorem aGc (vs:List Tm)(hvl:vs.length<=1048576)(hvs:∀v∈vs,v.size<=1099511627776)(dp:Int)(h0:0<=dp)(h1:dp<=9223372036854775807):
  ∀(ks:List Tm) (s b k:Int) (idx:Nat),Tm.oks (65536+b) k idx ks->0<=b->b+1+Tm.sizes ks<=1099511627776->0<=s->s<=4096->
   (s+fO vs (fP dp+b) k idx ks<=4096->∃u,lS (iY dp (vs.map fun v=>(v.size:Int))) s k b idx ks= .ok u (s+fO vs (fP dp+b) k idx ks))/\
   (4096<s+fO vs (fP dp+b) k idx ks->∃s',lS (iY dp (vs.map fun v=>(v.size:Int))) s k b idx ks= .bad 5 s')
 |[],s,b,k,idx,_,_,_,_,_=>by
  simp only[lS,fO];exact⟨fun _=>⟨_,by simp;rfl⟩,fun h=>by omega⟩
 |t::ts,s,b,k,idx,hok,hb,hbs,hs0,hs1=>by
  simp only[Tm.oks] at hok;simp only[Tm.sizes] at hbs;simp only[lS,fO];have hz:=cE k idx;have e1:=aDw vs hvl hvs dp h0 h1 t s (b+aO k idx) (by rw[<-Int.add_assoc];exact hok.1) aB aB hs0 hs1;rw[<-Int.add_assoc] at e1
  by_cases hc:s+eW vs (fP dp+b+aO k idx) t<=4096
  ·obtain⟨u,hu⟩:=e1.1 hc;rw[hu];simp only;have e2:=aGc vs hvl hvs dp h0 h1 ts (s+eW vs (fP dp+b+aO k idx) t) b k (idx+1) hok.2 hb aB aB hc;constructor
   ·intro h;obtain⟨u2,hu2⟩:=e2.1 aB;rw[hu2];simp only;exact⟨_,by congr 1;omega⟩
   ·intro h;obtain⟨s2,hu2⟩:=e2.2 aB;rw[hu2];exact⟨_,rfl⟩
  ·obtain⟨s',hu⟩:=e1.2 aB;rw[hu];exact⟨fun h=>by omega,fun _=>⟨_,rfl⟩⟩
end
mutual
theorem aDx (vs:List Tm)(hvl:vs.length<=1048576)(hvo:∀v∈vs,v.ok 65536)(dp:Int)(h0:0<=dp)(h1:dp<=9223372036854775807):
  ∀(t:Tm) (s b:Int),t.ok (65536+b)->0<=b->b+t.size<=1099511627776->
   bld (eY (fB dp vs)) s t b=if fS vs (fP dp+b) t=true then .bad 24 s else .ok (aJr vs (fP dp+b) t) s
 | .mk k i nm ls ks,s,b,hok,hb,hbs=>by
  simp only[Tm.ok,Tm.okN] at hok;simp only[Tm.size] at hbs;simp only[bld,fS,aJr]
  by_cases hk:k=0
  ·obtain⟨i1,i2,rfl,rfl,rfl⟩:=hok.1.1 hk;subst hk;have hvz:gF dp vs.length (.mk 0 i [] [] []) b=if 0<=i-b-dp/\i-b-dp<vs.length then i-b-dp else-1:=vI (len:=vs.length) (t:= .mk 0 i [] [] []) (b:=b) h0 h1 (by simp only[Tm.index];omega) (by simp only[Tm.index];omega) hvl
   obtain⟨v,hv0⟩:∃v,gF dp vs.length (.mk 0 i [] [] []) b=v:=⟨_,rfl⟩
   have hrep:fB dp vs s (.mk 0 i [] [] []) b=if 0<=v then(match vs[v.toNat]? with
     |some x=>(match rB (dp+b) 0 x with
      | .ok t' _=> .ok t' s
      | .bad e _=> .bad e s)
     |none=> .ok (.mk 0 i [] [] []) s)
    else if i-b<dp then .ok (.mk 0 i [] [] []) s
    else if 65535<i-vs.length then .bad 24 s else .ok (vr (i-vs.length)) s:=by rw[<-hv0];rfl
   rw[hv0] at hvz;simp only[eY,Tm.kind,if_true,hrep]
   by_cases hd:fP dp+b<=i
   ·simp only[hd,if_true];have hv:=aSg (vs:=vs) h0 i2 hd
    cases hx:vs[(i-(fP dp+b)).toNat]? with
    |some x=>
     obtain⟨c1,c2,c3⟩:=hv.1 x hx;rw[if_pos c1] at hvz;rw[if_pos (show 0<=v by omega),hvz,c2,c3];simp only[rB];rw[aAr (dp+b) 0 0 aA x 0 0 (by simpa using hvo x (aZ9 hx))]
     by_cases hbad:bX (dp+b) 0 0 x=true
     ·simp[hbad]
     ·simp[hbad]
    |none=>
     have hc:=hv.2.1 hx;have hcap:=hv.2.2;rw[if_neg hc] at hvz;rw[if_neg (show¬0<=v by omega),if_neg (show¬i-b<dp by omega)]
     by_cases h5:65535<i-vs.length
     ·simp[h5]
     ·simp[h5]
   ·simp only[hd,if_false];have:¬(0<=i-b-dp/\i-b-dp<vs.length):=by unfold fP at hd;split at hd<;>omega
    rw[if_neg this] at hvz;rw[if_neg (show¬0<=v by omega),if_pos (show i-b<dp by unfold fP at hd;split at hd<;>omega)];simp
  ·simp only[eY,Tm.kind,hk,if_false,Tm.bare];have e:=aGe vs hvl hvo dp h0 h1 ks s b k 0 hok.2 hb aB;simp only[e]
   by_cases hbad:fN vs (fP dp+b) k 0 ks=true
   ·simp[hbad]
   ·simp[hbad,Tm.withKids]
theorem aGe (vs:List Tm)(hvl:vs.length<=1048576)(hvo:∀v∈vs,v.ok 65536)(dp:Int)(h0:0<=dp)(h1:dp<=9223372036854775807):
  ∀(ks:List Tm) (s b k:Int) (idx:Nat),Tm.oks (65536+b) k idx ks->0<=b->b+1+Tm.sizes ks<=1099511627776->
   lS (eY (fB dp vs)) s k b idx ks=if fN vs (fP dp+b) k idx ks=true then .bad 24 s else .ok (aCz vs (fP dp+b) k idx ks) s
 |[],s,b,k,idx,_,_,_=>by simp[lS,fN,aCz]
 |t::ts,s,b,k,idx,hok,hb,hbs=>by
  simp only[Tm.oks] at hok;simp only[Tm.sizes] at hbs;simp only[lS,fN,aCz];have hz:=cE k idx;have e1:=aDx vs hvl hvo dp h0 h1 t s (b+aO k idx) (by rw[<-Int.add_assoc];exact hok.1) aB aB;rw[<-Int.add_assoc] at e1;rw[e1]
  by_cases hb1:fS vs (fP dp+b+aO k idx) t=true
  ·simp[hb1]
  ·rw[if_neg hb1];simp only;rw[aGe vs hvl hvo dp h0 h1 ts s b k (idx+1) hok.2 hb aB];rw[Bool.not_eq_true] at hb1
   by_cases hb2:fN vs (fP dp+b) k (idx+1) ts=true
   ·simp[hb1,hb2]
   ·simp[hb1,hb2]
end
def aI (t:Tm)(vs:List Tm)(dp:Int):Tm×Int:=
 if dp<0 then(zT,2)
 else if 4096<(nW vs 0 0 (fP dp) t).2.2 then(zT,5)
 else if(nW vs 0 0 (fP dp) t).2.1≠0 then(zT,(nW vs 0 0 (fP dp) t).2.1)
 else if 200<((nW vs 0 0 (fP dp) t).1.depth:Int) then(zT,7) else((nW vs 0 0 (fP dp) t).1,0)
def aCi (t:Tm)(vs:List Tm)(d:Int):Tm×Int:=
 if 4096<(eW vs d t:Int) then(zT,5) else if fS vs d t=true then(zT,24) else if 200<((aJr vs d t).depth:Int) then(zT,7) else(aJr vs d t,0)
theorem lE (t:Tm)(vs:List Tm)(dp:Int)(h0:0<=dp):aI t vs dp=aCi t vs (fP dp):=by
 have hr:=zQ vs t 0 0 (fP dp);rw[aI,if_neg aB,aCi]
 by_cases hc:4096<(eW vs (fP dp) t:Int)
 ·rw[if_pos (hr.2 aB),if_pos hc]
 ·rw[hr.1 aB,if_neg (by simp only;omega),if_neg hc]
  cases fS vs (fP dp) t<;>simp[gI,cO]
theorem aN8 (t:Tm)(vs:List Tm)(dp:Int)(hok:t.ok 65536)(hsz:t.size<=1048576)(hvl:vs.length<=1048576)(hvo:∀v∈vs,v.ok 65536)(hvs:∀v∈vs,v.size<=1099511627776)(h1:dp<=9223372036854775807):
  gC t vs dp=aI t vs dp:=by
 by_cases h0:dp<0
 ·simp[gC,aI,h0]
 rw[lE t vs dp aB,gC,if_neg h0,aCi];have hc:=aDw vs hvl hvs dp aB h1 t 0 0 (by simpa using hok) aB aB aB aB;have hs:=aDx vs hvl hvo dp aB h1 t 0 0 (by simpa using hok) aB aB;simp only[Int.add_zero,Int.zero_add] at hc hs
 by_cases h5:4096<(eW vs (fP dp) t:Int)
 ·obtain⟨s',hu⟩:=hc.2 h5;rw[hu,if_pos h5]
 ·obtain⟨u,hu⟩:=hc.1 aB;rw[hu,if_neg h5,hs];simp only
  by_cases hb:fS vs (fP dp) t=true
  ·simp[hb]
  ·simp[hb]
mutual
theorem uY (d f:Int):∀(t:Tm)(dp m:Int),t.ok m->(eV d f dp t).size=t.size
 | .mk k i n ls ks,dp,m,h=>by
  simp only[Tm.ok,Tm.okN] at h;simp only[eV]
  by_cases hk:k=0
  ·obtain⟨_,_,rfl,rfl,rfl⟩:=h.1.1 hk;simp only[hk,if_true];split
   ·rfl
   ·rfl
  ·simp only[hk,if_false,Tm.size];rw[uW d f ks dp k m 0 h.2]
theorem uW (d f:Int):∀(l:List Tm)(dp k m:Int)(idx:Nat),Tm.oks m k idx l->Tm.sizes (eO d f dp k idx l)=Tm.sizes l
 |[],dp,k,m,idx,_=>rfl
 |t::ts,dp,k,m,idx,h=>by
  simp only[Tm.oks] at h;simp only[eO,Tm.sizes];rw[uY d f t _ _ h.1,uW d f ts dp k m (idx+1) h.2]
end
mutual
theorem aCr (d f:Int)(hf:0<=f):∀(t:Tm)(dp M m:Int),t.ok m->65536+dp<=M->m<=M->0<=dp->bX d f dp t=false->(eV d f dp t).ok M
 | .mk k i n ls ks,dp,M,m,h,hM,hm,hdp,hb=>by
  simp only[Tm.ok,Tm.okN] at h;simp only[eV];simp only[bX] at hb
  by_cases hk:k=0
  ·obtain⟨h1,h2,rfl,rfl,rfl⟩:=h.1.1 hk;simp only[hk,if_true] at hb⊢
   by_cases hc:i<f+dp\/i+d<f+dp
   ·rw[if_pos hc];simp only[Tm.ok,Tm.okN,Tm.oks];exact⟨⟨fun _=>⟨h1,by omega,trivial,trivial,trivial⟩,by simp,by simp,by simp⟩,trivial⟩
   ·rw[if_neg hc];simp only[vr,Tm.ok,Tm.okN,Tm.oks];simp at hb;exact⟨⟨fun _=>⟨by omega,by omega,trivial,trivial,trivial⟩,by simp,by simp,by simp⟩,trivial⟩
  ·simp only[hk,if_false] at hb⊢;simp only[Tm.ok,Tm.okN];have hl:(eO d f dp k 0 ks).length=ks.length:=kG d f dp k ks 0;exact⟨⟨fun h0=>absurd h0 hk,h.1.2.1,h.1.2.2.1,by rw[hl];exact h.1.2.2.2⟩,aCp d f hf ks dp M m k 0 h.2 hM hm hdp hb⟩
theorem aCp (d f:Int)(hf:0<=f):∀(l:List Tm)(dp M m k:Int)(idx:Nat),Tm.oks m k idx l->65536+dp<=M->m<=M->0<=dp->bU d f dp k idx l=false->Tm.oks M k idx (eO d f dp k idx l)
 |[],dp,M,m,k,idx,_,_,_,_,_=>trivial
 |t::ts,dp,M,m,k,idx,h,hM,hm,hdp,hb=>by
  simp only[Tm.oks] at h;simp only[bU,bAm] at hb;have hz:=cE k idx;simp only[eO,Tm.oks];exact⟨aCr d f hf t _ _ _ h.1 aB aB aB hb.1,aCp d f hf ts dp M m k (idx+1) h.2 hM hm hdp hb.2⟩
end
theorem vC (vs:List Tm)(d k:Int):∀(l:List Tm)(idx:Nat),(aCz vs d k idx l).length=l.length
 |[],idx=>rfl
 |x::l,idx=>by simp[aCz,vC vs d k l]
mutual
theorem aFe (vs:List Tm)(hvo:∀v∈vs,v.ok 65536):∀(t:Tm)(d m:Int),t.ok m->0<=d->65536+d<=m->fS vs d t=false->(aJr vs d t).ok m/\(aJr vs d t).size=eW vs d t
 | .mk k i n ls ks,d,m,h,hd,hm,hb=>by
  have h':=h;simp only[Tm.ok,Tm.okN] at h;simp only[aJr,eW];simp only[fS] at hb
  by_cases hk:k=0
  ·obtain⟨h1,h2,rfl,rfl,rfl⟩:=h.1.1 hk;simp only[hk,if_true] at hb⊢
   by_cases hc:d<=i
   ·simp only[hc,if_true] at hb⊢
    cases hx:vs[(i-d).toNat]? with
    |some x=>
     rw[hx] at hb;simp only at hb⊢;have hxo:=hvo x (aZ9 hx);refine⟨aCr d 0 aB x 0 m 65536 hxo aB aB aB hb,?_⟩;exact uY d 0 x 0 65536 hxo
    |none=>
     rw[hx] at hb;simp at hb;rw[bBh] at hx;simp only[vr,Tm.ok,Tm.okN,Tm.oks];exact⟨⟨⟨fun _=>⟨by omega,by omega,trivial,trivial,trivial⟩,by simp,by simp,by simp⟩,trivial⟩,rfl⟩
   ·simp only[hc,if_false];exact⟨by rw[<-hk];exact h',rfl⟩
  ·simp only[hk,if_false] at hb⊢;have hl:=vC vs d k ks 0;have:=aNu vs hvo ks d m k 0 h.2 hd hm hb;simp only[Tm.ok,Tm.okN,Tm.size];exact⟨⟨⟨fun h0=>absurd h0 hk,h.1.2.1,h.1.2.2.1,by rw[hl];exact h.1.2.2.2⟩,this.1⟩,by rw[this.2]⟩
theorem aNu (vs:List Tm)(hvo:∀v∈vs,v.ok 65536):∀(l:List Tm)(d m k:Int)(idx:Nat),Tm.oks m k idx l->0<=d->65536+d<=m->fN vs d k idx l=false->Tm.oks m k idx (aCz vs d k idx l)/\Tm.sizes (aCz vs d k idx l)=fO vs d k idx l
 |[],d,m,k,idx,_,_,_,_=>⟨trivial,rfl⟩
 |t::ts,d,m,k,idx,h,hd,hm,hb=>by
  simp only[Tm.oks] at h;simp only[fN,bAm] at hb;have hz:=cE k idx;have e1:=aFe vs hvo t (d+aO k idx) (m+aO k idx) h.1 aB aB hb.1;have e2:=aNu vs hvo ts d m k (idx+1) h.2 hd hm hb.2;simp only[aCz,Tm.oks,Tm.sizes,fO];exact⟨⟨e1.1,e2.1⟩,by rw[e1.2,e2.2]⟩
end
open Go Go.AI
def aPu (l:List Int):List (List PV):=l.map fun x=>[iP x]
@[simp] theorem aS2 (l:List Int):(aPu l).length=l.length:=by simp[aPu]
@[simp] theorem aVp (l:List Int) (i:Nat):(aPu l)[i]?=(l[i]?).map fun x=>[iP x] :=by simp[aPu]
end Go.Proofs.YtcfcolkbeelegaaGreat
namespace Go.AI
open Go
theorem Run.weakAt {P:Program} {rd:Option Nat} {nb:Nat} {k:List It} {T:List AV} {h:Heap} {D:List AD} {Q:AX->List AV->Heap->List AD->Prop} (slot:Nat)(y:AV)(hw:Weak (nO T slot) y)(r:Run P rd nb k (T.set slot y) h D Q):Run P rd nb k T h D Q:=by
 refine Run.weak ?_ r;intro E w vs hT;have hv:=hT.get slot;rw[<-fD] at hv;have hset:=hT.set (hw E w _ hv) slot
 have hsame:vs.set slot (vs.getD slot undef)=vs:=by
  apply bAi;intro j;refine y2b ?_;split
  ·rename_i e;subst e;rcases bAh slot vs.length with l|l
   ·simp[l]
   ·have l':¬slot<vs.length:=aB;simp[l']
  ·rfl
 rwa [hsame] at hset
end Go.AI
namespace Go.Proofs.YtcfcolkbeelegaaGreat.aw03
open Go Go.AI
def lt:List Tm:=[.mk 3 0 [78,97,116] [] [], .mk 4 0 [] [] [vr 0,vr 1]]
def ls:List Lv:=[⟨0,[(1,0)]⟩]
def t3:Tm:= .mk 3 0 [78,97,116] [] [vr 0]
def t4:Tm:= .mk 0 7 [120] [] []
end Go.Proofs.YtcfcolkbeelegaaGreat.aw03
namespace Go.Proofs.YtcfcolkbeelegaaGreat
open Go Go.AI
mutual
theorem aUb (vs:List Tm):∀(t:Tm)(e n d:Int),0<=n->0<=(nW vs e n d t).2.2
 | .mk k i nm ls ks,e,n,d,h=>by
  simp only[nW];split
  ·exact h
  ·split
   ·split
    ·split
     ·simp only;omega
     ·simp only;omega
    ·simp only;omega
   ·exact zP vs ks e (n+1) d k 0 aB
theorem zP (vs:List Tm):∀(l:List Tm)(e n d k:Int)(idx:Nat),0<=n->0<=(eT vs e n d k idx l).2.2
 |[],e,n,d,k,idx,h=>h
 |t::ts,e,n,d,k,idx,h=>by
  simp only[eT];exact zP vs ts _ _ d k (idx+1) (aUb vs t e n _ h)
end
theorem aRa (vs:List Tm)(hvl:vs.length<=1048576)(hvs:∀v∈vs,v.size<=1048576/\v.idx)(N:Nat):
  ∀(t:Tm) (depth err nodes:Int) (h:Heap) (id:Nat),t.size<=N->t.size<=1048576->t.idx->0<=depth->depth+t.size<=1099511627776->0<=nodes->WF h->h[id]?=some (wk err nodes)->
  ACalls Tryz.prog 265 [.ptr id 0,t.av, .p (.sl 5 (aL vs)),iA depth] h fun o h'=>o= .ret (nW vs err nodes depth t).1.av/\h'=h.set id (wk (nW vs err nodes depth t).2.1 (nW vs err nodes depth t).2.2):=by
 induction N with
 |zero=>intro t _ _ _ _ _ hN;have:=t.size_pos;omega
 |succ N ih=>
 intro t depth err nodes h id hN hB hidx hdp hdB hn0 hh hid;obtain⟨g1,g2,g3,g4,g5,hlt⟩:=idf hid;obtain⟨r,hr⟩:∃r,r=nW vs err nodes depth t:=⟨_,rfl⟩;rw[<-hr];obtain⟨k,i,n,ls,ks⟩:=t;simp only[nW] at hr;simp only[Tm.size] at hN hB hdB;simp only[Tm.idx] at hidx;refine ACalls.of_run Tryz.func265 rfl ?_;simp only[Tryz.ntmps265,aZ1,aZ2,Tm.av,aH,List.map];refine aFx g1 ?_
 by_cases hn4:4096<nodes
 ·rw[if_pos hn4] at hr;subst hr;refine fT hn4 ?_;refine Fin.ret' (h0:=h) aA rfl hh rfl aE rfl (Weak.of_eq aA) aA ⟨rfl,by simp[dO hid]⟩
 rw[if_neg hn4] at hr;refine vL hn4 ?_;have hw1:IntKind.i64.wrap (nodes+1)=nodes+1:=aQ aB aB
 by_cases hk0:k=0
 ·subst hk0;obtain⟨hi1,hi2⟩:=hidx.1 rfl;rw[if_pos rfl] at hr;have hwi:IntKind.i64.wrap (i-depth)=i-depth:=aQ aB aB
  by_cases hdi:depth<=i
  ·rw[if_pos hdi] at hr;have hz0:¬i-depth<0:=aB
   cases hx:vs[(i-depth).toNat]? with
   |some x=>
    rw[hx] at hr;simp only at hr;have hxm:=hvs x (aZ9 hx);have hxl:=(aYv.1 hx).1;have hlt2:i-depth<vs.length:=aB;have hsz:=fun(g:Heap) (hg:WF g)=>pB x.size x g (aYw _) aB hg
    have hsh:=fun(g:Heap) (hg:WF g) (hy:g[id]?=some (wk err (nodes+x.size)))=>xH depth 0 aB aB aB aB (nodes+x.size) x.size x 0 err g id (aYw _) hxm.1 hxm.2 aB aB hg hy
    have hws:IntKind.i64.wrap (nodes+x.size)=nodes+x.size:=aQ aB aB;generalize eV depth 0 0 x=q at hr hsh;generalize bX depth 0 0 x=bad at hr hsh;generalize x.size=z at hr hsz hsh hws;subst hr;obtain⟨qk,qi,qn,qls,qks⟩:=q;obtain⟨xk,xi,xn,xls,xks⟩:=x;refine zn ?_;refine zr3 hdi hwi hlt2 ?_;refine zt ?_;refine zr3 hwi hz0 hx ?_;refine yp ?_;refine DR.call (args:=[(Tm.mk xk xi xn xls xks).av]) rfl rfl rfl aA rfl (hsz _ (hh.app aA)) ?_;refine zd3 g1 g2 hws ?_;refine y9 ?_;refine znr ?_;refine rl (args:=[.ptr id 0,(Tm.mk xk xi xn xls xks).av,iA depth,iA 0,iA 0]) rfl aF aA rfl (hsh _ ((hh.set aA).app aA) (g4 _ _)) ?_;simp only[g5];refine zox ?_;refine Fin.ret' (h0:=h.set id (wk (gI bad err) (nodes+z))) aA aA (hh.set aA) rfl aE rfl (Weak.of_eq aA) aA ⟨rfl,rfl⟩
   |none=>
    rw[hx] at hr;simp only at hr;rw[bBh] at hx;have hlt2:¬i-depth<vs.length:=aB;have hwl:IntKind.i64.wrap (i-vs.length)=i-vs.length:=aQ aB aB;refine zn ?_;refine zr3 hdi hwi hlt2 ?_;refine zf ?_;refine zr3 g1 g2 hw1 ?_;refine zr ?_;refine y2g ?_;refine zt1 hdi ?_;refine zr1 hwl ?_;generalize i-(vs.length:Int)=z at hr;subst hr;refine rl (args:=[.ptr id 0,iA z]) rfl aF aA rfl (rG _ ((hh.set aA).app aA) id err (nodes+1) z (g4 _ _)) ?_;simp only[g5];refine zov2 ?_;refine zx ?_;refine Fin.ret' (h0:=h.set id (wk (if 65535<z then cO err 24 else err) (nodes+1))) aA aA (hh.set aA) rfl aE rfl (Weak.of_eq (by simp[vr])) aA ⟨rfl,by simp[gI]⟩
  ·rw[if_neg hdi] at hr;subst hr;refine nR hdi ?_;refine zr3 g1 g2 hw1 ?_;refine zr ?_;refine y2g ?_;refine zf1 hdi ?_;refine zrx ?_;refine Fin.ret' (h0:=h.set id (wk err (nodes+1))) aA aA (hh.set aA) rfl aE rfl (Weak.of_eq aA) aA ⟨rfl,rfl⟩
 ·rw[if_neg hk0] at hr;subst hr;have hkb:(k==0)=false:=by simpa using hk0
  refine nR hkb ?_;refine zr3 g1 g2 hw1 ?_;refine zr ?_;refine zf1 hk0 ?_;refine y26 ?_;refine Run.tok 10 5 aA ?_;simp
  refine Run.loopS [0,2,3,5,8] (fun j:Nat=>j<=ks.length) (fun j=>ks.length-j) (fun j=>[(10, .own (h.length+2) 5 (aL (eT vs err (nodes+1) depth k 0 (ks.take j)).1)),(11,iA j)])
   (fun j=>h.set id (wk (eT vs err (nodes+1) depth k 0 (ks.take j)).2.1 (eT vs err (nodes+1) depth k 0 (ks.take j)).2.2)++[some (.cells [iA k,iA i, .p (sP n), .p (.sl 2 (aW ls)), .p (.sl 5 (aL ks))]),some (.cells zTm),some (.tok j 5)])
   0 aA ?_ ?_ ?_
  ·simp[eT,aL];exact zK
  ·simp[eT]
  ·intro j hj IH;refine cI ?_
   by_cases hjl:j<ks.length
   ·refine dF hjl ?_;have hg:ks[j]?=some ks[j]:=aYu hjl;have hbz:=aAn k j;have hs:=fY ks j _ hg;have hs2:=cQ ks (j+1);have hs3:=aR ks;have hnn:=zP vs (ks.take j) err (nodes+1) depth k 0 aB;have hlen:=rA vs depth k (ks.take j) err (nodes+1) 0;have hsn:=wZ vs depth k (ks.take j) err (nodes+1) 0 ks[j];have hmin:min j ks.length=j:=bAb hj;simp only[aZm,hmin,aZv] at hsn hlen;have htk:ks.take (j+1)=ks.take j++[ks[j]]:=aZ5 hjl;rw[<-htk] at hsn;generalize eT vs err (nodes+1) depth k 0 (ks.take j)=R0 at hnn hlen hsn;obtain⟨l0,e0,n0⟩:=R0;simp only at hnn hlen hsn;have hcall:=fun(g:Heap) (hg:WF g) (hy:g[id]?=some (wk e0 n0))=>ih ks[j] (depth+aO k j) e0 n0 g id aB aB (Tm.idxs_at hidx.2 _ (aYx hjl)) aB aB hnn hg hy
    generalize nW vs e0 n0 (depth+aO k j) ks[j]=R1 at hsn hcall;obtain⟨t1,e1,n1⟩:=R1;simp only at hsn hcall;refine nv ?_;refine Run.draw [0,0,0,0,0,0,0,0,0,0,0,0,0,1,1,2,2,3] [0,0,0,0,0,0,0,0,0,0,0,0,0,0,1,0,2,0] [0,0,0,4,0,28,60,0,0,0,512,0,3584,7936,16382,32766,65535,131071] [9,10,11,12,1,2,3,4,5,6,7,8,13,14,0,15,16,17] aC aC ?_;refine y25 ?_;refine zd1 hg ?_;refine DR.call (args:=[.ptr id 0,ks[j].av, .p (.sl 5 (aL vs)),iA (depth+aO k j)]) rfl rfl rfl aA rfl (hcall _ (WF.app (WF.set hh aA) aA) (g4 _ _)) ?_;have hb1:(j+1)*80<=140737488355328:=aB;have hb2:j+1<=9223372036854775807:=aB;refine zd4 g5 hlen hb1 hb2 ?_;refine y9 ?_;refine znr ?_;refine IH (j+1) _ _ aB aB ?_ ?_
    ·rw[hsn,eX];exact zS
    ·rw[hsn]
   ·have hje:j=ks.length:=aB;subst hje;refine aI0 ?_;refine Fin.ret' (h0:=h.set id (wk (eT vs err (nodes+1) depth k 0 ks).2.1 (eT vs err (nodes+1) depth k 0 ks).2.2)) aA aA (hh.set aA) rfl aE rfl ?_ ?_ ⟨rfl,rfl⟩
    ·exact y70
    ·simp
theorem aCg (h:Heap)(hh:WF h)(t:Tm)(vs:List Tm)(dp:Int)(hvl:vs.length<=1048576)(hvs:∀v∈vs,v.size<=1048576/\v.idx)(hsz:t.size<=1048576)(hix:t.idx)(hout:(aI t vs dp).2=0\/(aI t vs dp).2=7->(nW vs 0 0 (fP dp) t).1.size<=1099511627776):
  AC 238 [t.av, .p (.sl 5 (aL vs)),iA dp] h (.tup [(aI t vs dp).1.av,iA (aI t vs dp).2]):=by
 obtain⟨r,hr⟩:∃r,r=aI t vs dp:=⟨_,rfl⟩;rw[<-hr] at hout⊢;unfold aI at hr
 by_cases hd0:dp<0
 ·rw[if_pos hd0] at hr;subst hr;obtain⟨k,i,n,ls,ks⟩:=t;refine ACalls.of_run Tryz.func238 rfl ?_;simp only[Tryz.ntmps238,aZ1,aZ2,Tm.av,aH,List.map];refine aI2 hd0 ?_;exact y3o
 rw[if_neg hd0] at hr;have hcap:0<=fP dp/\fP dp<=65536:=by unfold fP;split<;>omega
 have hw:=fun(g:Heap) (hg:WF g) (id:Nat) (hid:g[id]?=some (wk 0 0))=>aRa vs hvl hvs t.size t (fP dp) 0 0 g id (aYw _) hsz hix hcap.1 aB aB hg hid
 generalize nW vs 0 0 (fP dp) t=R at hr hw hout;obtain⟨q,e,nn⟩:=R;simp only at hr hw hout;have hmin:(if(65536:Int)<dp then(65536:Int) else dp)=fP dp:=rfl;generalize fP dp=dd at hw hmin;have hdep:=fun(g:Heap) (hg:WF g) (hs:q.size<=1099511627776)=>oD q.size q g (aYw _) hs hg
 generalize q.depth=qd at hr hdep;obtain⟨k,i,n,ls,ks⟩:=t;generalize hqs:q.size=qsz at hout hdep;obtain⟨qk,qi,qn,qls,qks⟩:=q;refine ACalls.of_run Tryz.func238 rfl ?_;simp only[Tryz.ntmps238,aZ1,aZ2,Tm.av,aH,List.map];refine rS ?_;refine zf1 hd0 ?_;refine zr ?_;refine zr1 hmin ?_;refine rl (args:=[.ptr (h.length+2) 0,(Tm.mk k i n ls ks).av, .p (.sl 5 (aL vs)),iA dd]) rfl aF aA rfl (hw _ (hh.app aA) (h.length+2) aA) ?_;refine zor ?_
 by_cases h4:4096<nn
 ·rw[if_pos h4] at hr;subst hr;refine fT h4 ?_;refine Fin.ret' (h0:=h) (xs:=[.agg zTm,iA 5]) aA rfl hh rfl aA rfl (Weak.tup (WeakL.cons Weak.zT (WeakL.refl _))) aA ⟨rfl,rfl⟩
 rw[if_neg h4] at hr;refine dJ h4 ?_
 by_cases h5:e=0
 ·rw[if_neg (by simp[h5])] at hr;refine vL h5 ?_
  have hqb:qsz<=1099511627776:=by
   apply hout;rw[hr]
   by_cases h7:200<(qd:Int)
   ·rw[if_pos h7];exact .inr rfl
   ·rw[if_neg h7];exact .inl rfl
  refine znr ?_;refine rl (args:=[(Tm.mk qk qi qn qls qks).av]) rfl aF aA rfl (hdep _ (hh.app aA) hqb) ?_;refine zo ?_
  by_cases h7:200<(qd:Int)
  ·rw[if_pos h7] at hr;subst hr;refine fT h7 ?_;exact y6s
  ·rw[if_neg h7] at hr;subst hr;refine xI h7 ?_;exact y3f
 ·rw[if_pos h5] at hr;subst hr;refine dF h5 ?_;refine y14 ?_;refine zd ?_;refine y9 ?_;refine znx ?_;exact y47
theorem aCf (h:Heap)(hh:WF h)(t:Tm)(vs:List Tm)(r:Tm×Int)(hc:∀g:Heap,WF g->AC 238 [t.av, .p (.sl 5 (aL vs)),iA 0] g (.tup [r.1.av,iA r.2])):
  AC 213 [t.av, .p (.sl 5 (aL vs))] h (.tup [r.1.av,iA r.2]):=by
 obtain⟨t2,e⟩:=r;obtain⟨k,i,nm,ls,ks⟩:=t;obtain⟨k2,i2,nm2,ls2,ks2⟩:=t2;refine ACalls.of_run Tryz.func213 rfl ?_;simp only[Tryz.ntmps213,aZ1,aZ2,Tm.av,aH,List.map];refine rS ?_;refine rl (args:=[(Tm.mk k i nm ls ks).av, .p (.sl 5 (aL vs)),iA 0]) rfl aF aA rfl (hc _ (hh.app aA)) ?_;refine zox ?_;exact y3f
end Go.Proofs.YtcfcolkbeelegaaGreat
