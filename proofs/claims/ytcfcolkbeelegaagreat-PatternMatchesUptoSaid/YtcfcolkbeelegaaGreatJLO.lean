import Derived.Test.YtcfcolkbeelegaaGreatJA0
import Derived.Test.YtcfcolkbeelegaaGreatJLB
import Derived.Test.YtcfcolkbeelegaaGreatJM2
import Derived.Test.YtcfcolkbeelegaaGreatJD
import Derived.Test.YtcfcolkbeelegaaGreatJE12
set_option maxRecDepth 8000
set_option maxHeartbeats 16000000
namespace Go.Proofs.YtcfcolkbeelegaaGreat
open Go Go.AI
theorem aD7:∀ {l:List (Int×Int)},(l.map Prod.fst).Pairwise (·<·)->upL l
 |[],_=>trivial
 |x::l,h=>by
  simp only[aZc,List.pairwise_cons] at h;exact⟨fun y hy=>h.1 _ (aZq.2 ⟨y,hy,rfl⟩),aD7 h.2⟩
def mH (m:List (Int×Int)):List (Int×Int):=((m.map Prod.fst).mergeSort fun x y=>decide (x<=y)).map fun i=>(i,(lkI m i).getD 0)
theorem aIx {l:List (Int×Int)} {i:Int} (h:i∈l.map Prod.fst):∃v,lkI l i=some v:=by
 induction l with
 |nil=>simp at h
 |cons x l ih=>
  simp only[lkI]
  by_cases c:x.1=i
  ·exact⟨_,if_pos c⟩
  ·rw[if_neg c];simp only[aZc,aZg] at h;exact ih (h.resolve_left fun e=>c e.symm)
theorem aQx {m:List (Int×Int)} (h:(m.map Prod.fst).Nodup):upL (mH m):=by
 apply aD7
 have e:(mH m).map Prod.fst=(m.map Prod.fst).mergeSort fun x y=>decide (x<=y):=by
  simp[mH,Function.comp_def]
 rw[e]
 have h1:((m.map Prod.fst).mergeSort fun x y=>decide (x<=y)).Pairwise (fun a b=>decide (a<=b)=true):=
  List.pairwise_mergeSort (fun a b c hab hbc=>by simp at*;omega) (fun a b=>by simp;omega) _
 have h2:((m.map Prod.fst).mergeSort fun x y=>decide (x<=y)).Nodup:=(List.mergeSort_perm _ _).nodup_iff.2 h;have h3:=List.Pairwise.and h1 h2;exact h3.imp fun {a b} ⟨c,d⟩=>by simp at c;omega
theorem aTp {f:Int->Int} (ks:List Int)(i:Int):lkI (ks.map fun i=>(i,f i)) i=if i∈ks then some (f i) else none:=by
 induction ks with
 |nil=>simp[lkI]
 |cons k ks ih=>
  simp only[aZc,lkI,ih,aZg]
  by_cases c:k=i
  ·subst c;simp
  ·have:¬i=k:=fun e=>c e.symm
   simp[c,this]
theorem aHs {m:List (Int×Int)} (i:Int):lkI (mH m) i=lkI m i:=by
 unfold mH;rw[aTp];split
 ·rename_i h;have h':i∈m.map Prod.fst:=(List.mergeSort_perm _ _).mem_iff.1 h;obtain⟨v,hv⟩:=aIx h';rw[hv];rfl
 ·rename_i h;have h':i∉m.map Prod.fst:=fun c=>h ((List.mergeSort_perm _ _).mem_iff.2 c)
  exact(oL fun y hy e=>h' (aZq.2 ⟨y,hy,e⟩)).symm
theorem aQw {m s:List (Int×Int)} (hs:upL s)(hm:(m.map Prod.fst).Nodup)(h:∀i,lkI s i=lkI m i):mH m=s:=
 aO6 (aQx hm) hs fun i=>by rw[aHs,h]
structure Vd (l:Lv):Prop where
 c0:0<=l.c
 c1:l.c<=100
 up:upL l.vars
 v0:∀v∈l.vars,0<=v.2
 v1:∀v∈l.vars,v.2<=100
 i0:∀v∈l.vars,-65536<=v.1
 i1:∀v∈l.vars,v.1<8
theorem rE:∀ {l:List (Int×Int)},(∀(j:Nat) u v,l[j]?=some u->l[j+1]?=some v->u.1<v.1)->upL l
 |[],_=>trivial
 |[x],_=>⟨by simp,trivial⟩
 |x::y::l,h=>by
  have ih:upL (y::l):=rE fun j u v hu hv=>h (j+1) u v (by simpa using hu) (by simpa using hv)
  have hxy:x.1<y.1:=h 0 x y aA aA;refine⟨fun z hz=>?_,ih⟩;rcases aZg.1 hz with rfl|hz
  ·exact hxy
  ·have:=ih.1 z hz;omega
theorem Vd.of {l:Lv} (h:aY l=true):Vd l:=by
 obtain⟨c,vs⟩:=l;simp only[aY,aZ7,aZz,bAm,bAo] at h;obtain⟨⟨h1,h2⟩,h3⟩:=h;have hv:∀(j:Nat) v,vs[j]?=some v->iN c vs j=true:=fun j v hj=>jP h3 (by have:=(aYv.1 hj).1;simpa using this)
 have hv':∀v∈vs,-65536<=v.1/\v.1<8/\0<=v.2/\v.2<=100:=by
  intro v hm;obtain⟨j,hj⟩:=bAl hm;have:=hv j v hj;simp only[iN,hj,aZ7,aZz,bAm,bAo] at this;obtain⟨⟨⟨⟨⟨a,b⟩,d⟩,e⟩,_⟩,_⟩:=this;omega
 refine⟨by simp only;omega,by simp only;omega,rE fun j u v hu hw=>?_,fun v hm=>(hv' v hm).2.2.1,fun v hm=>(hv' v hm).2.2.2,fun v hm=>(hv' v hm).1,fun v hm=>(hv' v hm).2.1⟩;have:=hv (j+1) v hw;have hu':vs[j+1-1]?=some u:=by simpa using hu
 simp only[iN,hw,hu',aZ7,aZz,bAm,bAo] at this;have h5:=this.1.2;simp at h5;omega
def plusL (l:Lv)(n:Int):Lv×Int:=
 let c:=if 0<l.c\/l.vars=[] then l.c+n else 0
 if 100<c then(⟨0,[]⟩,15)
 else if l.vars.all (fun x=>decide (x.2+n<=100)) then(⟨c,iO l.vars n⟩,0) else(⟨0,[]⟩,15)
def yQ (a b:Lv):Lv:=
 ⟨if bR a.vars b.vars≠[]/\max a.c b.c<=dS (bR a.vars b.vars) then 0 else max a.c b.c,bR a.vars b.vars⟩
def aS1 (vals:List Lv)(metas:Bool)(v:Int×Int):Option Lv:=
 if decide (v.1<0)=metas then vals[(if metas then-1-v.1 else v.1).toNat]? else none
def pV (vals:List Lv)(metas:Bool)(v:Int×Int):Lv×Int:=
 match aS1 vals metas v with
 |some x=>plusL x v.2
 |none=>(⟨0,[v]⟩,0)
def uP (vals:List Lv)(metas:Bool):List (Int×Int)->Lv->Lv×Int
 |[],out=>(out,0)
 |v::vs,out=>if(pV vals metas v).2≠0 then(⟨0,[]⟩,(pV vals metas v).2) else uP vals metas vs (yQ out (pV vals metas v).1)
def gL (vals:List Lv)(metas:Bool)(s:Int×List (Int×Int))(v:Int×Int):Int×List (Int×Int):=
 match aS1 vals metas v with
 |some x=>(max s.1 (x.c+v.2),aAf s.2 x.vars v.2)
 |none=>(s.1,eN s.2 v.1 v.2)
def aOq (l:Lv):Lv×Int:=
 if l.vars.any (fun x=>decide (100<x.2)) then(⟨0,[]⟩,15) else if 100<l.c then(⟨0,[]⟩,15) else(⟨if gO l.c l.vars then 0 else l.c,l.vars⟩,0)
def aKb (s:Int×List (Int×Int)):Lv×Int:=aOq ⟨s.1,mH s.2⟩
structure InvL (o:Lv) (s:Int×List (Int×Int)):Prop where
 up:upL o.vars
 nd:(s.2.map Prod.fst).Nodup
 lk:∀i,lkI o.vars i=lkI s.2 i
 v0:∀x∈o.vars,0<=x.2
 v1:∀x∈o.vars,x.2<=100
 c0:0<=s.1
 c1:s.1<=100
 ce:o.c=if o.vars≠[]/\s.1<=dS o.vars then 0 else s.1
def BadL (s:Int×List (Int×Int)):Prop:=100<s.1\/∃i v,lkI s.2 i=some v/\100<v
theorem aIj (c:Int)(vs:List (Int×Int)):gO c vs=true↔∃x∈vs,c<=x.2:=by
 have h1:gO c vs=false↔∀x∈vs,¬c<=x.2:=by
  unfold gO;rw[Bool.not_eq_false',cJ];constructor
  ·intro h x hx;obtain⟨j,hj⟩:=bAl hx;have:=h j (aYv.1 hj).1;simpa [yX,hj] using this
  ·intro h j hj;have hg:vs[j]?=some vs[j]:=aYu hj;simpa [yX,hg] using h _ (aYx hj)
 constructor
 ·intro h
  by_cases q:∃x∈vs,c<=x.2
  ·exact q
  ·have:=h1.2 fun x hx hc=>q ⟨x,hx,hc⟩
   rw[h] at this;cases this
 ·rintro⟨x,hx,hc⟩
  cases e:gO c vs with
  |true=>rfl
  |false=>exact absurd hc (h1.1 e x hx)
theorem tX {c:Int} {vs:List (Int×Int)} (h0:∀x∈vs,0<=x.2):(gO c vs=true)↔(vs≠[]/\c<=dS vs):=by
 rw[aIj];constructor
 ·rintro⟨x,hx,h⟩;exact⟨List.ne_nil_of_mem hx,Int.le_trans h (aHc hx)⟩
 ·rintro⟨hn,h⟩;rcases aMl vs with e|⟨x,hx,e⟩
  ·obtain⟨x,hx⟩:=List.exists_mem_of_ne_nil _ hn;exact⟨x,hx,by have:=h0 x hx;omega⟩
  ·exact⟨x,hx,by omega⟩
theorem InvL.ends {o:Lv} {s:Int×List (Int×Int)} (h:InvL o s):aKb s=(o,0):=by
 have e:mH s.2=o.vars:=aQw h.up h.nd h.lk;unfold aKb aOq;simp only[e]
 have h1:o.vars.any (fun x=>decide (100<x.2))=false:=by
  rw[List.any_eq_false];intro x hx;have:=h.v1 x hx;simp;omega
 have h2:=h.c1;rw[h1,if_neg aA,if_neg aB];have h3:=h.ce
 by_cases hc:gO s.1 o.vars=true
 ·rw[if_pos hc];rw[if_pos ((tX h.v0).1 hc)] at h3;obtain⟨c,vs⟩:=o;simp only at h3;rw[h3]
 ·rw[if_neg hc];rw[if_neg fun x=>hc ((tX h.v0).2 x)] at h3;obtain⟨c,vs⟩:=o;simp only at h3;rw[h3]
theorem BadL.ends {s:Int×List (Int×Int)} (h:BadL s):aKb s=(⟨0,[]⟩,15):=by
 unfold aKb aOq;simp only;rcases h with h|⟨i,v,h,hv⟩
 ·split
  ·rfl
  ·first|rfl|rw[if_pos h]
 ·have:(mH s.2).any (fun x=>decide (100<x.2))=true:=by
   rw[bBj];exact⟨(i,v),yW ((aHs i).trans h),by simpa using hv⟩
  rw[if_pos this]
theorem BadL.step {vals:List Lv} {metas:Bool} (hv:∀x∈vals,Vd x) {s:Int×List (Int×Int)} (v:Int×Int)(h:BadL s):BadL (gL vals metas s v):=by
 unfold gL;split
 ·rename_i x hx
  have hx':x∈vals:=by
   exact y7d
  rcases h with h|⟨i,p,h,hp⟩
  ·exact .inl (by simp only;omega)
  ·right;simp only;have:=aDs v.2 i x.vars s.2 (hv x hx').up;rw[h] at this
   cases hq:lkI (iO x.vars v.2) i with
   |none=>rw[hq] at this;exact⟨i,p,this,hp⟩
   |some q=>rw[hq] at this;exact⟨i,_,this,by omega⟩
 ·rcases h with h|⟨i,p,h,hp⟩
  ·exact .inl h
  ·right;have:=uK s.2 v.1 v.2 i;rw[h] at this;simp only[aMv] at this
   by_cases c:v.1=i
   ·rw[if_pos c] at this;exact⟨i,_,this,by omega⟩
   ·rw[if_neg c] at this;exact⟨i,_,this,hp⟩
theorem BadL.all {vals:List Lv} {metas:Bool} (hv:∀x∈vals,Vd x):∀(vs:List (Int×Int)) {s:Int×List (Int×Int)},BadL s->BadL (vs.foldl (gL vals metas) s)
 |[],_,h=>h
 |v::vs,_,h=>BadL.all hv vs (h.step hv v)
theorem InvL.join {o p:Lv} {s s':Int×List (Int×Int)} {c':Int} (h:InvL o s)(hu:upL p.vars)(h0:∀x∈p.vars,0<=x.2)(h1:∀x∈p.vars,x.2<=100)
  (hs:∀i,lkI s'.2 i=aTw (lkI s.2 i) (lkI p.vars i)) (hn:(s'.2.map Prod.fst).Nodup) (hc:s'.1=max s.1 c') (hc0:0<=c') (hc1:c'<=100) (hp:p.c=c'\/(p.c=0/\p.vars≠[]/\c'<=dS p.vars)):InvL (yQ o p) s':=by
 have hb:∀x∈bR o.vars p.vars,0<=x.2/\x.2<=100:=by
  intro x hx;have hl:=aHa (jF _ _ h.up hu).nodup (show(x.1,x.2)∈_ from hx);rw[kX _ _ _ h.up hu] at hl
  cases e1:lkI o.vars x.1 with
  |none=>
   rw[e1] at hl;have hm:=yW (show lkI p.vars x.1=some x.2 by simpa using hl);exact⟨h0 _ hm,h1 _ hm⟩
  |some y=>
   have hy:=yW e1;have a1:=h.v0 _ hy;have a2:=h.v1 _ hy;rw[e1] at hl
   cases e2:lkI p.vars x.1 with
   |none=>rw[e2] at hl;simp at hl;simp only at a1 a2;omega
   |some z=>
    have hz:=yW e2;have a3:=h0 _ hz;have a4:=h1 _ hz;rw[e2] at hl;simp at hl;simp only at a1 a2 a3 a4;omega
 refine⟨jF _ _ h.up hu,hn,fun i=>?_,fun x hx=>(hb x hx).1,fun x hx=>(hb x hx).2,?_,?_,?_⟩
 ·rw[hs,<-h.lk];exact kX _ _ _ h.up hu
 ·have:=h.c0;omega
 ·have:=h.c1;omega
 ·have he:=h.ce;have hm:=jX o.vars p.vars;have m1:=sA o.vars;have m2:=sA p.vars;have k0:=h.c0;change (if bR o.vars p.vars≠[]/\max o.c p.c<=dS (bR o.vars p.vars) then(0:Int) else max o.c p.c)=if bR o.vars p.vars≠[]/\s'.1<=dS (bR o.vars p.vars) then 0 else s'.1
  by_cases hnil:bR o.vars p.vars=[]
  ·obtain⟨e1,e2⟩:=zD hnil;simp only[hnil,ne_eq,bBf,false_and,if_false];simp only[e1,ne_eq,bBf,false_and,if_false] at he;rcases hp with hp|⟨_,hp,_⟩
   ·rw[hc,he,hp]
   ·exact absurd e2 hp
  ·by_cases hbig:s'.1<=dS (bR o.vars p.vars)
   ·have q1:o.c<=s.1:=by rw[he];split<;>omega
    have q2:p.c<=c':=by rcases hp with hp|⟨hp,_,_⟩<;>omega
    have q4:max o.c p.c<=dS (bR o.vars p.vars):=aB;simp only[hnil,hbig,q4,ne_eq,not_false_eq_true,true_and,if_true]
   ·have q1:o.c=s.1\/(o.c=0/\s.1<=dS o.vars):=by
     rw[he];split
     ·rename_i c;exact .inr ⟨rfl,c.2⟩
     ·exact .inl rfl
    have q3:max o.c p.c=s'.1:=by
     rcases q1 with q1|⟨q1,q2⟩<;>rcases hp with hp|⟨hp,_,hp'⟩<;>omega
    rw[q3]
theorem aN0 {vs:List (Int×Int)} {n:Int} (h:vs.all (fun x=>decide (x.2+n<=100))=true):∀x∈iO vs n,x.2<=100:=by
 intro x hx;obtain⟨y,hy,rfl⟩:=aZq.1 hx;simpa using aZf.1 h y hy
theorem zN {vals:List Lv} {metas:Bool} (hv:∀x∈vals,Vd x):∀(vs:List (Int×Int))(o:Lv)(s:Int×List (Int×Int)),(∀v∈vs,0<=v.2/\v.2<=100)->InvL o s->
  uP vals metas vs o=aKb (vs.foldl (gL vals metas) s)
 |[],o,s,_,h=>by simp only[uP,List.foldl_nil];exact h.ends.symm
 |v::vs,o,s,hb,h=>by
  have hb0:=hb v aA;have hbs:=fun w hw=>hb w (bAq _ hw)
  simp only[uP,List.foldl_cons]
  cases hx:aS1 vals metas v with
  |none=>
   have hp:pV vals metas v=(⟨0,[v]⟩,0):=by unfold pV;rw[hx]
   have hs:gL vals metas s v=(s.1,eN s.2 v.1 v.2):=by unfold gL;rw[hx]
   rw[hp,hs,if_neg aA];refine zN hv vs _ _ hbs (h.join (c':=0) ⟨by simp,trivial⟩ (by simpa using hb0.1) (by simpa using hb0.2) (fun i=>?_) (lD _ _ h.nd) (by have:=h.c0;simp only;omega) aB aB (.inl rfl));rw[uK];simp only[lkI]
   by_cases c:v.1=i
   ·rw[if_pos c,if_pos c]
   ·rw[if_neg c,if_neg c];simp
  |some x=>
   have hx':x∈vals:=by
    exact y7d
   have hV:=hv x hx';have hp:pV vals metas v=plusL x v.2:=by unfold pV;rw[hx]
   have hs:gL vals metas s v=(max s.1 (x.c+v.2),aAf s.2 x.vars v.2):=by unfold gL;rw[hx]
   rw[hp,hs];have hlk:=fun i=>aDs v.2 i x.vars s.2 hV.up
   by_cases hc:100<(if 0<x.c\/x.vars=[] then x.c+v.2 else 0)
   ·have e:plusL x v.2=(⟨0,[]⟩,15):=by unfold plusL;simp only;rw[if_pos hc]
    rw[e,if_pos aA];refine(BadL.ends (BadL.all hv vs (.inl ?_))).symm;simp only;split at hc<;>omega
   ·by_cases hall:x.vars.all (fun y=>decide (y.2+v.2<=100))=true
    ·have e:plusL x v.2=(⟨if 0<x.c\/x.vars=[] then x.c+v.2 else 0,iO x.vars v.2⟩,0):=by unfold plusL;simp only;rw[if_neg hc,if_pos hall]
     rw[e,if_neg aA];have hc0:=hV.c0;refine zN hv vs _ _ hbs (h.join (c':=x.c+v.2) (sB hV.up) (fun y hy=>?_) (aN0 hall) hlk (vU _ _ h.nd) rfl aB ?_ ?_)
     ·obtain⟨z,hz,rfl⟩:=aZq.1 hy;have:=hV.v0 z hz;simp only;omega
     ·split at hc<;>omega
     ·by_cases hd:0<x.c\/x.vars=[]
      ·exact .inl (by simp only;rw[if_pos hd])
      ·right;have hne:x.vars≠[]:=fun c=>hd (.inr c)
       have hz:x.c=0:=by have:¬0<x.c:=fun c=>hd (.inl c);omega
       refine⟨by simp only;rw[if_neg hd],fun c=>hne (by simpa [iO] using c),?_⟩;obtain⟨y,hy⟩:=List.exists_mem_of_ne_nil _ hne;have:=hV.v0 y hy;have h5:=aHc (l:=iO x.vars v.2) (x:=(y.1,y.2+v.2)) (aZq.2 ⟨y,hy,rfl⟩);simp only at h5;show x.c+v.2<=dS (iO x.vars v.2);omega
    ·have e:plusL x v.2=(⟨0,[]⟩,15):=by unfold plusL;simp only;rw[if_neg hc,if_neg hall]
     rw[e,if_pos aA];refine(BadL.ends (BadL.all hv vs (.inr ?_))).symm
     have:∃y∈x.vars,100<y.2+v.2:=by
      simp at hall;obtain⟨a,b,h1,h2⟩:=hall;exact⟨(a,b),h1,h2⟩
     obtain⟨y,hy,hy2⟩:=this;have hq:lkI (iO x.vars v.2) y.1=some (y.2+v.2):=aHa (sB hV.up).nodup (aZq.2 ⟨y,hy,rfl⟩);have:=hlk y.1;rw[hq] at this
     cases hr:lkI s.2 y.1 with
     |none=>rw[hr] at this;exact⟨_,_,this,hy2⟩
     |some r=>rw[hr] at this;exact⟨_,_,this,by omega⟩
theorem InvL.start {l:Lv} (h:Vd l):InvL ⟨l.c,[]⟩ (l.c,[]):=
 ⟨trivial,by simp,fun _=>rfl,by simp,by simp,h.c0,h.c1,by simp⟩
open Go Go.AI
theorem aEx (h:Heap)(hh:WF h)(c:Int):AC 198 [iA c] h ((⟨c,[]⟩:Lv).av):=by
 refine zE Tryz.func198 Tryz.ntmps198 ?_;refine aDl ?_;refine Fin.ret' (h0:=h) aA rfl hh rfl aE rfl (y:= .agg [iA c, .p (.sl 2 (bN []))]) ?_ aA ⟨rfl,rfl⟩;exact y70
theorem aJd (vs:List (Int×Int))(n:Int) {j:Nat} {v:Int×Int} (h:vs[j]?=some v):iO (vs.take (j+1)) n=iO (vs.take j) n++[(v.1,v.2+n)]:=by
 have e:vs.take (j+1)=vs.take j++[v]:=by rw[bAg,h];rfl
 rw[e];simp[iO]
theorem aCb (vs:List (Int×Int))(n:Int):(iO vs n).length=vs.length:=by simp[iO]
theorem aFn (l:List (Int×Int))(v:Int×Int):bN (l++[v])=bN l++[[iP v.1,iP v.2]]:=by simp[bN]
theorem aP0 {vs:List (Int×Int)} {p:Int×Int->Bool} {j:Nat} {v:Int×Int} (h:vs[j]?=some v)(hv:p v=false):vs.all p=false:=by
 rw[List.all_eq_false];exact⟨v,aZ9 h,by simp[hv]⟩
theorem aOz {vs:List (Int×Int)} {p:Int×Int->Bool} {j:Nat} {v:Int×Int} (h:vs[j]?=some v)(h0:(vs.take j).all p=true)(hv:p v=true):(vs.take (j+1)).all p=true:=by
 have e:vs.take (j+1)=vs.take j++[v]:=by rw[bAg,h];rfl
 rw[e,bB8,h0];simp[hv]
theorem aNh (h:Heap)(hh:WF h)(l:Lv)(n:Int)(hl:Vd l)(hlb:aY l=true)(hb:l.vars.length<=1048576)(hn0:0<=n)(hn1:n<=100):
  AC 199 [l.av,iA n] h (.tup [(plusL l n).1.av,iA (plusL l n).2]):=by
 have hv:=fun(g:Heap) (hg:WF g)=>jN g hg l hb
 rw[hlb] at hv;obtain⟨c,vs⟩:=l;have c0:=hl.c0;have c1:=hl.c1;have v0:=hl.v0;have v1:=hl.v1;simp only at hb c0 c1 v0 v1;obtain⟨r,hr⟩:∃r,plusL ⟨c,vs⟩ n=r:=⟨_,rfl⟩;rw[hr];unfold plusL at hr;simp only at hr;have w1:IntKind.i64.wrap (c+n)=c+n:=aQ aB aB;simp only[Lv.av,Lv.cells,List.map] at hv⊢;have hn0':¬n<0:=aB;have hn1':¬100<n:=aB;refine cW Tryz.func199 Tryz.ntmps199 ?_;refine zL (hv _ (hh.app aA)) ?_;refine rJ ?_;refine zf1 hn0' ?_;refine zr ?_;refine zf1 hn1' ?_;refine zr ?_;obtain⟨c2,hc2⟩:∃c2,(if 0<c\/vs=[] then c+n else 0)=c2:=⟨_,rfl⟩;rw[hc2] at hr;have hge:0<=c2:=by rw[<-hc2];split<;>omega
 refine nv ?_;refine Run.regJ [1,2,4,5,6] 27 (decide (0<c)||decide ((vs.length:Int)=0)) (fun K J=>?_) ?_
 ·simp;exact y2p
 refine y7 ?_;simp;refine Run.joinH [1,2,4,5,6] [] (h++[some (.cells [iA c, .p (.sl 2 (bN vs))]),some (.cells [iA 0, .p (.prim (.slice none 0 0))]),some (.cells [iA c2, .p (.prim (.slice none 0 0))])]) (fun hJ=>?_) ?_
 ·by_cases hd:0<c\/vs=[]
  ·rw[if_pos hd] at hc2;refine zt1 hd ?_;refine zq1 w1 ?_
   repeat (first|refine Run.skip ?_|refine Run.opsNil ?_|refine Run.inBlock ?_)
   rw[hc2];exact y5p
  ·rw[if_neg hd] at hc2;subst hc2;have hd1:c<=0/\¬vs=[]:=⟨Int.not_lt.1 fun x=>hd (.inl x),fun x=>hd (.inr x)⟩;refine cf (by simp[hd1]) ?_;refine Run.skip ?_;exact y5p
 refine y18 ?_;refine cI ?_
 by_cases h100:100<c2
 ·refine dF h100 ?_;rw[if_pos h100] at hr;subst hr;refine aOs ?_;refine Fin.ret' (h0:=h) aA rfl hh rfl aE rfl (y:= .tup [.agg [iA 0, .p (.sl 2 (bN []))],iA 15]) ?_ aA ⟨rfl,rfl⟩;exact y3d
 rw[if_neg h100] at hr;refine dJ h100 ?_;refine Run.tokAt (h.length+2) 1 2 aE aA ?_;simp
 refine Run.loopS [1,2,4,6] (fun j:Nat=>j<=vs.length/\(vs.take j).all (fun x=>decide (x.2+n<=100))=true) (fun j=>vs.length-j) (fun j=>[(7,iA j)])
  (fun j=>h++[some (.cells [iA c, .p (.sl 2 (bN vs))]),some (.cells [iA 0, .p (.prim (.slice none 0 0))]),some (.cells [iA c2, .own (h.length+3) 2 (bN (iO (vs.take j) n))]),some (.tok j 2)]) 0 aA ?_ (by simp[bN,iO]) ?_
 ·exact zS
 rintro j ⟨hj,hall⟩ IH;refine cI ?_
 by_cases hjl:j<vs.length
 ·have hg:vs[j]?=some vs[j]:=aYu hjl;have k0:=v0 _ (aYx hjl);have k1:=v1 _ (aYx hjl);have hpt:=aJd vs n hg;have hat:=fun hp=>aP0 (p:=fun x=>decide (x.2+n<=100)) hg hp
  have has:=aOz (p:=fun x=>decide (x.2+n<=100)) hg hall;obtain⟨⟨a,b⟩,hab⟩:∃p,vs[j]=p:=⟨_,rfl⟩;rw[hab] at hg k0 k1 hpt hat has;simp only at k0 k1 hpt hat has;have w2:IntKind.i64.wrap (b+n)=b+n:=aQ aB aB;refine dF hjl ?_;refine zr2 hg w2 ?_
  by_cases hb1:100<b+n
  ·refine dF hb1 ?_;rw[if_neg (by rw[hat (by simp;omega)];simp)] at hr;subst hr;refine aOs ?_;refine Fin.ret' (h0:=h) aA rfl hh rfl aE rfl (y:= .tup [.agg [iA 0, .p (.sl 2 (bN []))],iA 15]) ?_ aA ⟨rfl,rfl⟩;exact y3d
  ·have hb3:(j+1)*16<=140737488355328:=aB;have hb4:j+1<=9223372036854775807:=aB;have hmin:min j vs.length=j:=bAb hj;have hpl:=aCb (vs.take j) n;rw[aZm,hmin] at hpl;refine vL hb1 ?_;refine Run.draw [0,0,0,0,0,0,0,0,0,0,0,0,0,0,0,0,0,0,0,1,1] [0,0,0,0,0,0,0,0,0,0,0,0,0,0,0,0,0,0,0,0,1] [0,1,0,4,0,28,60,124,0,256,0,1792,3840,7936,0,32512,65532,131068,262143,524287,1048575] [0,1,2,3,4,5,6,7,8,9,10,11,12,13,14,15,16,17,18,19,20] aC aC ?_;refine zd5 hg w2 hpl hb3 hb4 ?_;refine y9 ?_;refine znr ?_;refine IH (j+1) _ _ ⟨by omega,has (by simp;omega)⟩ aB ?_ ?_
   ·exact zS
   ·rw[hpt,aFn]
 ·have hje:j=vs.length:=aB;subst hje;rw[aZl] at hall⊢;rw[if_pos hall] at hr;subst hr;refine cY ?_;refine Fin.ret' (h0:=h) aA rfl hh rfl aE rfl (y:= .tup [.agg [iA c2, .p (.sl 2 (bN (iO vs n)))],iA 0]) ?_ aA ⟨rfl,rfl⟩;exact y3d
open Go Go.AI
def aXk (a b:List (Int×Int))(i k:Nat)(v:Int×Int)(i' k':Nat):Prop:=
 (k=b.length/\a[i]?=some v/\i+1=i'/\k=k')\/
 (∃y,a[i]?=some v/\b[k]?=some y/\v.1<y.1/\i+1=i'/\k=k')\/
 (i=a.length/\b[k]?=some v/\i=i'/\k+1=k')\/
 (∃x,a[i]?=some x/\b[k]?=some v/\v.1<x.1/\i=i'/\k+1=k')\/
 (∃x y,a[i]?=some x/\b[k]?=some y/\x.1=y.1/\v=(x.1,max x.2 y.2)/\i+1=i'/\k+1=k')
theorem bD {α:Type} {l:List α} {i:Nat} {x:α} (h:l[i]?=some x):l.drop i=x::l.drop (i+1):=by
 have hj:i<l.length:=(aYv.1 h).1;have hg:l[i]=x:=(aYv.1 h).2;rw[<-hg];exact bAu hj
theorem aJ2 (a b:List (Int×Int))(i k:Nat)(hi:i<=a.length)(hk:k<=b.length)(h:i<a.length\/k<b.length):
  ∃v i' k',aXk a b i k v i' k'/\bR (a.drop i) (b.drop k)=v::bR (a.drop i') (b.drop k')/\i'<=a.length/\k'<=b.length/\i+k<i'+k':=by
 rcases bAh i a.length with h1|h1
 ·have ga:a[i]?=some a[i]:=aYu h1;generalize a[i]=x at ga;rcases bAh k b.length with h2|h2
  ·have gb:b[k]?=some b[k]:=aYu h2;generalize b[k]=y at gb;rcases Int.lt_trichotomy x.1 y.1 with c|c|c
   ·refine⟨x,i+1,k, .inr (.inl ⟨y,ga,gb,c,rfl,rfl⟩),?_,by omega,by omega,by omega⟩;rw[bD ga,bD gb,bR,if_pos c]
   ·refine⟨(x.1,max x.2 y.2),i+1,k+1, .inr (.inr (.inr (.inr ⟨x,y,ga,gb,c,rfl,rfl,rfl⟩))),?_,by omega,by omega,by omega⟩;rw[bD ga,bD gb,bR,if_neg aB,if_neg aB]
   ·refine⟨y,i,k+1, .inr (.inr (.inr (.inl ⟨x,ga,gb,c,rfl,rfl⟩))),?_,by omega,by omega,by omega⟩;rw[bD ga,bD gb,bR,if_neg aB,if_pos c]
  ·have e:k=b.length:=aB;refine⟨x,i+1,k, .inl ⟨e,ga,rfl,rfl⟩,?_,by omega,by omega,by omega⟩;rw[bD ga,e,bAn,dC,dC]
 ·have e:i=a.length:=aB;have h2:k<b.length:=aB;have gb:b[k]?=some b[k]:=aYu h2;generalize b[k]=y at gb;refine⟨y,i,k+1, .inr (.inr (.inl ⟨e,gb,rfl,rfl⟩)),?_,by omega,by omega,by omega⟩;rw[bD gb,e,bAn,cU,cU]
theorem aJ3 (l:List (Int×Int))(v:Int×Int):dS (l++[v])=max (dS l) v.2:=by
 induction l with
 |nil=>simp[dS];omega
 |cons x l ih=>simp only[aYy,dS,ih];omega
theorem aCk (h:Heap)(hh:WF h)(l m:Lv)(hb:l.vars.length<=1048576)(hb2:m.vars.length<=1048576):
  ACalls Tryz.prog 200 [l.av,m.av] h fun o h'=>o= .ret (yQ l m).av/\h'=h:=by
 obtain⟨c,a⟩:=l;obtain⟨d,b⟩:=m;simp only at hb hb2;obtain⟨r,hr⟩:∃r,yQ ⟨c,a⟩ ⟨d,b⟩=r:=⟨_,rfl⟩;rw[hr];unfold yQ at hr;simp only at hr;obtain⟨M,hM⟩:∃M,bR a b=M:=⟨_,rfl⟩;obtain⟨mx,hmx⟩:∃mx,max c d=mx:=⟨_,rfl⟩;have hmx':(if c<d then d else c)=mx:=by rw[<-hmx];split<;>omega
 rw[hM,hmx] at hr;refine y12 ?_;refine zE Tryz.func200 Tryz.ntmps200 ?_;refine aFx hmx' ?_;refine y26 ?_;refine Run.tokAt (h.length+3) 1 2 aE aA ?_;simp
 refine Run.loopS (ι:=Nat×Nat×List (Int×Int)) [2,3,4,5] (fun p=>p.1<=a.length/\p.2.1<=b.length/\p.2.2.length<=p.1+p.2.1/\M=p.2.2++bR (a.drop p.1) (b.drop p.2.1)) (fun p=>(a.length-p.1)+(b.length-p.2.1)) (fun p=>[(6,iA p.1),(7,iA p.2.1),(8,iA (dS p.2.2))])
  (fun p=>h++[some (.cells [iA c, .p (.sl 2 (bN a))]),some (.cells [iA d, .p (.sl 2 (bN b))]),some (.cells [iA 0, .p (.prim (.slice none 0 0))]),some (.cells [iA mx, .own (h.length+4) 2 (bN p.2.2)]),some (.tok p.2.2.length 2)]) (0,0,[]) (by simp[hM]) ?_ (by simp[bN]) ?_
 ·simp[dS];exact zK
 rintro⟨i,k,dn⟩ ⟨hi,hk,hln,hdn⟩ IH;simp only at hi hk hln hdn;refine zsn ?_;refine Run.regJ [2,3,4,5,6,7,8] 27 (decide (i<a.length)||decide (k<b.length)) (fun K J=>?_) ?_
 ·simp;exact y2p
 refine y7 ?_;simp
 by_cases hlp:i<a.length\/k<b.length
 ·obtain⟨v,i',k',hs,hmg,hi',hk',hlt⟩:=aJ2 a b i k hi hk hlp;obtain⟨v1,v2⟩:=v;refine dF hlp ?_;refine zq ?_
  repeat (first|refine Run.skip ?_|refine Run.opsNil ?_|refine Run.inBlock ?_)
  refine Run.seq ?_;refine Run.joinH [2,3,4,5,8,9] [(6,iA i'),(7,iA k')] (h++[some (.cells [iA c, .p (.sl 2 (bN a))]),some (.cells [iA d, .p (.sl 2 (bN b))]),some (.cells [iA 0, .p (.prim (.slice none 0 0))]),some (.cells [iA mx, .own (h.length+4) 2 (bN dn)]),some (.tok dn.length 2),some (.cells [iA v1,iA v2])]) (fun hJ=>?_) ?_
  ·have i1:IntKind.i64.wrap ((i:Int)+1)=((i+1:Nat):Int):=by rw[aQ aB aB];omega
   have k1:IntKind.i64.wrap ((k:Int)+1)=((k+1:Nat):Int):=by rw[aQ aB aB];omega
   rcases hs with ⟨e,ga,rfl,rfl⟩|⟨⟨y1,y2⟩,ga,gb,hc,rfl,rfl⟩|⟨e,gb,rfl,rfl⟩|⟨⟨x1,x2⟩,ga,gb,hc,rfl,rfl⟩|⟨⟨x1,x2⟩,⟨y1,y2⟩,ga,gb,hc,hvv,rfl,rfl⟩
   ·subst e;refine y8 ?_;refine zd ?_;refine y9 ?_;refine nv ?_;refine ct aA ?_
    repeat (first|refine Run.skip ?_|refine Run.opsNil ?_|refine Run.inBlock ?_)
    refine aK6 ga ?_
    repeat (first|refine Run.skip ?_|refine Run.opsNil ?_|refine Run.inBlock ?_)
    refine aK6 i1 ?_;exact y3e
   ·have hd1:decide (i<a.length)=true:=by simpa using(aYv.1 ga).1
    have hl2:k<b.length:=(aYv.1 gb).1;have hne:((k:Int)==(b.length:Int))=false:=by simp;omega
    simp only at hc;refine y8 ?_;refine zd5 ga gb hd1 hne hc ?_;refine y9 ?_;refine nv ?_;refine ct aA ?_
    repeat (first|refine Run.skip ?_|refine Run.opsNil ?_|refine Run.inBlock ?_)
    refine aK6 ga ?_
    repeat (first|refine Run.skip ?_|refine Run.opsNil ?_|refine Run.inBlock ?_)
    refine aK6 i1 ?_;exact y3e
   ·subst e;have hl2:k<b.length:=(aYv.1 gb).1;have hne:((k:Int)==(b.length:Int))=false:=by simp;omega
    refine y8 ?_;refine zd1 hne ?_;refine y9 ?_;refine nv ?_;refine cf aA ?_
    repeat (first|refine Run.skip ?_|refine Run.opsNil ?_|refine Run.inBlock ?_)
    refine yj ?_;refine zd ?_;refine y9 ?_;refine nv ?_;refine ct aA ?_
    repeat (first|refine Run.skip ?_|refine Run.opsNil ?_|refine Run.inBlock ?_)
    refine aK6 gb ?_
    repeat (first|refine Run.skip ?_|refine Run.opsNil ?_|refine Run.inBlock ?_)
    refine aK6 k1 ?_;exact y3e
   ·have hd1:decide (i<a.length)=true:=by simpa using(aYv.1 ga).1
    have hl2:k<b.length:=(aYv.1 gb).1;have hne:((k:Int)==(b.length:Int))=false:=by simp;omega
    have q1:=(aYv.1 ga).1;have hne2:((i:Int)==(a.length:Int))=false:=by simp;omega
    simp only at hc;have hnc:¬x1<v1:=aB;refine y8 ?_;refine zd5 ga gb hd1 hne hnc ?_;refine y9 ?_;refine nv ?_;refine cf aA ?_
    repeat (first|refine Run.skip ?_|refine Run.opsNil ?_|refine Run.inBlock ?_)
    refine yj ?_;refine zd4 ga gb hne2 hc ?_;refine y9 ?_;refine nv ?_;refine ct aA ?_
    repeat (first|refine Run.skip ?_|refine Run.opsNil ?_|refine Run.inBlock ?_)
    refine aK6 gb ?_
    repeat (first|refine Run.skip ?_|refine Run.opsNil ?_|refine Run.inBlock ?_)
    refine aK6 k1 ?_;exact y3e
   ·have hd1:decide (i<a.length)=true:=by simpa using(aYv.1 ga).1
    have hl2:k<b.length:=(aYv.1 gb).1;have hne:((k:Int)==(b.length:Int))=false:=by simp;omega
    have q1:=(aYv.1 ga).1;have hne2:((i:Int)==(a.length:Int))=false:=by simp;omega
    simp only[aZe] at hc hvv;obtain⟨rfl,rfl⟩:=hvv;subst hc;have hmm:(if x2<y2 then y2 else x2)=max x2 y2:=by split<;>omega
    refine y8 ?_;refine zd4 ga gb hd1 hne ?_;refine y9 ?_;refine nv ?_;refine cf aA ?_
    repeat (first|refine Run.skip ?_|refine Run.opsNil ?_|refine Run.inBlock ?_)
    refine yj ?_;refine zd3 ga gb hne2 ?_;refine y9 ?_;refine nv ?_;refine cf aA ?_
    repeat (first|refine Run.skip ?_|refine Run.opsNil ?_|refine Run.inBlock ?_)
    refine nv ?_;refine Run.draw [0,0,0,0,0,0,0,0,0,0,0,0,0,0,0,0,0,0,0,0,0] [0,0,0,0,0,0,0,0,0,0,0,0,0,0,0,0,0,0,0,0,0] [0,1,0,7,15,31,0,64,0,448,960,1984,0,4096,0,28672,61440,126976,262080,524287,1048575] [0,1,2,3,4,5,6,7,8,9,10,11,12,13,14,15,16,17,18,19,20] aC aC ?_;refine zd3 ga gb hmm ?_;refine y9 ?_;refine aK6 i1 ?_
    repeat (first|refine Run.skip ?_|refine Run.opsNil ?_|refine Run.inBlock ?_)
    refine aK6 k1 ?_;exact y3e
  refine y7 ?_;simp;have hm2:(if dS dn<v2 then v2 else dS dn)=dS (dn++[(v1,v2)]):=by rw[aJ3];simp only;split<;>omega
  have hb3:(dn.length+1)*16<=140737488355328:=aB;have hb4:dn.length+1<=9223372036854775807:=aB;refine Run.seq ?_;refine nQ hm2 ?_;refine zr2 hb3 hb4 ?_;refine Run.keep [2,3,4,5,6,7,8] ?_;refine yf ?_;refine Run.cutAt 5 hh rfl aB aA aA aA rfl ?_;simp;refine IH (i',k',dn++[(v1,v2)]) _ _ ⟨hi',hk',by simp;omega,by rw[hdn,hmg];simp⟩ (by simp;omega) ?_ ?_
  ·exact zS
  ·simp[bN]
 ·have e1:i=a.length:=aB;have e2:k=b.length:=aB;subst e1 e2;rw[bAn,bAn,cU,aZ0] at hdn;subst hdn;refine dP ?_
  by_cases hM0:M=[]
  ·subst hM0;simp at hr;subst hr;refine mI ?_;refine zx ?_;refine Fin.ret' (h0:=h) aA rfl hh rfl aE rfl (y:= .agg [iA mx, .p (.sl 2 (bN []))]) ?_ aA ⟨rfl,rfl⟩;exact y70
  have hM1:0<M.length:=bAw.2 hM0;simp only[hM0,ne_eq,not_false_eq_true,true_and] at hr;refine nQ hM1 ?_
  by_cases hce:mx<=dS M
  ·rw[if_pos hce] at hr;subst hr;refine kL hce ?_;refine zrx ?_;refine Fin.ret' (h0:=h) aA rfl hh rfl aE rfl (y:= .agg [iA 0, .p (.sl 2 (bN M))]) ?_ aA ⟨rfl,rfl⟩;exact y70
  ·rw[if_neg hce] at hr;subst hr;refine xI hce ?_;refine Fin.ret' (h0:=h) aA rfl hh rfl aE rfl (y:= .agg [iA mx, .p (.sl 2 (bN M))]) ?_ aA ⟨rfl,rfl⟩;exact y70
end Go.Proofs.YtcfcolkbeelegaaGreat
