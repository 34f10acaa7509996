import Derived.Test.YtcfcolkbeelegaaGreatJA0
import Derived.Test.YtcfcolkbeelegaaGreatJRH
import Derived.Test.YtcfcolkbeelegaaGreatJRD
set_option maxRecDepth 8000
set_option maxHeartbeats 64000000
namespace Go.Proofs.YtcfcolkbeelegaaGreat
open Go Go.AI
mutual
def TrA (n:Nat):Tr->Prop
 | .mk k b _ bs=>(k≠1->b.at_)/\bs.length<=1048576/\(k=1->0<n/\aK8 (n-1) bs)
def aK8 (n:Nat):List Br->Prop
 |[]=>True
 | .mk _ a t::bs=>(a=false->TrA n t)/\aK8 n bs
end
theorem aT0 {n:Nat} {x:List UInt8} {t:Tr} :∀ {bs:List Br},aK8 n bs->brZ x bs=some t->TrA n t
 |[],_,h=>by simp[brZ] at h
 | .mk c a u::bs,h,hz=>by
  simp only[aK8] at h;simp only[brZ] at hz;split at hz
  ·split at hz
   ·cases hz
   ·rename_i ha;simp only[aYz] at hz;subst hz;exact h.1 (by simpa using ha)
  ·exact aT0 h.2 hz
structure EnvA (env:List Dc):Prop where
 va:∀d∈env,d.k=1->d.va.at_
 rr:∀d∈env,d.k=3->∀r∈d.rr,r.at_
 cs:∀d∈env,d.k=3->∀c∈d.cs,c.ty.size<=4096
 fx:∀d∈env,d.k=3->0<=d.fx/\d.fx<=1048576
 fs:∀d∈env,d.k=4->∀f∈d.fs,0<=f.ar/\f.ar<=16/\TrA 200 f.tr
def WGood {α:Type} (P:α->Prop)(s:Int):WO α->Prop
 | .ok a s'=>P a/\0<=s'/\s'<=s
 | .fail s'=>-1<=s'/\s'<=s
 | .out=>True
theorem WGood.bind {α β:Type} {P:α->Prop} {Q:β->Prop} {s:Int} {x:WO α} {f:α->Int->WO β} (h:WGood P s x)(hf:∀a s',P a->0<=s'->s'<=s->WGood Q s' (f a s')):WGood Q s (x.bind f):=by
 cases x with
 |ok a s'=>
  obtain⟨h1,h2,h3⟩:=h;have:=hf a s' h1 h2 h3;simp only[WO.bind]
  cases hx:f a s' with
  |ok b s2=>rw[hx] at this;exact⟨this.1,this.2.1,by have:=this.2.2;omega⟩
  |fail s2=>rw[hx] at this;exact⟨this.1,by have:=this.2;omega⟩
  |out=>trivial
 |fail s'=>exact h
 |out=>trivial
theorem WGood.tick {α:Type} {P:α->Prop} {s:Int} {f:Int->WO α} (h0:0<=s)(hf:0<=s-1->WGood P (s-1) (f (s-1))):WGood P s (iK s f):=by
 unfold iK
 by_cases h:s-1<0
 ·rw[if_pos h];exact⟨by omega,by omega⟩
 ·rw[if_neg h];have:=hf aB
  cases hx:f (s-1) with
  |ok b s2=>rw[hx] at this;exact⟨this.1,this.2.1,by have:=this.2.2;omega⟩
  |fail s2=>rw[hx] at this;exact⟨this.1,by have:=this.2;omega⟩
  |out=>trivial
theorem oS {t:Tm} {vs:List Tm} (ht:t.at_)(hv:∀v∈vs,v.at_) {s:Int} (h0:0<=s):WGood Tm.at_ s (sC t vs s):=by
 refine WGood.tick h0 fun h1=>?_
 split
 ·exact⟨by omega,by omega⟩
 ·exact⟨uJ ht.1 (fun v hm=>(hv v hm).1),by omega,by omega⟩
theorem eE {env:List Dc} (hg:Env.good env)(hf:aP env)(hA:EnvA env) {m:Tm} {co:Co} (hm:Gout m)(h:hU env m=some co):(∀a∈co.as_,a.at_)/\co.as_.length<=4096:=by
 obtain⟨h1,h2,h3⟩:=oA h;refine⟨fun a ha=>hm.args a (h2 a ha),?_⟩;unfold hU at h;rw[if_neg (by simp[h3])] at h;rcases fF hf (aG m).1.name with e|⟨d,a,e,hd,hk,hok,hj⟩
 ·rw[e] at h;simp at h
 ·rw[e] at h;simp only[true_and] at h;split at h
  ·rename_i ha;rcases hj with hj|⟨j,rfl,hjl⟩
   ·omega
   rw[aZj,aYu hjl] at h;simp only at h;split at h
   ·rename_i hl;simp only[aYz] at h;subst h;have hc:=hA.cs d hd hk _ (aYx hjl);have:=lY d.cs[j].ty;have hcg:=(hg.2 d hd).cs _ (aYx hjl);have h4:=(qM d.cs[j].ty hcg.2.2 hcg.1).2.2.2;exact y7i
   ·cases h
  ·cases h
mutual
theorem tS {env:List Dc} (hg:Env.good env)(hf:aP env)(hA:EnvA env)(rec:Tm->Int->WO Tm)(hr:∀t s,Gin t->0<=s->WGood Gout s (rec t s)):∀(tr:Tr)(n:Nat)(vars:List Tm)(s:Int),TrA n tr->(∀v∈vars,v.at_)->vars.length+n*4096<=1048576->0<=s->
  WGood (fun o:Option (Tm×List Tm)=>∀p,o=some p->p.1.at_/\(∀v∈p.2,v.at_)/\p.2.length<=1048576) s (kN env rec tr vars s)
 | .mk k b v bs,n,vars,s,ht,hv,hl,h0=>by
  simp only[TrA] at ht;simp only[kN]
  by_cases hk:k=1
  ·rw[if_pos hk]
   by_cases hc:v<0\/(vars.length:Int)<=v
   ·rw[if_pos hc];exact⟨fun p e=>(by cases e),h0,bA6 _⟩
   rw[if_neg hc];have hvl:v.toNat<vars.length:=aB;rw[aYu hvl,aZb];refine(hr _ s (Gin.of_at (hv _ (aYx hvl))) h0).bind fun m s' hm h1 h2=>?_
   cases hz:hU env m with
   |none=>exact⟨fun p e=>(by cases e),h1,bA6 _⟩
   |some co=>
    simp only;obtain⟨ha,hal⟩:=eE hg hf hA hm hz;obtain⟨hn,hbs⟩:=ht.2.2 hk
    exact aKv hg hf hA rec hr bs (n-1) _ (vars++co.as_) s' hbs (fun x hx=>by
     rcases aZn.1 hx with hx|hx
     ·exact hv x hx
     ·exact ha x hx) (by
      have:n*4096=(n-1)*4096+4096:=by
       exact y75
      simp only[aZ4];omega) h1
  ·rw[if_neg hk];exact⟨fun p e=>(by cases e;exact⟨ht.1 hk,hv,by simp only;omega⟩),h0,bA6 _⟩
theorem aKv {env:List Dc} (hg:Env.good env)(hf:aP env)(hA:EnvA env)(rec:Tm->Int->WO Tm)(hr:∀t s,Gin t->0<=s->WGood Gout s (rec t s)):∀(bs:List Br)(n:Nat)(x:List UInt8)(vars:List Tm)(s:Int),aK8 n bs->(∀v∈vars,v.at_)->vars.length+n*4096<=1048576->0<=s->
  WGood (fun o:Option (Tm×List Tm)=>∀p,o=some p->p.1.at_/\(∀v∈p.2,v.at_)/\p.2.length<=1048576) s (brF env rec x bs vars s)
 |[],n,x,vars,s,_,_,_,h0=>by
  simp only[brF];exact⟨fun p e=>(by cases e),h0,bA6 _⟩
 | .mk c a t::bs,n,x,vars,s,hb,hv,hl,h0=>by
  simp only[aK8] at hb;simp only[brF];split
  ·split
   ·exact⟨fun p e=>(by cases e),h0,bA6 _⟩
   ·rename_i ha;exact tS hg hf hA rec hr t n vars s (hb.1 (by simpa using ha)) hv hl h0
  ·exact aKv hg hf hA rec hr bs n x vars s hb.2 hv hl h0
end
theorem aLp (d:Dc)(a:Int)(s:List UInt8):∀(l:List Fu)(i:Nat)(e:En),nV d a s l i=some e->∃(j:Nat)(f:Fu),l[j]?=some f/\e.k=6/\e.it=((i+j:Nat):Int)
 |[],_,_,h=>by simp[nV] at h
 |x::l,i,e,h=>by
  simp only[nV] at h;split at h
  ·cases h;exact⟨0,x,by simp,rfl,by simp⟩
  ·obtain⟨j,f,h1,h2,h3⟩:=aLp d a s l (i+1) e h;exact⟨j+1,f,by simpa using h1,h2,by rw[h3];congr 1;omega⟩
theorem aTl {env:List Dc} (hf:aP env) {j:Nat} {d:Dc} (hg:env[j]?=some d):0<=d.k/\d.k<=4:=by
 have h0:=hf.2 j d hg;unfold oC at h0;split at h0
 ·simp at h0
 ·rename_i hc;simp only[bAd,aZh,not_or] at hc;omega
theorem iT {env:List Dc} (hf:aP env) {n:List UInt8} {ls:List Lv} (hu:usB env n ls=true):
  ∃(j:Nat) (d:Dc),env[j]?=some d/\(aK env n).1.at_=j/\dH n env 0=some (aK env n).1/\((aK env n).1.k=1->d.k=1)/\((aK env n).1.k=5->d.k=3)/\
   ((aK env n).1.k=6->d.k=4/\∃(i:Nat) (f:Fu),(aK env n).1.it=i/\d.fs[i]?=some f)/\0<=(aK env n).1.k/\(aK env n).1.k<=6:=by
 unfold usB at hu;simp only[aZ7,aZh] at hu;unfold aK at hu⊢
 cases hz:dH n env 0 with
 |none=>rw[hz] at hu;simp at hu
 |some e=>
  simp only;obtain⟨j,d,h1,h2,h3⟩:=oF hz;have hk:=aTl hf h1;simp only[aZv] at h3;have hok:=aLb d j n h2;rw[<-h3] at hok;refine⟨j,d,h1,hok.1,trivial,?_⟩;unfold rL at h3
  by_cases c1:d.k=0\/d.k=1\/d.k=2
  ·rw[if_pos c1] at h3;subst h3;simp only;exact⟨fun h=>h,fun h=>by omega,fun h=>by omega,by omega,by omega⟩
  rw[if_neg c1] at h3
  by_cases c2:d.k=3
  ·rw[if_pos c2] at h3
   have he:e.k=3\/e.k=4\/e.k=5:=by
    split at h3
    ·subst h3;exact .inl rfl
    ·cases hc:nU d (j:Int) n d.cs 0 with
     |none=>rw[hc] at h3;subst h3;exact .inr (.inr rfl)
     |some e'=>
      rw[hc] at h3;simp only[aZb] at h3;subst h3;exact .inr (.inl (aE3 _ _ _ _ _ _ hc).1)
   exact⟨fun h=>by omega,fun _=>c2,fun h=>by omega,by omega,by omega⟩
  rw[if_neg c2] at h3
  cases hc:nV d (j:Int) n d.fs 0 with
  |none=>
   rw[hc] at h3;simp only[bBu] at h3;subst h3;simp only;exact⟨fun h=>by omega,fun h=>by omega,fun h=>by omega,by omega,by omega⟩
  |some e'=>
   rw[hc] at h3;simp only[aZb] at h3;subst h3;obtain⟨i,f,k1,k2,k3⟩:=aLp _ _ _ _ _ _ hc;exact⟨fun h=>by omega,fun h=>by omega,fun _=>⟨by omega,i,f,by simpa using k3,k1⟩,by omega,by omega⟩
theorem wA {env:List Dc} (hg:Env.good env)(hf:aP env)(hA:EnvA env)(rec:Tm->Int->WO Tm)(hr:∀t s,Gin t->0<=s->WGood Gout s (rec t s))(n:List UInt8)(ls:List Lv)(args:List Tm)(ha:∀a∈args,a.at_)(hl:args.length<=40960)(s:Int)(h0:0<=s):
  WGood (fun o:Option Tm=>∀x,o=some x->Gin x) s (gD env rec n ls args s):=by
 have hno:∀s',0<=s'->WGood (fun o:Option Tm=>∀x,o=some x->Gin x) s' (.ok none s'):=fun s' h=>⟨fun x e=>(by cases e),h,bA6 _⟩
 unfold gD
 by_cases hu:usB env n ls=false
 ·rw[if_pos hu];exact hno s h0
 rw[if_neg hu];obtain⟨j,d,h1,h2,h3,h4,h5,h6,h7,h8⟩:=iT hf (by simpa using hu:usB env n ls=true);have hd:(env[(aK env n).1.at_.toNat]?).getD zDc=d:=by rw[h2,aZj,h1];rfl
 have hm:=aZ9 h1;simp only[hd]
 by_cases e1:(aK env n).1.k=1
 ·rw[if_pos e1];split
  ·exact hno s h0
  ·refine WGood.tick h0 fun h=>⟨fun x e=>?_,h,bA6 _⟩
   cases e;have hat:=mQ (ls:=ls) (hA.va d hm (h4 e1));exact(Gin.of_at hat).app ha (by have:=fR hat;omega)
 rw[if_neg e1]
 by_cases e5:(aK env n).1.k=5
 ·rw[if_pos e5]
  by_cases hsc:(args.length:Int)<=kF d
  ·rw[if_pos hsc];exact hno s h0
  rw[if_neg hsc];have hfx:=hA.fx d hm (h5 e5);have hs0:=(jJ (hg.2 d hm) hfx.1 hfx.2).1;have hsl:(kF d).toNat<args.length:=aB;rw[aYu hsl,aZb];refine(hr _ s (Gin.of_at (ha _ (aYx hsl))) h0).bind fun m s' hmo k1 k2=>?_
  unfold rN
  cases hz:hU env m with
  |none=>exact hno s' k1
  |some co=>
   simp only;obtain⟨ca,cl⟩:=eE hg hf hA hmo hz;split
   ·exact hno s' k1
   rename_i hb;split
   ·exact hno s' k1
   refine WGood.tick k1 fun h=>⟨fun x e=>?_,h,bA6 _⟩
   cases e;have hri:co.i<d.rr.length:=aB;rw[aYu hri,aZb];have hat:=mQ (ls:=ls) (hA.rr d hm (h5 e5) _ (aYx hri));have g1:=(Gin.of_at hat).app (l:=args.take (d.fx+1+d.cs.length).toNat) (fun a hx=>ha a (bA3 hx)) (by have:=fR hat;simp only[aZm];omega)
   have l1:(aG (aN (bF (lvF ls false) d.rr[co.i]).1 (args.take (d.fx+1+d.cs.length).toNat))).2.length<=45056:=by
    rw[fM];simp only[aZ4,aZm];have:=fR hat;omega
   have g2:=g1.app (l:=co.as_) ca aB
   have l2:(aG (aN (aN (bF (lvF ls false) d.rr[co.i]).1 (args.take (d.fx+1+d.cs.length).toNat)) co.as_)).2.length<=49152:=by
    rw[fM];simp only[aZ4];omega
   exact g2.app (fun a hx=>ha a (bAp hx)) (by simp only[bA0];omega)
 rw[if_neg e5]
 by_cases e6:(aK env n).1.k=6
 ·rw[if_pos e6];obtain⟨k4,i,f,hi,hfi⟩:=h6 e6;rw[hi,aZj,hfi,aZb];obtain⟨r0,r1,r2⟩:=hA.fs d hm k4 f (aZ9 hfi);unfold aLs;split
  ·exact hno s h0
  refine(tS hg hf hA rec hr f.tr 200 (args.take f.ar.toNat) s r2 (fun a hx=>ha a (bA3 hx)) (by simp only[aZm];omega) h0).bind fun o s' ho k1 k2=>?_
  cases o with
  |none=>exact hno s' k1
  |some p=>
   obtain⟨b,vars⟩:=p;obtain⟨q1,q2,q3⟩:=ho _ rfl;simp only;split
   ·exact hno s' k1
   refine(oS (mQ q1) (fun v hv=>q2 v (by simpa using hv)) k1).bind fun b' s2 hb h1 h2=>⟨fun x e=>?_,h1,bA6 _⟩
   cases e;exact(Gin.of_at hb).app (fun a hx=>ha a (bAp hx)) (by have:=fR hb;simp only[bA0];omega)
 ·rw[if_neg e6];exact hno s h0
theorem aH6 {t:Tm} (h:t.kind≠4):isB 4 t=none:=by
 obtain⟨k,i,n,ls,ks⟩:=t;simp only[Tm.kind] at h
 match ks with
 |[]=>rfl
 |[_]=>rfl
 |[_,_]=>simp[isB,h]
 |_::_::_::_=>rfl
theorem lK {env:List Dc} (hg:Env.good env)(hf:aP env)(hA:EnvA env):∀(n:Nat)(t:Tm)(s:Int),Gin t->0<=s->WGood Gout s (bM env n t s):=by
 intro n
 induction n with
 |zero=>intro t s _ _;trivial
 |succ n ih=>
 intro t s ht h0;simp only[bM,aFc]
 by_cases hl:40960<(aG t).2.length
 ·rw[if_pos hl];exact⟨by omega,bA6 _⟩
 rw[if_neg hl];have hok:Gout t:=⟨fun _=>ht.head,ht.args,by omega⟩;have hdrop:∀k,∀a∈(aG t).2.drop k,a.at_:=fun k a ha=>ht.args a (bAp ha)
 by_cases k5:(aG t).1.kind=5
 ·rw[if_pos k5];split
  ·exact⟨hok,h0,bA6 _⟩
  ·refine(oS (dY ht.head 1) (fun v hv=>ht.args v (bA3 hv)) h0).bind fun b s' hb h1 h2=>ih _ _ ?_ h1
   exact(Gin.of_at hb).app (hdrop 1) (by have:=fR hb;simp only[bA0];omega)
 rw[if_neg k5]
 by_cases k11:(aG t).1.kind=11
 ·rw[if_pos k11];refine(oS (dY ht.head 2) (fun v hv=>by simp at hv;subst hv;exact dY ht.head 1) h0).bind fun b s' hb h1 h2=>ih _ _ ?_ h1
  exact(Gin.of_at hb).app ht.args (by have:=fR hb;omega)
 rw[if_neg k11]
 by_cases k9:(aG t).1.kind=9\/(aG t).1.kind=10
 ·rw[if_pos k9];refine(ih _ s (Gin.of_at (dY ht.head 0)) h0).bind fun p s' hp h1 h2=>?_
  by_cases k8:p.kind≠8
  ·rw[if_pos k8];have hb:isB 4 (Tm.mk (aG t).1.kind 0 [] [] [p])=none:=rfl;have hsp:=fM (Tm.mk (aG t).1.kind 0 [] [] [p]) (aG t).2;rw[dL hb] at hsp;simp only[aZ3] at hsp;refine⟨⟨fun h=>?_,fun a ha=>?_,?_⟩,h1,bA6 _⟩
   ·exact y9b
   ·rw[hsp] at ha;exact ht.args a ha
   ·rw[hsp];simp only;omega
  ·rw[if_neg k8];have k8':p.kind=8:=by simpa using k8
   have hpa:p.at_:=by
    have:=hp.head;exact y6l
   have hka:=dY hpa ((aG t).1.kind-8).toNat;exact WGood.tick h1 fun h=>ih _ _ ((Gin.of_at hka).app ht.args (by have:=fR hka;omega)) h
 rw[if_neg k9]
 by_cases k3:(aG t).1.kind=3
 ·rw[if_pos k3];refine(wA hg hf hA _ ih _ _ _ ht.args aB s h0).bind fun o s' ho h1 h2=>?_
  cases o with
  |none=>exact⟨hok,h1,bA6 _⟩
  |some x=>exact ih _ _ (ho x rfl) h1
 ·rw[if_neg k3];exact⟨hok,h0,bA6 _⟩
open Go Go.AI
theorem aIe (h:Heap)(hh:WF h)(ts:List Tm)(hl:ts.length<=1048576)(hpos:0<ts.length):
  ACalls Tryz.prog 280 [.p (.sl 5 (aL ts))] h fun o h'=>∃cap,ts.length<=cap/\o= .ret (.sm (h.length+1) 0 ts.length cap 5)/\h'=h++[some (.cells (buf 5 [] 0)),row ts (cap-ts.length)]:=by
 refine zER Tryz.func280 Tryz.ntmps280 ?_;refine Run.regPre 1 fun K J=>?_
 refine yd ?_;simp;refine zi ?_;clear J;refine ya ?_;refine Run.nilEq (sz:=5) (es:=aL ts) rfl Tryz.underlying23 rfl aA fun b hb=>?_
 refine zo ?_
 cases b with
 |true=>
  have h0:ts=[]:=by
   have:=hb rfl;rw[dA] at this;exact y6y
  subst h0;simp at hpos
 |false=>
  refine znf ?_;refine Run.regPre 0 fun K J=>?_
  simp only[bBc];simp;refine zi ?_;clear J;refine y27 ?_;refine Run.build0 (sz:=5) (e:=25) rfl rfl rfl rfl ?_;refine Run.opsPre 1 fun K J=>?_
  refine yd ?_;simp;refine zi ?_;clear J;refine ya ?_;refine Run.appendS (id:=h.length) (es:=[]) (ys:=aL ts) (cap:=0) (sz:=5) (by_:=80) (e:=25) rfl rfl rfl rfl rfl rfl aA (by simp[buf]) aA aA aA aA (by simpa using hpos) (by simp;omega) (by simp;omega) ?_ ?_
  ·intro hc;simp only[aZ2,kJ] at hc;omega
  ·intro c' hc';refine zox ?_;exact Fin.retM (h0:=h++[some (.cells (buf 5 [] 0)),row ts (c'-ts.length)]) (l:=[]) aA aA (hh.app (by simp[bT])) aA aE rfl (Weak.refl _) aA ⟨c',by simpa using hc',rfl,rfl⟩
theorem aE1 {env:List Dc} (hf:aP env) {m:Tm} {co:Co} (h:hU env m=some co):co.d∈env/\co.d.k=3/\co.i<co.d.cs.length:=by
 obtain⟨h1,h2,h3⟩:=oA h;unfold hU at h;rw[if_neg (by simp[h3])] at h;rcases fF hf (aG m).1.name with e|⟨d,a,e,hd,hk,hok,hj⟩
 ·rw[e] at h;simp at h
 ·rw[e] at h;simp only[true_and] at h;split at h
  ·rename_i ha;rcases hj with hj|⟨j,rfl,hjl⟩
   ·omega
   rw[aZj,aYu hjl] at h;simp only at h;split at h
   ·simp only[aYz] at h;subst h;exact⟨hd,hk,hjl⟩
   ·cases h
  ·cases h
@[simp] theorem Dc.row_cs6 (d:Dc) (q:14<d.row.length):d.row[14]'q= .p (.sl 6 (d.cs.map Ct.cells)):=by
 have:d.row[14]?=some (.p (.sl 6 (d.cs.map Ct.cells))):=by
  exact y3g
 exact y4o
structure LfI where
 tr:Tr
 vars:List Tm
 s:Int
 N:Nat
 last:Tm
def lfG (env:List Dc)(q:Nat)(h:Heap)(p:LfI):Heap:=List.set h q (dU env p.s)++[some (.cells (p.tr.cells.map .p)),some (.cells zTm),some (.cells zTm),some (.cells (buf 5 [] 0)),none,some (.cells (p.last.cells.map .p)),some (.tok p.vars.length 5)]
def lfP (env:List Dc)(n0:Nat)(W:WO (Option (Tm×List Tm)))(p:LfI):Prop:=TrA p.N p.tr/\(∀v∈p.vars,v.at_)/\p.vars.length+p.N*4096<=1048576/\p.N<=200/\0<=p.s/\p.s<=20000/\kN env (bM env n0) p.tr p.vars p.s=W
def aSp (env:List Dc)(n:Nat):Prop:=∀t s,Gin t->0<=s->s<=20000->bM env n t s≠ .out->∀q h,WF h->h[q]?=some (dU env s)->ACalls Tryz.prog 211 [.ptr q 0,t.av] h (WPost env q h Tm.av (bM env n t s))
def gU (o:Option (Tm×List Tm))(z:Tm):AV:= .tup [((o.map Prod.fst).getD zT).av, .p (.sl 5 (aL ((o.map Prod.snd).getD []))),bA o.isSome,z.av]
def aXi (env:List Dc)(q:Nat)(h:Heap):WO (Option (Tm×List Tm))->AOut->Heap->Prop
 | .ok a s,o,h'=>(∃z,o= .ret (gU a z))/\h'=h.set q (dU env s)
 | .fail s,o,h'=>o= .panic aBe/\h'=h.set q (dU env s)
 | .out,_,_=>False
theorem aId (h:Heap)(hh:WF h):AC 280 [.p (.sl 5 [])] h (.p (.sl 5 [])):=by
 refine zER Tryz.func280 Tryz.ntmps280 ?_;refine Run.regPre 1 fun K J=>?_
 refine yd ?_;simp;refine zi ?_;clear J;refine ya ?_;refine Run.nilEq (sz:=5) (es:=[]) rfl Tryz.underlying23 rfl aA fun b hb=>?_
 refine zo ?_
 cases b with
 |true=>
  refine nv ?_;refine Go.AI.ct aA (nv ?_);refine zrx ?_;exact Fin.ret' (h0:=h) (xs:=[.p (.prim (.slice none 0 0))]) aA rfl hh (aZ0 _).symm aA rfl (Weak.nil 5) rfl ⟨rfl,rfl⟩
 |false=>
  refine znf ?_;refine Run.regPre 2 fun K J=>?_
  refine yd ?_;simp;refine zi ?_;clear J;refine ya ?_;refine y2n ?_;exact Fin.ret' (h0:=h) aA rfl hh aE aE rfl (Weak.refl _) rfl ⟨rfl,rfl⟩
theorem aTo:Weak (.tup [.agg zTm, .p (.prim (.slice none 0 0)),bA false, .agg zTm]) (gU none zT):=Weak.tup (WeakL.cons Weak.zT (WeakL.cons (Weak.nil 5) (WeakL.cons (Weak.refl _) (WeakL.cons Weak.zT WeakL.nil))))
theorem yU (k i:Int)(n:List UInt8)(ls:List Lv)(ks:List Tm):Weak (.tup [.agg zTm, .p (.prim (.slice none 0 0)),bA false, .agg [iA k,iA i, .p (sP n), .p (.sl 2 (aW ls)), .p (.sl 5 (aL ks))]]) (gU none (.mk k i n ls ks)):=Weak.tup (WeakL.cons Weak.zT (WeakL.cons (Weak.nil 5) (WeakL.cons (Weak.refl _) (WeakL.cons (Weak.of_eq (by simp[Tm.av,aH])) WeakL.nil))))
theorem lZ (n:Nat)(z:Tm):AV.under n (gU none z)=true:=by simp[gU,zT,Tm.av]
attribute [local simp] bT
theorem aEg (env:List Dc)(hg:Env.good env)(hf:aP env)(hA:EnvA env)(n0:Nat)(hW:aSp env n0)(tr:Tr)(N:Nat)(htr:TrA N tr)(vars:List Tm)(hv:∀v∈vars,v.at_)(hl:vars.length+N*4096<=1048576)(hN:N<=200)
  (s:Int) (hs0:0<=s) (hs1:s<=20000) (hne:kN env (bM env n0) tr vars s≠ .out) (q:Nat) (h:Heap) (hh:WF h) (hq:h[q]?=some (dU env s)):
  ACalls Tryz.prog 276 [.ptr q 0,tr.av, .p (.sl 5 (aL vars))] h (aXi env q h (kN env (bM env n0) tr vars s)):=by
 obtain⟨g1,g2,g3,g4,g5,hlt⟩:=idf hq;obtain⟨W,hWe⟩:∃W,kN env (bM env n0) tr vars s=W:=⟨_,rfl⟩;rw[hWe] at hne⊢
 by_cases hv0:vars=[]
 ·subst hv0;obtain⟨k,⟨b1,b2,b3,b4,b5⟩,v,bs⟩:=tr;simp only[kN,aZ2] at hWe;simp only[aL,Tr.av,Tr.cells,aH,List.map,aYy,aZ3];refine cW Tryz.func276 Tryz.ntmps276 ?_;refine rl (args:=[.p (.sl 5 [])]) rfl aF aA rfl (aId _ (hh.app aA)) ?_;refine zor ?_;refine Run.loop ?_;refine nv ?_
  by_cases hk:k=1
  ·subst hk
   obtain rfl:W= .ok none s:=by
    rw[if_pos rfl,if_pos aB] at hWe;exact hWe.symm
   refine znr ?_;refine Go.AI.ct aA (nv ?_)
   by_cases hv1:v<0
   ·refine nQ hv1 ?_;exact y5c
   ·have hv2:0<=v:=aB;refine sH hv1 hv2 ?_;exact y5c
  ·obtain rfl:W= .ok (some (.mk b1 b2 b3 b4 b5,[])) s:=by
    rw[if_neg hk] at hWe;exact hWe.symm
   have hkb:(k==(1:Int))=false:=by simpa using hk
   refine pG hkb ?_;refine Fin.ret' (h0:=h) (xs:=[.agg [iA b1,iA b2, .p (sP b3), .p (.sl 2 (aW b4)), .p (.sl 5 (aL b5))], .p (.sl 5 []),bA true, .agg zTm]) aA rfl hh rfl aA rfl (y:=gU (some (.mk b1 b2 b3 b4 b5,[])) zT) ?_ (by simp[gU,zT,Tm.av]) ⟨⟨_,rfl⟩,(dO hq).symm⟩;simp only[gU,bA1,aZb,Tm.av,aH,List.map,aL];exact Weak.tup (WeakL.cons (Weak.refl _) (WeakL.cons (Weak.refl _) (WeakL.cons (Weak.refl _) (WeakL.cons Weak.zT WeakL.nil))))
 have hpos:0<vars.length:=bAw.2 hv0;obtain⟨tc,htc⟩:∃tc,tc=tr.cells.map AV.p:=⟨_,rfl⟩;have htl:tc.length=8:=by rw[htc];obtain⟨k,⟨b1,b2,b3,b4,b5⟩,v,bs⟩:=tr;simp[Tr.cells,aH]
 simp only[Tr.av];rw[<-htc];have htu:∀n,AV.underL n tc=true:=fun n=>by rw[htc];simp
 refine cW Tryz.func276 Tryz.ntmps276 ?_;refine Run.call (args:=[.p (.sl 5 (aL vars))]) rfl rfl aA rfl (aIe _ (hh.app (by simp[htu])) vars aB hpos) ?_ ?_
 rotate_left
 ·rintro v h' ⟨_,_,hv,_⟩;cases hv
 rintro v h' ⟨cap,hcap,hv,rfl⟩;simp only[AOut.ret.injEq] at hv;subst hv;refine zor ?_;refine Run.weakH (h.length+5) (cs:=zTm) (cs':=zT.cells.map .p) (by simp[Heap.at]) ?_ ?_
 ·simp only[zT,aH,List.map];exact zK
 simp;refine Run.ownS 10 (id:=h.length+4) (n:=vars.length) (cap:=cap) (sz:=5) (m:=cap-vars.length) (es:=aL vars) aA (by simp[Heap.at,row]) (eJ _) aA hcap rfl ?_;simp;subst htc;refine Run.loopS (ι:=LfI) [0,4,6,9,11] (lfP env n0 W) LfI.N (fun p=>[(10, .own (h.length+6) 5 (aL p.vars))]) (lfG env q h) ⟨tr,vars,s,N,zT⟩ ⟨htr,hv,hl,hN,hs0,hs1,hWe⟩ ?_ ?_ ?_
 ·exact zS
 ·simp[lfG,dO hq]
 clear htr hv hl hN hs0 hs1 hWe hpos hv0 hq;rintro⟨tr,vars,s,N,last⟩ ⟨htr,hv,hl,hN,hs0,hs1,hWe⟩ IH;simp only at htr hv hl hN hs0 hs1 hWe IH;obtain⟨k,⟨b1,b2,b3,b4,b5⟩,v,bs⟩:=tr;obtain⟨l1,l2,l3,l4,l5⟩:=last;simp only[kN] at hWe;simp;simp only[lfG,Tr.cells,aH,List.map,aYy,aZ3];obtain⟨G,hG⟩:∃G,List.set h q (dU env s)=G:=⟨_,rfl⟩;have hGl:h.length=G.length:=by rw[<-hG];simp
 have hGw:WF G:=by rw[<-hG];exact hh.set aA
 have hGq:G[q]?=some (dU env s):=by rw[<-hG];exact g3 _
 rw[hG];simp only[hGl];obtain⟨k1,k2,k3,k4,k5,hGlt⟩:=idf hGq
 by_cases hk:k=1
 rotate_left
 ·obtain rfl:W= .ok (some (.mk b1 b2 b3 b4 b5,vars)) s:=by
   rw[if_neg hk] at hWe;exact hWe.symm
  have hkb:(k==(1:Int))=false:=by simpa using hk
  refine pG hkb ?_;refine Fin.ret' (h0:=G) (xs:=[.agg [iA b1,iA b2, .p (sP b3), .p (.sl 2 (aW b4)), .p (.sl 5 (aL b5))], .own (G.length+6) 5 (aL vars),bA true, .agg zTm]) aA rfl hGw rfl aA rfl (y:=gU (some (.mk b1 b2 b3 b4 b5,vars)) zT) ?_ (by simp[gU,zT,Tm.av]) ⟨⟨_,rfl⟩,hG.symm⟩;exact y64
 subst hk;rw[if_pos rfl] at hWe;refine znr ?_;refine Go.AI.ct aA (nv ?_)
 by_cases hv0:v<0\/(vars.length:Int)<=v
 ·rw[if_pos hv0] at hWe;subst hWe
  by_cases hv1:v<0
  ·refine nQ hv1 ?_;exact y38
  ·have hv2:(vars.length:Int)<=v:=hv0.resolve_left hv1;refine sH hv1 hv2 ?_;exact y38
 rw[if_neg hv0] at hWe;rw[not_or] at hv0;obtain⟨hv1,hv2⟩:=hv0;obtain⟨j,rfl⟩:∃j:Nat,v=j:=⟨v.toNat,by omega⟩;have hjl:j<vars.length:=aB;have hgj:vars[j]?=some vars[j]:=aYu hjl;have hgj':∀q:j<vars.length,vars[j]'q=vars[j]:=fun _=>rfl
 have hxa:=hv _ (aYx hjl);simp only[aZj,hgj,aZb] at hWe;have hj3:¬(j:Int)<0:=aB;have hj4:¬vars.length<=j:=aB;refine nR hj4 ?_;have cw:=fun(l:Heap) (hw:WF (G++l)) (hn:bM env n0 vars[j] s≠ .out)=>hW vars[j] s (Gin.of_at hxa) hs0 hs1 hn q (G++l) hw (k1 l)
 have hgo:=lK hg hf hA n0 vars[j] s (Gin.of_at hxa) hs0;generalize hxe:vars[j]=x at hgj hWe cw hgo;obtain⟨x1,x2,x3,x4,x5⟩:=x;simp only[Tm.av,aH,List.map] at cw;generalize bM env n0 (.mk x1 x2 x3 x4 x5) s=w at hWe cw hgo
 cases w with
 |out=>
  exact y8z
 |fail s'=>
  simp only[WO.bind] at hWe;subst hWe;have cw:=fun l hw=>WPost.fails hGlt (cw l hw (by intro e;cases e))
  refine nv ?_;refine Run.regPre 6 fun K J=>?_
  refine yd ?_;simp[hgj];refine zi ?_;clear J;refine ya ?_;refine Run.call rfl aF aA rfl (cw _ (hGw.app (by simp[bT]))) ?_ ?_
  ·rintro v h' ⟨hv,_⟩;cases hv
  rintro v h' ⟨hv,rfl⟩;simp only[AOut.panic.injEq] at hv;subst hv;exact Fin.panA (h0:=List.set G q (dU env s')) aA (hGw.set aA) rfl rfl ⟨rfl,by rw[<-hG];simp⟩
 |ok m s'=>
  simp only[WO.bind] at hWe;obtain⟨hmo,hs0',hs1'⟩:=hgo;have hmal:(aG m).2.length<=1048576:=by have:=hmo.len;omega
  have cw:=fun l hw=>WPost.oks hGlt (cw l hw (by intro e;cases e))
  have hcx:=fun co=>eE (co:=co) hg hf hA hmo
  have hci:=fun co=>aE1 (m:=m) (co:=co) hf
  obtain⟨oc,hoc⟩:∃oc,hU env m=oc:=⟨_,rfl⟩;have c2:=fun(g:Heap) (hw:WF g) (hgq:g[q]?=some (dU env s'))=>tB env hg hf m hmal q s' g hw hgq
  rw[hoc] at hWe hcx hci c2;clear hmo hmal hoc;obtain⟨m1,m2,m3,m4,m5⟩:=m;simp only[Tm.av,aH,List.map] at cw c2;refine nv ?_;refine Run.regPre 6 fun K J=>?_
  refine yd ?_;simp[hgj];refine zi ?_;clear J;refine ya ?_;refine zL (cw _ (hGw.app (by simp[bT]))) ?_;rw[show List.set G q (dU env s')=List.set h q (dU env s') by rw[<-hG];simp];simp only[<-hGl];obtain⟨G2,hG2⟩:∃G2,List.set h q (dU env s')=G2:=⟨_,rfl⟩;have hG2l:h.length=G2.length:=by rw[<-hG2];simp
  have hG2w:WF G2:=by rw[<-hG2];exact hh.set aA
  have hG2q:G2[q]?=some (dU env s'):=by rw[<-hG2];exact g3 _
  rw[hG2];simp only[hG2l];obtain⟨n1,n2,n3,n4,n5,hG2lt⟩:=idf hG2q;refine zor ?_;refine zL (c2 _ (hG2w.app (by simp[bT])) (n1 _)) ?_;refine aOk ?_
  cases oc with
  |none=>
   simp only at hWe;subst hWe;refine zn ?_;refine aK7 ?_;exact y4q
  |some co=>
   obtain⟨hca,hcl⟩:=hcx co rfl;obtain⟨hcd,hck,hcil⟩:=hci co rfl;simp only[aRp] at hWe;refine zn ?_;refine aK7 ?_;refine zf ?_;have hgc:co.d.cs[co.i]?=some co.d.cs[co.i]:=aYu hcil;have hgc':∀q:co.i<co.d.cs.length,co.d.cs[co.i]'q=co.d.cs[co.i]:=fun _=>rfl
   simp only[hgc,bA1,aZb] at hWe;generalize hce:co.d.cs[co.i]=c at hgc hWe;simp only[TrA,ne_eq,bBf,false_imp_iff,true_and,true_imp_iff] at htr;obtain⟨hbl,hNp,hbs⟩:=htr;have c5:=fun g hw=>xX g hw (.mk 1 (.mk b1 b2 b3 b4 b5) j bs) c.nm hbl
   generalize hbz:brZ c.nm bs=ob at hWe;simp only[trB,hbz] at c5;obtain⟨⟨d1,⟨d2,d3,d4,d5,d6⟩,d7,d8⟩,htz⟩:∃z,ob.getD zTr=z:=⟨_,rfl⟩;rw[htz] at c5;simp only[Tr.av,Tr.cells,aH,List.map,aYy,aZ3] at c5;obtain⟨cn,ct⟩:=c;simp only at c5 hbz;have hh2:=hh;have hh:=hG2w;refine y13 ?_;refine aYc hce hcil ?_;refine ND.DR.pcall rfl rfl rfl aA rfl rfl (fun g hg=>(c5) g ?_) ?_
   ·exact y2v
   refine zm ?_;refine y9 ?_;refine nv ?_
   cases ob with
   |none=>
    simp only at hWe;subst hWe;refine znr ?_;exact y4q
   |some tr'=>
    simp only at hWe;have htr':=aT0 hbs hbz;have hta:aL (vars++co.as_)=aL vars++aL co.as_:=by simp only[dA,aZx]
    have hb1:(vars.length+co.as_.length)*80<=140737488355328:=aB;have hb2:vars.length+co.as_.length<=9223372036854775807:=aB;simp only[aZb] at htz;subst htz;refine mI ?_;refine zr2 hb1 hb2 ?_;refine Run.keep [0,4,6,9,10,11] ?_;simp;refine Run.cutAt 7 hG2w rfl (aYw _) aA (by simp;omega) aA rfl ?_;simp only[<-hG2l];refine IH ⟨.mk d1 (.mk d2 d3 d4 d5 d6) d7 d8,vars++co.as_,s',N-1, .mk m1 m2 m3 m4 m5⟩ _ _ ⟨htr',fun x hx=>(aZn.1 hx).elim (hv x) (hca x),by simp only[aZ4];omega,by show N-1<=200;omega,hs0',by show s'<=20000;omega,hWe⟩ (by simp only;omega) ?_ ?_
    ·simp[hta];exact zK
    ·simp[lfG,<-hG2,Tr.cells,aH]
end Go.Proofs.YtcfcolkbeelegaaGreat
namespace Go.Proofs.YtcfcolkbeelegaaGreat
open Go Go.AI
def aW6 (env:List Dc)(rec:Tm->Int->WO Tm)(d:Dc)(ls:List Lv)(args:List Tm)(s:Int):WO (Option Tm):=
 if(args.length:Int)<=kF d then .ok none s else(rec ((args[(kF d).toNat]?).getD zT) s).bind fun m s=>rN env d ls args m s
theorem aEn:Weak (.tup [.agg zTm,bA false]) (kZ none):=Weak.tup (WeakL.cons Weak.zT (WeakL.refl _))
theorem aMx (n:Nat):AV.under n (kZ none)=true:=by simp[kZ,zT]
theorem uN (env:List Dc)(hg:Env.good env)(hf:aP env)(hA:EnvA env)(n0:Nat)(hW:aSp env n0)(a0:Int)(n:Nat)(a2 a3:Int)(ty:Tm)(d:Dc)(hd:env[n]?=some d)(hk:d.k=3)(t:Tm)(ht:pQ t.levels)(args:List Tm)(haa:∀a∈args,a.at_)(hl:args.length<=40960)
  (s:Int) (hs0:0<=s) (hs1:s<=20000) (hne:aW6 env (bM env n0) d t.levels args s≠ .out) (q:Nat) (h:Heap) (hh:WF h) (hq:h[q]?=some (dU env s)):
  ACalls Tryz.prog 263 [.ptr q 0,(En.mk a0 n a2 a3 ty).av,t.av, .p (.sl 5 (aL args))] h (WPost env q h kZ (aW6 env (bM env n0) d t.levels args s)):=by
 obtain⟨g1,g2,g3,g4,g5,hlt⟩:=idf hq;have hm:=aZ9 hd;have hgd:=hg.2 d hm;have hfx:=hA.fx d hm hk;have hrr:=hA.rr d hm hk;have hsb:=jJ hgd hfx.1 hfx.2;have c4:=fun g hw=>oY g hw d hgd hfx.1 hfx.2
 have hnl:=(aYv.1 hd).1;have hd':∀q:n<env.length,env[n]'q=d:=fun q=>(aYv.1 hd).2
 obtain⟨W,hWe⟩:∃W,aW6 env (bM env n0) d t.levels args s=W:=⟨_,rfl⟩;rw[hWe] at hne⊢;unfold aW6 at hWe;have c6:=fun(m:Tm) (hml:(aG m).2.length<=1048576) (s':Int) (h0:0<=s') (h1:s'<=20000) (g:Heap) (hw:WF g) (hgq:g[q]?=some (dU env s')) (hsc:kF d<args.length)=>aEc env hg hf d hgd hfx.1 hfx.2 hrr t ht args aB hsc m hml s' aB aB q g hw hgq
 obtain⟨n2,hn2⟩:∃n2:Nat,kF d=n2:=⟨(kF d).toNat,by omega⟩;rw[hn2] at hWe hsb;simp only[hn2,Dc.av_row] at c4 c6;obtain⟨k,i,nmt,ls,ks⟩:=t;obtain⟨u1,u2,u3,u4,u5⟩:=ty;simp only[Tm.av,aH,List.map,Tm.levels] at c6 hWe;simp only[En.av,En.cells,Tm.av,aH,List.map];have hrow:List.map AV.p d.cells=d.row:=rfl;refine zER Tryz.func263 Tryz.ntmps263 ?_;refine ND.Run.drawP (pc:=[]) [0,0,0,0,0,0,0,0,0,1] [0,0,0,0,0,0,0,0,0,1] [0,1,3,7,0,16,63,127,0,511] [8,0,1,2,3,4,5,6,7,9] aC aC ?_;refine aYd g1 hd' hnl hrow ?_;refine y9 ?_;refine znr ?_;refine zL (c4 _ (hh.app aA)) ?_;refine zo ?_
 by_cases hsc:(args.length:Int)<=n2
 ·rw[if_pos hsc] at hWe;subst hWe;have hsc2:args.length<=n2:=aB;refine nQ hsc ?_;refine Go.AI.ct aA (nv ?_);refine zrx ?_;exact y78
 rw[if_neg hsc] at hWe;have hsl:n2<args.length:=aB;have hsl2:¬args.length<=n2:=aB;have hgj:args[n2]?=some args[n2]:=aYu hsl;have hxa:=haa _ (aYx hsl);simp only[aZj,hgj,aZb] at hWe;refine nR hsl2 ?_;have cw:=fun(l:Heap) (hw:WF (h++l)) (hn:bM env n0 args[n2] s≠ .out)=>hW args[n2] s (Gin.of_at hxa) hs0 hs1 hn q (h++l) hw (g1 l)
 have hgo:=lK hg hf hA n0 args[n2] s (Gin.of_at hxa) hs0;generalize hxe:args[n2]=x at hgj hWe cw hgo;obtain⟨x1,x2,x3,x4,x5⟩:=x;simp only[Tm.av,aH,List.map] at cw;generalize bM env n0 (.mk x1 x2 x3 x4 x5) s=w at hWe cw hgo
 cases w with
 |out=>
  exact y8z
 |fail s'=>
  simp only[WO.bind] at hWe;subst hWe;have cw:=fun l hw=>WPost.fails hlt (cw l hw (by intro e;cases e))
  refine nv ?_;refine ND.Run.drawPanicP (pc:=[]) [0,0,0,0,0,0,0,0,0,0,1,2,2,2,3] [0,0,0,0,0,0,0,0,0,0,0,0,0,0,0] [0,0,0,0,0,0,0,96,224,496,1023,2047,2047,8191,16383] [0,1,2,3,4,5,6,7,8] 9 aC aC ?_;refine zm1 hgj ?_;refine⟨_,_,_,_,_,_,rfl,rfl,rfl,by simp,rfl,(cw _ (hh.app aA)),?_⟩;intro T' hT;exact y8l
 |ok m s'=>
  simp only[WO.bind] at hWe;obtain⟨hmo,hs0',hs1'⟩:=hgo;have hmal:(aG m).2.length<=1048576:=by have:=hmo.len;omega
  have cw:=fun l hw=>WPost.oks hlt (cw l hw (by intro e;cases e))
  have c6:=fun(l:Heap) (hw:WF (List.set h q (dU env s')++l))=>c6 m hmal s' hs0' aB (List.set h q (dU env s')++l) hw (g4 l _) aB
  rw[hWe] at c6;obtain⟨m1,m2,m3,m4,m5⟩:=m;simp only[Tm.av,aH,List.map] at cw c6;have hqs:q<(List.set h q (dU env s')).length:=by simpa using hlt
  cases W with
  |out=>exact absurd rfl hne
  |fail s2=>
   have c6:=fun l hw=>WPost.fails hqs (c6 l hw)
   refine nv ?_;refine ND.Run.drawPanicP (pc:=[]) [0,0,0,0,0,0,0,0,0,0,1,2,2,2,3] [0,0,0,0,0,0,0,0,0,0,0,0,0,0,0] [0,0,0,0,0,0,0,96,224,496,1023,2047,2047,8191,16383] [4,5,6,7,8,9,0,1,2,3] 10 aC aC ?_;refine zm1 hgj ?_;refine ND.DR.call rfl rfl rfl aA rfl rfl (cw _ (hh.app aA)) ?_;refine zm ?_;refine⟨_,_,_,_,_,_,rfl,rfl,rfl,by simp,rfl,(c6 _ ((hh.set aA).app aA)),?_⟩;intro T' hT;exact Fin.panA (h0:=List.set h q (dU env s2)) aA (hh.set aA) aE rfl ⟨rfl,by simp⟩
  |ok o s2=>
   have c6:=fun l hw=>WPost.oks hqs (c6 l hw)
   obtain⟨⟨p1,p2,p3,p4,p5⟩,hz1⟩:∃z,o.getD zT=z:=⟨_,rfl⟩;simp only[kZ,hz1,Tm.av,aH,List.map] at c6;refine nv ?_;refine ND.Run.drawP (pc:=[]) [0,0,0,0,0,0,0,0,0,0,1,2,2,2,3] [0,0,0,0,0,0,0,0,0,0,1,0,0,2,0] [0,0,0,0,0,0,0,96,224,496,1023,2047,2047,8191,16383] [4,5,6,7,8,9,0,1,2,3,10,11,12,13,14] aC aC ?_;refine zm1 hgj ?_;refine y1l ?_;refine y9 ?_;refine znx ?_;exact Fin.ret' (h0:=List.set h q (dU env s2)) aA aA (hh.set aA) aE aE rfl (Weak.refl _) aA ⟨by simp[kZ,hz1,Tm.av],by simp⟩
end Go.Proofs.YtcfcolkbeelegaaGreat
