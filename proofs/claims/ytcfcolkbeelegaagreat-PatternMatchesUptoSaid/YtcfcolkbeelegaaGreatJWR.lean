import Derived.Test.YtcfcolkbeelegaaGreatJA0
import Derived.Test.YtcfcolkbeelegaaGreatJWD
import Derived.Test.YtcfcolkbeelegaaGreatJWH
import Derived.Test.YtcfcolkbeelegaaGreatJWN
import Derived.Test.YtcfcolkbeelegaaGreatJRD
namespace Go.Proofs.YtcfcolkbeelegaaGreat
open Go Go.AI
set_option linter.unusedSectionVars false
def Sim {α:Type} (S:Int)(x:QO α)(y:WO α):Prop:=match x with
 |none=>True
 |some (a,c)=>c.ov=false->y= .ok a (S-c.st)
theorem Sim.self {α:Type} {S:Int} {a:α} {c:Kt} :Sim S (some (a,c)) (.ok a (S-c.st)):=fun _=>rfl
def OvQ {α:Type} (x:QO α):Prop:=match x with
 |none=>True
 |some (_,c)=>c.ov=true
theorem QGood.ov {α:Type} {c:Kt} {P:α->Kt->Prop} {x:QO α} (h:QGood c P x)(ho:c.ov=true):OvQ x:=by
 cases x with
 |none=>trivial
 |some p=>
  obtain⟨a,c'⟩:=p;show c'.ov=true
  cases h2:c'.ov with
  |true=>rfl
  |false=>
   have:=(h.2.1 h2).1;rw[ho] at this;cases this
theorem OvQ.sim {α:Type} {S:Int} {x:QO α} (h:OvQ x)(y:WO α):Sim S x y:=by
 cases x with
 |none=>trivial
 |some p=>
  obtain⟨a,c'⟩:=p;intro h2;have h:c'.ov=true:=h;rw[h] at h2;cases h2
theorem Sim.bind {α β:Type} {S:Int} {c:Kt} {P:α->Kt->Prop} {x:QO α} {y:WO α} {f:α->Kt->QO β} {g:α->Int->WO β} (hx:QGood c P x)(hs:Sim S x y)
  (hf:∀a c',K2 c'->P a c'->c'.ov=true->OvQ (f a c')) (hg:∀a c',K2 c'->c'.ov=false->(c'.ov=false->c.ov=false/\c.nd<=c'.nd)->P a c'->Sim S (f a c') (g a (S-c'.st))):Sim S (QO.bind x f) (WO.bind y g):=by
 cases x with
 |none=>trivial
 |some p=>
  obtain⟨a,c'⟩:=p;obtain⟨h1,h2,h3⟩:=hx
  cases ho:c'.ov with
  |true=>exact(hf a c' h1 h3 ho).sim _
  |false=>
   have:=hs ho;subst this;exact hg a c' h1 ho h2 h3
theorem aCj {c:Kt} (h:c.ov=true)(t:Tm)(e:Int):(c.result t e).ov=true:=by simp[Kt.result,Kt.form,h]
theorem aPw (env:List Dc)(d:Dc)(ls:List Lv)(args:List Tm)(m:Tm) {c:Kt} (h:c.ov=true):OvQ (some (rO env d ls args m c)):=by
 unfold rO;split
 ·exact h
 ·split
  ·exact h
  ·split
   ·exact h
   ·exact aCj h _ _
theorem aW1 {c:Kt} {t:Tm} {e:Int} (h:(c.result t e).ov=false):e=0:=by
 simp only[Kt.result,Kt.form,Kt.over,bAm] at h;simpa using h.2.1.1.1.1.1
theorem aFg {α:Type} {S:Int} (hS:1000<=S) {c:Kt} (h0:K1 c) {t:Tm} {e:Int} (h:(c.result t e).ov=false)(f:Int->WO α):iK (S-c.st) f=f (S-(c.result t e).st):=by
 obtain⟨h1,h2⟩:=h0.result t e;rcases h2 with h2|⟨h2,h3⟩
 ·rw[h] at h2;cases h2
 have h4:=(h1.2 h).2;have e1:S-c.st-1=S-(c.result t e).st:=aB;unfold iK;rw[e1,if_neg aB]
theorem aS7 {S:Int} (hS:1000<=S) {c:Kt} (h0:K1 c) {t:Tm} {vs:List Tm} (h:(c.result (aI t vs 0).1 (aI t vs 0).2).ov=false):sC t vs (S-c.st)= .ok (aI t vs 0).1 (S-(c.result (aI t vs 0).1 (aI t vs 0).2).st):=by
 have he:=aW1 h;unfold sC;rw[aFg hS h0 h,if_neg (by simpa using he)]
theorem Sim.tick {α:Type} {S:Int} (hS:1000<=S) {c:Kt} (h0:K1 c) {t:Tm} {e:Int} {a:α} :Sim S (some (a,c.result t e)) (iK (S-c.st) fun s=> .ok a s):=fun h=>aFg hS h0 h _
section
variable {env:List Dc} (hg:Env.good env) (hf:aP env) (hA:EnvA env) (S:Int) (hS:1000<=S) (rec:Tm->Kt->QO Tm) (rec':Tm->Int->WO Tm) (hr:∀t c,InQ t c->K2 c->QGood c (fun m _=>aOw m) (rec t c)) (hs:∀t c,InQ t c->K2 c->Sim S (rec t c) (rec' t (S-c.st)))
include hg hf hA hS hr hs
mutual
theorem aBx:∀(tr:Tr)(n:Nat)(vars:List Tm)(c:Kt),TrA n tr->(∀v∈vars,v.at_)->vars.length+n*4096<=1048576->K2 c->c.ov=false->
  Sim S (jE env rec tr vars c) (kN env rec' tr vars (S-c.st))
 | .mk k b v bs,n,vars,c,ht,hv,hl,h0,ho=>by
  simp only[TrA] at ht;simp only[jE,kN]
  by_cases hk:k=1
  rotate_left
  ·rw[if_neg hk,if_neg hk];exact Sim.self
  rw[if_pos hk,if_pos hk]
  by_cases hc:v<0\/(vars.length:Int)<=v
  ·rw[if_pos hc,if_pos aB];exact Sim.self
  rw[if_neg hc,if_neg (by rw[ho];simp;omega)];have hvl:v.toNat<vars.length:=aB;rw[aYu hvl,aZb];have hin:=InQ.of_at (hv _ (aYx hvl)) h0;obtain⟨hn,hbs⟩:=ht.2.2 hk
  have hln:∀l:List Tm,l.length<=4096->(vars++l).length+(n-1)*4096<=1048576:=fun l hl=>by
   have:n*4096=(n-1)*4096+4096:=by
    exact y75
   simp only[aZ4];omega
  have hvs:∀m co,aOw m->hU env m=some co->(∀x∈vars++co.as_,x.at_)/\co.as_.length<=4096:=fun m co hm hz=>by
   obtain⟨ha,hal⟩:=eE hg hf hA hm.1 hz
   exact⟨fun x hx=>by
    rcases aZn.1 hx with hx|hx
    ·exact hv x hx
    ·exact ha x hx,by omega⟩
  refine Sim.bind (hr _ c hin h0) (hs _ c hin h0) (fun m c' h1 hm hx=>?_) (fun m c' h1 h3 h2 hm=>?_)
  ·cases hz:hU env m with
   |none=>exact hx
   |some co=>
    obtain⟨a1,a2⟩:=hvs m co hm hz;exact(xU hg hf hA rec hr bs (n-1) _ _ c' hbs a1 (hln _ a2) h1).ov hx
  ·cases hz:hU env m with
   |none=>exact Sim.self
   |some co=>
    obtain⟨a1,a2⟩:=hvs m co hm hz;exact aKt bs (n-1) _ _ c' hbs a1 (hln _ a2) h1 h3
theorem aKt:∀(bs:List Br)(n:Nat)(x:List UInt8)(vars:List Tm)(c:Kt),aK8 n bs->(∀v∈vars,v.at_)->vars.length+n*4096<=1048576->K2 c->c.ov=false->
  Sim S (brQ env rec x bs vars c) (brF env rec' x bs vars (S-c.st))
 |[],n,x,vars,c,_,_,_,h0,ho=>by
  simp only[brQ,brF];exact Sim.self
 | .mk cn a t::bs,n,x,vars,c,hb,hv,hl,h0,ho=>by
  simp only[aK8] at hb;simp only[brQ,brF];split
  ·split
   ·exact Sim.self
   ·rename_i ha;exact aBx t n vars c (hb.1 (by simpa using ha)) hv hl h0 ho
  ·exact aKt bs n x vars c hb.2 hv hl h0 ho
end
theorem aM1 (d:Dc)(ls:List Lv)(args:List Tm)(m:Tm)(c:Kt)(h0:K1 c):Sim S (some (rO env d ls args m c)) (rN env d ls args m (S-c.st)):=by
 unfold rO rN
 cases hz:hU env m with
 |none=>exact Sim.self
 |some co=>
  simp only;split
  ·exact Sim.self
  ·split
   ·exact Sim.self
   ·exact Sim.tick hS h0
theorem aIg (n:List UInt8)(ls:List Lv)(args:List Tm)(ha:∀a∈args,a.at_)(c:Kt)(h0:K2 c)(ho:c.ov=false)(hl:(args.length:Int)<=4096+c.nd):
  Sim S (cT env rec n ls args c) (gD env rec' n ls args (S-c.st)):=by
 have hnd:=h0.2 ho;unfold cT gD
 by_cases hu:usB env n ls=false
 ·rw[if_pos hu,if_pos hu];exact Sim.self
 rw[if_neg hu,if_neg hu];obtain⟨j,d,h1,h2,h3,h4,h5,h6,h7,h8⟩:=iT hf (by simpa using hu:usB env n ls=true);have hd:(env[(aK env n).1.at_.toNat]?).getD zDc=d:=by rw[h2,aZj,h1];rfl
 have hm:=aZ9 h1;simp only[hd]
 by_cases e1:(aK env n).1.k=1
 ·rw[if_pos e1,if_pos e1];split
  ·exact Sim.self
  ·exact Sim.tick hS h0.1
 rw[if_neg e1,if_neg e1]
 by_cases e5:(aK env n).1.k=5
 ·rw[if_pos e5,if_pos e5]
  by_cases hsc:(args.length:Int)<=kF d
  ·rw[if_pos hsc,if_pos hsc];exact Sim.self
  rw[if_neg hsc,if_neg hsc];have hfx:=hA.fx d hm (h5 e5);have hs0:=(jJ (hg.2 d hm) hfx.1 hfx.2).1;have hsl:(kF d).toNat<args.length:=aB;rw[aYu hsl,aZb];have hin:=InQ.of_at (ha _ (aYx hsl)) h0;refine Sim.bind (hr _ c hin h0) (hs _ c hin h0) (fun m c' k1 _ hx=>?_) (fun m c' k1 k3 k2 hm=>aM1 hg hf hA S hS rec rec' hr hs d ls args m c' k1.1);exact aPw _ _ _ _ _ hx
 rw[if_neg e5,if_neg e5]
 by_cases e6:(aK env n).1.k=6
 ·rw[if_pos e6,if_pos e6];obtain⟨k4,i,f,hi,hfi⟩:=h6 e6;rw[hi,aZj,hfi,aZb];obtain⟨r0,r1,r2⟩:=hA.fs d hm k4 f (aZ9 hfi);unfold aPr aLs;split
  ·exact Sim.self
  have a1:∀v∈args.take f.ar.toNat,v.at_:=fun a hx=>ha a (bA3 hx)
  have a2:(args.take f.ar.toNat).length+200*4096<=1048576:=by simp only[aZm];omega
  refine Sim.bind (mA hg hf hA rec hr f.tr 200 (args.take f.ar.toNat) c r2 a1 a2 h0) (aBx hg hf hA S hS rec rec' hr hs f.tr 200 _ c r2 a1 a2 h0 ho) (fun o c' k1 _ hx=>?_) (fun o c' k1 k3 k2 ho2=>?_)
  ·cases o with
   |none=>exact hx
   |some p=>
    obtain⟨b,vars⟩:=p;simp only[hx,if_true];exact hx
  cases o with
  |none=>exact Sim.self
  |some p=>
   obtain⟨b,vars⟩:=p;simp only;rw[if_neg (by rw[k3];decide)];split
   ·exact Sim.self
   ·intro h;rw[aS7 hS k1.1 h]
    rfl
 ·rw[if_neg e6,if_neg e6];exact Sim.self
end
open Go Go.AI
set_option linter.unusedSectionVars false
section
variable {env:List Dc} (hg:Env.good env) (hf:aP env)
include hg hf
theorem aOf (hA:EnvA env)(S:Int)(hS:1000<=S):∀(n:Nat)(t:Tm)(c:Kt),InQ t c->K2 c->Sim S (bJ env n t c) (bM env n t (S-c.st)):=by
 intro n
 induction n with
 |zero=>intro t c _ _;trivial
 |succ n ih=>
 intro t c ht h0;have hq:=fZ hg hf hA n
 by_cases ho:c.ov=true
 ·refine OvQ.sim ?_ _;simp only[bJ,uZ];rw[if_pos ho];exact ho
 simp only[bJ,uZ,bM,aFc];obtain⟨hgi,hl3,hl4⟩:=ht;rw[if_neg ho];have ho:c.ov=false:=by simpa using ho
 have hl5:=hl4 ho;have hnd:=h0.2 ho;have hla:jC t=(aG t).2.length:=rfl;rw[if_neg (show¬40960<(aG t).2.length by omega)];have hdrop:∀k,∀a∈(aG t).2.drop k,a.at_:=fun k a ha=>hgi.args a (bAp ha)
 have hin:∀(r:Tm) (e:Int) (k:Nat),r.at_->InQ (aN r ((aG t).2.drop k)) (c.result r e)/\K2 (c.result r e):=by
  intro r e k hr;have hr2:=hr.2;have hal:=eP r;obtain⟨k1,k2⟩:=h0.result r e aB;refine⟨⟨(Gin.of_at hr).app (hdrop k) (by have:=fR hr;simp only[bA0];omega),by rw[cZ];simp only[bA0];omega,fun hx=>?_⟩,k1⟩;rw[cZ,(k2 hx).2];exact y7i
 have hstep:∀(b:Tm) (vs:List Tm) (k:Nat),(aI b vs 0).1.at_->Sim S (bJ env n (aN (aI b vs 0).1 ((aG t).2.drop k)) (c.result (aI b vs 0).1 (aI b vs 0).2)) ((sC b vs (S-c.st)).bind fun b s=>bM env n (aN b ((aG t).2.drop k)) s):=by
  intro b vs k hr;obtain⟨i1,i2⟩:=hin _ (aI b vs 0).2 k hr
  cases hx:(c.result (aI b vs 0).1 (aI b vs 0).2).ov with
  |true=>exact((hq _ _ i1 i2).ov hx).sim _
  |false=>
   rw[aS7 hS h0.1 hx];exact ih _ _ i1 i2
 by_cases k5:(aG t).1.kind=5
 ·rw[if_pos k5,if_pos k5];split
  ·exact Sim.self
  ·exact y8h
 rw[if_neg k5,if_neg k5]
 by_cases k11:(aG t).1.kind=11
 ·rw[if_pos k11,if_pos k11];exact y81
 rw[if_neg k11,if_neg k11]
 by_cases k9:(aG t).1.kind=9\/(aG t).1.kind=10
 ·rw[if_pos k9,if_pos k9];have hin0:=InQ.of_at (dY hgi.head 0) h0
  have hin2:∀p c1,K2 c1->aOw p->(c1.ov=false->c.ov=false/\c.nd<=c1.nd)->p.kind=8->InQ (aN (p.kid ((aG t).1.kind-8).toNat) (aG t).2) (c1.result (p.kid ((aG t).1.kind-8).toNat) 0)/\K2 (c1.result (p.kid ((aG t).1.kind-8).toNat) 0):=fun p c1 h1 hp h2 k8'=>by
   have hpa:p.at_:=by
    have:=hp.1.head;exact y6l
   have hka:=dY hpa ((aG t).1.kind-8).toNat;have hka2:=hka.2;have hal:=eP (p.kid ((aG t).1.kind-8).toNat);obtain⟨k1,k2⟩:=h1.result (p.kid ((aG t).1.kind-8).toNat) 0 aB;refine⟨⟨(Gin.of_at hka).app hgi.args (by have:=fR hka;omega),by rw[cZ];omega,fun hx=>?_⟩,k1⟩;rw[cZ,(k2 hx).2];have:=(h2 (k2 hx).1).2;omega
  refine Sim.bind (P:=fun m c'=>aOw m/\(c'.ov=false->c.ov=false/\c.nd<=c'.nd)) (by
   have:=hq _ c hin0 h0
   cases hx:bJ env n ((aG t).1.kid 0) c with
   |none=>trivial
   |some q=>rw[hx] at this;exact⟨this.1,this.2.1,this.2.2,this.2.1⟩) (ih _ c hin0 h0) (fun p c1 h1 hp hov=>?_) (fun p c1 h1 h3 h2 hp=>?_)
  ·by_cases k8:p.kind≠8
   ·rw[if_pos k8];exact hov
   ·rw[if_neg k8];obtain⟨i1,i2⟩:=hin2 p c1 h1 hp.1 hp.2 (by simpa using k8);exact(hq _ _ i1 i2).ov (aCj hov _ _)
  ·by_cases k8:p.kind≠8
   ·rw[if_pos k8,if_pos k8];exact Sim.self
   ·rw[if_neg k8,if_neg k8];obtain⟨i1,i2⟩:=hin2 p c1 h1 hp.1 hp.2 (by simpa using k8)
    cases hx:(c1.result (p.kid ((aG t).1.kind-8).toNat) 0).ov with
    |true=>exact((hq _ _ i1 i2).ov hx).sim _
    |false=>
     rw[aFg hS h1.1 hx];exact ih _ _ i1 i2
 rw[if_neg k9,if_neg k9]
 by_cases k3:(aG t).1.kind=3
 ·rw[if_pos k3,if_pos k3];have hl6:((aG t).2.length:Int)<=4096+c.nd:=aB;refine Sim.bind (mZ hg hf hA _ hq _ _ _ hgi.args c h0 ho hl6) (aIg hg hf hA S hS _ _ hq ih _ _ _ hgi.args c h0 ho hl6) (fun o c1 h1 ho2 hov=>?_) (fun o c1 h1 h3 h2 ho2=>?_)
  ·cases o with
   |none=>exact hov
   |some x=>exact(hq _ _ (ho2 x rfl) h1).ov hov
  ·cases o with
   |none=>exact Sim.self
   |some x=>exact ih _ _ (ho2 x rfl) h1
 ·rw[if_neg k3,if_neg k3];exact Sim.self
end
section
variable {env:List Dc} {rec rec2:Tm->Kt->QO Tm} (h:∀t c r,rec t c=some r->rec2 t c=some r)
include h
theorem QO.more {α β:Type} {x x2:QO α} {f f2:α->Kt->QO β} {r:β×Kt} (hx:∀r,x=some r->x2=some r)(hf:∀a c r,f a c=some r->f2 a c=some r)(e:QO.bind x f=some r):QO.bind x2 f2=some r:=by
 cases x with
 |none=>cases e
 |some q=>rw[hx _ rfl];exact hf _ _ _ e
mutual
theorem wM:∀(tr:Tr)(vars:List Tm)(c:Kt)(r:Option (Tm×List Tm)×Kt),jE env rec tr vars c=some r->jE env rec2 tr vars c=some r
 | .mk k b v bs,vars,c,r,e=>by
  simp only[jE] at e⊢
  by_cases h1:k=1
  rotate_left
  ·rw[if_neg h1] at e⊢;exact e
  rw[if_pos h1] at e⊢
  by_cases h2:v<0\/(vars.length:Int)<=v\/c.ov=true
  ·rw[if_pos h2] at e⊢;exact e
  rw[if_neg h2] at e⊢;refine QO.more h (h _ _) (fun m c r e=>?_) e
  cases hz:hU env m with
  |none=>rw[hz] at e;exact e
  |some co=>rw[hz] at e;exact aGf bs _ _ _ _ e
theorem aGf:∀(bs:List Br)(n:List UInt8)(vars:List Tm)(c:Kt)(r:Option (Tm×List Tm)×Kt),brQ env rec n bs vars c=some r->brQ env rec2 n bs vars c=some r
 |[],n,vars,c,r,e=>by simp only[brQ] at e⊢;exact e
 | .mk cn a t::bs,n,vars,c,r,e=>by
  simp only[brQ] at e⊢
  by_cases h1:cn=n
  rotate_left
  ·rw[if_neg h1] at e⊢;exact aGf bs _ _ _ _ e
  rw[if_pos h1] at e⊢
  by_cases h2:a=true
  ·rw[if_pos h2] at e⊢;exact e
  ·rw[if_neg h2] at e⊢;exact wM t _ _ _ e
end
theorem aE2 (n:List UInt8)(ls:List Lv)(args:List Tm)(c:Kt)(r:Option Tm×Kt)(e:cT env rec n ls args c=some r):cT env rec2 n ls args c=some r:=by
 unfold cT at e⊢
 by_cases hu:usB env n ls=false
 ·rw[if_pos hu] at e⊢;exact e
 rw[if_neg hu] at e⊢
 by_cases e1:(aK env n).1.k=1
 ·rw[if_pos e1] at e⊢;exact e
 rw[if_neg e1] at e⊢
 by_cases e5:(aK env n).1.k=5
 ·rw[if_pos e5] at e⊢
  by_cases hsc:(args.length:Int)<=kF ((env[(aK env n).1.at_.toNat]?).getD zDc)
  ·rw[if_pos hsc] at e⊢;exact e
  rw[if_neg hsc] at e⊢;exact QO.more h (h _ _) (fun m c r e=>e) e
 rw[if_neg e5] at e⊢
 by_cases e6:(aK env n).1.k=6
 rotate_left
 ·rw[if_neg e6] at e⊢;exact e
 rw[if_pos e6] at e⊢;unfold aPr at e⊢;split at e
 ·rename_i hl;rw[if_pos hl];exact e
 rename_i hl;rw[if_neg hl];exact QO.more h (wM h _ _ _) (fun m c r e=>e) e
theorem aJq (t:Tm)(c:Kt)(r:Tm×Kt)(e:uZ env rec t c=some r):uZ env rec2 t c=some r:=by
 unfold uZ at e⊢
 by_cases ho:c.ov=true
 ·rw[if_pos ho] at e⊢;exact e
 rw[if_neg ho] at e⊢
 by_cases k5:(aG t).1.kind=5
 ·rw[if_pos k5] at e⊢
  by_cases ha:(aG t).2=[]
  ·rw[if_pos ha] at e⊢;exact e
  ·rw[if_neg ha] at e⊢;exact h _ _ _ e
 rw[if_neg k5] at e⊢
 by_cases k11:(aG t).1.kind=11
 ·rw[if_pos k11] at e⊢;exact h _ _ _ e
 rw[if_neg k11] at e⊢
 by_cases k9:(aG t).1.kind=9\/(aG t).1.kind=10
 ·rw[if_pos k9] at e⊢;refine QO.more h (h _ _) (fun p c r e=>?_) e
  by_cases k8:p.kind≠8
  ·rw[if_pos k8] at e⊢;exact e
  ·rw[if_neg k8] at e⊢;exact h _ _ _ e
 rw[if_neg k9] at e⊢
 by_cases k3:(aG t).1.kind=3
 ·rw[if_pos k3] at e⊢;refine QO.more h (aE2 h _ _ _ _) (fun o c r e=>?_) e
  cases o with
  |none=>exact e
  |some x=>exact h _ _ _ e
 ·rw[if_neg k3] at e⊢;exact e
end
theorem aK3 (env:List Dc):∀(n:Nat)(t:Tm)(c:Kt)(r:Tm×Kt),bJ env n t c=some r->bJ env (n+1) t c=some r:=by
 intro n
 induction n with
 |zero=>intro t c r e;cases e
 |succ n ih=>intro t c r e;exact aJq ih t c r e
theorem aK2 (env:List Dc) {n:Nat} {t:Tm} {c:Kt} {r:Tm×Kt} (e:bJ env n t c=some r)(m:Nat):bJ env (n+m) t c=some r:=by
 induction m with
 |zero=>exact e
 |succ m ih=>exact aK3 env (n+m) t c r ih
section
variable {env:List Dc} (hg:Env.good env) (hf:aP env)
include hg hf
theorem aDh {t:Tm} {c:Kt} (ht:InQ t c)(hc:K2 c)(ho:(wQ env t c).2.ov=false):c.ov=false/\gM env t=((wQ env t c).1,0):=by
 have hA:=kS hg hf;obtain⟨n,e⟩:=aUk env t c hc.1;have hq:=fZ hg hf hA n t c ht hc;rw[e] at hq;have hco:=(hq.2.1 ho).1;refine⟨hco,?_⟩;have hst:=hc.1.2 hco;unfold gM;have hcs:=Classical.choose_spec (lJ env 20000 20000 rfl aD t);obtain⟨r,h1,h2⟩:=hcs;generalize Classical.choose (lJ env 20000 20000 rfl aD t)=N at h2⊢;have h2:∀n,N<=n->bM env n t 20000=r:=h2;have hs:=aOf hg hf hA (20000+c.st) aB (n+N) t c ht hc;rw[aK2 env e N,show(20000:Int)+c.st-c.st=20000 by omega] at hs;have hs2:bM env (n+N) t 20000= .ok (wQ env t c).1 (20000+c.st-(wQ env t c).2.st):=hs ho;rw[h2 N (aYw _),<-h2 (n+N) aB,hs2]
theorem aP8 (m:Tm):(hU env m=none/\∀n,nF env n (aG m).1 (aG m).2=some .stuck)\/
  ∃co,hU env m=some co/\((co.d.cs[co.i]?).map Ct.nm).getD []=(aG m).1.name/\(∀n,nF env n (aG m).1 (aG m).2=if(aG m).1.name≠n then some .failed else none)/\co.as_=(aG m).2.drop (aM env (aG m).1.name).1.fx.toNat/\(co.as_.length:Int)=(aM env (aG m).1.name).2.1:=by
 unfold hU nF;generalize aG m=q;obtain⟨hd,us⟩:=q;simp only
 by_cases k3:hd.kind=3
 rotate_left
 ·exact .inl ⟨if_pos k3,fun n=>if_pos k3⟩
 simp only[if_neg (show¬hd.kind≠3 by simpa using k3)]
 by_cases hz:(gS env hd.name).2.2=true/\0<=(gS env hd.name).2.1
 rotate_left
 ·refine .inl ⟨by rw[if_neg hz],fun n=>by rw[if_pos (.inl ?_)]⟩;unfold aM;rw[if_neg hz]
 have hfz:aM env hd.name=((gS env hd.name).1,oH (gS env hd.name).1 (gS env hd.name).2.1.toNat,true):=by unfold aM;rw[if_pos hz]
 obtain⟨i,j,c,h1,h2,h3,h4,h5⟩:=aLi (env:=env) (y:=hd.name) (by rw[hfz]);rw[hfz] at h1 h2 h3;simp only at h1 h2 h3;have hfd:=wC hf h1 h2 h3;rw[h4] at hfd;generalize (gS env hd.name).1=d at h1 h2 h3 hfd;rw[if_pos hz,hfd,hfz,hfd];simp only[aZj,h3];have hm:=aZ9 h1;have hok:=yH hf.2 h1;have hfx0:=hok.fx0;have hfix:=hok.fix h2;have hla:=lY c.ty;have hcm:=aZ9 h3
 have hfl:d.fx<=dI c.ty:=by
  unfold aIn at hfix;simp only[aZ7,aZf,aZh] at hfix;exact hfix.2 _ hcm
 rw[<-hla] at hfl;have hcg:=(hg.2 d hm).cs c hcm;have hbl:=(qM c.ty hcg.2.2 hcg.1).2.2.2;have hcz:=hcg.1
 have hF:oH d j=((bY c.ty).1.length:Int)-d.fx:=by
  unfold oH aOp;rw[h3];simp only;rw[aQ aB aB];split<;>omega
 simp only[hF]
 by_cases hl:us.length=(bY c.ty).1.length
 ·rw[if_pos hl];refine .inr ⟨_,rfl,by simp[h3,h4],fun n=>by rw[if_neg (by simp;omega)],rfl,?_⟩;exact y7i
 ·rw[if_neg hl];exact .inl ⟨rfl,fun n=>by rw[if_pos (.inr aB)]⟩
def MSim (s:MS)(r:MS×Kt)(o:Oc):Prop:=r.2.ov=false->match o with
 | .mat l=>r.1=⟨s.vals++l,false,false⟩
 | .stuck=>r.1.sk=true
 | .failed=>r.1.sk=false/\r.1.fl=true
 | .given _=>False
end
end Go.Proofs.YtcfcolkbeelegaaGreat
namespace Go.Proofs.YtcfcolkbeelegaaGreat
open Go Go.AI
set_option linter.unusedSectionVars false
theorem aIc {env:List Dc} {p:Pt} {ps:List Pt} (h:cD env (p::ps)=0):jS env p=0/\cD env ps=0:=by
 rw[cD] at h
 by_cases e:jS env p=0
 ·rw[if_pos (by simpa using e)] at h;exact⟨e,h⟩
 ·rw[if_neg (by simpa using e)] at h;exact absurd h e
section
variable {env:List Dc} (hg:Env.good env) (hf:aP env)
include hg hf
theorem aY2 {t:Tm} {c:Kt} (ht:InQ t c)(hc:K2 c)(ho:c.ov=true):(wQ env t c).2.ov=true:=by
 cases h:(wQ env t c).2.ov with
 |true=>rfl
 |false=>
  have:=(aDh hg hf ht hc h).1;rw[ho] at this;cases this
mutual
theorem aW7:∀(p:Pt)(t:Tm)(s:MS)(c:Kt),t.at_->K2 c->c.ov=true->(rmP env p t s c).2.ov=true
 | .mk k n qs,t,s,c,ht,hc,ho=>by
  simp only[rmP];split
  ·exact ho
  split
  ·exact ho
  split
  rotate_left
  ·exact ho
  obtain⟨h1,h2⟩:=aA3 hg hf (InQ.of_at ht hc) hc;have h3:=aY2 hg hf (InQ.of_at ht hc) hc ho;rw[if_pos h3];exact h3
theorem aEv:∀(l:List Pt)(ts:List Tm)(s:MS)(c:Kt),(∀t∈ts,t.at_)->K2 c->c.ov=true->(kO env l ts s c).2.ov=true
 |[],ts,s,c,_,hc,ho=>by simp only[kO];exact ho
 |_::_,[],s,c,_,hc,ho=>by simp only[kO];exact ho
 |p::ps,t::ts,s,c,ht,hc,ho=>by
  simp only[kO];split
  ·exact ho
  ·exact aEv ps ts _ _ (fun x hx=>ht x (by simp[hx])) (aHp hg hf p t s c (ht t aA) hc).1 (aW7 p t s c (ht t aA) hc ho)
end
mutual
theorem aUa:∀(p:Pt)(t:Tm)(s:MS)(c:Kt),jS env p=0->t.at_->K2 c->s.fl=false->s.sk=false->MSim s (rmP env p t s c) (qX (gM env) env p t)
 | .mk k n qs,t,s,c,hk,ht,hc,f1,f2=>by
  intro ho
  by_cases k1:k=1
  rotate_left
  ·have hk2:k=0\/k=2\/k=3:=by
    by_cases k0:k=0
    ·exact .inl k0
    by_cases k2:k=2
    ·exact .inr (.inl k2)
    by_cases k3:k=3
    ·exact .inr (.inr k3)
    rw[rX k0 k1 k2 k3] at hk;exact absurd hk aD
   obtain⟨v,a,b⟩:=s;simp only at f1 f2;subst f1;subst f2;rcases hk2 with rfl|rfl|rfl
   ·rw[show qX (gM env) env (.mk 0 n qs) t= .mat [t] by rw[qX,if_pos rfl],show rmP env (.mk 0 n qs) t ⟨v,false,false⟩ c=(⟨v++[t],false,false⟩,c) by rw[rmP,if_pos rfl]]
   ·rw[show qX (gM env) env (.mk 2 n qs) t= .mat [] by rw[qX,if_neg aD,if_pos rfl],show rmP env (.mk 2 n qs) t ⟨v,false,false⟩ c=(⟨v,false,false⟩,c) by rw[rmP,if_neg aD,if_neg aD,if_neg aD]];simp
   ·rw[show qX (gM env) env (.mk 3 n qs) t= .failed by rw[qX,if_neg aD,if_neg aD,if_pos rfl],show rmP env (.mk 3 n qs) t ⟨v,false,false⟩ c=(⟨v,true,false⟩,c) by rw[rmP,if_neg aD,if_pos rfl]];exact⟨rfl,rfl⟩
  subst k1;obtain⟨h1,h2,h3⟩:=eR hk;have hin:=InQ.of_at ht hc;obtain⟨g1,g2⟩:=aA3 hg hf hin hc
  cases hov:(wQ env t c).2.ov with
  |true=>
   rw[show rmP env (.mk 1 n qs) t s c=(⟨s.vals,s.fl,true⟩,(wQ env t c).2) by rw[rmP,if_neg aD,if_neg aD,if_pos rfl,if_pos hov]] at ho;simp only at ho;rw[hov] at ho;cases ho
  |false=>
  obtain⟨_,hw⟩:=aDh hg hf hin hc hov
  have hrm:rmP env (.mk 1 n qs) t s c=(match hU env (wQ env t c).1 with
    |none=>(⟨s.vals,s.fl,true⟩,(wQ env t c).2)
    |some co=>if((co.d.cs[co.i]?).map Ct.nm).getD []≠n\/co.as_.length≠qs.length then(⟨s.vals,true,s.sk⟩,(wQ env t c).2) else kO env qs co.as_ s (wQ env t c).2):=by
   rw[rmP,if_neg aD,if_neg aD,if_pos rfl,if_neg (by rw[hov];decide)]
   rfl
  have hon:qX (gM env) env (.mk 1 n qs) t=(match nF env n (aG (wQ env t c).1).1 (aG (wQ env t c).1).2 with
    |some o=>o
    |none=>iU (gM env) env qs ((aG (wQ env t c).1).2.drop (aM env n).1.fx.toNat)):=by
   rw[qX,if_neg aD,if_neg aD,if_neg aD,hw,if_neg aA]
   rfl
  rw[hrm] at ho⊢;rw[hon];clear hrm hon;rcases aP8 hg hf (wQ env t c).1 with ⟨e1,e2⟩|⟨co,e1,e2,e3,e4,e5⟩
  ·rw[e1,e2 n]
  rw[e1] at ho⊢;simp only at ho⊢;rw[e2] at ho⊢;rw[e3 n]
  by_cases hn:(aG (wQ env t c).1).1.name=n
  rotate_left
  ·have hor:(aG (wQ env t c).1).1.name≠n\/co.as_.length≠qs.length:=Or.inl hn;simp only[if_pos hor];rw[if_pos hn];exact⟨f2,trivial⟩
  rw[hn] at e4 e5;have hlen:co.as_.length=qs.length:=aB;have hor:¬((aG (wQ env t c).1).1.name≠n\/co.as_.length≠qs.length):=by simp[hn,hlen]
  simp only[if_neg hor] at ho⊢;rw[if_neg (show¬(aG (wQ env t c).1).1.name≠n by simpa using hn),<-e4];exact zO qs co.as_ s _ h3 (eE hg hf (kS hg hf) g2.1 e1).1 g1 f1 f2 ho
theorem zO:∀(l:List Pt)(ts:List Tm)(s:MS)(c:Kt),cD env l=0->(∀t∈ts,t.at_)->K2 c->s.fl=false->s.sk=false->MSim s (kO env l ts s c) (iU (gM env) env l ts)
 |[],ts,s,c,_,_,_,f1,f2=>by
  intro _;rw[kO,iU];obtain⟨v,a,b⟩:=s;simp only at f1 f2;simp[f1,f2]
 |_::_,[],s,c,_,_,_,f1,f2=>by
  intro _;rw[kO,iU];obtain⟨v,a,b⟩:=s;simp only at f1 f2;simp[f1,f2]
 |p::ps,t::ts,s,c,hk,ht,hc,f1,f2=>by
  intro ho;rw[kO,if_neg (by simp[f1,f2])] at ho⊢;rw[iU];obtain⟨q1,q2⟩:=aIc hk;have i1:=aUa p t s c q1 (ht t aA) hc f1 f2;have i2:=(aHp hg hf p t s c (ht t aA) hc).1;have i3:∀s',(rmP env p t s c).2.ov=true->(kO env ps ts s' (rmP env p t s c).2).2.ov=true:=fun s' h=>aEv hg hf ps ts s' _ (fun x hx=>ht x (by simp[hx])) i2 h
  have i4:=fun s' h1 h2=>zO ps ts s' (rmP env p t s c).2 q2 (fun x hx=>ht x (by simp[hx])) i2 h1 h2
  generalize rmP env p t s c=r at ho i1 i2 i3 i4⊢;obtain⟨s1,c1⟩:=r;simp only at ho i1 i2 i3 i4⊢
  cases hov:c1.ov with
  |true=>rw[i3 s1 hov] at ho;cases ho
  |false=>
  have i1:=i1 hov;generalize qX (gM env) env p t=o at i1⊢
  cases o with
  |mat l=>
   simp only at i1⊢;subst i1;have i5:=i4 ⟨s.vals++l,false,false⟩ rfl rfl ho;generalize iU (gM env) env ps ts=o at i5⊢
   cases o with
   |mat m=>simp only[Oc.join] at i5⊢;rw[i5];simp
   |stuck=>exact i5
   |given e=>exact i5
   |failed=>exact i5
  |stuck=>
   rw[uS env ps ts s1 c1 (.inr i1)];exact i1
  |failed=>
   rw[uS env ps ts s1 c1 (.inl i1.2)];exact i1
  |given e=>exact i1.elim
end
theorem wY (ts:List Tm)(hts:∀t∈ts,t.at_):∀(cls:List Cl)(i:Nat)(c:Kt),K2 c->c.ov=true->(jB env ts i cls c).2.ov=true
 |[],i,c,_,ho=>ho
 |cl::cs,i,c,hc,ho=>by
  rw[jB];have h1:=(uR hg hf cl.ps ts ⟨[],false,false⟩ c hts hc).1;have h2:=aEv hg hf cl.ps ts ⟨[],false,false⟩ c hts hc ho;split
  ·exact h2
  split
  ·exact h2
  ·exact wY ts hts cs (i+1) _ h1 h2
theorem uT (ts:List Tm)(hts:∀t∈ts,t.at_):∀(cls:List Cl)(i:Nat)(c:Kt),(∀cl∈cls,cD env cl.ps=0)->K2 c->(jB env ts i cls c).2.ov=false->(jB env ts i cls c).1=gQ (gM env) env ts i cls
 |[],i,c,_,_,_=>rfl
 |cl::cs,i,c,hk,hc,ho=>by
  rw[jB] at ho⊢;rw[gQ];have h1:=(uR hg hf cl.ps ts ⟨[],false,false⟩ c hts hc).1;have h2:=zO hg hf cl.ps ts ⟨[],false,false⟩ c (hk cl aA) hts hc rfl rfl;have h3:=wY hg hf ts hts cs (i+1) (kO env cl.ps ts ⟨[],false,false⟩ c).2 h1;have h4:=uT ts hts cs (i+1) (kO env cl.ps ts ⟨[],false,false⟩ c).2 (fun x hx=>hk x (by simp[hx])) h1;generalize kO env cl.ps ts ⟨[],false,false⟩ c=r at ho h1 h2 h3 h4⊢;obtain⟨⟨v,a,b⟩,c1⟩:=r;simp only at ho h1 h3 h4⊢
  cases hov:c1.ov with
  |true=>
   exfalso
   cases b with
   |true=>rw[if_pos rfl] at ho;simp only at ho;rw[hov] at ho;cases ho
   |false=>
    rw[if_neg aD] at ho
    cases a with
    |false=>rw[if_pos rfl] at ho;simp only at ho;rw[hov] at ho;cases ho
    |true=>rw[if_neg aD,h3 hov] at ho;cases ho
  |false=>
  have h2:=h2 hov;generalize iU (gM env) env cl.ps ts=o at h2⊢
  cases o with
  |mat l=>
   simp only[aZ3,MS.mk.injEq] at h2;obtain⟨rfl,rfl,rfl⟩:=h2;simp
  |stuck=>
   simp only at h2;subst h2;simp
  |failed=>
   simp only at h2;obtain⟨rfl,rfl⟩:=h2;simp only[aZd,if_false,Bool.true_eq_false] at ho⊢;exact h4 ho
  |given e=>exact h2.elim
theorem aEw (cls:List Cl)(ts:List Tm)(hts:∀t∈ts,t.at_)(c:Kt)(hc:K2 c)(ho:(kC env cls ts c).2.ov=false):(kC env cls ts c).1=iV (gM env) env cls ts:=by
 unfold kC at ho⊢;unfold iV
 cases ha:bB (yD env ts.length cls) cls.length with
 |false=>simp
 |true=>
  rw[ha] at ho;rw[if_neg aD] at ho⊢;rw[if_neg aD];refine uT hg hf ts hts cls 0 c (fun cl hcl=>?_) hc ho;obtain⟨j,hj⟩:=bAl hcl;have hok:=jP ha (aYv.1 hj).1;rw[jT hj] at hok;simp[mF] at hok;exact hok.2
end
open Go Go.AI
set_option maxRecDepth 8000 in
set_option maxHeartbeats 16000000 in
theorem oP (h:Heap)(hh:WF h)(env:List Dc)(hg:Env.good env)(cls:List Cl)(hs:PSmall cls [])(ts:List Tm)(hsz:Tm.sizes ts<=1048576)(hlv:Tm.lvss ts)(hft:Tm.fits ts)(hgt:∀t∈ts,t.good):
  AC 4 [bW env, .p (.sl 6 (aAy cls)), .p (.sl 5 (aL ts))] h (bA true):=by
 have c1:∀(g:Heap) (hw:WF g),ACalls Tryz.prog 19 [bW env, .p (.sl 6 (aAy cls)), .p (.prim (.slice none 0 0))] g fun o h'=>aK9 (fun b=>b=true->aP env) o/\h'=g:=fun g hw=>
  ACalls.weak (args':=[bW env, .p (.sl 6 (aAy cls)), .p (.sl 3 (cC []))]) (WeakL.cons (Weak.refl _) (WeakL.cons (Weak.refl _) (WeakL.cons (Weak.nil _) WeakL.nil))) (aLh env hg cls [] hs g hw)
 have c2:=fun g hw=>aDv g hw
 have c3:=fun g hw=>aCt g hw env ts hg hsz hlv hft hgt
 have hcl:=hs.cl;have htl:=aR ts;refine cW Tryz.func4 Tryz.ntmps4 ?_;refine zB (c1 _ hh) fun b hb=>?_
 cases b with
 |false=>
  refine aOj ?_;exact y53
 |true=>
 have hf:=hb rfl;clear hb
 by_cases h4:ts.length<=4
 rotate_left
 ·have h4b:decide ((4:Int)<(ts.length:Int))=true:=by simp;omega
  refine zo1 h4b ?_;refine y2g ?_;exact y53
 have h4b:decide ((4:Int)<(ts.length:Int))=false:=by simp;omega
 refine zo1 h4b ?_;refine zB (c3 _ hh) fun b hb=>?_
 cases b with
 |false=>
  refine aOj ?_;exact y53
 |true=>
 have hat:=aVu hlv (hb rfl).2.2;clear hb;refine zo ?_;refine zf ?_;have cL:=fun g hw=>aMd g hw
 have cM:=fun(h:Heap) (hh:WF h) q hq=>(aJh hg hf cls ts hs hat aB ⟨0,0,0,1000,false⟩ aH4 q h hh hq).mono fun o h' e=>(⟨e.1,e.2.1⟩:_/\_)
 have c5:=pX env hf hg (gM env) Gin (whW hg hf) cls ts hs (fun t ht=>Gin.of_at (hat t ht)) aB;have hfi:=aPn hg hf (W:=gM env) (fun t ht h a ha=>(vK hg hf (Gin.of_at ht) h).args a ha) cls ts hat;have hsim:=aEw hg hf cls ts hat ⟨0,0,0,1000,false⟩ aH4;generalize kC env cls ts ⟨0,0,0,1000,false⟩=rr at cM hsim;obtain⟨⟨r1,r2,r3⟩,c⟩:=rr;generalize iV (gM env) env cls ts=M at c5 hfi hsim;obtain⟨m1,m2,m3⟩:=M;simp only[mtA] at cM c5;simp only at hfi hsim
 have hv:(∀v∈m2,v.at_)/\m2.length<=1048576:=by
  rcases hfi with ⟨j,cc,l,e1,⟨rfl,rfl,rfl⟩,e3,e4,e5,e6,e7⟩|⟨e1,e2⟩
  ·have:=hs.cs cc (aZ9 e1);exact⟨e5,by omega⟩
  ·change m2=[] at e1;subst e1;exact⟨fun v hv=>(by cases hv),by simp⟩
 clear hfi;have cS:=fun g hw=>mS m2 m2 (fun v hm=>⟨by have:=(hv.1 v hm).2;omega,aOb v (hv.1 v hm).1⟩) hv.2 hv.2 g hw
 rw[show aF6 m2 m2=true by simp[aF6,nM]] at cS;refine znr ?_;refine zL (c5 _ hh) ?_;refine zor ?_;refine zL (cL _ hh) ?_;refine zor ?_;obtain⟨st,nd,fo,lm,ov⟩:=c;refine zL (cM _ (hh.app aA) h.length aA) ?_;refine zo ?_
 cases ov with
 |true=>
  refine aRe ?_;exact y6v
 |false=>
 have hsim:=hsim rfl;simp only[aZe] at hsim;obtain⟨rfl,rfl,rfl⟩:=hsim;refine mI ?_;refine zL (cS _ (hh.app aA)) ?_;refine zo ?_;exact y6v
end Go.Proofs.YtcfcolkbeelegaaGreat
