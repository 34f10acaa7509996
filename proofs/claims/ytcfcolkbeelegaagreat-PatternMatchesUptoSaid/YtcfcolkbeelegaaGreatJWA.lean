import Derived.Test.YtcfcolkbeelegaaGreatJA0
import Derived.Test.YtcfcolkbeelegaaGreatJRY
namespace Go.Proofs.YtcfcolkbeelegaaGreat
open Go Go.AI
set_option linter.unusedSectionVars false
abbrev QO (α:Type):=Option (α×Kt)
def QO.bind {α β:Type} (x:QO α)(f:α->Kt->QO β):QO β:=match x with
 |some (a,c)=>f a c
 |none=>none
mutual
def jE (env:List Dc)(rec:Tm->Kt->QO Tm):Tr->List Tm->Kt->QO (Option (Tm×List Tm))
 | .mk k b v bs,vars,c=>if k=1 then(if v<0\/(vars.length:Int)<=v\/c.ov=true then some (none,c) else QO.bind (rec ((vars[v.toNat]?).getD zT) c) fun m c=>match hU env m with
   |none=>some (none,c)
   |some co=>brQ env rec (((co.d.cs[co.i]?).map Ct.nm).getD []) bs (vars++co.as_) c) else some (some (b,vars),c)
def brQ (env:List Dc)(rec:Tm->Kt->QO Tm)(n:List UInt8):List Br->List Tm->Kt->QO (Option (Tm×List Tm))
 |[],_,c=>some (none,c)
 | .mk cn a t::bs,vars,c=>if cn=n then(if a=true then some (none,c) else jE env rec t vars c) else brQ env rec n bs vars c
end
theorem aRr (env:List Dc)(rec:Tm->Kt->QO Tm)(n:List UInt8):∀(bs:List Br)(vars:List Tm)(c:Kt),brQ env rec n bs vars c=match brZ n bs with|none=>some (none,c)|some t=>jE env rec t vars c
 |[],vars,s=>by simp only[brQ,brZ]
 | .mk c a t::bs,vars,s=>by
  simp only[brQ,brZ]
  by_cases hc:c=n
  ·rw[if_pos hc,if_pos hc]
   cases a<;>simp
  ·rw[if_neg hc,if_neg hc];exact aRr env rec n bs vars s
def rO (env:List Dc)(d:Dc)(ls:List Lv)(args:List Tm)(m:Tm)(c:Kt):Option Tm×Kt:=match hU env m with
 |none=>(none,c)
 |some co=>if co.d.nm≠d.nm\/d.rr.length<=co.i then(none,c)
  else if(bF (lvF ls false) ((d.rr[co.i]?).getD zT)).2≠0 then(none,c)
  else
   let x:=aN (aN (bF (lvF ls false) ((d.rr[co.i]?).getD zT)).1 (args.take (d.fx+1+d.cs.length).toNat)) co.as_
   (some (aN x (args.drop (kF d+1).toNat)),c.result x 0)
def aPr (env:List Dc)(rec:Tm->Kt->QO Tm)(f:Fu)(ls:List Lv)(args:List Tm)(c:Kt):QO (Option Tm):=
 if(args.length:Int)<f.ar then some (none,c)
 else QO.bind (jE env rec f.tr (args.take f.ar.toNat) c) fun o c=>match o with
  |none=>some (none,c)
  |some (b,vars)=>if c.ov=true then some (none,c) else if(bF (lvF ls false) b).2≠0 then some (none,c) else
   some (some (aN (aI (bF (lvF ls false) b).1 vars.reverse 0).1 (args.drop f.ar.toNat)),c.result (aI (bF (lvF ls false) b).1 vars.reverse 0).1 (aI (bF (lvF ls false) b).1 vars.reverse 0).2)
def cT (env:List Dc)(rec:Tm->Kt->QO Tm)(n:List UInt8)(ls:List Lv)(args:List Tm)(c:Kt):QO (Option Tm):=
 if usB env n ls=false then some (none,c)
 else if(aK env n).1.k=1 then(if(bF (lvF ls false) ((env[(aK env n).1.at_.toNat]?).getD zDc).va).2≠0 then some (none,c) else some (some (aN (bF (lvF ls false) ((env[(aK env n).1.at_.toNat]?).getD zDc).va).1 args),c.result (bF (lvF ls false) ((env[(aK env n).1.at_.toNat]?).getD zDc).va).1 0))
 else if(aK env n).1.k=5 then(if(args.length:Int)<=kF ((env[(aK env n).1.at_.toNat]?).getD zDc) then some (none,c) else QO.bind (rec ((args[(kF ((env[(aK env n).1.at_.toNat]?).getD zDc)).toNat]?).getD zT) c) fun m c=>some (rO env ((env[(aK env n).1.at_.toNat]?).getD zDc) ls args m c))
 else if(aK env n).1.k=6 then aPr env rec ((((env[(aK env n).1.at_.toNat]?).getD zDc).fs[(aK env n).1.it.toNat]?).getD ⟨[],zT,0, .mk 0 zT 0 []⟩) ls args c
 else some (none,c)
def uZ (env:List Dc)(rec:Tm->Kt->QO Tm)(t:Tm)(c:Kt):QO Tm:=
 if c.ov=true then some (t,c)
 else if(aG t).1.kind=5 then(if(aG t).2=[] then some (t,c) else
  rec (aN (aI ((aG t).1.kid 1) ((aG t).2.take 1) 0).1 ((aG t).2.drop 1)) (c.result (aI ((aG t).1.kid 1) ((aG t).2.take 1) 0).1 (aI ((aG t).1.kid 1) ((aG t).2.take 1) 0).2))
 else if(aG t).1.kind=11 then
  rec (aN (aI ((aG t).1.kid 2) [(aG t).1.kid 1] 0).1 (aG t).2) (c.result (aI ((aG t).1.kid 2) [(aG t).1.kid 1] 0).1 (aI ((aG t).1.kid 2) [(aG t).1.kid 1] 0).2)
 else if(aG t).1.kind=9\/(aG t).1.kind=10 then QO.bind (rec ((aG t).1.kid 0) c) fun p c=>if p.kind≠8 then some (aN (.mk (aG t).1.kind 0 [] [] [p]) (aG t).2,c) else rec (aN (p.kid ((aG t).1.kind-8).toNat) (aG t).2) (c.result (p.kid ((aG t).1.kind-8).toNat) 0)
 else if(aG t).1.kind=3 then QO.bind (cT env rec (aG t).1.name (aG t).1.levels (aG t).2 c) fun o c=>match o with
  |some x=>rec x c
  |none=>some (t,c)
 else some (t,c)
def bJ (env:List Dc):Nat->Tm->Kt->QO Tm
 |0,_,_=>none
 |n+1,t,c=>uZ env (bJ env n) t c
def K1 (c:Kt):Prop:=c.lm=1000/\(c.ov=false->0<=c.st/\c.st<=1000)
def Kt.mu (c:Kt):Nat:=if c.ov=true then 0 else(1002-c.st).toNat
theorem K1.result {c:Kt} (h:K1 c)(t:Tm)(e:Int):K1 (c.result t e)/\((c.result t e).ov=true\/(c.ov=false/\(c.result t e).st=c.st+1)):=by
 obtain⟨st,nd,fo,lm,ov⟩:=c;obtain⟨h1,h2⟩:=h;simp only at h1 h2;subst h1;simp only[Kt.result,Kt.form,Kt.over]
 cases ov with
 |true=>exact⟨⟨by trivial,fun h=>by simp at h⟩, .inl aA⟩
 |false=>
  obtain⟨h3,h4⟩:=h2 rfl;rw[aQ (n:=st+1) aB aB];refine⟨⟨by trivial,fun h=>?_⟩,?_⟩
  ·simp only[bB5,bAm,bAo] at h;simp only;omega
  ·simp only
   cases hb:(false||(e !=0||decide ((1000:Int)<st+1)||decide (IntKind.i64.wrap (2*1000)<IntKind.i64.wrap (nd+t.size))||decide (IntKind.i64.wrap (40*1000)<IntKind.i64.wrap (fo+t.size))||decide ((2000:Int)<t.size)||decide ((95:Int)<t.depth))) with
   |true=>exact .inl rfl
   |false=>exact .inr ⟨trivial,trivial⟩
theorem K1.mu_lt {c:Kt} (h:K1 c)(ho:c.ov=false)(t:Tm)(e:Int):(c.result t e).mu<c.mu:=by
 obtain⟨h1,h2⟩:=h.2 ho;obtain⟨⟨_,h3⟩,h4⟩:=h.result t e;have e1:c.mu=(1002-c.st).toNat:=by unfold Kt.mu;rw[if_neg (by rw[ho];decide)]
 rw[e1];unfold Kt.mu;split
 ·omega
 ·rename_i hn;rcases h4 with h4|⟨_,h5⟩
  ·exact absurd h4 hn
  ·omega
theorem K1.mu_le {c:Kt} (h:K1 c)(t:Tm)(e:Int):(c.result t e).mu<=c.mu:=by
 cases ho:c.ov with
 |false=>have:=h.mu_lt ho t e;omega
 |true=>
  have:(c.result t e).ov=true:=by simp[Kt.result,Kt.form,ho]
  unfold Kt.mu;rw[if_pos this];omega
def QLe {α:Type} (c:Kt)(P:α->Kt->Prop):QO α->Prop
 |some (a,c')=>K1 c'/\c'.mu<=c.mu/\P a c'
 |none=>True
theorem QLe.mono {α:Type} {c c1:Kt} {P Q:α->Kt->Prop} {x:QO α} (h:QLe c1 P x)(hs:c1.mu<=c.mu)(hp:∀a c',c'.mu<=c1.mu->P a c'->Q a c'):QLe c Q x:=by
 cases x with
 |none=>trivial
 |some p=>exact⟨h.1,by have:=h.2.1;omega,hp _ _ h.2.1 h.2.2⟩
theorem QLe.bind {α β:Type} {c:Kt} {P:α->Kt->Prop} {Q:β->Kt->Prop} {x:QO α} {f:α->Kt->QO β} (h:QLe c P x)(hf:∀a c',K1 c'->c'.mu<=c.mu->P a c'->QLe c Q (f a c')):QLe c Q (QO.bind x f):=by
 cases x with
 |none=>trivial
 |some p=>exact hf _ _ h.1 h.2.1 h.2.2
section
variable (env:List Dc) (rec:Tm->Kt->QO Tm) (hr:∀t c,K1 c->QLe c (fun _ _=>True) (rec t c))
include hr
mutual
theorem aH7:∀(tr:Tr)(vars:List Tm)(c:Kt),K1 c->QLe c (fun _ _=>True) (jE env rec tr vars c)
 | .mk k b v bs,vars,c,h0=>by
  simp only[jE];split
  ·split
   ·exact⟨h0,aYw _,trivial⟩
   ·refine(hr _ c h0).bind fun m c' h1 h2 _=>?_
    split
    ·exact⟨h1,h2,trivial⟩
    ·exact(aRs _ bs _ c' h1).mono h2 fun _ _ _ _=>trivial
  ·exact⟨h0,aYw _,trivial⟩
theorem aRs:∀(n:List UInt8)(bs:List Br)(vars:List Tm)(c:Kt),K1 c->QLe c (fun _ _=>True) (brQ env rec n bs vars c)
 |n,[],vars,c,h0=>by simp only[brQ];exact⟨h0,aYw _,trivial⟩
 |n, .mk cn a t::bs,vars,c,h0=>by
  simp only[brQ];split
  ·split
   ·exact⟨h0,aYw _,trivial⟩
   ·exact aH7 t vars c h0
  ·exact aRs n bs vars c h0
end
end
theorem aPv (env:List Dc)(d:Dc)(ls:List Lv)(args:List Tm)(m:Tm)(c:Kt)(h0:K1 c):QLe c (fun o c'=>o≠none->c'.ov=true\/c'.mu<c.mu) (some (rO env d ls args m c)):=by
 have hno:QLe c (fun(o:Option Tm) c'=>o≠none->c'.ov=true\/c'.mu<c.mu) (some (none,c)):=⟨h0,aYw _,fun h=>absurd rfl h⟩;unfold rO;split
 ·exact hno
 ·split
  ·exact hno
  ·split
   ·exact hno
   ·refine⟨(h0.result _ _).1,h0.mu_le _ _,fun _=>?_⟩
    cases ho:c.ov with
    |true=>exact .inl (by simp[Kt.result,Kt.form,ho])
    |false=>exact .inr (h0.mu_lt ho _ _)
section
variable (env:List Dc) (rec:Tm->Kt->QO Tm) (hr:∀t c,K1 c->QLe c (fun _ _=>True) (rec t c))
include hr
theorem aTh (f:Fu)(ls:List Lv)(args:List Tm)(c:Kt)(h0:K1 c):QLe c (fun o c'=>o≠none->c'.ov=true\/c'.mu<c.mu) (aPr env rec f ls args c):=by
 unfold aPr;split
 ·exact⟨h0,aYw _,fun h=>absurd rfl h⟩
 ·refine(aH7 env rec hr f.tr _ c h0).bind fun o c' h1 h2 _=>?_
  cases o with
  |none=>exact⟨h1,h2,fun h=>absurd rfl h⟩
  |some p=>
   obtain⟨b,vars⟩:=p;simp only;split
   ·exact⟨h1,h2,fun h=>absurd rfl h⟩
   ·rename_i ho;split
    ·exact⟨h1,h2,fun h=>absurd rfl h⟩
    ·have h3:=h1.mu_lt (by simpa using ho) (aI (bF (lvF ls false) b).1 vars.reverse 0).1 (aI (bF (lvF ls false) b).1 vars.reverse 0).2;exact⟨(h1.result _ _).1,by omega,fun _=> .inr aB⟩
theorem aB5 (n:List UInt8)(ls:List Lv)(args:List Tm)(c:Kt)(h0:K1 c)(ho:c.ov=false):QLe c (fun o c'=>o≠none->c'.ov=true\/c'.mu<c.mu) (cT env rec n ls args c):=by
 have hno:QLe c (fun(o:Option Tm) c'=>o≠none->c'.ov=true\/c'.mu<c.mu) (some (none,c)):=⟨h0,aYw _,fun h=>absurd rfl h⟩;unfold cT;split
 ·exact hno
 split
 ·split
  ·exact hno
  ·exact⟨(h0.result _ _).1,h0.mu_le _ _,fun _=> .inr (h0.mu_lt ho _ _)⟩
 split
 ·split
  ·exact hno
  ·refine(hr _ c h0).bind fun m c' h1 h2 _=>?_
   exact(aPv env _ ls args m c' h1).mono h2 fun o c2 _ h5 h6=>by
    rcases h5 h6 with h|h
    ·exact .inl h
    ·exact .inr aB
 split
 ·exact aTh env rec hr _ ls args c h0
 ·exact hno
end
theorem aA4 (env:List Dc):∀(n:Nat)(t:Tm)(c:Kt),K1 c->QLe c (fun m c'=>c'.mu<c.mu\/((aG m).1.kind=3->m.size<=t.size)) (bJ env n t c):=by
 intro n
 induction n with
 |zero=>intro t c _;trivial
 |succ n ih=>
 intro t c h0;have hr:∀t c,K1 c->QLe c (fun _ _=>True) (bJ env n t c):=fun t c h=>(ih t c h).mono (aYw _) fun _ _ _ _=>trivial
 simp only[bJ,uZ];have hself:QLe c (fun m c'=>c'.mu<c.mu\/((aG m).1.kind=3->m.size<=t.size)) (some (t,c)):=⟨h0,aYw _, .inr fun _=>aYw _⟩;split
 ·exact hself
 rename_i ho;have ho:c.ov=false:=by simpa using ho
 have hlt:∀(x:Tm) (c1:Kt),K1 c1->c1.mu<c.mu->QLe c (fun m c'=>c'.mu<c.mu\/((aG m).1.kind=3->m.size<=t.size)) (bJ env n x c1):=fun x c1 h1 h2=>(ih x c1 h1).mono aB fun a c' h3 _=> .inl aB
 split
 ·split
  ·exact hself
  ·exact hlt _ _ (h0.result _ _).1 (h0.mu_lt ho _ _)
 split
 ·exact hlt _ _ (h0.result _ _).1 (h0.mu_lt ho _ _)
 split
 ·rename_i hk;refine(ih _ c h0).bind fun p c1 h1 h2 h3=>?_
  split
  ·refine⟨h1,h2,?_⟩;rcases h3 with h3|h3
   ·exact .inl h3
   ·refine .inr fun h4=>?_
    exact y5u
  ·cases ho1:c1.ov with
   |true=>
    have hov:∀m c',(c1.result m c').ov=true:=fun m c'=>by simp[Kt.result,Kt.form,ho1]
    have hmu:∀m c',(c1.result m c').mu=0:=fun m c'=>by unfold Kt.mu;rw[if_pos (hov m c')]
    exact(ih _ _ (h1.result _ _).1).mono (by have:=h1.mu_le (p.kid ((aG t).1.kind-8).toNat) 0;omega) fun a c' h4 h5=>by
     have h6:=hmu (p.kid ((aG t).1.kind-8).toNat) 0;rw[h6] at h4
     have h7:c'.mu<c.mu:=by
      have:0<c.mu:=by
       exact y7s
      omega
     exact .inl h7
   |false=>exact hlt _ _ (h1.result _ _).1 (by have:=h1.mu_lt ho1 (p.kid ((aG t).1.kind-8).toNat) 0;omega)
 split
 ·refine(aB5 env _ hr _ _ _ c h0 ho).bind fun o c1 h1 h2 h3=>?_
  cases o with
  |none=>
   exact⟨h1,h2, .inr fun _=>aYw _⟩
  |some x=>
   rcases h3 aA with h4|h4
   ·refine hlt x c1 h1 ?_
    have:0<c.mu:=by
     exact y7s
    unfold Kt.mu at this⊢;rw[if_pos h4];exact this
   ·exact hlt x c1 h1 h4
 ·exact hself
def EvQ {α:Type} (f:Nat->QO α):Prop:=∃n0 r,∀n,n0<=n->f n=some r
theorem EvQ.const {α:Type} {r:α×Kt} :EvQ (fun _=>some r):=⟨0,r,fun _ _=>rfl⟩
theorem EvQ.bind {α β:Type} {f:Nat->QO α} {g:Nat->α->Kt->QO β} (h:EvQ f)(hg:∀a c,(∃n0,∀n,n0<=n->f n=some (a,c))->EvQ (fun n=>g n a c)):EvQ (fun n=>QO.bind (f n) (g n)):=by
 obtain⟨n0,⟨a,c⟩,h2⟩:=h;obtain⟨n1,r,h4⟩:=hg a c ⟨n0,h2⟩;exact⟨max n0 n1,r,fun n hn=>by simp only[h2 n aB,QO.bind];exact h4 n aB⟩
theorem EvQ.succ {α:Type} {f:Nat->QO α} (h:EvQ fun n=>f (n+1)):EvQ f:=by
 obtain⟨n0,r,h2⟩:=h;refine⟨n0+1,r,fun n hn=>?_⟩;exact y9f
theorem aSh (env:List Dc)(c:Kt):EvQ fun n=>bJ env n zT c:=
 EvQ.succ ⟨0,(zT,c),fun n _=>by
  have h:aG zT=(zT,[]):=by rfl
  simp only[bJ,uZ,h];simp[zT,Tm.kind]⟩
section
variable (env:List Dc) (m0 B:Nat)
def aXh:Prop:=∀(t:Tm)(c:Kt),K1 c->(c.mu<m0\/c.mu=m0/\t.size<B)->EvQ fun n=>bJ env n t c
variable (H:aXh env m0 B)
include H
theorem aBb {vars:List Tm} {c:Kt} (h0:K1 c)(hs:c.mu<m0\/c.mu=m0/\∀v∈vars,v.size<B)(i:Nat):EvQ fun n=>bJ env n ((vars[i]?).getD zT) c:=by
 cases hi:vars[i]? with
 |none=>exact aSh env c
 |some v=>
  refine H v c h0 ?_;exact y8n
mutual
theorem aH8:∀(tr:Tr)(vars:List Tm)(c:Kt),K1 c->(c.mu<m0\/c.mu=m0/\∀v∈vars,v.size<B)->EvQ fun n=>jE env (bJ env n) tr vars c
 | .mk k b v bs,vars,c,h0,hs=>by
  simp only[jE]
  by_cases hk:k=1
  rotate_left
  ·simp only[if_neg hk];exact EvQ.const
  simp only[if_pos hk]
  by_cases hv:v<0\/(vars.length:Int)<=v\/c.ov=true
  ·simp only[if_pos hv];exact EvQ.const
  simp only[if_neg hv];refine(aBb env m0 B H h0 hs v.toNat).bind fun m c1 he=>?_
  obtain⟨n0,he⟩:=he;have hle:=aA4 env n0 ((vars[v.toNat]?).getD zT) c h0;rw[he n0 (aYw _)] at hle;obtain⟨h1,h2,h3⟩:=hle
  cases hc:hU env m with
  |none=>exact EvQ.const
  |some co=>
   refine aRu _ bs _ c1 h1 ?_;rcases hs with hs|⟨hs,hB⟩
   ·exact .inl aB
   by_cases e:c1.mu=c.mu
   rotate_left
   ·exact .inl aB
   refine .inr ⟨by omega,fun x hx=>?_⟩;rcases aZn.1 hx with hx|hx
   ·exact hB x hx
   obtain⟨hk3,hsub⟩:=aGo hc
   have h4:m.size<=((vars[v.toNat]?).getD zT).size:=by
    rcases h3 with h3|h3
    ·omega
    ·exact h3 hk3
   have h5:=pC (hsub x hx)
   have h6:((vars[v.toNat]?).getD zT).size<B:=by
    cases hi:vars[v.toNat]? with
    |none=>
     exact y8w
    |some y=>exact hB y (aZ9 hi)
   omega
theorem aRu:∀(n:List UInt8)(bs:List Br)(vars:List Tm)(c:Kt),K1 c->(c.mu<m0\/c.mu=m0/\∀v∈vars,v.size<B)->EvQ fun f=>brQ env (bJ env f) n bs vars c
 |n,[],vars,c,h0,hs=>by simp only[brQ];exact EvQ.const
 |n, .mk cn a t::bs,vars,c,h0,hs=>by
  simp only[brQ]
  by_cases hc:cn=n
  ·simp only[if_pos hc]
   by_cases ha:a=true
   ·simp only[if_pos ha];exact EvQ.const
   ·simp only[if_neg ha];exact aH8 t vars c h0 hs
  ·simp only[if_neg hc];exact aRu n bs vars c h0 hs
end
theorem aTi (f:Fu)(ls:List Lv) {args:List Tm} {c:Kt} (h0:K1 c)(hs:c.mu<m0\/c.mu=m0/\∀v∈args,v.size<B):EvQ fun n=>aPr env (bJ env n) f ls args c:=by
 unfold aPr
 by_cases hl:(args.length:Int)<f.ar
 ·simp only[if_pos hl];exact EvQ.const
 simp only[if_neg hl]
 refine EvQ.bind (g:=fun _ o c=>match o with
  |none=>some (none,c)
  |some (b,vars)=>if c.ov=true then some (none,c) else if(bF (lvF ls false) b).2≠0 then some (none,c) else
   some (some (aN (aI (bF (lvF ls false) b).1 vars.reverse 0).1 (args.drop f.ar.toNat)),c.result (aI (bF (lvF ls false) b).1 vars.reverse 0).1 (aI (bF (lvF ls false) b).1 vars.reverse 0).2)) (aH8 env m0 B H f.tr _ c h0 ?_) fun o c1 _=>?_
 ·exact y88
 ·cases o with
  |none=>exact EvQ.const
  |some p=>
   obtain⟨b,vars⟩:=p;simp only;split
   ·exact EvQ.const
   ·split
    ·exact EvQ.const
    ·exact EvQ.const
theorem aL3 (nm:List UInt8)(ls:List Lv) {args:List Tm} {c:Kt} (h0:K1 c)(hs:c.mu<m0\/c.mu=m0/\∀v∈args,v.size<B):EvQ fun n=>cT env (bJ env n) nm ls args c:=by
 unfold cT
 by_cases hu:usB env nm ls=false
 ·simp only[if_pos hu];exact EvQ.const
 simp only[if_neg hu]
 by_cases e1:(aK env nm).1.k=1
 ·simp only[if_pos e1];split<;>exact EvQ.const
 simp only[if_neg e1]
 by_cases e5:(aK env nm).1.k=5
 ·simp only[if_pos e5];generalize (env[(aK env nm).1.at_.toNat]?).getD zDc=d
  by_cases hl:(args.length:Int)<=kF d
  ·simp only[if_pos hl];exact EvQ.const
  simp only[if_neg hl];exact(aBb env m0 B H h0 hs _).bind fun m c1 _=>EvQ.const
 simp only[if_neg e5]
 by_cases e6:(aK env nm).1.k=6
 ·simp only[if_pos e6];exact aTi env m0 B H _ ls h0 hs
 simp only[if_neg e6];exact EvQ.const
theorem aR1 {t:Tm} {c:Kt} (ht:t.size=B)(h0:K1 c)(hm:c.mu=m0):EvQ fun n=>bJ env n t c:=by
 refine EvQ.succ ?_;simp only[bJ,uZ]
 by_cases ho:c.ov=true
 ·simp only[if_pos ho];exact EvQ.const
 simp only[if_neg ho];have ho:c.ov=false:=by simpa using ho
 have hpos:0<c.mu:=by
  exact y7s
 have hput:∀(g r:Tm) (e:Int),EvQ fun n=>bJ env n g (c.result r e):=fun g r e=>H g _ (h0.result r e).1 (.inl (by have:=h0.mu_lt ho r e;omega))
 by_cases k5:(aG t).1.kind=5
 ·simp only[if_pos k5]
  by_cases ha:(aG t).2=[]
  ·simp only[if_pos ha];exact EvQ.const
  ·simp only[if_neg ha];exact hput _ _ _
 simp only[if_neg k5]
 by_cases k11:(aG t).1.kind=11
 ·simp only[if_pos k11];exact hput _ _ _
 simp only[if_neg k11]
 by_cases k9:(aG t).1.kind=9\/(aG t).1.kind=10
 ·simp only[if_pos k9]
  have hk:EvQ fun n=>bJ env n ((aG t).1.kid 0) c:=by
   rcases aS3 (aG t).1 0 with h|h
   ·exact H _ c h0 (.inr ⟨hm,by have:=mD t;omega⟩)
   ·rw[h];exact aSh env c
  refine hk.bind fun p c1 he=>?_
  obtain⟨n0,he⟩:=he;have hle:=aA4 env n0 ((aG t).1.kid 0) c h0;rw[he n0 (aYw _)] at hle;obtain⟨h1,h2,_⟩:=hle
  by_cases k8:p.kind≠8
  ·simp only[if_pos k8];exact EvQ.const
  ·simp only[if_neg k8];refine H _ _ (h1.result _ _).1 (.inl ?_)
   cases ho1:c1.ov with
   |true=>
    unfold Kt.mu;rw[if_pos (by simp[Kt.result,Kt.form,ho1])];omega
   |false=>have:=h1.mu_lt ho1 (p.kid ((aG t).1.kind-8).toNat) 0;omega
 simp only[if_neg k9]
 by_cases k3:(aG t).1.kind=3
 ·simp only[if_pos k3]
  refine EvQ.bind (g:=fun n o c=>match o with
   |some x=>bJ env n x c
   |none=>some (t,c)) (aL3 env m0 B H (aG t).1.name (aG t).1.levels (args:=(aG t).2) h0 (.inr ⟨hm,fun v hv=>by have:=pC (t:=t) hv;omega⟩)) fun o c1 he=>?_
  obtain⟨n0,he⟩:=he;have hr:∀t c,K1 c->QLe c (fun _ _=>True) (bJ env n0 t c):=fun t c h=>(aA4 env n0 t c h).mono (aYw _) fun _ _ _ _=>trivial
  have hle:=aB5 env _ hr (aG t).1.name (aG t).1.levels (aG t).2 c h0 ho;rw[he n0 (aYw _)] at hle
  cases o with
  |none=>exact EvQ.const
  |some x=>
   refine H x c1 hle.1 (.inl ?_);rcases hle.2.2 aA with h|h
   ·unfold Kt.mu;rw[if_pos h];omega
   ·omega
 ·simp only[if_neg k3];exact EvQ.const
end
theorem aK1 (env:List Dc):∀(k:Nat)(c:Kt),c.mu=k->K1 c->∀t,EvQ fun n=>bJ env n t c:=by
 intro k
 induction k using Nat.strongRecOn with
 |_ k ihk=>
 intro c hk h0
 have key:∀(B:Nat) (t:Tm),t.size=B->∀c,c.mu=k->K1 c->EvQ fun n=>bJ env n t c:=by
  intro B
  induction B using Nat.strongRecOn with
  |_ B ihB=>
  intro t ht c hk h0;refine aR1 env k B (fun t' c' h1 h2=>?_) ht h0 hk;rcases h2 with h2|⟨h3,h2⟩
  ·exact ihk c'.mu h2 c' rfl h1 t'
  ·exact ihB t'.size h2 t' rfl c' h3 h1
 exact fun t=>key t.size t rfl c hk h0
end Go.Proofs.YtcfcolkbeelegaaGreat
namespace Go.Proofs.YtcfcolkbeelegaaGreat
open Go Go.AI
set_option linter.unusedSectionVars false
def jC (t:Tm):Nat:=(aG t).2.length
theorem eP (t:Tm):jC t<=t.size:=by
 unfold jC;have:=mD t;have:=(aG t).1.size_pos;omega
theorem cZ (t:Tm)(l:List Tm):jC (aN t l)=jC t+l.length:=by
 unfold jC;rw[fM];simp
theorem sE {l:List Tm} (h:∀a∈l,a.at_):Tm.sizes l<=4096*l.length:=by
 induction l with
 |nil=>simp[Tm.sizes]
 |cons x l ih=>
  have h1:=(h x aA).2;have h2:=ih fun a ha=>h a (by simp[ha])
  simp only[Tm.sizes,aZ1];omega
def K2 (c:Kt):Prop:=K1 c/\(c.ov=false->0<=c.nd/\c.nd<=2000)
theorem K2.result {c:Kt} (h:K2 c)(t:Tm)(e:Int)(ht:t.size<=1099511627776):K2 (c.result t e)/\((c.result t e).ov=false->c.ov=false/\(c.result t e).nd=c.nd+t.size):=by
 have h1:=h.1.result t e;obtain⟨st,nd,fo,lm,ov⟩:=c;obtain⟨⟨h2,h3⟩,h4⟩:=h;simp only at h2 h3 h4;subst h2
 cases ov with
 |true=>
  have ho:(Kt.result ⟨st,nd,fo,1000,true⟩ t e).ov=true:=by simp[Kt.result,Kt.form]
  exact⟨⟨h1.1,fun h=>by rw[ho] at h;cases h⟩,fun h=>by rw[ho] at h;cases h⟩
 |false=>
  obtain⟨h5,h6⟩:=h4 rfl
  have hn:(Kt.result ⟨st,nd,fo,1000,false⟩ t e).nd=nd+t.size:=by
   simp only[Kt.result,Kt.form];exact aQ aB aB
  refine⟨⟨h1.1,fun h=>?_⟩,fun _=>⟨rfl,hn⟩⟩;rw[hn];simp only[Kt.result,Kt.form,Kt.over,bB5,bAm,bAo] at h;have h7:=h.1.1.1.2;rw[aQ (n:=nd+t.size) aB aB,aQ (n:=2*1000) aB aB] at h7;omega
def InQ (t:Tm)(c:Kt):Prop:=Gin t/\jC t<=30000/\(c.ov=false->(jC t:Int)<=4096+c.nd)
def aOw (t:Tm):Prop:=Gout t/\jC t<=30000
theorem InQ.of_at {t:Tm} (h:t.at_) {c:Kt} (hc:K2 c):InQ t c:=by
 have h1:=eP t;have h2:=h.2;exact⟨Gin.of_at h,by omega,fun ho=>by have:=(hc.2 ho).1;omega⟩
def QGood {α:Type} (c:Kt)(P:α->Kt->Prop):QO α->Prop
 |some (a,c')=>K2 c'/\(c'.ov=false->c.ov=false/\c.nd<=c'.nd)/\P a c'
 |none=>True
theorem QGood.bind {α β:Type} {c:Kt} {P:α->Kt->Prop} {Q:β->Kt->Prop} {x:QO α} {f:α->Kt->QO β} (h:QGood c P x)(hf:∀a c',K2 c'->(c'.ov=false->c.ov=false/\c.nd<=c'.nd)->P a c'->QGood c' Q (f a c')):QGood c Q (QO.bind x f):=by
 cases x with
 |none=>trivial
 |some p=>
  obtain⟨h1,h2,h3⟩:=h;have h4:=hf _ _ h1 h2 h3;simp only[QO.bind]
  cases hx:f p.1 p.2 with
  |none=>trivial
  |some q=>
   rw[hx] at h4;obtain⟨h5,h6,h7⟩:=h4;refine⟨h5,fun ho=>?_,h7⟩;have h8:=h6 ho;have h9:=h2 h8.1;exact⟨h9.1,by omega⟩
theorem QGood.self {α:Type} {c:Kt} (hc:K2 c) {P:α->Kt->Prop} {a:α} (h:P a c):QGood c P (some (a,c)):=⟨hc,fun h=>⟨h,bA6 _⟩,h⟩
theorem QGood.res {α:Type} {c:Kt} (hc:K2 c) {t:Tm} {e:Int} (ht:t.size<=1099511627776) {P:α->Kt->Prop} {a:α} (h:P a (c.result t e)):QGood c P (some (a,c.result t e)):=by
 obtain⟨h1,h2⟩:=hc.result t e ht;exact⟨h1,fun ho=>⟨(h2 ho).1,by have:=(h2 ho).2;omega⟩,h⟩
section
variable {env:List Dc} (hg:Env.good env) (hf:aP env) (hA:EnvA env) (rec:Tm->Kt->QO Tm) (hr:∀t c,InQ t c->K2 c->QGood c (fun m _=>aOw m) (rec t c))
include hg hf hA hr
mutual
theorem mA:∀(tr:Tr)(n:Nat)(vars:List Tm)(c:Kt),TrA n tr->(∀v∈vars,v.at_)->vars.length+n*4096<=1048576->K2 c->
  QGood c (fun(o:Option (Tm×List Tm)) _=>∀p,o=some p->p.1.at_/\(∀v∈p.2,v.at_)/\p.2.length<=1048576) (jE env rec tr vars c)
 | .mk k b v bs,n,vars,c,ht,hv,hl,h0=>by
  simp only[TrA] at ht;simp only[jE]
  by_cases hk:k=1
  ·rw[if_pos hk]
   by_cases hc:v<0\/(vars.length:Int)<=v\/c.ov=true
   ·rw[if_pos hc];exact QGood.self h0 fun p e=>(by cases e)
   rw[if_neg hc];have hvl:v.toNat<vars.length:=aB;rw[aYu hvl,aZb];refine(hr _ c (InQ.of_at (hv _ (aYx hvl)) h0) h0).bind fun m c' h1 h2 hm=>?_
   cases hz:hU env m with
   |none=>exact QGood.self h1 fun p e=>(by cases e)
   |some co=>
    simp only;obtain⟨ha,hal⟩:=eE hg hf hA hm.1 hz;obtain⟨hn,hbs⟩:=ht.2.2 hk
    exact xU bs (n-1) _ (vars++co.as_) c' hbs (fun x hx=>by
     rcases aZn.1 hx with hx|hx
     ·exact hv x hx
     ·exact ha x hx) (by
      have:n*4096=(n-1)*4096+4096:=by
       exact y75
      simp only[aZ4];omega) h1
  ·rw[if_neg hk];exact QGood.self h0 fun p e=>(by cases e;exact⟨ht.1 hk,hv,by simp only;omega⟩)
theorem xU:∀(bs:List Br)(n:Nat)(x:List UInt8)(vars:List Tm)(c:Kt),aK8 n bs->(∀v∈vars,v.at_)->vars.length+n*4096<=1048576->K2 c->
  QGood c (fun(o:Option (Tm×List Tm)) _=>∀p,o=some p->p.1.at_/\(∀v∈p.2,v.at_)/\p.2.length<=1048576) (brQ env rec x bs vars c)
 |[],n,x,vars,c,_,_,_,h0=>by
  simp only[brQ];exact QGood.self h0 fun p e=>(by cases e)
 | .mk cn a t::bs,n,x,vars,c,hb,hv,hl,h0=>by
  simp only[aK8] at hb;simp only[brQ];split
  ·split
   ·exact QGood.self h0 fun p e=>(by cases e)
   ·rename_i ha;exact mA t n vars c (hb.1 (by simpa using ha)) hv hl h0
  ·exact xU bs n x vars c hb.2 hv hl h0
end
theorem mZ (n:List UInt8)(ls:List Lv)(args:List Tm)(ha:∀a∈args,a.at_)(c:Kt)(h0:K2 c)(ho:c.ov=false)(hl:(args.length:Int)<=4096+c.nd):
  QGood c (fun(o:Option Tm) c'=>∀x,o=some x->InQ x c') (cT env rec n ls args c):=by
 have hnd:=h0.2 ho;have hno:∀c',K2 c'->QGood c' (fun(o:Option Tm) c'=>∀x,o=some x->InQ x c') (some (none,c')):=fun c' h=>QGood.self h fun x e=>(by cases e)
 unfold cT
 by_cases hu:usB env n ls=false
 ·rw[if_pos hu];exact hno c h0
 rw[if_neg hu];obtain⟨j,d,h1,h2,h3,h4,h5,h6,h7,h8⟩:=iT hf (by simpa using hu:usB env n ls=true);have hd:(env[(aK env n).1.at_.toNat]?).getD zDc=d:=by rw[h2,aZj,h1];rfl
 have hm:=aZ9 h1;simp only[hd]
 by_cases e1:(aK env n).1.k=1
 ·rw[if_pos e1];split
  ·exact hno c h0
  ·have hat:=mQ (ls:=ls) (hA.va d hm (h4 e1));refine QGood.res h0 (by have:=hat.2;omega) fun x e=>?_
   cases e;have hal:=eP (bF (lvF ls false) d.va).1;have hat2:=hat.2;refine⟨(Gin.of_at hat).app ha (by have:=fR hat;omega),by rw[cZ];omega,fun hx=>?_⟩;have:=(h0.result _ _ aB).2 hx;rw[cZ,this.2];omega
 rw[if_neg e1]
 by_cases e5:(aK env n).1.k=5
 ·rw[if_pos e5]
  by_cases hsc:(args.length:Int)<=kF d
  ·rw[if_pos hsc];exact hno c h0
  rw[if_neg hsc];have hfx:=hA.fx d hm (h5 e5);have hs0:=(jJ (hg.2 d hm) hfx.1 hfx.2).1;have hsl:(kF d).toNat<args.length:=aB;rw[aYu hsl,aZb];refine(hr _ c (InQ.of_at (ha _ (aYx hsl)) h0) h0).bind fun m c' k1 k2 hmo=>?_
  unfold rO
  cases hz:hU env m with
  |none=>exact hno c' k1
  |some co=>
   simp only;obtain⟨ca,cl⟩:=eE hg hf hA hmo.1 hz;split
   ·exact hno c' k1
   rename_i hb;split
   ·exact hno c' k1
   have hri:co.i<d.rr.length:=aB;rw[aYu hri,aZb];have hat:=mQ (ls:=ls) (hA.rr d hm (h5 e5) _ (aYx hri));have hat2:=hat.2;have hal:=eP (bF (lvF ls false) d.rr[co.i]).1;generalize (bF (lvF ls false) d.rr[co.i]).1=r at hat hat2 hal⊢;obtain⟨p,hp⟩:∃p,args.take (d.fx+1+d.cs.length).toNat=p:=⟨_,rfl⟩;have hpa:∀a∈p,a.at_:=fun a hx=>by rw[<-hp] at hx;exact ha a (bA3 hx)
   have hpl:p.length<=args.length:=by rw[<-hp];simp only[aZm];omega
   rw[hp];have g1:=(Gin.of_at hat).app (l:=p) hpa (by have:=fR hat;omega);have l1:jC (aN r p)<=12000:=by rw[cZ];omega
   have g2:=g1.app (l:=co.as_) ca (by unfold jC at l1;omega);have l2:jC (aN (aN r p) co.as_)<=20000:=by rw[cZ];omega
   have z1:=sE hpa;have z2:=sE ca;have hxs:(aN (aN r p) co.as_).size<=1099511627776:=by rw[jR,jR];omega
   refine QGood.res k1 hxs fun x e=>?_
   cases e;have hal2:=eP (aN (aN r p) co.as_);refine⟨g2.app (fun a hx=>ha a (bAp hx)) (by unfold jC at l2;simp only[bA0];omega),by rw[cZ];simp only[bA0];omega,fun hx=>?_⟩;have h9:=(k1.result _ _ hxs).2 hx;have h10:=(k2 h9.1).2;rw[cZ,h9.2];exact y7i
 rw[if_neg e5]
 by_cases e6:(aK env n).1.k=6
 ·rw[if_pos e6];obtain⟨k4,i,f,hi,hfi⟩:=h6 e6;rw[hi,aZj,hfi,aZb];obtain⟨r0,r1,r2⟩:=hA.fs d hm k4 f (aZ9 hfi);unfold aPr;split
  ·exact hno c h0
  refine(mA hg hf hA rec hr f.tr 200 (args.take f.ar.toNat) c r2 (fun a hx=>ha a (bA3 hx)) (by simp only[aZm];omega) h0).bind fun o c' k1 k2 ho2=>?_
  cases o with
  |none=>exact hno c' k1
  |some p=>
   obtain⟨b,vars⟩:=p;obtain⟨q1,q2,q3⟩:=ho2 _ rfl;simp only;split
   ·exact hno c' k1
   split
   ·exact hno c' k1
   have hat:=uJ (t:=(bF (lvF ls false) b).1) (vs:=vars.reverse) (mQ (ls:=ls) q1).1 (fun v hv=>(q2 v (by simpa using hv)).1);have hat2:=hat.2;have hal:=eP (aI (bF (lvF ls false) b).1 vars.reverse 0).1;refine QGood.res k1 aB fun x e=>?_
   cases e;refine⟨(Gin.of_at hat).app (fun a hx=>ha a (bAp hx)) (by have:=fR hat;simp only[bA0];omega),by rw[cZ];simp only[bA0];omega,fun hx=>?_⟩;have h9:=(k1.result _ _ aB).2 hx;have h10:=(k2 h9.1).2;rw[cZ,h9.2];exact y7i
 ·rw[if_neg e6];exact hno c h0
end
end Go.Proofs.YtcfcolkbeelegaaGreat
