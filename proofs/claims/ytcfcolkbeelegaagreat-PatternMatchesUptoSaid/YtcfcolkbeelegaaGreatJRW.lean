import Derived.Test.YtcfcolkbeelegaaGreatJA0
import Derived.Test.YtcfcolkbeelegaaGreatJRL
import Derived.Test.YtcfcolkbeelegaaGreatJT8
import Derived.Test.YtcfcolkbeelegaaGreatJX14
import Derived.Test.YtcfcolkbeelegaaGreatJQS
set_option maxRecDepth 8000
namespace Go.Proofs.YtcfcolkbeelegaaGreat
open Go Go.AI
set_option linter.unusedSectionVars false
def WLe {α:Type} (s:Int)(P:α->Int->Prop):WO α->Prop
 | .ok a s'=>0<=s'/\s'<=s/\P a s'
 |_=>True
theorem WLe.mono {α:Type} {s s1:Int} {P Q:α->Int->Prop} {x:WO α} (h:WLe s1 P x)(hs:s1<=s)(hp:∀a s',s'<=s1->P a s'->Q a s'):WLe s Q x:=by
 cases x with
 |ok a s'=>exact⟨h.1,by have:=h.2.1;omega,hp _ _ h.2.1 h.2.2⟩
 |fail _=>trivial
 |out=>trivial
theorem WLe.bind {α β:Type} {s:Int} {P:α->Int->Prop} {Q:β->Int->Prop} {x:WO α} {f:α->Int->WO β} (h:WLe s P x)(hf:∀a s',0<=s'->s'<=s->P a s'->WLe s Q (f a s')):WLe s Q (x.bind f):=by
 cases x with
 |ok a s'=>exact hf a s' h.1 h.2.1 h.2.2
 |fail _=>trivial
 |out=>trivial
theorem WLe.tick {α:Type} {s s0:Int} {P:α->Int->Prop} {f:Int->WO α} (h:0<=s-1->WLe s0 P (f (s-1))):WLe s0 P (iK s f):=by
 unfold iK;split
 ·trivial
 ·exact h aB
theorem zJ (t:Tm)(vs:List Tm)(s:Int)(_h0:0<=s):WLe s (fun _ s'=>s'<s) (sC t vs s):=by
 unfold sC;refine WLe.tick fun h=>?_
 split
 ·trivial
 ·exact⟨h,by omega,by omega⟩
section
variable (env:List Dc) (rec:Tm->Int->WO Tm) (hr:∀t s,0<=s->WLe s (fun _ _=>True) (rec t s))
include hr
mutual
theorem aMa:∀(tr:Tr)(vars:List Tm)(s:Int),0<=s->WLe s (fun _ _=>True) (kN env rec tr vars s)
 | .mk k b v bs,vars,s,h0=>by
  simp only[kN];split
  ·split
   ·exact⟨h0,bA6 _,trivial⟩
   ·refine(hr _ s h0).bind fun m s' h1 h2 _=>?_
    split
    ·exact⟨h1,h2,trivial⟩
    ·exact(aVc _ bs _ s' h1).mono h2 fun _ _ _ _=>trivial
  ·exact⟨h0,bA6 _,trivial⟩
theorem aVc:∀(n:List UInt8)(bs:List Br)(vars:List Tm)(s:Int),0<=s->WLe s (fun _ _=>True) (brF env rec n bs vars s)
 |n,[],vars,s,h0=>by simp only[brF];exact⟨h0,bA6 _,trivial⟩
 |n, .mk c a t::bs,vars,s,h0=>by
  simp only[brF];split
  ·split
   ·exact⟨h0,bA6 _,trivial⟩
   ·exact aMa t vars s h0
  ·exact aVc n bs vars s h0
end
theorem aTj (d:Dc)(ls:List Lv)(args:List Tm)(m:Tm)(s:Int)(h0:0<=s):WLe s (fun o s'=>o≠none->s'<s) (rN env d ls args m s):=by
 unfold rN;split
 ·exact y7b
 ·split
  ·exact y7b
  ·split
   ·exact y7b
   ·exact WLe.tick fun h=>⟨h,by omega,fun _=>by omega⟩
theorem aVn (f:Fu)(ls:List Lv)(args:List Tm)(s:Int)(h0:0<=s):WLe s (fun o s'=>o≠none->s'<s) (aLs env rec f ls args s):=by
 unfold aLs;split
 ·exact y7b
 ·refine(aMa env rec hr f.tr _ s h0).bind fun o s' h1 h2 _=>?_
  cases o with
  |none=>exact⟨h1,h2,fun h=>absurd rfl h⟩
  |some p=>
   obtain⟨b,vars⟩:=p;simp only;split
   ·exact⟨h1,h2,fun h=>absurd rfl h⟩
   ·refine WLe.mono (s1:=s') (P:=fun(o:Option Tm) s2=>o≠none->s2<s') ?_ h2 fun o s2 _ h5 h6=>by have:=h5 h6;omega
    exact(zJ _ _ s' h1).bind fun b s2 h3 h4 h5=>⟨h3,h4,fun _=>h5⟩
theorem aGq (n:List UInt8)(ls:List Lv)(args:List Tm)(s:Int)(h0:0<=s):WLe s (fun o s'=>o≠none->s'<s) (gD env rec n ls args s):=by
 unfold gD;have hno:WLe s (fun(o:Option Tm) s'=>o≠none->s'<s) (.ok none s):=⟨h0,bA6 _,fun h=>absurd rfl h⟩;split
 ·exact hno
 simp only;split
 ·split
  ·exact hno
  ·exact WLe.tick fun h=>⟨h,by omega,fun _=>by omega⟩
 split
 ·split
  ·exact hno
  ·refine(hr _ s h0).bind fun m s' h1 h2 _=>?_
   exact(aTj env rec hr _ ls args m s' h1).mono h2 fun o s2 _ h5 h6=>by have:=h5 h6;omega
 split
 ·exact aVn env rec hr _ ls args s h0
 ·exact hno
end
theorem mD (t:Tm):t.size=(aG t).1.size+(Tm.sizes (aG t).2+(aG t).2.length):=by
 have key:∀(n:Nat) (t:Tm),t.size=(spG n t).1.size+(Tm.sizes (spG n t).2+(spG n t).2.length):=by
  intro n
  induction n with
  |zero=>intro t;simp[spG,Tm.sizes]
  |succ n ih=>
   intro t;simp only[spG]
   cases hb:isB 4 t with
   |none=>simp[Tm.sizes]
   |some p=>
    obtain⟨f,a⟩:=p;simp only
    have h1:t.size=f.size+a.size+1:=by
     obtain⟨k,i,nm,ls,ks⟩:=t
     match ks,hb with
     |[x,y],hb=>
      simp only[isB] at hb;split at hb
      ·simp only[aYz,aZe] at hb;obtain⟨rfl,rfl⟩:=hb;simp only[Tm.size,Tm.sizes];omega
      ·cases hb
    have h2:=ih f
    have h3:∀(l:List Tm),Tm.sizes (l++[a])=Tm.sizes l+a.size:=by
     intro l
     induction l with
     |nil=>simp[Tm.sizes]
     |cons x l ih=>simp only[aYy,Tm.sizes,ih];omega
    rw[h3];simp only[aZ4,bAx];omega
 exact key _ t
theorem pC {t a:Tm} (h:a∈(aG t).2):a.size<t.size:=by
 have h1:=mD t
 have h2:∀(l:List Tm),a∈l->a.size<=Tm.sizes l:=by
  intro l
  induction l with
  |nil=>intro h;cases h
  |cons x l ih=>
   intro h;simp only[Tm.sizes];exact y56
 have h3:=h2 _ h;have h4:=(aG t).1.size_pos;omega
theorem aS3 (h:Tm)(i:Nat):(h.kid i).size<h.size\/h.kid i=zT:=by
 unfold Tm.kid
 cases hk:h.kids[i]? with
 |none=>exact .inr rfl
 |some x=>
  refine .inl ?_;simp only[aZb];obtain⟨k,j,nm,ls,ks⟩:=h;simp only[Tm.kids] at hk;have hm:=aZ9 hk
  have h2:∀(l:List Tm),x∈l->x.size<=Tm.sizes l:=by
   intro l
   induction l with
   |nil=>intro h;cases h
   |cons y l ih=>
    intro h;simp only[Tm.sizes];exact y56
  have:=h2 _ hm;simp only[Tm.size];omega
theorem aFr (env:List Dc):∀(n:Nat)(t:Tm)(s:Int),0<=s->WLe s (fun m s'=>s'=s->(aG m).1.kind=3->m.size<=t.size) (bM env n t s):=by
 intro n
 induction n with
 |zero=>intro t s _;trivial
 |succ n ih=>
 intro t s h0;have hr:∀t s,0<=s->WLe s (fun _ _=>True) (bM env n t s):=fun t s h=>(ih t s h).mono (bA6 _) fun _ _ _ _=>trivial
 simp only[bM,aFc];have hself:WLe s (fun m s'=>s'=s->(aG m).1.kind=3->m.size<=t.size) (.ok t s):=⟨h0,bA6 _,fun _ _=>aYw _⟩;have hlt:∀(x:Tm) (s1:Int),0<=s1->s1<s->WLe s (fun m s'=>s'=s->(aG m).1.kind=3->m.size<=t.size) (bM env n x s1):=fun x s1 h1 h2=>(ih x s1 h1).mono aB fun a s' h3 _ e _=>by omega
 split
 ·trivial
 split
 ·split
  ·exact hself
  ·exact(zJ _ _ s h0).bind fun b s1 h1 _ h3=>hlt _ s1 h1 h3
 split
 ·exact(zJ _ _ s h0).bind fun b s1 h1 _ h3=>hlt _ s1 h1 h3
 split
 ·rename_i hk;refine(ih _ s h0).bind fun p s1 h1 h2 h3=>?_
  split
  ·refine⟨h1,h2,fun e h4=>?_⟩;exact y5u
  ·exact WLe.tick fun h=>hlt _ _ h aB
 split
 ·refine(aGq env _ hr _ _ _ s h0).bind fun o s1 h1 h2 h3=>?_
  cases o with
  |none=>exact⟨h1,h2,fun _ _=>aYw _⟩
  |some x=>exact hlt x s1 h1 (h3 aA)
 ·exact hself
theorem aGo {env:List Dc} {m:Tm} {co:Co} (h:hU env m=some co):(aG m).1.kind=3/\∀x∈co.as_,x∈(aG m).2:=by
 unfold hU at h;split at h
 ·cases h
 rename_i hk;refine⟨by simpa using hk,?_⟩;split at h
 rotate_left
 ·cases h
 split at h
 rotate_left
 ·cases h
 split at h
 rotate_left
 ·cases h
 simp only[aYz] at h;subst h;exact fun x hx=>bAp hx
def Ev {α:Type} (f:Nat->WO α):Prop:=∃n0 r,r≠WO.out/\∀n,n0<=n->f n=r
theorem Ev.const {α:Type} {r:WO α} (h:r≠WO.out):Ev (fun _=>r):=⟨0,r,h,fun _ _=>rfl⟩
theorem Ev.bind {α β:Type} {f:Nat->WO α} {g:Nat->α->Int->WO β} (h:Ev f)(hg:∀a s,(∃n0,∀n,n0<=n->f n= .ok a s)->Ev (fun n=>g n a s)):Ev (fun n=>(f n).bind (g n)):=by
 obtain⟨n0,r,h1,h2⟩:=h
 cases r with
 |out=>exact absurd rfl h1
 |fail s=>exact⟨n0, .fail s,by simp,fun n hn=>by simp only[h2 n hn,WO.bind]⟩
 |ok a s=>
  obtain⟨n1,r,h3,h4⟩:=hg a s ⟨n0,h2⟩;exact⟨max n0 n1,r,h3,fun n hn=>by simp only[h2 n aB,WO.bind];exact h4 n aB⟩
theorem Ev.succ {α:Type} {f:Nat->WO α} (h:Ev fun n=>f (n+1)):Ev f:=by
 obtain⟨n0,r,h1,h2⟩:=h;refine⟨n0+1,r,h1,fun n hn=>?_⟩;exact y9f
theorem Ev.tick {α:Type} {s:Int} {f:Nat->Int->WO α} (h:0<=s-1->Ev fun n=>f n (s-1)):Ev fun n=>iK s (f n):=by
 unfold iK
 by_cases hs:s-1<0
 ·simp only[if_pos hs];exact Ev.const aA
 ·simp only[if_neg hs];exact h aB
theorem aWm (env:List Dc)(s:Int):Ev fun n=>bM env n zT s:=
 Ev.succ ⟨0, .ok zT s,by simp,fun n _=>by
  have h:aG zT=(zT,[]):=by rfl
  simp only[bM,aFc,h];simp[zT,Tm.kind]⟩
section
variable (env:List Dc) (s0:Int) (B:Nat)
def aXg:Prop:=∀(t:Tm)(s:Int),0<=s->(s<s0\/s=s0/\t.size<B)->Ev fun n=>bM env n t s
variable (H:aXg env s0 B)
include H
theorem aGt {vars:List Tm} {s:Int} (h0:0<=s)(hs:s<s0\/s=s0/\∀v∈vars,v.size<B)(i:Nat):Ev fun n=>bM env n ((vars[i]?).getD zT) s:=by
 cases hi:vars[i]? with
 |none=>exact aWm env s
 |some v=>
  refine H v s h0 ?_;exact y8n
mutual
theorem aM9:∀(tr:Tr)(vars:List Tm)(s:Int),0<=s->(s<s0\/s=s0/\∀v∈vars,v.size<B)->Ev fun n=>kN env (bM env n) tr vars s
 | .mk k b v bs,vars,s,h0,hs=>by
  simp only[kN]
  by_cases hk:k=1
  rotate_left
  ·simp only[if_neg hk];exact Ev.const aA
  simp only[if_pos hk]
  by_cases hv:v<0\/(vars.length:Int)<=v
  ·simp only[if_pos hv];exact Ev.const aA
  simp only[if_neg hv];refine(aGt env s0 B H h0 hs v.toNat).bind fun m s1 he=>?_
  obtain⟨n0,he⟩:=he;have hle:=aFr env n0 ((vars[v.toNat]?).getD zT) s h0;rw[he n0 (aYw _)] at hle;obtain⟨h1,h2,h3⟩:=hle
  cases hc:hU env m with
  |none=>exact Ev.const aA
  |some co=>
   refine aVb _ bs _ s1 h1 ?_;rcases hs with hs|⟨hs,hB⟩
   ·exact .inl aB
   by_cases e:s1=s
   rotate_left
   ·exact .inl aB
   refine .inr ⟨by omega,fun x hx=>?_⟩;rcases aZn.1 hx with hx|hx
   ·exact hB x hx
   obtain⟨hk3,hsub⟩:=aGo hc;have h4:=h3 e hk3;have h5:=pC (hsub x hx)
   have h6:((vars[v.toNat]?).getD zT).size<B:=by
    cases hi:vars[v.toNat]? with
    |none=>
     exact y8w
    |some y=>exact hB y (aZ9 hi)
   omega
theorem aVb:∀(n:List UInt8)(bs:List Br)(vars:List Tm)(s:Int),0<=s->(s<s0\/s=s0/\∀v∈vars,v.size<B)->Ev fun f=>brF env (bM env f) n bs vars s
 |n,[],vars,s,h0,hs=>by simp only[brF];exact Ev.const aA
 |n, .mk c a t::bs,vars,s,h0,hs=>by
  simp only[brF]
  by_cases hc:c=n
  ·simp only[if_pos hc]
   by_cases ha:a=true
   ·simp only[if_pos ha];exact Ev.const aA
   ·simp only[if_neg ha];exact aM9 t vars s h0 hs
  ·simp only[if_neg hc];exact aVb n bs vars s h0 hs
end
theorem aTk (d:Dc)(ls:List Lv)(args:List Tm)(m:Tm)(s:Int):rN env d ls args m s≠ .out:=by
 unfold rN;split
 ·simp
 ·split
  ·simp
  ·split
   ·simp
   ·unfold iK;split<;>simp
theorem aVm (f:Fu)(ls:List Lv) {args:List Tm} {s:Int} (h0:0<=s)(hs:s<s0\/s=s0/\∀v∈args,v.size<B):Ev fun n=>aLs env (bM env n) f ls args s:=by
 unfold aLs
 by_cases hl:(args.length:Int)<f.ar
 ·exact y9h
 simp only[if_neg hl]
 refine Ev.bind (g:=fun _ o s=>match o with
  |none=> .ok none s
  |some (b,vars)=>if(bF (lvF ls false) b).2≠0 then .ok none s else(sC (bF (lvF ls false) b).1 vars.reverse s).bind fun b s=> .ok (some (aN b (args.drop f.ar.toNat))) s) (aM9 env s0 B H f.tr _ s h0 ?_) fun o s1 _=>?_
 ·exact y88
 ·cases o with
  |none=>exact Ev.const aA
  |some p=>
   obtain⟨b,vars⟩:=p;simp only;split
   ·exact Ev.const aA
   ·refine Ev.const ?_;have hp:=pZ (bF (lvF ls false) b).1 vars.reverse s1;generalize sC (bF (lvF ls false) b).1 vars.reverse s1=w at hp⊢
    cases w with
    |out=>exact absurd rfl hp
    |fail _=>simp[WO.bind]
    |ok _ _=>simp[WO.bind]
theorem aP9 (nm:List UInt8)(ls:List Lv) {args:List Tm} {s:Int} (h0:0<=s)(hs:s<s0\/s=s0/\∀v∈args,v.size<B):Ev fun n=>gD env (bM env n) nm ls args s:=by
 unfold gD
 by_cases hu:usB env nm ls=false
 ·simp only[if_pos hu];exact Ev.const aA
 simp only[if_neg hu]
 by_cases e1:(aK env nm).1.k=1
 ·simp only[if_pos e1];refine Ev.const ?_;split
  ·simp
  ·unfold iK;split<;>simp
 simp only[if_neg e1]
 by_cases e5:(aK env nm).1.k=5
 ·simp only[if_pos e5];generalize (env[(aK env nm).1.at_.toNat]?).getD zDc=d
  by_cases hl:(args.length:Int)<=kF d
  ·exact y9h
  simp only[if_neg hl];exact(aGt env s0 B H h0 hs _).bind fun m s1 _=>Ev.const (aTk env s0 B H d ls args m s1)
 simp only[if_neg e5]
 by_cases e6:(aK env nm).1.k=6
 ·simp only[if_pos e6];exact aVm env s0 B H _ ls h0 hs
 simp only[if_neg e6];exact Ev.const aA
theorem aUe {t:Tm} (ht:t.size=B)(h0:0<=s0):Ev fun n=>bM env n t s0:=by
 refine Ev.succ ?_;simp only[bM,aFc]
 by_cases hl:40960<(aG t).2.length
 ·exact y9h
 simp only[if_neg hl]
 have hput:∀(g:Tm->Tm) b vs,Ev fun n=>(sC b vs s0).bind fun b s=>bM env n (g b) s:=by
  intro g b vs;have hp:=pZ b vs s0;have hq:=zJ b vs s0 h0;generalize sC b vs s0=w at hp hq
  cases w with
  |out=>exact absurd rfl hp
  |fail _=>simp only[WO.bind];exact Ev.const aA
  |ok y s1=>simp only[WO.bind];exact H _ s1 hq.1 (.inl hq.2.2)
 by_cases k5:(aG t).1.kind=5
 ·simp only[if_pos k5]
  by_cases ha:(aG t).2=[]
  ·simp only[if_pos ha];exact Ev.const aA
  ·simp only[if_neg ha];exact hput (fun b=>aN b ((aG t).2.drop 1)) _ _
 simp only[if_neg k5]
 by_cases k11:(aG t).1.kind=11
 ·simp only[if_pos k11];exact hput (fun b=>aN b (aG t).2) _ _
 simp only[if_neg k11]
 by_cases k9:(aG t).1.kind=9\/(aG t).1.kind=10
 ·simp only[if_pos k9]
  have hk:Ev fun n=>bM env n ((aG t).1.kid 0) s0:=by
   rcases aS3 (aG t).1 0 with h|h
   ·exact H _ s0 h0 (.inr ⟨rfl,by have:=mD t;omega⟩)
   ·rw[h];exact aWm env s0
  refine hk.bind fun p s1 he=>?_
  obtain⟨n0,he⟩:=he;have hle:=aFr env n0 ((aG t).1.kid 0) s0 h0;rw[he n0 (aYw _)] at hle
  by_cases k8:p.kind≠8
  ·simp only[if_pos k8];exact Ev.const aA
  ·simp only[if_neg k8];exact Ev.tick fun h=>H _ _ h (.inl (by have:=hle.2.1;omega))
 simp only[if_neg k9]
 by_cases k3:(aG t).1.kind=3
 ·simp only[if_pos k3];refine(aP9 env s0 B H _ _ h0 (.inr ⟨rfl,fun v hv=>by have:=pC hv;omega⟩)).bind fun o s1 he=>?_
  obtain⟨n0,he⟩:=he;have hr:∀t s,0<=s->WLe s (fun _ _=>True) (bM env n0 t s):=fun t s h=>(aFr env n0 t s h).mono (bA6 _) fun _ _ _ _=>trivial
  have hle:=aGq env _ hr (aG t).1.name (aG t).1.levels (aG t).2 s0 h0;rw[he n0 (aYw _)] at hle
  cases o with
  |none=>exact Ev.const aA
  |some x=>exact H x s1 hle.1 (.inl (hle.2.2 aA))
 ·simp only[if_neg k3];exact Ev.const aA
end
theorem lJ (env:List Dc):∀(k:Nat)(s:Int),s.toNat=k->0<=s->∀t,Ev fun n=>bM env n t s:=by
 intro k
 induction k using Nat.strongRecOn with
 |_ k ihk=>
 intro s hk h0
 have key:∀(B:Nat) (t:Tm),t.size=B->Ev fun n=>bM env n t s:=by
  intro B
  induction B using Nat.strongRecOn with
  |_ B ihB=>
  intro t ht;refine aUe env s B (fun t' s' h1 h2=>?_) ht h0;rcases h2 with h2|⟨rfl,h2⟩
  ·exact ihk s'.toNat aB s' rfl h1 t'
  ·exact ihB t'.size h2 t' rfl
 exact fun t=>key t.size t rfl
noncomputable def gM (env:List Dc)(t:Tm):Tm×Int:=match bM env (Classical.choose (lJ env 20000 20000 rfl aD t)) t 20000 with
 | .ok m _=>(m,0)
 |_=>(zT,11)
theorem aHw (env:List Dc)(t:Tm):∃n,bM env n t 20000≠ .out/\((∃m s,bM env n t 20000= .ok m s/\gM env t=(m,0))\/(∃s,bM env n t 20000= .fail s/\gM env t=(zT,11))):=by
 have hc:=Classical.choose_spec (lJ env 20000 20000 rfl aD t);obtain⟨r,h1,h2⟩:=hc;unfold gM;generalize Classical.choose (lJ env 20000 20000 rfl aD t)=n at h2⊢;have h3:bM env n t 20000=r:=h2 n (aYw _);refine⟨n,by rw[h3];exact h1,?_⟩;rw[h3]
 cases r with
 |out=>exact absurd rfl h1
 |ok m s=>exact .inl ⟨m,s,rfl,rfl⟩
 |fail s=>exact .inr ⟨s,rfl,rfl⟩
end Go.Proofs.YtcfcolkbeelegaaGreat
namespace Go.Proofs.YtcfcolkbeelegaaGreat
open Go Go.AI
set_option linter.unusedSectionVars false
mutual
theorem aRv (v p m l:Int):∀(t:Tm)(d:Int),t.lvs->v+d+t.depth<=65536->chk v p m l d t=0->t.wf
 | .mk k i n ls ks,d,hl,hd,h=>by
  simp only[chk] at h;simp only[Tm.lvs] at hl;simp only[Tm.depth] at hd
  by_cases h1:nE (.mk k i n ls ks)=false
  ·rw[if_pos h1] at h;exact absurd h aD
  rw[if_neg h1] at h
  by_cases h2:yP d v p m l k i n ls=0
  ·rw[if_neg (by simp[h2])] at h;have hk:=aL0 v p m l ks k d 0 hl.2.2 aB h;simp only[Tm.wf,rP]
   have h8:¬8<ls.length:=by
    intro h8;unfold yP at h2;split at h2
    ·exact absurd h2 aD
    ·exact absurd h2 aD
   have h0:k=0->¬(i<0\/v<=i-d):=by
    intro hk0 hc;unfold yP at h2;rw[if_neg aB,if_neg h8] at h2;split at h2
    ·contradiction
    ·rw[if_pos ⟨hk0,hc⟩] at h2;exact absurd h2 aD
   simp only[nE,yN] at h1;have hkz:yS k<=3:=by unfold yS;split;omega;split;omega;split<;>omega
   simp only[Bool.not_eq_false,aZ7,aZz,bAm,bne_eq_false_iff_eq,bAo] at h1;obtain⟨⟨⟨⟨_,hks⟩,_⟩,hn⟩,hls⟩:=h1;refine⟨⟨fun hk0=>?_,by omega,hl.2.1,by omega,?_⟩,hk⟩
   ·subst hk0;have h0:=h0 rfl;simp[yS] at hks;simp at hn hls;exact⟨by omega,by omega,hn,hls,by rw[hks];rfl⟩
   ·unfold pA;refine⟨fun e=>?_,fun e=>?_,fun e=>?_,fun e=>?_,fun e=>?_⟩<;>subst e<;>simp[yS] at hks<;>omega
  ·rw[if_pos h2] at h;exact absurd h h2
theorem aL0 (v p m l:Int):∀(ks:List Tm)(k d:Int)(idx:Nat),Tm.lvss ks->v+d+Tm.depths ks+1<=65536->aT (yA v p m l k d idx ks)=0->Tm.wfs ks
 |[],_,_,_,_,_,_=>trivial
 |t::ts,k,d,idx,hl,hd,h=>by
  simp only[Tm.lvss] at hl;simp only[Tm.depths] at hd;simp only[yA] at h;have h:=tI h;simp only[Tm.wfs];have hb:=cE k idx;exact⟨aRv v p m l t (d+aO k idx) hl.1 aB h.1,aL0 v p m l ts k d (idx+1) hl.2 aB h.2⟩
end
theorem aAw {v p m l:Int} {t:Tm} (h:eQ v p m l t=0):chk (if v<0 then 0 else v) p m l 0 t=0/\t.size<=4096/\t.depth<=200:=by
 unfold eQ at h;generalize chk (if v<0 then 0 else v) p m l 0 t=e at h⊢
 by_cases he:e=0
 ·rw[if_neg (by simpa using he)] at h
  by_cases h1:4096<(t.size:Int)
  ·rw[if_pos h1] at h;cases h
  ·rw[if_neg h1] at h
   by_cases h2:200<(t.depth:Int)
   ·rw[if_pos h2] at h;cases h
   ·exact⟨he,by omega,by omega⟩
 ·rw[if_pos he] at h;exact absurd h he
theorem aAv {v p m l:Int} {t:Tm} (hl:t.lvs)(hv:v<=65000)(h:eQ v p m l t=0):t.at_:=by
 obtain⟨h1,h2,h3⟩:=aAw h;exact⟨aRv _ p m l t 0 hl (by split<;>omega) h1,h2⟩
theorem aC6 {env:List Dc} {own:List (List UInt8)} {d:Dc} {t:Tm} {v p:Int} (h:bS env own d t v p=0):eQ v p 0 0 t=0:=by
 unfold bS at h
 by_cases hc:eQ v p 0 0 t=0
 ·exact hc
 ·rw[if_neg hc] at h;exact absurd h hc
theorem uB {env:List Dc} {own:List (List UInt8)} {d:Dc} {t:Tm} {v p:Int} (hl:t.lvs)(hv:v<=65000)(h:bS env own d t v p=0):t.at_:=aAv hl hv (aC6 h)
theorem tQ:∀(N:Nat)(t:Tm),t.size<=N->dI t<=t.depth
 |0,t,h=>by have:=t.size_pos;omega
 |N+1, .mk k i n ls ks,h=>by
  match ks,h with
  |[],_=>simp[dI]
  |[_],_=>simp[dI]
  |[a,b],h=>
   simp only[dI];split
   ·simp only[Tm.size,Tm.sizes] at h;have:=tQ N b aB;simp only[Tm.depth,Tm.depths];omega
   ·omega
  |_::_::_::_,_=>simp[dI]
theorem aL9 {env:List Dc} (hf:aP env) {i:Nat} {d:Dc} (hi:env[i]?=some d):gH d=0/\lI (env.take i) d=0:=by
 have h0:=hf.2 i d hi;unfold oC at h0;split at h0
 ·simp at h0
 split at h0
 ·simp at h0
 split at h0
 ·exact y6g
 rename_i hc;split at h0
 ·exact y6g
 exact⟨by simpa using hc,h0⟩
theorem aPc {env:List Dc} (hf:aP env) {i:Nat} {d:Dc} (hi:env[i]?=some d)(hk:d.k=3):∀c∈d.cs,c.ty.depth<=200:=by
 have h0:=(aL9 hf hi).2;unfold lI at h0;split at h0
 ·rename_i hc;exact absurd h0 hc.2
 split at h0
 ·rename_i hc;omega
 try rw[if_pos hk] at h0
 split at h0
 ·exact y6g
 rename_i h1;have h1:aT (d.cs.map fun c=>bS (env.take i) [d.nm] d c.ty 0 d.ps)=0:=by simpa using h1
 intro c hcm;exact(aAw (aC6 (iB h1 _ (aZq.2 ⟨c,hcm,rfl⟩)))).2.2
theorem aTg {env:List Dc} (hf:aP env) {i:Nat} {d:Dc} (hi:env[i]?=some d)(hk:d.k=3)(j:Nat):0<=oH d j/\oH d j<=200:=by
 refine⟨yM d j,?_⟩;unfold oH;split
 ·rename_i c hc;have h6:=tQ _ c.ty (aYw _);rw[<-lY] at h6;have h7:=aPc hf hi hk c (aZ9 hc);have hok:=yH hf.2 hi;have h8:=hok.fx0;have hb:=hok.fix hk;simp only[aIn,aZ7,aZh,aZf] at hb;have h9:=hb.2 c (aZ9 hc);rw[<-lY] at h9;unfold aOp;split
  ·rw[aQ aB aB];omega
  ·omega
 ·omega
theorem aVl {env:List Dc} {s:List UInt8} {e:En} (hz:dH s env 0=some e)(h4:e.k=4):∃(i:Nat)(d:Dc),env[i]?=some d/\d.k=3/\e.at_=i:=by
 obtain⟨i,d,h1,h2,h3⟩:=oF hz;refine⟨i,d,h1,?_⟩;unfold rL at h3;split at h3
 ·rename_i hk;rw[h3] at h4;simp only at h4;omega
 split at h3
 ·rename_i hk;refine⟨hk,?_⟩;split at h3
  ·rw[h3] at h4;simp at h4
  ·cases hc:nU d ((0+i:Nat):Int) s d.cs 0 with
   |none=>rw[hc] at h3;simp only[bBu] at h3;rw[h3] at h4;simp at h4
   |some e'=>
    rw[hc] at h3;simp only[aZb] at h3;obtain⟨j,cc,g1,g2,g3⟩:=tA _ _ _ _ _ _ hc;subst h3;subst g3;simp
 ·cases hc:nV d ((0+i:Nat):Int) s d.fs 0 with
  |none=>rw[hc] at h3;simp only[bBu] at h3;rw[h3] at h4;simp at h4
  |some e'=>
   exact y90
section
variable {env:List Dc} (hf:aP env) (i:Nat) (own:List (List UInt8)) (d:Dc)
include hf
mutual
theorem aSe:∀(t:Tr)(vars:Int)(n:Nat),t.good->n<=200->0<=vars->vars<=20+(200-n)*200->vE (env.take i) own d t vars (200-n:Int)=0->TrA n t
 | .mk k b v bs,vars,n,hg,hn,hv0,hv,h=>by
  simp only[vE] at h;simp only[Tr.good] at hg;simp only[TrA]
  by_cases hd:(200:Int)<=200-n
  ·rw[if_pos hd] at h;cases h
  rw[if_neg hd] at h
  by_cases h0:k=0
  ·rw[if_pos h0] at h
   by_cases hb:v≠0\/0<(bs.length:Int)
   ·rw[if_pos hb] at h;cases h
   rw[if_neg hb] at h;exact⟨fun _=>uB hg.1.2.2 aB h,by omega,fun e=>by omega⟩
  rw[if_neg h0] at h
  by_cases h1:k=1
  ·rw[if_pos h1] at h
   by_cases ha:fQ b zT=false
   ·rw[if_pos ha] at h;cases h
   rw[if_neg ha] at h
   by_cases hb:v<0\/vars<=v
   ·rw[if_pos hb] at h;cases h
   rw[if_neg hb] at h
   by_cases hc:32<(bs.length:Int)
   ·rw[if_pos hc] at h;cases h
   rw[if_neg hc] at h;refine⟨fun e=>absurd h1 e,by omega,fun _=>⟨by omega,?_⟩⟩;exact aVd bs vars n aB hg.2.2 hn hv0 hv h
  ·rw[if_neg h1] at h;cases h
theorem aVd:∀(bs:List Br)(vars:Int)(n:Nat),0<n->Br.goods bs->n<=200->0<=vars->vars<=20+(200-n)*200->aT (brL (env.take i) own d bs vars (200-n:Int))=0->aK8 (n-1) bs
 |[],_,_,_,_,_,_,_,_=>trivial
 | .mk c a t::bs,vars,n,hp,hg,hn,hv0,hv,h=>by
  simp only[brL] at h;obtain⟨h1,h2⟩:=tI h;simp only[Br.goods,Br.good] at hg;simp only[aK8];refine⟨fun ha=>?_,aVd bs vars n hp hg.2 hn hv0 hv h2⟩;simp only[brE] at h1
  cases hz:dH c (env.take i) 0 with
  |none=>rw[hz] at h1;cases h1
  |some x=>
   rw[hz] at h1;simp only at h1
   by_cases h4:x.k=4
   rotate_left
   ·rw[if_neg h4] at h1;cases h1
   rw[if_pos h4,if_neg (by rw[ha];decide)] at h1;obtain⟨i',d',e1,e2,e3⟩:=aVl hz h4
   have e4:env[i']?=some d':=by
    rw[bB1] at e1;split at e1
    ·exact e1
    ·cases e1
   have hfl:0<=aRy (env.take i) x/\aRy (env.take i) x<=200:=by
    unfold aRy;rw[e3,aZj,e1];exact aTg hf e4 e2 _
   rw[aQ aB aB,aQ aB aB] at h1;refine aSe t (vars+aRy (env.take i) x) (n-1) hg.1 aB aB ?_ ?_
   ·have:((n-1:Nat):Int)=n-1:=aB;rw[this];omega
   ·have:((200:Int)-(n-1:Nat))=200-n+1:=aB;rw[this];exact h1
end
end
theorem kS {env:List Dc} (hg:Env.good env)(hf:aP env):EnvA env:=by
 refine⟨fun d hd hk=>?_,fun d hd hk r hr=>?_,fun d hd hk c hc=>?_,fun d hd hk=>?_,fun d hd hk f hfm=>?_⟩
 all_goals
  obtain⟨i,hi⟩:=bAl hd;obtain⟨hcz,htz⟩:=aL9 hf hi;have hdg:=hg.2 d hd
 ·unfold lI at htz;split at htz
  ·rename_i hc;exact absurd htz hc.2
  rw[if_pos (.inl hk)] at htz;exact uB hdg.va.2.2 aB htz
 ·unfold lI at htz;split at htz
  ·rename_i hc;exact absurd htz hc.2
  rw[if_neg aB] at htz;try rw[if_pos hk] at htz
  split at htz
  ·rename_i hc;exact absurd htz hc
  split at htz
  ·rename_i hc;exact absurd htz hc
  exact uB (hdg.rr r hr).2.2 aB (iB htz _ (aZq.2 ⟨r,hr,rfl⟩))
 ·exact(aLg hf hi hk).2 c hc
 ·have hok:=yH hf.2 hi;have hb:=hok.fix hk;simp only[aIn,aZ7,aZh,aZf] at hb;have h2:=oK d.ty.size d.ty (aYw _);have h3:=hdg.ty.1;exact⟨hok.fx0,by omega⟩
 ·have har:f.ar<=16/\1<=f.ar:=by
   unfold gH at hcz;split at hcz
   ·simp at hcz
   split at hcz
   ·simp at hcz
   split at hcz
   ·simp at hcz
   rename_i h3
   have h3:arB f=false:=by
    cases h:arB f with
    |false=>rfl
    |true=>exact absurd (bBj.2 ⟨f,hfm,h⟩) h3
   simp only[arB,bAm,bAo] at h3;omega
  refine⟨by omega,by omega,?_⟩;unfold lI at htz;rw[if_neg aB,if_neg aB,if_neg aB,if_pos hk] at htz;split at htz
  ·rename_i hc;exact absurd htz hc
  have h1:=iB htz _ (aZq.2 ⟨f,hfm,rfl⟩);exact aSe hf i (bE d) d f.tr f.ar 200 (hdg.fs f hfm).2 aB aB aB (by simpa using h1)
end Go.Proofs.YtcfcolkbeelegaaGreat
namespace Go.Proofs.YtcfcolkbeelegaaGreat
open Go Go.AI
section
variable {env:List Dc} (hg:Env.good env) (hf:aP env)
include hg hf
theorem aOe {t:Tm} (ht:Gin t)(h:Heap)(hh:WF h):AC 173 [bW env,t.av] h (.tup [(gM env t).1.av,iA (gM env t).2]):=by
 have hA:=kS hg hf;obtain⟨n,hne,hc|hc⟩:=aHw env t
 ·obtain⟨m,s,e1,e2⟩:=hc;rw[e2];refine vJ env t m s (fun H q hw hq=>?_) h hh;exact y7o
 ·obtain⟨s,e1,e2⟩:=hc;rw[e2];refine aFo env t s (fun H q hw hq=>?_) h hh;exact y7o
theorem vK {t:Tm} (ht:Gin t)(h:(gM env t).2=0):Gout (gM env t).1:=by
 have hA:=kS hg hf;obtain⟨n,hne,hc|hc⟩:=aHw env t
 ·obtain⟨m,s,e1,e2⟩:=hc;have:=lK hg hf hA n t 20000 ht aD;rw[e1] at this;rw[e2];exact this.1
 ·obtain⟨s,e1,e2⟩:=hc;rw[e2] at h;simp at h
end
def aVt (l:List Tm):Prop:=∀t∈l,eQ 60000 8 65536 65536 t=0
theorem aVu {l:List Tm} (hl:Tm.lvss l)(h:aVt l):∀t∈l,t.at_:=fun t ht=>aAv (Tm.lvss_at hl t ht) aB (h t ht)
theorem aIr (h:Heap)(hh:WF h)(l:List Tm)(hl:l.length<=1048576)(hg:∀t∈l,t.good):ACalls Tryz.prog 121 [.p (.sl 5 (aL l)), .p (.prim (.func (.func 66) #[] #[]))] h fun o h'=>aWz (fun r=>r<0->aVt l) o/\h'=h:=by
 refine cW Tryz.func121 Tryz.ntmps121 ?_;refine Run.loopS [0,1,7] (fun j:Nat=>j<=l.length/\aVt (l.take j)) (fun j=>l.length-j) (fun j=>[(8,iA j)]) (fun _=>_) 0 ⟨by simp,by intro t ht;simp at ht⟩ ?_ rfl ?_
 ·exact zS
 rintro j ⟨hj,hlo⟩ IH;refine cI ?_
 by_cases hjl:j<l.length
 ·have hge:l[j]?=some l[j]:=aYu hjl;have c1:=fun g hw=>aH2 g hw _ (hg _ (aYx hjl))
  have htk:l.take (j+1)=l.take j++[l[j]]:=aZ5 hjl;obtain⟨b,hb⟩:∃b,(eQ 60000 8 65536 65536 l[j] !=0)=b:=⟨_,rfl⟩;rw[hb] at c1;generalize l[j]=t at hge c1 htk hb;obtain⟨k,i,n,ls,ks⟩:=t;simp only[Tm.av,aH,List.map] at c1;refine qL hjl hge ?_;refine zL (c1 _ hh) ?_
  cases b with
  |false=>
   refine rJ ?_;refine IH (j+1) _ _ ⟨by omega,?_⟩ aB ?_ rfl
   ·rw[htk];intro x hx;rcases aZn.1 hx with hx|hx
    ·exact hlo x hx
    ·simp at hx;subst hx;simpa using hb
   ·exact zS
  |true=>
   refine zot ?_;refine zA ?_;refine zF3 hh ?_;exact⟨⟨_,rfl,fun h=>by omega⟩,rfl⟩
 ·have hje:j=l.length:=aB;subst hje;rw[aZl] at hlo;refine dP ?_;refine zA ?_;refine zF3 hh ?_;exact⟨⟨_,rfl,fun _=>hlo⟩,rfl⟩
theorem yG (h:Heap)(hh:WF h)(l:List Tm)(hl:l.length<=1048576)(hg:∀t∈l,t.good):ACalls Tryz.prog 65 [.p (.sl 5 (aL l)), .p (.prim (.func (.func 66) #[] #[]))] h fun o h'=>aK9 (fun b=>b=false->aVt l) o/\h'=h:=by
 refine cW Tryz.func65 Tryz.ntmps65 ?_;refine zB (aIr _ hh l hl hg) fun e he=>?_
 refine zox ?_;refine zF4 hh ?_;exact⟨⟨_,rfl,fun h=>he (by simpa using h)⟩,rfl⟩
set_option maxHeartbeats 8000000 in
theorem aCt (h:Heap)(hh:WF h)(env:List Dc)(l:List Tm)(hg:Env.good env)(hsz:Tm.sizes l<=1048576)(hlv:Tm.lvss l)(hf:Tm.fits l)(hgl:∀t∈l,t.good):
  ACalls Tryz.prog 20 [bW env, .p (.sl 5 (aL l))] h fun o h'=>aK9 (fun b=>b=true->aP env/\aBp l=true/\aVt l) o/\h'=h:=by
 have hll:=aR l;have c1:=fun g hw=>oM (Tm.sizes l) l 60 g (aYw _) aB aB aB hw
 have c2:=fun g hw=>aGz g hw l aB hlv hf
 have c3:=fun g hw=>tK g hw env hg
 have c4:=fun g hw=>yG g hw l aB hgl
 generalize aBp l=gb at c2⊢;generalize nd 60 0 l=n at c1;refine cW Tryz.func20 Tryz.ntmps20 ?_;refine zL (c1 _ hh) ?_
 by_cases e1:n<=60
 rotate_left
 ·refine zo1 e1 ?_;refine zx ?_;exact y37
 refine zo1 e1 ?_;refine zL (c2 _ hh) ?_
 cases gb with
 |false=>
  refine zox ?_;exact y37
 |true=>
 refine zo ?_;refine zB (c3 _ hh) fun b hb=>?_
 cases b with
 |false=>
  refine zox ?_;exact y37
 |true=>
  have he:=hb rfl;refine zo ?_;refine zB (c4 _ hh) fun b hb=>?_
  refine zox ?_;refine zF4 hh ?_;exact⟨⟨_,rfl,fun h=>⟨he,rfl,hb (by simpa using h)⟩⟩,rfl⟩
end Go.Proofs.YtcfcolkbeelegaaGreat
