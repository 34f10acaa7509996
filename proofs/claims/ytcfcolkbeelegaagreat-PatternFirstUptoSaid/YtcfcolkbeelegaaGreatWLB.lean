import Derived.Test.YtcfcolkbeelegaaGreatWA0
import Derived.Test.YtcfcolkbeelegaaGreatWPC
import Derived.Test.YtcfcolkbeelegaaGreatWX2
import Derived.Test.YtcfcolkbeelegaaGreatWA
set_option maxRecDepth 8000
set_option maxHeartbeats 16000000
namespace Go.Proofs.YtcfcolkbeelegaaGreat
open Go Go.AI
mutual
def aUe (c:Int):Pt->Bool
 | .mk k _ qs=>(k==c)||vL c qs
def vL (c:Int):List Pt->Bool
 |[]=>false
 |p::ps=>aUe c p||vL c ps
end
theorem aLb (c:Int)(l:List Pt):vL c l=l.any (aUe c):=by
 induction l with
 |nil=>rfl
 |cons p l ih=>simp[vL,ih]
theorem aOk {α:Type} {P:α->Bool} {l:List α} {j:Nat} {x:α} (h:l[j]?=some x)(h0:(l.take j).any P=false)(hx:P x=false):(l.take (j+1)).any P=false:=by
 have e:l.take (j+1)=l.take j++[x]:=by rw[aZx,h];rfl
 rw[e,List.any_append,h0];simp[hx]
theorem aSc {α:Type} {P:α->Bool} {l:List α} {j:Nat} {x:α} (h:l[j]?=some x)(hx:P x=true):l.any P=true:=
 bB0.2 ⟨x,aYq h,hx⟩
theorem aLd (cap:List AV)(P:Pt->Bool)(h:Heap)(hh:WF h)(l:List Pt)(hb:l.length<=1048576)(hc:∀p∈l,ACalls Tryz.prog 128 ([p.av]++cap) h fun o h'=>o= .ret (bA (P p))/\h'=h):
  ACalls Tryz.prog 177 [.p (.sl 3 (bX l)), .fn (.func 128) [] cap] h fun o h'=>∃r:Int,o= .ret (iA r)/\h'=h/\decide (0<=r)=l.any P:=by
 refine cR Tryz.func177 Tryz.ntmps177 ?_;refine Run.loopS [0,1,7] (fun j:Nat=>j<=l.length/\(l.take j).any P=false) (fun j=>l.length-j) (fun j=>[(8,iA j)]) (fun _=>h) 0 aA ?_ rfl ?_
 ·exact zS
 ·rintro j ⟨hj,hall⟩ IH;refine cC ?_
  by_cases hjl:j<l.length
  ·have hg':l[j]?=some l[j]:=aYb hjl;have hcu:=hc _ (aYe hjl);generalize l[j]=u at hg' hcu;refine qE hjl hg' ?_;refine Run.call (args:=[u.av]++cap) rfl rfl aA rfl hcu ?_ ?_
   ·rintro v h' ⟨hv,hh'⟩;subst hh';simp only[AOut.ret.injEq] at hv;subst hv;refine zo ?_
    by_cases h1:P u=true
    ·refine dD h1 ?_;refine zA ?_;refine zF3 hh ?_;exact⟨j,rfl,rfl,by rw[aSc hg' h1];simp⟩
    ·have h1:P u=false:=by simpa using h1
     refine dI h1 ?_;refine IH (j+1) _ _ ⟨by omega,aOk hg' hall h1⟩ aB ?_ rfl;exact zS
   ·rintro v h' ⟨hv,_⟩;cases hv
  ·have hje:j=l.length:=aB;subst hje;rw[aZ2] at hall;refine dJ ?_;refine zA ?_;refine zF3 hh ?_;exact⟨-1,rfl,rfl,by rw[hall];rfl⟩
theorem aK3 (cap:List AV)(P:Pt->Bool)(h:Heap)(hh:WF h)(l:List Pt)(hb:l.length<=1048576)(hc:∀p∈l,ACalls Tryz.prog 128 ([p.av]++cap) h fun o h'=>o= .ret (bA (P p))/\h'=h):
  AC 127 [.p (.sl 3 (bX l)), .fn (.func 128) [] cap] h (bA (l.any P)):=by
 have hi:=aLd cap P h hh l hb hc;generalize l.any P=r0 at hi⊢;refine cR Tryz.func127 Tryz.ntmps127 ?_;refine Run.call rfl rfl aA rfl hi ?_ ?_
 ·rintro v h' ⟨r,hv,hh',hr⟩;subst hh';exact y3k
 ·rintro v h' ⟨r,hv,_⟩;cases hv
theorem yV (c:Int)(N:Nat):∀(l:List Pt),Pt.sizes l<=N->Pt.sizes l<=1048576->∀h,WF h->AC 74 [.p (.sl 3 (bX l)),iA c] h (bA (vL c l)):=by
 have key:∀l:List Pt,Pt.sizes l<=1048576->(∀p∈l,∀g,WF g->AC 74 [.p (.sl 3 (bX p.args)),iA c] g (bA (vL c p.args)))->
   ∀h,WF h->AC 74 [.p (.sl 3 (bX l)),iA c] h (bA (vL c l)):=by
  intro l hB ih h hh;have hll:=Pt.length_le l
  have hc:∀p∈l,∀(g:Heap) (q:Nat),WF g->g[q]?=some (some (.cells [iA c]))->ACalls Tryz.prog 128 ([p.av]++[.ptr q 0]) g fun o h'=>o= .ret (bA (aUe c p))/\h'=g:=by
   intro p hp g q hg hq;obtain⟨p1,_⟩:=idf hq;have c1:=fun g hw=>ih p hp g hw
   obtain⟨k,n,qs⟩:=p;simp only[Pt.args] at c1;simp only[aUe];generalize vL c qs=b at c1⊢;simp only[Pt.av,bC,List.map,aYf,aYk];refine zER Tryz.func128 Tryz.ntmps128 ?_
   cases hk:(k==c) with
   |true=>
    refine rW p1 hk ?_;refine zx ?_;exact y8b
   |false=>
    refine rW p1 hk ?_;refine zL (c1 _ (hg.app aA)) ?_;refine zox ?_;exact y8b
  have c2:=fun(g:Heap) (q:Nat) (hw:WF g) (hq:g[q]?=some (some (.cells [iA c])))=>aK3 [.ptr q 0] (aUe c) g hw l aB fun p hp=>hc p hp g q hw hq
  rw[aLb];generalize l.any (aUe c)=b at c2⊢;refine cR Tryz.func74 Tryz.ntmps74 ?_;refine zL (c2 _ h.length (hh.app aA) aA) ?_;refine zox ?_;exact y2t
 induction N with
 |zero=>
  intro l hN hB h hh;exact y97
 |succ N ih=>
  intro l hN hB h hh;exact y6q
mutual
def aRe:Pt->Nat
 | .mk k _ qs=>(if k=0 then 1 else 0)+fI qs
def fI:List Pt->Nat
 |[]=>0
 |p::ps=>aRe p+fI ps
end
mutual
theorem aSt:∀p:Pt,aRe p<=p.size
 | .mk k n qs=>by
  have:=xV qs;simp only[aRe,Pt.size];split<;>omega
theorem xV:∀l:List Pt,fI l<=Pt.sizes l
 |[]=>aYd _
 |p::ps=>by
  have:=aSt p;have:=xV ps;simp only[fI,Pt.sizes];omega
end
theorem aHy (l:List Pt)(p:Pt):fI (l++[p])=fI l+aRe p:=by
 induction l with
 |nil=>simp[fI]
 |cons x l ih=>simp only[aYf,fI,ih];omega
theorem aHz (l:List Pt)(j:Nat):fI (l.take j)<=fI l:=by
 induction l generalizing j with
 |nil=>simp
 |cons x l ih=>
  cases j with
  |zero=>simp[fI]
  |succ j=>simp only[aZb,fI];have:=ih j;omega
theorem aOq {l:List Pt} {j:Nat} {p:Pt} (h:l[j]?=some p):fI (l.take (j+1))=fI (l.take j)+aRe p:=by
 have e:l.take (j+1)=l.take j++[p]:=by rw[aZx,h];rfl
 rw[e,aHy]
theorem aKm (N:Nat):∀(l:List Pt),Pt.sizes l<=N->Pt.sizes l<=1048576->∀h,WF h->AC 80 [.p (.sl 3 (bX l))] h (iA (fI l)):=by
 have key:∀l:List Pt,Pt.sizes l<=1048576->(∀p∈l,∀g,WF g->AC 80 [.p (.sl 3 (bX p.args))] g (iA (fI p.args)))->
   ∀h,WF h->AC 80 [.p (.sl 3 (bX l))] h (iA (fI l)):=by
  intro l hB ih h hh;have hll:=Pt.length_le l;have hcl:=xV l;refine zE Tryz.func80 Tryz.ntmps80 ?_;refine iK ?_;refine Run.loopS [0] (fun j:Nat=>j<=l.length) (fun j=>l.length-j) (fun j=>[(3,iA (fI (l.take j))),(4,iA j)]) (fun _=>h) 0 aA ?_ rfl ?_
  ·simp[fI];exact zK
  rintro j hj IH;refine cC ?_
  by_cases hjl:j<l.length
  ·have hg:l[j]?=some l[j]:=aYb hjl;have hcj:=ih _ (aYe hjl);have hat:=aOq hg;have hle:=aHz l (j+1);generalize l[j]=p at hg hcj hat;obtain⟨k,n,qs⟩:=p;simp only[Pt.args] at hcj;simp only[aRe] at hat;generalize fI qs=b at hcj hat;obtain⟨z,hz⟩:∃z:Nat,fI (l.take j)=z:=⟨_,rfl⟩;rw[hz] at hat;refine dD hjl ?_;refine aS4 hg ?_;obtain⟨z2,hz2⟩:∃z2:Nat,(if k=0 then z+1 else z)=z2:=⟨_,rfl⟩;have hz3:fI (l.take (j+1))=z2+b:=by rw[hat,<-hz2];split<;>omega
   have w1:IntKind.i64.wrap ((z2:Int)+(b:Int))=((z2+b:Nat):Int):=by rw[aP aB aB];omega
   refine Run.joinH [0,4] [(3,iA z2)] h (fun hJ=>?_) ?_
   ·by_cases hk:k=0
    ·rw[if_pos hk] at hz2;have w0:IntKind.i64.wrap ((z:Int)+1)=(z2:Int):=by rw[aP aB aB];omega
     refine zt1 hk ?_;refine zq2 hz w0 ?_;exact y3f
    ·rw[if_neg hk] at hz2;refine cf (by simp[hk]) ?_;refine y2o ?_;simp[hz,hz2];exact zK
   refine y7 ?_;refine zsn ?_;refine aS4 hg ?_;refine zL (hcj _ hh) ?_;refine zo1 w1 ?_;refine zr ?_;refine IH (j+1) _ _ aB aB ?_ rfl;simp[hz3];exact zK
  ·have hje:j=l.length:=aB;subst hje;rw[aZ2];refine cQ ?_;exact y39
 induction N with
 |zero=>
  intro l hN hB h hh;exact y97
 |succ N ih=>
  intro l hN hB h hh;exact y6q
theorem aN1 (h:Heap)(hh:WF h)(c:Cl)(hB:Pt.sizes c.ps<=1048576):AC 28 [c.av] h (iA (fI c.ps)):=by
 have c1:=fun g hw=>aKm _ c.ps (aYd _) hB g hw
 obtain⟨ps,⟨k,i,n,ls,ks⟩⟩:=c;simp only at c1;simp only[Cl.av,Cl.cells,aG,List.map];refine cR Tryz.func28 Tryz.ntmps28 ?_;refine zL (c1 _ (hh.app aA)) ?_;refine zox ?_;exact y2t
open Go Go.AI
structure Vx where
 v:Int
 w:List Int
 n:List UInt8
mutual
def pA (i:Nat):Pt->Pt->Vx
 | .mk k n qs,v=>if k=1 then(if v.kind=1 then(if v.name=n then⟨(bI 0 qs v.args).v,i::(bI 0 qs v.args).w,(bI 0 qs v.args).n⟩ else⟨1,[],[]⟩) else⟨2,[i],n⟩) else⟨0,[],[]⟩
def bI (i:Nat):List Pt->List Pt->Vx
 |[],_=>⟨0,[],[]⟩
 |_::_,[]=>⟨0,[],[]⟩
 |p::ps,v::vs=>if(pA i p v).v=0 then bI (i+1) ps vs else pA i p v
end
theorem aG8:∀(l vs:List Pt)(i j:Nat)(p v:Pt),(bI i (l.take j) (vs.take j)).v=0->l[j]?=some p->vs[j]?=some v->(pA (i+j) p v).v≠0->bI i l vs=pA (i+j) p v
 |[],_,_,j,_,_,_,h,_,_=>by simp at h
 |_::_,[],_,j,_,_,_,_,h,_=>by simp at h
 |x::l,y::vs,i,0,p,v,_,h1,h2,he=>by
  simp at h1 h2;subst h1 h2;simp only[bI,bAn] at he⊢;rw[if_neg he]
 |x::l,y::vs,i,j+1,p,v,h0,h1,h2,he=>by
  simp only[aZb,bI] at h0⊢
  by_cases c:(pA i x y).v=0
  ·rw[if_pos c] at h0⊢;have:=aG8 l vs (i+1) j p v h0 (by simpa using h1) (by simpa using h2) (by rw[show i+1+j=i+(j+1) by omega];exact he);rw[this,show i+1+j=i+(j+1) by omega]
  ·rw[if_neg c] at h0;exact absurd h0 c
theorem vT:∀(l vs:List Pt)(i j:Nat)(p v:Pt),(bI i (l.take j) (vs.take j)).v=0->l[j]?=some p->vs[j]?=some v->(pA (i+j) p v).v=0->(bI i (l.take (j+1)) (vs.take (j+1))).v=0
 |[],_,_,j,_,_,_,h,_,_=>by simp at h
 |_::_,[],_,j,_,_,_,_,h,_=>by simp at h
 |x::l,y::vs,i,0,p,v,_,h1,h2,he=>by
  simp at h1 h2;subst h1 h2;simp only[bAn] at he;simp[bI,he]
 |x::l,y::vs,i,j+1,p,v,h0,h1,h2,he=>by
  simp only[aZb,bI] at h0⊢
  by_cases c:(pA i x y).v=0
  ·rw[if_pos c] at h0⊢;exact vT l vs (i+1) j p v h0 (by simpa using h1) (by simpa using h2) (by rw[show i+1+j=i+(j+1) by omega];exact he)
  ·rw[if_neg c] at h0;exact absurd h0 c
abbrev vxA (x:Vx):AV:= .tup [iA x.v, .p (.sl 1 (rD x.w)), .p (sP x.n)]
def Fit (env:List Dc)(l vs:List Pt):Prop:=l.length=vs.length/\cU env l=0/\cU env vs=0
theorem eQ {env:List Dc} {l:List Pt} (h:cU env l=0):∀p∈l,kG env p=0:=by
 induction l with
 |nil=>intro p hp;cases hp
 |cons x l ih=>
  simp only[cU] at h
  by_cases c:kG env x=0
  ·rw[if_pos c] at h;intro p hp;rcases aYx.1 hp with rfl|hp
   ·exact c
   ·exact ih h p hp
  ·rw[if_neg c] at h;exact absurd h c
theorem xU {env:List Dc} {l:List Pt} (h:∀p∈l,kG env p=0):cU env l=0:=by
 induction l with
 |nil=>rfl
 |cons x l ih=>
  simp only[cU];rw[if_pos (h x aA)];exact ih fun p hp=>h p (by simp[hp])
theorem fH {env:List Dc} {n:List UInt8} {qs:List Pt} (h:kG env (.mk 1 n qs)=0):(aN env n).2.2=true/\(qs.length:Int)=(aN env n).2.1/\cU env qs=0:=by
 have e:kG env (.mk 1 n qs)=if(aN env n).2.2=false then 9 else if(qs.length:Int)=(aN env n).2.1 then cU env qs else 6:=by
  rw[kG,if_neg aB,if_pos rfl]
 rw[e] at h
 by_cases c:(aN env n).2.2=false
 ·rw[if_pos c] at h;exact absurd h aD
 ·rw[if_neg c] at h
  by_cases c2:(qs.length:Int)=(aN env n).2.1
  ·rw[if_pos c2] at h;exact⟨by simpa using c,c2,h⟩
  ·rw[if_neg c2] at h;exact absurd h aD
theorem Fit.inner {env:List Dc} {n:List UInt8} {qs ws:List Pt} (h1:kG env (.mk 1 n qs)=0)(h2:kG env (.mk 1 n ws)=0):Fit env qs ws:=by
 obtain⟨_,a,b⟩:=fH h1;obtain⟨_,c,d⟩:=fH h2;exact⟨by omega,b,d⟩
theorem aRi {env:List Dc} (hf:aQ env)(hg:Env.good env)(n:List UInt8):(aN env n).2.1<=1048576:=by
 unfold aN;rcases fD hf n with e|⟨d,a,e,hm,hk,hd,hj⟩
 ·rw[e];simp
 ·rw[e]
  by_cases c:0<=a
  ·rcases hj with hj|⟨j,rfl,hj⟩
   ·omega
   simp only[c,and_self,if_true,aZ0];have hgj:d.cs[j]?=some d.cs[j]:=aYb hj;have hgd:=(hg.2 d hm).cs _ (aYe hj);have hl:=(aMm d.cs[j].ty hgd.2.2).2.2.2;have hsz:=hgd.1;have hx0:=hd.fx0;have hty:=(hg.2 d hm).ty
   have hfx:d.fx<=1048576:=by
    have h1:=hd.fix hk;have hle:=oA d.ty.size d.ty (aYd _);have:=hty.1;simp only[aJt,aYo,aYy] at h1;omega
   unfold rC;rw[hgj];simp only[aP6];rw[aP aB aB];split<;>omega
  ·simp[c]
theorem aHx (i:Nat)(l vs:List Pt)(h:l.length=vs.length):bI i (l.take l.length) (vs.take l.length)=bI i l vs:=by
 rw[aZ2,h,aZ2]
mutual
theorem aUz:∀(i:Nat)(p v:Pt),(pA i p v).v=0->pA i p v=⟨0,(pA i p v).w,(pA i p v).n⟩
 |i,p,v,h=>by cases hc:pA i p v;rw[hc] at h;simp at h;simp[h]
theorem vU {i:Nat} :∀ {l vs:List Pt},(bI i l vs).v=0->bI i l vs=⟨0,[],[]⟩
 |[],vs,_=>by simp[bI]
 |p::ps,[],_=>by simp[bI]
 |p::ps,v::vs,h=>by
  simp only[bI] at h⊢
  by_cases c:(pA i p v).v=0
  ·rw[if_pos c] at h⊢;exact vU h
  ·rw[if_neg c] at h;exact absurd h c
end
mutual
theorem aOp:∀(i:Nat)(p v:Pt),(pA i p v).w.length<=p.size
 |i, .mk k n qs,v=>by
  have:=sH 0 qs v.args;simp only[pA,Pt.size];split
  ·split
   ·split
    ·simp only[aYi];omega
    ·simp
   ·simp
  ·simp
theorem sH:∀(i:Nat)(l vs:List Pt),(bI i l vs).w.length<=Pt.sizes l
 |i,[],vs=>by simp[bI]
 |i,p::ps,[]=>by simp[bI]
 |i,p::ps,v::vs=>by
  have:=aOp i p v;have:=sH (i+1) ps vs;simp only[bI,Pt.sizes];split<;>omega
end
theorem aBy (env:List Dc)(_hfl:∀n,(aN env n).2.1<=1048576)(N:Nat):∀(l vs:List Pt),Pt.sizes l<=N->Pt.sizes l<=1048576->Fit env l vs->∀h,WF h->
  AC 130 [.p (.sl 3 (bX l)), .p (.sl 3 (bX vs))] h (vxA (bI 0 l vs)):=by
 have key:∀(l vs:List Pt),Pt.sizes l<=1048576->Fit env l vs->(∀n qs ws,Pt.mk 1 n qs∈l->Fit env qs ws->∀g,WF g->AC 130 [.p (.sl 3 (bX qs)), .p (.sl 3 (bX ws))] g (vxA (bI 0 qs ws)))->
   ∀h,WF h->AC 130 [.p (.sl 3 (bX l)), .p (.sl 3 (bX vs))] h (vxA (bI 0 l vs)):=by
  intro l vs hB hfit ih h hh;have hll:=Pt.length_le l;obtain⟨hlen,hcl,hcv⟩:=hfit;refine cR Tryz.func130 Tryz.ntmps130 ?_;refine Run.loopS [1,13,14] (fun j:Nat=>j<=l.length/\(bI 0 (l.take j) (vs.take j)).v=0) (fun j=>l.length-j) (fun j=>[(15,iA j)]) (fun _=>h) 0 (by simp[bI]) ?_ rfl ?_
  ·exact zS
  rintro j ⟨hj,hall⟩ IH;refine cC ?_
  by_cases hjl:j<l.length
  ·have hg:l[j]?=some l[j]:=aYb hjl;have hgv:vs[j]?=some vs[j]:=aYb aB;have hat:=aG8 l vs 0 j _ _ hall hg hgv;have hsn:=vT l vs 0 j _ _ hall hg hgv;have hmp:=aYe hjl;have hcp:=eQ hcl _ hmp;have hcx:=eQ hcv _ (aYe (show j<vs.length by omega));rw[aZc] at hat hsn;generalize l[j]=p at hg hat hsn hmp hcp;generalize vs[j]=x at hgv hat hsn hcx;obtain⟨k,n,qs⟩:=p;obtain⟨k2,n2,ws⟩:=x
   have hcmp:pA j (.mk k n qs) (.mk k2 n2 ws)=if k=1 then(if k2=1 then(if n2=n then⟨(bI 0 qs ws).v,j::(bI 0 qs ws).w,(bI 0 qs ws).n⟩ else⟨1,[],[]⟩) else⟨2,[(j:Int)],n⟩) else⟨0,[],[]⟩:=by
    rw[pA];rfl
   rw[hcmp] at hat hsn;clear hcmp;refine dD hjl ?_;refine aS4 hg ?_;refine aS4 hgv ?_
   by_cases hk:k=1
   ·subst hk;simp only[if_true] at hat hsn;refine aU5 ?_
    by_cases hk2:k2=1
    ·subst hk2;simp only[if_true] at hat hsn;refine aU5 ?_
     by_cases hn:n2=n
     ·subst hn;simp only[if_true] at hat hsn;have c1:=ih n2 qs ws hmp (Fit.inner hcp hcx)
      have hwl:(bI 0 qs ws).w.length<=1048576:=by
       have h1:=sH 0 qs ws;have h2:=Pt.size_at hmp;simp only[Pt.size] at h2;omega
      generalize bI 0 qs ws=r at c1 hat hsn hwl;obtain⟨e,w,nm⟩:=r;simp only[vxA] at c1 hat hsn hwl;refine nJ ?_;refine zL (c1 _ (hh.app aA)) ?_;refine zo ?_
      by_cases he:e=0
      ·refine aFg he ?_;refine Run.keep [1,13,14,15] ?_;refine yh ?_;refine ye ?_;refine cC ?_;refine IH (j+1) _ _ ⟨by omega,hsn he⟩ aB ?_ aA;exact zS
      ·rw[hat he];refine znr ?_;refine zt1 he ?_
       by_cases hw:w=[]
       ·subst hw;refine nv ?_;refine Run.regPre 4 fun K J=>?_
        refine yd ?_;simp;refine zi ?_;clear J;refine ya ?_;refine Run.appendZ (sz:=1) (sz':=1) (es:=[[iP j]]) (e:=3) rfl (by simp[aI]) rfl rfl aA (by simp[rD]) ?_;refine zox ?_;exact y2t
       ·have hw0:0<w.length:=bAd.2 hw;refine nv ?_;refine Run.regPre 2 fun K J=>?_
        refine yd ?_;simp;refine zi ?_;clear J;refine ya ?_;refine Run.buildV (sz:=1) (es:=[[iP j]]) rfl (by simp[aI]) aA aA ?_;simp;refine Run.opsPre 1 fun K J=>?_
        refine yd ?_;simp;refine zi ?_;clear J;refine ya ?_;have hil:(rD w).length=w.length:=jN w
        have hi1:∀e∈[iP j]::rD w,e.length=1:=by
         intro e he;rcases aYx.1 he with rfl|he
         ·rfl
         ·exact aGo w e he
        refine Run.appendV (id:=h.length+2) (es:=[[iP j]]) (ys:=rD w) (sz:=1) (by_:=8) (e:=3) rfl (by simp[aI]) rfl rfl rfl rfl aA aA aA aA aA (by rw[hil];exact hw0) (by rw[hil];simp;omega) (by rw[hil];simp;omega) ?_;simp[hil];refine zo ?_;refine Run.keep [4,5,6] ?_;simp;refine Run.freezeV 5 (id:=h.length+2) (n:=1+w.length) (sz:=1) (es:=[iP j]::rD w) aA aA hi1 (by simp[hil];omega) ?_;simp;refine Run.ret ?_;exact y2t
     ·rw[if_neg hn] at hat;rw[hat aA];refine aFj hn ?_;exact Fin.ret' (h0:=h) aA rfl hh rfl aA rfl (xs:=[iA 1, .p (.prim (.slice none 0 0)), .p (sP [])]) (y:= .tup [iA 1, .p (.sl 1 (rD [])), .p (sP [])]) (Weak.tup (WeakL.cons (Weak.refl _) (WeakL.cons (Weak.nil _) (WeakL.refl _)))) aA ⟨rfl,rfl⟩
    ·rw[if_neg hk2] at hat;rw[hat aA];have hk2':(k2 !=1)=true:=by simp[hk2]
     refine znr ?_;refine zt1 hk2' ?_;refine Run.draw [0,0,0,0,0,0,0] [0,0,0,0,0,0,0] [0,1,0,4,0,19,63] [0,1,2,3,4,5,6] aC aC ?_;refine zd ?_;refine y9 ?_;refine znx ?_;exact y2t
   ·rw[if_neg hk] at hsn;have hk':(k !=1)=true:=by simp[hk]
    refine znr ?_;refine zt1 hk' ?_;refine y21 ?_;refine Run.keep [1,13,14,15] ?_;refine yh ?_;refine ye ?_;refine cC ?_;refine IH (j+1) _ _ ⟨by omega,hsn rfl⟩ aB ?_ aA;exact zS
  ·have hje:j=l.length:=aB;subst hje;rw[aHx 0 l vs hlen] at hall;rw[vU hall];refine cQ ?_;exact Fin.ret' (h0:=h) aA rfl hh (aYh _).symm aA rfl (xs:=[iA 0, .p (.prim (.slice none 0 0)), .p (sP [])]) (y:= .tup [iA 0, .p (.sl 1 (rD [])), .p (sP [])]) (Weak.tup (WeakL.cons (Weak.refl _) (WeakL.cons (Weak.nil _) (WeakL.refl _)))) aA ⟨rfl,rfl⟩
 induction N with
 |zero=>
  intro l vs hN hB hf h hh;refine key l vs hB hf (fun n qs ws hp=>?_) h hh;have:=Pt.size_at hp;have:=(Pt.mk 1 n qs).size_pos;omega
 |succ N ih=>
  intro l vs hN hB hf h hh;refine key l vs hB hf (fun n qs ws hp hf2 g hw=>?_) h hh;have:=Pt.size_at hp;simp only[Pt.size] at this;exact ih qs ws aB aB hf2 g hw
open Go Go.AI
def aTh:Option Int->Option Int->Option Int
 |none,b=>b
 |a,none=>a
 |some x,some y=>some (max x y)
@[simp] theorem aOa (a:Option Int):aTh none a=a:=rfl
@[simp] theorem aMa (a:Option Int):aTh a none=a:=by cases a<;>rfl
@[simp] theorem aMb (x y:Int):aTh (some x) (some y)=some (max x y):=rfl
def upL:List (Int×Int)->Prop
 |[]=>True
 |x::l=>(∀y∈l,x.1<y.1)/\upL l
theorem yN {l:List (Int×Int)} {i v:Int} (h:lkI l i=some v):(i,v)∈l:=by
 induction l with
 |nil=>simp[lkI] at h
 |cons x l ih=>
  obtain⟨a,b⟩:=x;simp only[lkI] at h;split at h
  ·rename_i e;subst e;cases h;simp
  ·exact bA7 _ (ih h)
theorem aGu {l:List (Int×Int)} (hn:(l.map Prod.fst).Nodup) {i v:Int} (h:(i,v)∈l):lkI l i=some v:=by
 induction l with
 |nil=>simp at h
 |cons x l ih=>
  obtain⟨a,b⟩:=x;simp only[aYt,aZt] at hn;simp only[lkI];rcases aYx.1 h with h|h
  ·cases h;simp
  ·have:a≠i:=fun e=>hn.1 (e▸aZ7.2 ⟨_,h,rfl⟩)
   rw[if_neg this];exact ih hn.2 h
theorem upL.nodup:∀ {l:List (Int×Int)},upL l->(l.map Prod.fst).Nodup
 |[],_=>by simp
 |x::l,h=>by
  simp only[aYt,aZt];refine⟨fun hm=>?_,upL.nodup h.2⟩;obtain⟨y,hy,e⟩:=aZ7.1 hm;have:=h.1 y hy;omega
theorem aNo:∀ {a b:List (Int×Int)},upL a->upL b->(∀i,lkI a i=lkI b i)->a=b
 |[],[],_,_,_=>rfl
 |[],y::b,_,_,h=>by have:=h y.1;simp[lkI] at this
 |x::a,[],_,_,h=>by have:=h x.1;simp[lkI] at this
 |(i,p)::a,(k,q)::b,ha,hb,h=>by
  have hlow:∀ {l:List (Int×Int)} {z:Int},(∀y∈l,z<y.1)->lkI l z=none:=fun hl=>oC fun y hy e=>by have:=hl y hy;omega
  have hik:i=k:=by
   have h1:=h i;have h2:=h k;simp only[lkI,if_true] at h1 h2;rcases Int.lt_trichotomy i k with c|c|c
   ·rw[if_neg aB] at h1;rw[hlow (fun y hy=>by have:=hb.1 y hy;simp only at this;omega)] at h1;cases h1
   ·exact c
   ·rw[if_neg aB] at h2;rw[hlow (fun y hy=>by have:=ha.1 y hy;simp only at this;omega)] at h2;cases h2
  subst hik
  have hpq:p=q:=by
   have h1:=h i;simpa [lkI] using h1
  subst hpq
  congr 1
  refine aNo ha.2 hb.2 fun j=>?_
  have hj:=h j;simp only[lkI] at hj
  by_cases e:i=j
  ·subst e;rw[hlow ha.1,hlow hb.1]
  ·rwa [if_neg e,if_neg e] at hj
def bR:List (Int×Int)->List (Int×Int)->List (Int×Int)
 |[],b=>b
 |a,[]=>a
 |(i,p)::a,(k,q)::b=>if i<k then(i,p)::bR a ((k,q)::b) else if k<i then(k,q)::bR ((i,p)::a) b else(i,max p q)::bR a b
termination_by a b=>a.length+b.length
@[simp] theorem dB (a:List (Int×Int)):bR a [] =a:=by cases a<;>simp[bR]
@[simp] theorem cW (a:List (Int×Int)):bR [] a=a:=by cases a<;>simp[bR]
theorem gX {z:Int} :∀(a b:List (Int×Int)),(∀y∈a,z<y.1)->(∀y∈b,z<y.1)->∀y∈bR a b,z<y.1
 |[],b,_,hb,y,hy=>by rw[cW] at hy;exact hb y hy
 |a,[],ha,_,y,hy=>by rw[dB] at hy;exact ha y hy
 |(i,p)::a,(k,q)::b,ha,hb,y,hy=>by
  rw[bR] at hy;have hi:=ha (i,p) aA;have hk:=hb (k,q) aA;split at hy
  ·rcases aYx.1 hy with rfl|hy
   ·exact hi
   ·exact gX a _ (fun y h=>ha y (by simp[h])) hb y hy
  ·split at hy
   ·rcases aYx.1 hy with rfl|hy
    ·exact hk
    ·exact gX _ b ha (fun y h=>hb y (by simp[h])) y hy
   ·rcases aYx.1 hy with rfl|hy
    ·exact hi
    ·exact gX a b (fun y h=>ha y (by simp[h])) (fun y h=>hb y (by simp[h])) y hy
termination_by a b=>a.length+b.length
theorem iW:∀(a b:List (Int×Int)),upL a->upL b->upL (bR a b)
 |[],b,_,hb=>by rwa [cW]
 |a,[],ha,_=>by rwa [dB]
 |(i,p)::a,(k,q)::b,ha,hb=>by
  rw[bR];split
  ·rename_i h;refine⟨fun y hy=>gX a _ ha.1 (fun y hy=>?_) y hy,iW a _ ha.2 hb⟩;rcases aYx.1 hy with rfl|hy
   ·exact h
   ·have:=hb.1 y hy;simp only at this⊢;omega
  ·split
   ·rename_i h;refine⟨fun y hy=>gX _ b (fun y hy=>?_) hb.1 y hy,iW _ b ha hb.2⟩;rcases aYx.1 hy with rfl|hy
    ·exact h
    ·have:=ha.1 y hy;simp only at this⊢;omega
   ·have:i=k:=aB;subst this;exact⟨fun y hy=>gX a b ha.1 hb.1 y hy,iW a b ha.2 hb.2⟩
termination_by a b=>a.length+b.length
theorem kQ (j:Int):∀(a b:List (Int×Int)),upL a->upL b->lkI (bR a b) j=aTh (lkI a j) (lkI b j)
 |[],b,_,hb=>by simp[lkI]
 |a,[],ha,_=>by simp[lkI]
 |(i,p)::a,(k,q)::b,ha,hb=>by
  have hlow:∀ {l:List (Int×Int)} {z:Int},(∀y∈l,z<y.1)->lkI l z=none:=fun hl=>oC fun y hy e=>by have:=hl y hy;omega
  rw[bR];split
  ·rename_i h;simp only[lkI];have ih:=kQ j a ((k,q)::b) ha.2 hb;simp only[lkI] at ih;split
   ·rename_i e;subst e;rw[if_neg aB,hlow (fun y hy=>by have:=hb.1 y hy;simp only at this;omega)];simp
   ·rw[ih]
  ·split
   ·rename_i h;simp only[lkI];have ih:=kQ j ((i,p)::a) b ha hb.2;simp only[lkI] at ih;split
    ·rename_i e;subst e;rw[if_neg aB,hlow (fun y hy=>by have:=ha.1 y hy;simp only at this;omega)];simp
    ·rw[ih]
   ·have:i=k:=aB;subst this;simp only[lkI];split
    ·simp
    ·exact kQ j a b ha.2 hb.2
termination_by a b=>a.length+b.length
theorem yS {a b:List (Int×Int)} (h:bR a b=[]):a=[]/\b=[]:=by
 match a,b with
 |[],b=>simpa using h
 |a,[]=>simpa using h
 |(i,p)::a,(k,q)::b=>
  rw[bR] at h;split at h
  ·cases h
  ·split at h<;>cases h
def dS:List (Int×Int)->Int
 |[]=>0
 |x::l=>max x.2 (dS l)
theorem rO (l:List (Int×Int)):0<=dS l:=by
 induction l with
 |nil=>simp[dS]
 |cons x l ih=>simp only[dS];omega
theorem aGw {l:List (Int×Int)} {x:Int×Int} (h:x∈l):x.2<=dS l:=by
 induction l with
 |nil=>simp at h
 |cons y l ih=>
  simp only[dS];exact y57
theorem aM1 (l:List (Int×Int)):dS l=0\/∃x∈l,x.2=dS l:=by
 induction l with
 |nil=>exact .inl rfl
 |cons y l ih=>
  simp only[dS];rcases ih with h|⟨x,hx,h⟩
  ·rw[h]
   by_cases c:0<=y.2
   ·exact .inr ⟨y,by simp,by omega⟩
   ·exact .inl aB
  ·by_cases c:dS l<=y.2
   ·exact .inr ⟨y,by simp,by omega⟩
   ·exact .inr ⟨x,by simp[hx],by omega⟩
theorem jP:∀(a b:List (Int×Int)),dS (bR a b)=max (dS a) (dS b)
 |[],b=>by have:=rO b;rw[cW];simp only[dS];omega
 |a,[]=>by have:=rO a;rw[dB];simp only[dS];omega
 |(i,p)::a,(k,q)::b=>by
  rw[bR];split
  ·have ih:=jP a ((k,q)::b);simp only[dS] at ih⊢;omega
  ·split
   ·have ih:=jP ((i,p)::a) b;simp only[dS] at ih⊢;omega
   ·have ih:=jP a b;simp only[dS] at ih⊢;omega
termination_by a b=>a.length+b.length
def eN:List (Int×Int)->Int->Int->List (Int×Int)
 |[],i,p=>[(i,p)]
 |x::m,i,p=>if x.1=i then(i,max x.2 p)::m else x::eN m i p
theorem mZ (m:List (Int×Int))(i p:Int):∀k∈(eN m i p).map Prod.fst,k∈m.map Prod.fst\/k=i:=by
 induction m with
 |nil=>simp[eN]
 |cons x m ih=>
  intro k hk;simp only[eN] at hk;split at hk
  ·rename_i e;simp only[aYt,aYx] at hk⊢;rcases hk with rfl|hk
   ·exact .inr rfl
   ·exact .inl (.inr hk)
  ·simp only[aYt,aYx] at hk⊢;rcases hk with rfl|hk
   ·exact .inl (.inl rfl)
   ·rcases ih k hk with h|h
    ·exact .inl (.inr h)
    ·exact .inr h
theorem kW {m:List (Int×Int)} (i p:Int)(h:(m.map Prod.fst).Nodup):((eN m i p).map Prod.fst).Nodup:=by
 induction m with
 |nil=>simp[eN]
 |cons x m ih=>
  simp only[aYt,aZt] at h;simp only[eN];split
  ·rename_i e;subst e;simpa using h
  ·rename_i e;simp only[aYt,aZt];refine⟨fun hm=>?_,ih h.2⟩;rcases mZ m i p _ hm with c|c
   ·exact h.1 c
   ·exact e c
theorem uD (m:List (Int×Int))(i p j:Int):lkI (eN m i p) j=if i=j then aTh (lkI m j) (some p) else lkI m j:=by
 induction m with
 |nil=>simp[eN,lkI]
 |cons x m ih=>
  simp only[eN];split
  ·rename_i e;simp only[lkI,e];split<;>simp
  ·rename_i e;simp only[lkI]
   by_cases c:i=j
   ·subst c;rw[if_neg e,if_neg e,ih]
   ·rw[if_neg c] at ih⊢;rw[ih]
def aA5 (m:List (Int×Int))(vs:List (Int×Int))(n:Int):List (Int×Int):=vs.foldl (fun m x=>eN m x.1 (x.2+n)) m
theorem vP {m:List (Int×Int)} (vs:List (Int×Int))(n:Int)(h:(m.map Prod.fst).Nodup):((aA5 m vs n).map Prod.fst).Nodup:=by
 induction vs generalizing m with
 |nil=>exact h
 |cons x vs ih=>exact ih (kW _ _ h)
def iL (vs:List (Int×Int))(n:Int):List (Int×Int):=vs.map fun x=>(x.1,x.2+n)
theorem rP {n:Int} :∀ {vs:List (Int×Int)},upL vs->upL (iL vs n)
 |[],_=>trivial
 |x::vs,h=>by
  refine⟨fun y hy=>?_,rP h.2⟩;obtain⟨z,hz,rfl⟩:=aZ7.1 hy;exact h.1 z hz
theorem aDg (n j:Int):∀(vs m:List (Int×Int)),upL vs->lkI (aA5 m vs n) j=aTh (lkI m j) (lkI (iL vs n) j)
 |[],m,_=>by simp[aA5,iL,lkI]
 |x::vs,m,h=>by
  have ih:=aDg n j vs (eN m x.1 (x.2+n)) h.2;have e:aA5 m (x::vs) n=aA5 (eN m x.1 (x.2+n)) vs n:=rfl;rw[e,ih,uD];simp only[iL,aYt,lkI];split
  ·rename_i c;subst c
   have:lkI (List.map (fun x=>(x.1,x.2+n)) vs) x.1=none:=oC fun y hy c=>by
    obtain⟨z,hz,rfl⟩:=aZ7.1 hy;have:=h.1 z hz;simp only at c;omega
   rw[this];simp
  ·rfl
end Go.Proofs.YtcfcolkbeelegaaGreat
