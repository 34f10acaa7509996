import Derived.Test.YtcfcolkbeelegaaGreatJA0
import Derived.Test.YtcfcolkbeelegaaGreatJPC
import Derived.Test.YtcfcolkbeelegaaGreatJX2
import Derived.Test.YtcfcolkbeelegaaGreatJA
set_option maxRecDepth 8000
set_option maxHeartbeats 16000000
namespace Go.Proofs.YtcfcolkbeelegaaGreat
open Go Go.AI
mutual
def aUu (c:Int):Pt->Bool
 | .mk k _ qs=>(k==c)||vS c qs
def vS (c:Int):List Pt->Bool
 |[]=>false
 |p::ps=>aUu c p||vS c ps
end
theorem aLu (c:Int)(l:List Pt):vS c l=l.any (aUu c):=by
 induction l with
 |nil=>rfl
 |cons p l ih=>simp[vS,ih]
theorem aP2 {α:Type} {P:α->Bool} {l:List α} {j:Nat} {x:α} (h:l[j]?=some x)(h0:(l.take j).any P=false)(hx:P x=false):(l.take (j+1)).any P=false:=by
 have e:l.take (j+1)=l.take j++[x]:=by rw[bAg,h];rfl
 rw[e,List.any_append,h0];simp[hx]
theorem aSt {α:Type} {P:α->Bool} {l:List α} {j:Nat} {x:α} (h:l[j]?=some x)(hx:P x=true):l.any P=true:=
 bBj.2 ⟨x,aZ9 h,hx⟩
theorem aLw (cap:List AV)(P:Pt->Bool)(h:Heap)(hh:WF h)(l:List Pt)(hb:l.length<=1048576)(hc:∀p∈l,ACalls Tryz.prog 128 ([p.av]++cap) h fun o h'=>o= .ret (bA (P p))/\h'=h):
  ACalls Tryz.prog 177 [.p (.sl 3 (cC l)), .fn (.func 128) [] cap] h fun o h'=>∃r:Int,o= .ret (iA r)/\h'=h/\decide (0<=r)=l.any P:=by
 refine cW Tryz.func177 Tryz.ntmps177 ?_;refine Run.loopS [0,1,7] (fun j:Nat=>j<=l.length/\(l.take j).any P=false) (fun j=>l.length-j) (fun j=>[(8,iA j)]) (fun _=>h) 0 aA ?_ rfl ?_
 ·exact zS
 ·rintro j ⟨hj,hall⟩ IH;refine cI ?_
  by_cases hjl:j<l.length
  ·have hg':l[j]?=some l[j]:=aYu hjl;have hcu:=hc _ (aYx hjl);generalize l[j]=u at hg' hcu;refine qL hjl hg' ?_;refine Run.call (args:=[u.av]++cap) rfl rfl aA rfl hcu ?_ ?_
   ·rintro v h' ⟨hv,hh'⟩;subst hh';simp only[AOut.ret.injEq] at hv;subst hv;refine zo ?_
    by_cases h1:P u=true
    ·refine dF h1 ?_;refine zA ?_;refine zF3 hh ?_;exact⟨j,rfl,rfl,by rw[aSt hg' h1];simp⟩
    ·have h1:P u=false:=by simpa using h1
     refine dJ h1 ?_;refine IH (j+1) _ _ ⟨by omega,aP2 hg' hall h1⟩ aB ?_ rfl;exact zS
   ·rintro v h' ⟨hv,_⟩;cases hv
  ·have hje:j=l.length:=aB;subst hje;rw[aZl] at hall;refine dP ?_;refine zA ?_;refine zF3 hh ?_;exact⟨-1,rfl,rfl,by rw[hall];rfl⟩
theorem aKk (cap:List AV)(P:Pt->Bool)(h:Heap)(hh:WF h)(l:List Pt)(hb:l.length<=1048576)(hc:∀p∈l,ACalls Tryz.prog 128 ([p.av]++cap) h fun o h'=>o= .ret (bA (P p))/\h'=h):
  AC 127 [.p (.sl 3 (cC l)), .fn (.func 128) [] cap] h (bA (l.any P)):=by
 have hi:=aLw cap P h hh l hb hc;generalize l.any P=r0 at hi⊢;refine cW Tryz.func127 Tryz.ntmps127 ?_;refine Run.call rfl rfl aA rfl hi ?_ ?_
 ·rintro v h' ⟨r,hv,hh',hr⟩;subst hh';exact y3j
 ·rintro v h' ⟨r,hv,_⟩;cases hv
theorem zH (c:Int)(N:Nat):∀(l:List Pt),Pt.sizes l<=N->Pt.sizes l<=1048576->∀h,WF h->AC 74 [.p (.sl 3 (cC l)),iA c] h (bA (vS c l)):=by
 have key:∀l:List Pt,Pt.sizes l<=1048576->(∀p∈l,∀g,WF g->AC 74 [.p (.sl 3 (cC p.args)),iA c] g (bA (vS c p.args)))->
   ∀h,WF h->AC 74 [.p (.sl 3 (cC l)),iA c] h (bA (vS c l)):=by
  intro l hB ih h hh;have hll:=Pt.length_le l
  have hc:∀p∈l,∀(g:Heap) (q:Nat),WF g->g[q]?=some (some (.cells [iA c]))->ACalls Tryz.prog 128 ([p.av]++[.ptr q 0]) g fun o h'=>o= .ret (bA (aUu c p))/\h'=g:=by
   intro p hp g q hg hq;obtain⟨p1,_⟩:=idf hq;have c1:=fun g hw=>ih p hp g hw
   obtain⟨k,n,qs⟩:=p;simp only[Pt.args] at c1;simp only[aUu];generalize vS c qs=b at c1⊢;simp only[Pt.av,bC,List.map,aYy,aZ3];refine zER Tryz.func128 Tryz.ntmps128 ?_
   cases hk:(k==c) with
   |true=>
    refine sH p1 hk ?_;refine zx ?_;exact y8e
   |false=>
    refine sH p1 hk ?_;refine zL (c1 _ (hg.app aA)) ?_;refine zox ?_;exact y8e
  have c2:=fun(g:Heap) (q:Nat) (hw:WF g) (hq:g[q]?=some (some (.cells [iA c])))=>aKk [.ptr q 0] (aUu c) g hw l aB fun p hp=>hc p hp g q hw hq
  rw[aLu];generalize l.any (aUu c)=b at c2⊢;refine cW Tryz.func74 Tryz.ntmps74 ?_;refine zL (c2 _ h.length (hh.app aA) aA) ?_;refine zox ?_;exact y2s
 induction N with
 |zero=>
  intro l hN hB h hh;refine key l hB (fun p hp=>?_) h hh;have:=Pt.size_at hp;have:=p.size_pos;omega
 |succ N ih=>
  intro l hN hB h hh;refine key l hB (fun p hp g hw=>?_) h hh;have:=Pt.size_at hp;obtain⟨k,n,qs⟩:=p;simp only[Pt.size] at this;exact ih qs aB aB g hw
mutual
def aXu:Pt->Nat
 | .mk k _ qs=>(if k=0 then 1 else 0)+aAz qs
def aAz:List Pt->Nat
 |[]=>0
 |p::ps=>aXu p+aAz ps
end
open Go Go.AI
structure Vx where
 v:Int
 w:List Int
 n:List UInt8
mutual
def pK (i:Nat):Pt->Pt->Vx
 | .mk k n qs,v=>if k=1 then(if v.kind=1 then(if v.name=n then⟨(bI 0 qs v.args).v,i::(bI 0 qs v.args).w,(bI 0 qs v.args).n⟩ else⟨1,[],[]⟩) else⟨2,[i],n⟩) else⟨0,[],[]⟩
def bI (i:Nat):List Pt->List Pt->Vx
 |[],_=>⟨0,[],[]⟩
 |_::_,[]=>⟨0,[],[]⟩
 |p::ps,v::vs=>if(pK i p v).v=0 then bI (i+1) ps vs else pK i p v
end
theorem aGn:∀(l vs:List Pt)(i j:Nat)(p v:Pt),(bI i (l.take j) (vs.take j)).v=0->l[j]?=some p->vs[j]?=some v->(pK (i+j) p v).v≠0->bI i l vs=pK (i+j) p v
 |[],_,_,j,_,_,_,h,_,_=>by simp at h
 |_::_,[],_,j,_,_,_,_,h,_=>by simp at h
 |x::l,y::vs,i,0,p,v,_,h1,h2,he=>by
  simp at h1 h2;subst h1 h2;simp only[bI,bB6] at he⊢;rw[if_neg he]
 |x::l,y::vs,i,j+1,p,v,h0,h1,h2,he=>by
  simp only[aZu,bI] at h0⊢
  by_cases c:(pK i x y).v=0
  ·rw[if_pos c] at h0⊢;have:=aGn l vs (i+1) j p v h0 (by simpa using h1) (by simpa using h2) (by rw[show i+1+j=i+(j+1) by omega];exact he);rw[this,show i+1+j=i+(j+1) by omega]
  ·rw[if_neg c] at h0;exact absurd h0 c
theorem vY:∀(l vs:List Pt)(i j:Nat)(p v:Pt),(bI i (l.take j) (vs.take j)).v=0->l[j]?=some p->vs[j]?=some v->(pK (i+j) p v).v=0->(bI i (l.take (j+1)) (vs.take (j+1))).v=0
 |[],_,_,j,_,_,_,h,_,_=>by simp at h
 |_::_,[],_,j,_,_,_,_,h,_=>by simp at h
 |x::l,y::vs,i,0,p,v,_,h1,h2,he=>by
  simp at h1 h2;subst h1 h2;simp only[bB6] at he;simp[bI,he]
 |x::l,y::vs,i,j+1,p,v,h0,h1,h2,he=>by
  simp only[aZu,bI] at h0⊢
  by_cases c:(pK i x y).v=0
  ·rw[if_pos c] at h0⊢;exact vY l vs (i+1) j p v h0 (by simpa using h1) (by simpa using h2) (by rw[show i+1+j=i+(j+1) by omega];exact he)
  ·rw[if_neg c] at h0;exact absurd h0 c
abbrev vxA (x:Vx):AV:= .tup [iA x.v, .p (.sl 1 (rM x.w)), .p (sP x.n)]
def Fit (env:List Dc)(l vs:List Pt):Prop:=l.length=vs.length/\cD env l=0/\cD env vs=0
theorem eS {env:List Dc} {l:List Pt} (h:cD env l=0):∀p∈l,jS env p=0:=by
 induction l with
 |nil=>intro p hp;cases hp
 |cons x l ih=>
  simp only[cD] at h
  by_cases c:jS env x=0
  ·rw[if_pos c] at h;intro p hp;rcases aZg.1 hp with rfl|hp
   ·exact c
   ·exact ih h p hp
  ·rw[if_neg c] at h;exact absurd h c
theorem yC {env:List Dc} {l:List Pt} (h:∀p∈l,jS env p=0):cD env l=0:=by
 induction l with
 |nil=>rfl
 |cons x l ih=>
  simp only[cD];rw[if_pos (h x aA)];exact ih fun p hp=>h p (by simp[hp])
theorem eR {env:List Dc} {n:List UInt8} {qs:List Pt} (h:jS env (.mk 1 n qs)=0):(aM env n).2.2=true/\(qs.length:Int)=(aM env n).2.1/\cD env qs=0:=by
 have e:jS env (.mk 1 n qs)=if(aM env n).2.2=false then 9 else if(qs.length:Int)=(aM env n).2.1 then cD env qs else 6:=by
  rw[jS,if_neg aB,if_pos rfl]
 rw[e] at h
 by_cases c:(aM env n).2.2=false
 ·rw[if_pos c] at h;exact absurd h aD
 ·rw[if_neg c] at h
  by_cases c2:(qs.length:Int)=(aM env n).2.1
  ·rw[if_pos c2] at h;exact⟨by simpa using c,c2,h⟩
  ·rw[if_neg c2] at h;exact absurd h aD
theorem Fit.inner {env:List Dc} {n:List UInt8} {qs ws:List Pt} (h1:jS env (.mk 1 n qs)=0)(h2:jS env (.mk 1 n ws)=0):Fit env qs ws:=by
 obtain⟨_,a,b⟩:=eR h1;obtain⟨_,c,d⟩:=eR h2;exact⟨by omega,b,d⟩
theorem aRz {env:List Dc} (hf:aP env)(hg:Env.good env)(n:List UInt8):(aM env n).2.1<=1048576:=by
 unfold aM;rcases fF hf n with e|⟨d,a,e,hm,hk,hd,hj⟩
 ·rw[e];simp
 ·rw[e]
  by_cases c:0<=a
  ·rcases hj with hj|⟨j,rfl,hj⟩
   ·omega
   simp only[c,and_self,if_true,aZj];have hgj:d.cs[j]?=some d.cs[j]:=aYu hj;have hgd:=(hg.2 d hm).cs _ (aYx hj);have hl:=(aN6 d.cs[j].ty hgd.2.2).2.2.2;have hsz:=hgd.1;have hx0:=hd.fx0;have hty:=(hg.2 d hm).ty
   have hfx:d.fx<=1048576:=by
    have h1:=hd.fix hk;have hle:=oK d.ty.size d.ty (aYw _);have:=hty.1;simp only[aIn,aZ7,aZh] at h1;omega
   unfold oH;rw[hgj];simp only[aOp];rw[aQ aB aB];split<;>omega
  ·simp[c]
theorem aIf (i:Nat)(l vs:List Pt)(h:l.length=vs.length):bI i (l.take l.length) (vs.take l.length)=bI i l vs:=by
 rw[aZl,h,aZl]
mutual
theorem aVg:∀(i:Nat)(p v:Pt),(pK i p v).v=0->pK i p v=⟨0,(pK i p v).w,(pK i p v).n⟩
 |i,p,v,h=>by cases hc:pK i p v;rw[hc] at h;simp at h;simp[h]
theorem vZ {i:Nat} :∀ {l vs:List Pt},(bI i l vs).v=0->bI i l vs=⟨0,[],[]⟩
 |[],vs,_=>by simp[bI]
 |p::ps,[],_=>by simp[bI]
 |p::ps,v::vs,h=>by
  simp only[bI] at h⊢
  by_cases c:(pK i p v).v=0
  ·rw[if_pos c] at h⊢;exact vZ h
  ·rw[if_neg c] at h;exact absurd h c
end
mutual
theorem aP7:∀(i:Nat)(p v:Pt),(pK i p v).w.length<=p.size
 |i, .mk k n qs,v=>by
  have:=sR 0 qs v.args;simp only[pK,Pt.size];split
  ·split
   ·split
    ·simp only[aZ1];omega
    ·simp
   ·simp
  ·simp
theorem sR:∀(i:Nat)(l vs:List Pt),(bI i l vs).w.length<=Pt.sizes l
 |i,[],vs=>by simp[bI]
 |i,p::ps,[]=>by simp[bI]
 |i,p::ps,v::vs=>by
  have:=aP7 i p v;have:=sR (i+1) ps vs;simp only[bI,Pt.sizes];split<;>omega
end
theorem aC9 (env:List Dc)(_hfl:∀n,(aM env n).2.1<=1048576)(N:Nat):∀(l vs:List Pt),Pt.sizes l<=N->Pt.sizes l<=1048576->Fit env l vs->∀h,WF h->
  AC 130 [.p (.sl 3 (cC l)), .p (.sl 3 (cC vs))] h (vxA (bI 0 l vs)):=by
 have key:∀(l vs:List Pt),Pt.sizes l<=1048576->Fit env l vs->(∀n qs ws,Pt.mk 1 n qs∈l->Fit env qs ws->∀g,WF g->AC 130 [.p (.sl 3 (cC qs)), .p (.sl 3 (cC ws))] g (vxA (bI 0 qs ws)))->
   ∀h,WF h->AC 130 [.p (.sl 3 (cC l)), .p (.sl 3 (cC vs))] h (vxA (bI 0 l vs)):=by
  intro l vs hB hfit ih h hh;have hll:=Pt.length_le l;obtain⟨hlen,hcl,hcv⟩:=hfit;refine cW Tryz.func130 Tryz.ntmps130 ?_;refine Run.loopS [1,13,14] (fun j:Nat=>j<=l.length/\(bI 0 (l.take j) (vs.take j)).v=0) (fun j=>l.length-j) (fun j=>[(15,iA j)]) (fun _=>h) 0 (by simp[bI]) ?_ rfl ?_
  ·exact zS
  rintro j ⟨hj,hall⟩ IH;refine cI ?_
  by_cases hjl:j<l.length
  ·have hg:l[j]?=some l[j]:=aYu hjl;have hgv:vs[j]?=some vs[j]:=aYu aB;have hat:=aGn l vs 0 j _ _ hall hg hgv;have hsn:=vY l vs 0 j _ _ hall hg hgv;have hmp:=aYx hjl;have hcp:=eS hcl _ hmp;have hcx:=eS hcv _ (aYx (show j<vs.length by omega));rw[aZv] at hat hsn;generalize l[j]=p at hg hat hsn hmp hcp;generalize vs[j]=x at hgv hat hsn hcx;obtain⟨k,n,qs⟩:=p;obtain⟨k2,n2,ws⟩:=x
   have hcmp:pK j (.mk k n qs) (.mk k2 n2 ws)=if k=1 then(if k2=1 then(if n2=n then⟨(bI 0 qs ws).v,j::(bI 0 qs ws).w,(bI 0 qs ws).n⟩ else⟨1,[],[]⟩) else⟨2,[(j:Int)],n⟩) else⟨0,[],[]⟩:=by
    rw[pK];rfl
   rw[hcmp] at hat hsn;clear hcmp;refine dF hjl ?_;refine aV5 hg ?_;refine aV5 hgv ?_
   by_cases hk:k=1
   ·subst hk;simp only[if_true] at hat hsn;refine aV4 ?_
    by_cases hk2:k2=1
    ·subst hk2;simp only[if_true] at hat hsn;refine aV4 ?_
     by_cases hn:n2=n
     ·subst hn;simp only[if_true] at hat hsn;have c1:=ih n2 qs ws hmp (Fit.inner hcp hcx)
      have hwl:(bI 0 qs ws).w.length<=1048576:=by
       have h1:=sR 0 qs ws;have h2:=Pt.size_at hmp;simp only[Pt.size] at h2;omega
      generalize bI 0 qs ws=r at c1 hat hsn hwl;obtain⟨e,w,nm⟩:=r;simp only[vxA] at c1 hat hsn hwl;refine mI ?_;refine zL (c1 _ (hh.app aA)) ?_;refine zo ?_
      by_cases he:e=0
      ·refine aFv he ?_;refine Run.keep [1,13,14,15] ?_;refine yh ?_;refine ye ?_;refine cI ?_;refine IH (j+1) _ _ ⟨by omega,hsn he⟩ aB ?_ aA;exact zS
      ·rw[hat he];refine znr ?_;refine zt1 he ?_
       by_cases hw:w=[]
       ·subst hw;refine nv ?_;refine Run.regPre 4 fun K J=>?_
        refine yd ?_;simp;refine zi ?_;clear J;refine ya ?_;refine Run.appendZ (sz:=1) (sz':=1) (es:=[[iP j]]) (e:=3) rfl (by simp[aJ]) rfl rfl aA (by simp[rM]) ?_;refine zox ?_;exact y2s
       ·have hw0:0<w.length:=bAw.2 hw;refine nv ?_;refine Run.regPre 2 fun K J=>?_
        refine yd ?_;simp;refine zi ?_;clear J;refine ya ?_;refine Run.buildV (sz:=1) (es:=[[iP j]]) rfl (by simp[aJ]) aA aA ?_;simp;refine Run.opsPre 1 fun K J=>?_
        refine yd ?_;simp;refine zi ?_;clear J;refine ya ?_;have hil:(rM w).length=w.length:=jV w
        have hi1:∀e∈[iP j]::rM w,e.length=1:=by
         intro e he;rcases aZg.1 he with rfl|he
         ·rfl
         ·exact aH3 w e he
        refine Run.appendV (id:=h.length+2) (es:=[[iP j]]) (ys:=rM w) (sz:=1) (by_:=8) (e:=3) rfl (by simp[aJ]) rfl rfl rfl rfl aA aA aA aA aA (by rw[hil];exact hw0) (by rw[hil];simp;omega) (by rw[hil];simp;omega) ?_;simp[hil];refine zo ?_;refine Run.keep [4,5,6] ?_;simp;refine Run.freezeV 5 (id:=h.length+2) (n:=1+w.length) (sz:=1) (es:=[iP j]::rM w) aA aA hi1 (by simp[hil];omega) ?_;simp;refine Run.ret ?_;exact y2s
     ·rw[if_neg hn] at hat;rw[hat aA];refine aFy hn ?_;exact Fin.ret' (h0:=h) aA rfl hh rfl aA rfl (xs:=[iA 1, .p (.prim (.slice none 0 0)), .p (sP [])]) (y:= .tup [iA 1, .p (.sl 1 (rM [])), .p (sP [])]) (Weak.tup (WeakL.cons (Weak.refl _) (WeakL.cons (Weak.nil _) (WeakL.refl _)))) aA ⟨rfl,rfl⟩
    ·rw[if_neg hk2] at hat;rw[hat aA];have hk2':(k2 !=1)=true:=by simp[hk2]
     refine znr ?_;refine zt1 hk2' ?_;refine Run.draw [0,0,0,0,0,0,0] [0,0,0,0,0,0,0] [0,1,0,4,0,19,63] [0,1,2,3,4,5,6] aC aC ?_;refine zd ?_;refine y9 ?_;refine znx ?_;exact y2s
   ·rw[if_neg hk] at hsn;have hk':(k !=1)=true:=by simp[hk]
    refine znr ?_;refine zt1 hk' ?_;refine y21 ?_;refine Run.keep [1,13,14,15] ?_;refine yh ?_;refine ye ?_;refine cI ?_;refine IH (j+1) _ _ ⟨by omega,hsn rfl⟩ aB ?_ aA;exact zS
  ·have hje:j=l.length:=aB;subst hje;rw[aIf 0 l vs hlen] at hall;rw[vZ hall];refine cY ?_;exact Fin.ret' (h0:=h) aA rfl hh (aZ0 _).symm aA rfl (xs:=[iA 0, .p (.prim (.slice none 0 0)), .p (sP [])]) (y:= .tup [iA 0, .p (.sl 1 (rM [])), .p (sP [])]) (Weak.tup (WeakL.cons (Weak.refl _) (WeakL.cons (Weak.nil _) (WeakL.refl _)))) aA ⟨rfl,rfl⟩
 induction N with
 |zero=>
  intro l vs hN hB hf h hh;refine key l vs hB hf (fun n qs ws hp=>?_) h hh;have:=Pt.size_at hp;have:=(Pt.mk 1 n qs).size_pos;omega
 |succ N ih=>
  intro l vs hN hB hf h hh;refine key l vs hB hf (fun n qs ws hp hf2 g hw=>?_) h hh;have:=Pt.size_at hp;simp only[Pt.size] at this;exact ih qs ws aB aB hf2 g hw
open Go Go.AI
def aTw:Option Int->Option Int->Option Int
 |none,b=>b
 |a,none=>a
 |some x,some y=>some (max x y)
@[simp] theorem aOr (a:Option Int):aTw none a=a:=rfl
@[simp] theorem aMu (a:Option Int):aTw a none=a:=by cases a<;>rfl
@[simp] theorem aMv (x y:Int):aTw (some x) (some y)=some (max x y):=rfl
def upL:List (Int×Int)->Prop
 |[]=>True
 |x::l=>(∀y∈l,x.1<y.1)/\upL l
theorem yW {l:List (Int×Int)} {i v:Int} (h:lkI l i=some v):(i,v)∈l:=by
 induction l with
 |nil=>simp[lkI] at h
 |cons x l ih=>
  obtain⟨a,b⟩:=x;simp only[lkI] at h;split at h
  ·rename_i e;subst e;cases h;simp
  ·exact bAq _ (ih h)
theorem aHa {l:List (Int×Int)} (hn:(l.map Prod.fst).Nodup) {i v:Int} (h:(i,v)∈l):lkI l i=some v:=by
 induction l with
 |nil=>simp at h
 |cons x l ih=>
  obtain⟨a,b⟩:=x;simp only[aZc,bAc] at hn;simp only[lkI];rcases aZg.1 h with h|h
  ·cases h;simp
  ·have:a≠i:=fun e=>hn.1 (e▸aZq.2 ⟨_,h,rfl⟩)
   rw[if_neg this];exact ih hn.2 h
theorem upL.nodup:∀ {l:List (Int×Int)},upL l->(l.map Prod.fst).Nodup
 |[],_=>by simp
 |x::l,h=>by
  simp only[aZc,bAc];refine⟨fun hm=>?_,upL.nodup h.2⟩;obtain⟨y,hy,e⟩:=aZq.1 hm;have:=h.1 y hy;omega
theorem aO6:∀ {a b:List (Int×Int)},upL a->upL b->(∀i,lkI a i=lkI b i)->a=b
 |[],[],_,_,_=>rfl
 |[],y::b,_,_,h=>by have:=h y.1;simp[lkI] at this
 |x::a,[],_,_,h=>by have:=h x.1;simp[lkI] at this
 |(i,p)::a,(k,q)::b,ha,hb,h=>by
  have hlow:∀ {l:List (Int×Int)} {z:Int},(∀y∈l,z<y.1)->lkI l z=none:=fun hl=>oL fun y hy e=>by have:=hl y hy;omega
  have hik:i=k:=by
   have h1:=h i;have h2:=h k;simp only[lkI,if_true] at h1 h2;rcases Int.lt_trichotomy i k with c|c|c
   ·rw[if_neg aB] at h1;rw[hlow (fun y hy=>by have:=hb.1 y hy;simp only at this;omega)] at h1;cases h1
   ·exact c
   ·rw[if_neg aB] at h2;rw[hlow (fun y hy=>by have:=ha.1 y hy;simp only at this;omega)] at h2;cases h2
  subst hik
  have hpq:p=q:=by
   have h1:=h i;simpa [lkI] using h1
  subst hpq
  congr 1
  refine aO6 ha.2 hb.2 fun j=>?_
  have hj:=h j;simp only[lkI] at hj
  by_cases e:i=j
  ·subst e;rw[hlow ha.1,hlow hb.1]
  ·rwa [if_neg e,if_neg e] at hj
def bR:List (Int×Int)->List (Int×Int)->List (Int×Int)
 |[],b=>b
 |a,[]=>a
 |(i,p)::a,(k,q)::b=>if i<k then(i,p)::bR a ((k,q)::b) else if k<i then(k,q)::bR ((i,p)::a) b else(i,max p q)::bR a b
termination_by a b=>a.length+b.length
@[simp] theorem dC (a:List (Int×Int)):bR a [] =a:=by cases a<;>simp[bR]
@[simp] theorem cU (a:List (Int×Int)):bR [] a=a:=by cases a<;>simp[bR]
theorem hK {z:Int} :∀(a b:List (Int×Int)),(∀y∈a,z<y.1)->(∀y∈b,z<y.1)->∀y∈bR a b,z<y.1
 |[],b,_,hb,y,hy=>by rw[cU] at hy;exact hb y hy
 |a,[],ha,_,y,hy=>by rw[dC] at hy;exact ha y hy
 |(i,p)::a,(k,q)::b,ha,hb,y,hy=>by
  rw[bR] at hy;have hi:=ha (i,p) aA;have hk:=hb (k,q) aA;split at hy
  ·rcases aZg.1 hy with rfl|hy
   ·exact hi
   ·exact hK a _ (fun y h=>ha y (by simp[h])) hb y hy
  ·split at hy
   ·rcases aZg.1 hy with rfl|hy
    ·exact hk
    ·exact hK _ b ha (fun y h=>hb y (by simp[h])) y hy
   ·rcases aZg.1 hy with rfl|hy
    ·exact hi
    ·exact hK a b (fun y h=>ha y (by simp[h])) (fun y h=>hb y (by simp[h])) y hy
termination_by a b=>a.length+b.length
theorem jF:∀(a b:List (Int×Int)),upL a->upL b->upL (bR a b)
 |[],b,_,hb=>by rwa [cU]
 |a,[],ha,_=>by rwa [dC]
 |(i,p)::a,(k,q)::b,ha,hb=>by
  rw[bR];split
  ·rename_i h;refine⟨fun y hy=>hK a _ ha.1 (fun y hy=>?_) y hy,jF a _ ha.2 hb⟩;rcases aZg.1 hy with rfl|hy
   ·exact h
   ·have:=hb.1 y hy;simp only at this⊢;omega
  ·split
   ·rename_i h;refine⟨fun y hy=>hK _ b (fun y hy=>?_) hb.1 y hy,jF _ b ha hb.2⟩;rcases aZg.1 hy with rfl|hy
    ·exact h
    ·have:=ha.1 y hy;simp only at this⊢;omega
   ·have:i=k:=aB;subst this;exact⟨fun y hy=>hK a b ha.1 hb.1 y hy,jF a b ha.2 hb.2⟩
termination_by a b=>a.length+b.length
theorem kX (j:Int):∀(a b:List (Int×Int)),upL a->upL b->lkI (bR a b) j=aTw (lkI a j) (lkI b j)
 |[],b,_,hb=>by simp[lkI]
 |a,[],ha,_=>by simp[lkI]
 |(i,p)::a,(k,q)::b,ha,hb=>by
  have hlow:∀ {l:List (Int×Int)} {z:Int},(∀y∈l,z<y.1)->lkI l z=none:=fun hl=>oL fun y hy e=>by have:=hl y hy;omega
  rw[bR];split
  ·rename_i h;simp only[lkI];have ih:=kX j a ((k,q)::b) ha.2 hb;simp only[lkI] at ih;split
   ·rename_i e;subst e;rw[if_neg aB,hlow (fun y hy=>by have:=hb.1 y hy;simp only at this;omega)];simp
   ·rw[ih]
  ·split
   ·rename_i h;simp only[lkI];have ih:=kX j ((i,p)::a) b ha hb.2;simp only[lkI] at ih;split
    ·rename_i e;subst e;rw[if_neg aB,hlow (fun y hy=>by have:=ha.1 y hy;simp only at this;omega)];simp
    ·rw[ih]
   ·have:i=k:=aB;subst this;simp only[lkI];split
    ·simp
    ·exact kX j a b ha.2 hb.2
termination_by a b=>a.length+b.length
theorem zD {a b:List (Int×Int)} (h:bR a b=[]):a=[]/\b=[]:=by
 match a,b with
 |[],b=>simpa using h
 |a,[]=>simpa using h
 |(i,p)::a,(k,q)::b=>
  rw[bR] at h;split at h
  ·cases h
  ·split at h<;>cases h
def dS:List (Int×Int)->Int
 |[]=>0
 |x::l=>max x.2 (dS l)
theorem sA (l:List (Int×Int)):0<=dS l:=by
 induction l with
 |nil=>simp[dS]
 |cons x l ih=>simp only[dS];omega
theorem aHc {l:List (Int×Int)} {x:Int×Int} (h:x∈l):x.2<=dS l:=by
 induction l with
 |nil=>simp at h
 |cons y l ih=>
  simp only[dS];exact y56
theorem aMl (l:List (Int×Int)):dS l=0\/∃x∈l,x.2=dS l:=by
 induction l with
 |nil=>exact .inl rfl
 |cons y l ih=>
  simp only[dS];rcases ih with h|⟨x,hx,h⟩
  ·rw[h]
   by_cases c:0<=y.2
   ·exact .inr ⟨y,by simp,by omega⟩
   ·exact .inl aB
  ·by_cases c:dS l<=y.2
   ·exact .inr ⟨y,by simp,by omega⟩
   ·exact .inr ⟨x,by simp[hx],by omega⟩
theorem jX:∀(a b:List (Int×Int)),dS (bR a b)=max (dS a) (dS b)
 |[],b=>by have:=sA b;rw[cU];simp only[dS];omega
 |a,[]=>by have:=sA a;rw[dC];simp only[dS];omega
 |(i,p)::a,(k,q)::b=>by
  rw[bR];split
  ·have ih:=jX a ((k,q)::b);simp only[dS] at ih⊢;omega
  ·split
   ·have ih:=jX ((i,p)::a) b;simp only[dS] at ih⊢;omega
   ·have ih:=jX a b;simp only[dS] at ih⊢;omega
termination_by a b=>a.length+b.length
def eN:List (Int×Int)->Int->Int->List (Int×Int)
 |[],i,p=>[(i,p)]
 |x::m,i,p=>if x.1=i then(i,max x.2 p)::m else x::eN m i p
theorem nI (m:List (Int×Int))(i p:Int):∀k∈(eN m i p).map Prod.fst,k∈m.map Prod.fst\/k=i:=by
 induction m with
 |nil=>simp[eN]
 |cons x m ih=>
  intro k hk;simp only[eN] at hk;split at hk
  ·rename_i e;simp only[aZc,aZg] at hk⊢;rcases hk with rfl|hk
   ·exact .inr rfl
   ·exact .inl (.inr hk)
  ·simp only[aZc,aZg] at hk⊢;rcases hk with rfl|hk
   ·exact .inl (.inl rfl)
   ·rcases ih k hk with h|h
    ·exact .inl (.inr h)
    ·exact .inr h
theorem lD {m:List (Int×Int)} (i p:Int)(h:(m.map Prod.fst).Nodup):((eN m i p).map Prod.fst).Nodup:=by
 induction m with
 |nil=>simp[eN]
 |cons x m ih=>
  simp only[aZc,bAc] at h;simp only[eN];split
  ·rename_i e;subst e;simpa using h
  ·rename_i e;simp only[aZc,bAc];refine⟨fun hm=>?_,ih h.2⟩;rcases nI m i p _ hm with c|c
   ·exact h.1 c
   ·exact e c
theorem uK (m:List (Int×Int))(i p j:Int):lkI (eN m i p) j=if i=j then aTw (lkI m j) (some p) else lkI m j:=by
 induction m with
 |nil=>simp[eN,lkI]
 |cons x m ih=>
  simp only[eN];split
  ·rename_i e;simp only[lkI,e];split<;>simp
  ·rename_i e;simp only[lkI]
   by_cases c:i=j
   ·subst c;rw[if_neg e,if_neg e,ih]
   ·rw[if_neg c] at ih⊢;rw[ih]
def aAf (m:List (Int×Int))(vs:List (Int×Int))(n:Int):List (Int×Int):=vs.foldl (fun m x=>eN m x.1 (x.2+n)) m
theorem vU {m:List (Int×Int)} (vs:List (Int×Int))(n:Int)(h:(m.map Prod.fst).Nodup):((aAf m vs n).map Prod.fst).Nodup:=by
 induction vs generalizing m with
 |nil=>exact h
 |cons x vs ih=>exact ih (lD _ _ h)
def iO (vs:List (Int×Int))(n:Int):List (Int×Int):=vs.map fun x=>(x.1,x.2+n)
theorem sB {n:Int} :∀ {vs:List (Int×Int)},upL vs->upL (iO vs n)
 |[],_=>trivial
 |x::vs,h=>by
  refine⟨fun y hy=>?_,sB h.2⟩;obtain⟨z,hz,rfl⟩:=aZq.1 hy;exact h.1 z hz
theorem aDs (n j:Int):∀(vs m:List (Int×Int)),upL vs->lkI (aAf m vs n) j=aTw (lkI m j) (lkI (iO vs n) j)
 |[],m,_=>by simp[aAf,iO,lkI]
 |x::vs,m,h=>by
  have ih:=aDs n j vs (eN m x.1 (x.2+n)) h.2;have e:aAf m (x::vs) n=aAf (eN m x.1 (x.2+n)) vs n:=rfl;rw[e,ih,uK];simp only[iO,aZc,lkI];split
  ·rename_i c;subst c
   have:lkI (List.map (fun x=>(x.1,x.2+n)) vs) x.1=none:=oL fun y hy c=>by
    obtain⟨z,hz,rfl⟩:=aZq.1 hy;have:=h.1 z hz;simp only at c;omega
   rw[this];simp
  ·rfl
end Go.Proofs.YtcfcolkbeelegaaGreat
