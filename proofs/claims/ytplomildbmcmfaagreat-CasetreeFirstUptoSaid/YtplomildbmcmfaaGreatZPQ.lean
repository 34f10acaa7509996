import Derived.Test.YtplomildbmcmfaaGreatZA0
import Derived.Test.YtplomildbmcmfaaGreatZPC
import Derived.Test.YtplomildbmcmfaaGreatZFG
import Derived.Test.YtplomildbmcmfaaGreatProg
import Derived.KernelRfl
import Derived.Shelf.SlIterI.Sorted
import Derived.Shelf.Lays
import Derived.Test.YtplomildbmcmfaaGreatZM3b
import Derived.Test.YtplomildbmcmfaaGreatZE13
import Derived.Test.YtplomildbmcmfaaGreatZFS
import Derived.Test.YtplomildbmcmfaaGreatZEVq
import Derived.Test.YtplomildbmcmfaaGreatZFQ
import Derived.Test.YtplomildbmcmfaaGreatZC
import Derived.Test.YtplomildbmcmfaaGreatZX19
import Derived.Test.YtplomildbmcmfaaGreatZX14
import Derived.Test.YtplomildbmcmfaaGreatZFLB
import Derived.Test.YtplomildbmcmfaaGreatZD
import Derived.Test.YtplomildbmcmfaaGreatZE6
import Derived.Test.YtplomildbmcmfaaGreatZFI
set_option maxRecDepth 8000
set_option maxHeartbeats 8000000
namespace Go.Proofs.YtplomildbmcmfaaGreat
open Go Go.AI
mutual
def aLn (c:Int):Pt->Bool
 | .mk k _ qs=>(k==c)||jA c qs
def jA (c:Int):List Pt->Bool
 |[]=>false
 |p::ps=>aLn c p||jA c ps
end
theorem qG (c:Int)(l:List Pt):jA c l=l.any (aLn c):=by
 induction l with
 |nil=>rfl
 |cons p l ih=>simp[jA,ih]
theorem aDp {α:Type} {P:α->Bool} {l:List α} {j:Nat} {x:α} (h:l[j]?=some x)(h0:(l.take j).any P=false)(hx:P x=false):(l.take (j+1)).any P=false:=by
 have e:l.take (j+1)=l.take j++[x]:=by rw[bNh,h];rfl
 rw[e,List.any_append,h0];simp[hx]
theorem aJ1 {α:Type} {P:α->Bool} {l:List α} {j:Nat} {x:α} (h:l[j]?=some x)(hx:P x=true):l.any P=true:=
 bOk.2 ⟨x,bMa h,hx⟩
theorem aLs (cap:List AV)(P:Pt->Bool)(h:Heap)(hh:WF h)(l:List Pt)(hb:l.length<=1048576)(hc:∀p∈l,ACalls Tryz.prog 108 ([p.av]++cap) h fun o h'=>o= .ret (bA (P p))/\h'=h):
  ACalls Tryz.prog 180 [.p (.sl 3 (ptPs l)), .fn (.func 108) [] cap] h fun o h'=>∃r:Int,o= .ret (iA r)/\h'=h/\decide (0<=r)=l.any P:=by
 refine dE Tryz.func180 Tryz.ntmps180 ?_;refine Run.loopS [0,1,7] (fun j:Nat=>j<=l.length/\(l.take j).any P=false) (fun j=>l.length-j) (fun j=>[(8,iA j)]) (fun _=>h) 0 aA ?_ rfl ?_
 ·exact zS
 ·rintro j ⟨hj,hall⟩ IH;refine cK ?_
  by_cases hjl:j<l.length
  ·have hg':l[j]?=some l[j]:=bLv hjl;have hcu:=hc _ (bLy hjl);generalize l[j]=u at hg' hcu;refine lH hjl ?_;refine zr1 hg' ?_;refine Run.call (args:=[u.av]++cap) rfl rfl aA rfl hcu ?_ ?_
   ·rintro v h' ⟨hv,hh'⟩;subst hh';simp only[AOut.ret.injEq] at hv;subst hv;refine zo ?_
    by_cases h1:P u=true
    ·refine znt1 h1 ?_;refine zA ?_;refine zF3 hh ?_;exact⟨j,rfl,rfl,by rw[aJ1 hg' h1];simp⟩
    ·have h1:P u=false:=by simpa using h1
     refine znf1r h1 ?_;refine IH (j+1) _ _ ⟨by omega,aDp hg' hall h1⟩ aB ?_ rfl;exact zS
   ·rintro v h' ⟨hv,_⟩;cases hv
  ·have hje:j=l.length:=aB;subst hje;rw[bMm] at hall;refine znfen ?_;refine zA ?_;refine zF3 hh ?_;exact⟨-1,rfl,rfl,by rw[hall];rfl⟩
theorem aJ0 (cap:List AV)(P:Pt->Bool)(h:Heap)(hh:WF h)(l:List Pt)(hb:l.length<=1048576)(hc:∀p∈l,ACalls Tryz.prog 108 ([p.av]++cap) h fun o h'=>o= .ret (bA (P p))/\h'=h):
  ACalls Tryz.prog 107 [.p (.sl 3 (ptPs l)), .fn (.func 108) [] cap] h fun o h'=>o= .ret (bA (l.any P))/\h'=h:=by
 have hi:=aLs cap P h hh l hb hc;generalize l.any P=r0 at hi⊢;refine dE Tryz.func107 Tryz.ntmps107 ?_;refine Run.call rfl rfl aA rfl hi ?_ ?_
 ·rintro v h' ⟨r,hv,hh',hr⟩;subst hh';exact y5h
 ·rintro v h' ⟨r,hv,_⟩;cases hv
theorem vQ (c:Int)(N:Nat):∀(l:List Pt),Pt.sizes l<=N->Pt.sizes l<=1048576->∀h,WF h->ACalls Tryz.prog 57 [.p (.sl 3 (ptPs l)),iA c] h fun o h'=>o= .ret (bA (jA c l))/\h'=h:=by
 have key:∀l:List Pt,Pt.sizes l<=1048576->(∀p∈l,∀g,WF g->ACalls Tryz.prog 57 [.p (.sl 3 (ptPs p.args)),iA c] g fun o h'=>o= .ret (bA (jA c p.args))/\h'=g)->
   ∀h,WF h->ACalls Tryz.prog 57 [.p (.sl 3 (ptPs l)),iA c] h fun o h'=>o= .ret (bA (jA c l))/\h'=h:=by
  intro l hB ih h hh;have hll:=Pt.length_le l
  have hc:∀p∈l,∀(g:Heap) (q:Nat),WF g->g[q]?=some (some (.cells [iA c]))->ACalls Tryz.prog 108 ([p.av]++[.ptr q 0]) g fun o h'=>o= .ret (bA (aLn c p))/\h'=g:=by
   intro p hp g q hg hq;obtain⟨p1,_⟩:=idf hq;have c1:=fun g hw=>ih p hp g hw
   obtain⟨k,n,qs⟩:=p;simp only[Pt.args] at c1;simp only[aLn];generalize jA c qs=b at c1⊢;simp only[Pt.av,pcells_mk,List.map,bLz,bM4];refine zER Tryz.func108 Tryz.ntmps108 ?_
   cases hk:(k==c) with
   |true=>
    refine zn ?_;refine zr2 p1 hk ?_;refine zx ?_;exact y73
   |false=>
    refine zn ?_;refine zr2 p1 hk ?_;refine zL (c1 _ (hg.app aA)) ?_;refine zox ?_;exact y73
  have c2:=fun(g:Heap) (q:Nat) (hw:WF g) (hq:g[q]?=some (some (.cells [iA c])))=>aJ0 [.ptr q 0] (aLn c) g hw l aB fun p hp=>hc p hp g q hw hq
  rw[qG];generalize l.any (aLn c)=b at c2⊢;refine dE Tryz.func57 Tryz.ntmps57 ?_;refine zL (c2 _ h.length (hh.app aA) aA) ?_;refine zox ?_;exact y29
 induction N with
 |zero=>
  intro l hN hB h hh;exact y4d
 |succ N ih=>
  intro l hN hB h hh;exact y36
theorem aFm (N:Nat):∀(l:List Pt),Pt.sizes l<=N->Pt.sizes l<=1048576->∀h,WF h->ACalls Tryz.prog 24 [.p (.sl 3 (ptPs l))] h fun o h'=>o= .ret (bA (jA 3 l))/\h'=h:=by
 have key:∀l:List Pt,Pt.sizes l<=1048576->(∀p∈l,∀g,WF g->ACalls Tryz.prog 24 [.p (.sl 3 (ptPs p.args))] g fun o h'=>o= .ret (bA (jA 3 p.args))/\h'=g)->
   ∀h,WF h->ACalls Tryz.prog 24 [.p (.sl 3 (ptPs l))] h fun o h'=>o= .ret (bA (jA 3 l))/\h'=h:=by
  intro l hB ih h hh;have hll:=Pt.length_le l;rw[qG];refine dE Tryz.func24 Tryz.ntmps24 ?_;refine Run.loopS [0] (fun j:Nat=>j<=l.length/\(l.take j).any (aLn 3)=false) (fun j=>l.length-j) (fun j=>[(3,iA j)]) (fun _=>h) 0 aA ?_ rfl ?_
  ·exact zS
  rintro j ⟨hj,hall⟩ IH;refine cK ?_
  by_cases hjl:j<l.length
  ·have hg:l[j]?=some l[j]:=bLv hjl;have hcj:=ih _ (bLy hjl);have hhit:=aJ1 (P:=aLn 3) hg;have hnx:=aDp (P:=aLn 3) hg hall;generalize l[j]=p at hg hcj hhit hnx;obtain⟨k,n,qs⟩:=p;simp only[Pt.args] at hcj;simp only[aLn] at hhit hnx;generalize jA 3 qs=b at hcj hhit hnx;refine znt1 hjl ?_
   cases hk:(k==3) with
   |true=>
    rw[hk] at hhit;rw[hhit aA];refine zn ?_;refine bEa hg hk ?_;refine zt ?_;refine yi ?_;exact y2j
   |false=>
    rw[hk] at hhit hnx;refine zn ?_;refine bEa hg hk ?_;refine zL (hcj _ hh) ?_
    cases b with
    |true=>
     rw[hhit aA];refine zot ?_;refine yi ?_;exact y2j
    |false=>
     refine zofr ?_;refine IH (j+1) _ _ ⟨by omega,hnx aA⟩ aB ?_ rfl;exact zS
  ·have hje:j=l.length:=aB;subst hje;rw[bMm] at hall;rw[hall];refine znfenrx ?_;exact y2j
 induction N with
 |zero=>
  intro l hN hB h hh;exact y4d
 |succ N ih=>
  intro l hN hB h hh;exact y36
mutual
def aTd:Pt->Nat
 | .mk k _ qs=>(if k=0 then 1 else 0)+bT qs
def bT:List Pt->Nat
 |[]=>0
 |p::ps=>aTd p+bT ps
end
mutual
theorem aUn:∀p:Pt,aTd p<=p.size
 | .mk k n qs=>by
  have:=oY qs;simp only[aTd,Pt.size];split<;>omega
theorem oY:∀l:List Pt,bT l<=Pt.sizes l
 |[]=>bLx _
 |p::ps=>by
  have:=aUn p;have:=oY ps;simp only[bT,Pt.sizes];omega
end
theorem aFy (l:List Pt)(p:Pt):bT (l++[p])=bT l+aTd p:=by
 induction l with
 |nil=>simp[bT]
 |cons x l ih=>simp only[bLz,bT,ih];omega
theorem tE (l:List Pt)(j:Nat):bT (l.take j)<=bT l:=by
 induction l generalizing j with
 |nil=>simp
 |cons x l ih=>
  cases j with
  |zero=>simp[bT]
  |succ j=>simp only[bMv,bT];have:=ih j;omega
theorem aE3 {l:List Pt} {j:Nat} {p:Pt} (h:l[j]?=some p):bT (l.take (j+1))=bT (l.take j)+aTd p:=by
 have e:l.take (j+1)=l.take j++[p]:=by rw[bNh,h];rfl
 rw[e,aFy]
theorem aJb (N:Nat):∀(l:List Pt),Pt.sizes l<=N->Pt.sizes l<=1048576->∀h,WF h->ACalls Tryz.prog 104 [.p (.sl 3 (ptPs l))] h fun o h'=>o= .ret (iA (bT l))/\h'=h:=by
 have key:∀l:List Pt,Pt.sizes l<=1048576->(∀p∈l,∀g,WF g->ACalls Tryz.prog 104 [.p (.sl 3 (ptPs p.args))] g fun o h'=>o= .ret (iA (bT p.args))/\h'=g)->
   ∀h,WF h->ACalls Tryz.prog 104 [.p (.sl 3 (ptPs l))] h fun o h'=>o= .ret (iA (bT l))/\h'=h:=by
  intro l hB ih h hh;have hll:=Pt.length_le l;have hcl:=oY l;refine zE Tryz.func104 Tryz.ntmps104 ?_;refine sE ?_;refine Run.loopS [0] (fun j:Nat=>j<=l.length) (fun j=>l.length-j) (fun j=>[(3,iA (bT (l.take j))),(4,iA j)]) (fun _=>h) 0 aA ?_ rfl ?_
  ·simp[bT];exact zK
  rintro j hj IH;refine cK ?_
  by_cases hjl:j<l.length
  ·have hg:l[j]?=some l[j]:=bLv hjl;have hcj:=ih _ (bLy hjl);have hat:=aE3 hg;have hle:=tE l (j+1);generalize l[j]=p at hg hcj hat;obtain⟨k,n,qs⟩:=p;simp only[Pt.args] at hcj;simp only[aTd] at hat;generalize bT qs=b at hcj hat;obtain⟨z,hz⟩:∃z:Nat,bT (l.take j)=z:=⟨_,rfl⟩;rw[hz] at hat;refine znt1 hjl ?_;refine aT3 hg ?_;obtain⟨z2,hz2⟩:∃z2:Nat,(if k=0 then z+1 else z)=z2:=⟨_,rfl⟩;have hz3:bT (l.take (j+1))=z2+b:=by rw[hat,<-hz2];split<;>omega
   have w1:IntKind.i64.wrap ((z2:Int)+(b:Int))=((z2+b:Nat):Int):=by rw[wrap_id aB aB];omega
   refine Run.joinH [0,4] [(3,iA z2)] h (fun hJ=>?_) ?_
   ·by_cases hk:k=0
    ·rw[if_pos hk] at hz2;have w0:IntKind.i64.wrap ((z:Int)+1)=(z2:Int):=by rw[wrap_id aB aB];omega
     refine zt1 hk ?_;refine zq2 hz w0 ?_;exact y33
    ·exact y74
   refine y6 ?_;refine zsn ?_;refine aT3 hg ?_;refine zL (hcj _ hh) ?_;refine zo1 w1 ?_;refine zr ?_;refine IH (j+1) _ _ aB aB ?_ rfl;simp[hz3];exact zK
  ·have hje:j=l.length:=aB;subst hje;rw[bMm];refine znfenrx ?_;exact y2j
 induction N with
 |zero=>
  intro l hN hB h hh;exact y4d
 |succ N ih=>
  intro l hN hB h hh;exact y36
theorem aOh (q:Nat)(N:Nat):∀(l:List Pt),Pt.sizes l<=N->Pt.sizes l<=1048576->∀h,WF h->h[q]?=some (some (.cells [.fn (.func 231) [] [.ptr q 0]]))->ACalls Tryz.prog 231 [.p (.sl 3 (ptPs l)), .ptr q 0] h fun o h'=>o= .ret (iA (bT l))/\h'=h:=by
 have key:∀l:List Pt,Pt.sizes l<=1048576->(∀p∈l,∀g,WF g->g[q]?=some (some (.cells [.fn (.func 231) [] [.ptr q 0]]))->ACalls Tryz.prog 231 [.p (.sl 3 (ptPs p.args)), .ptr q 0] g fun o h'=>o= .ret (iA (bT p.args))/\h'=g)->
   ∀h,WF h->h[q]?=some (some (.cells [.fn (.func 231) [] [.ptr q 0]]))->ACalls Tryz.prog 231 [.p (.sl 3 (ptPs l)), .ptr q 0] h fun o h'=>o= .ret (iA (bT l))/\h'=h:=by
  intro l hB ih h hh hq;obtain⟨q1,_⟩:=idf hq;have hql:=(bLw.1 hq).1;have hll:=Pt.length_le l;have hcl:=oY l;refine zE Tryz.func231 Tryz.ntmps231 ?_;refine sE ?_;refine Run.loopS [1,7,8] (fun j:Nat=>j<=l.length) (fun j=>l.length-j) (fun j=>[(4,iA (bT (l.take j))),(9,iA j)]) (fun _=>h) 0 aA ?_ rfl ?_
  ·simp[bT];exact zK
  rintro j hj IH;refine cK ?_
  by_cases hjl:j<l.length
  ·have hg:l[j]?=some l[j]:=bLv hjl;have hcj:=ih _ (bLy hjl);have hat:=aE3 hg;have hle:=tE l (j+1);generalize l[j]=p at hg hcj hat;obtain⟨k,n,qs⟩:=p;simp only[Pt.args] at hcj;simp only[aTd] at hat;generalize bT qs=b at hcj hat;obtain⟨z,hz⟩:∃z:Nat,bT (l.take j)=z:=⟨_,rfl⟩;rw[hz] at hat;refine znt1 hjl ?_;refine aT3 hg ?_;refine zr ?_;obtain⟨z2,hz2⟩:∃z2:Nat,(if k=0 then z+1 else z)=z2:=⟨_,rfl⟩;have hz3:bT (l.take (j+1))=z2+b:=by rw[hat,<-hz2];split<;>omega
   have w1:IntKind.i64.wrap ((z2:Int)+(b:Int))=((z2+b:Nat):Int):=by rw[wrap_id aB aB];omega
   refine Run.joinH [1,6,7,8,9] [(4,iA z2)] (h++[some (.cells [iA k, .p (sP n), .p (.sl 3 (ptPs qs))])]) (fun hJ=>?_) ?_
   ·by_cases hk:k=0
    ·rw[if_pos hk] at hz2;have w0:IntKind.i64.wrap ((z:Int)+1)=(z2:Int):=by rw[wrap_id aB aB];omega
     refine zt1 hk ?_;refine zq2 hz w0 ?_;exact y33
    ·exact y74
   refine y6 ?_;refine aAk q1 ?_;refine zL (hcj _ (hh.app aA) (q1 _)) ?_;refine zo1 w1 ?_;refine Run.keep [1,4,7,8,9] ?_;refine y1s ?_;simp;refine Run.cutAt 0 hh rfl aB aA (by simp;omega) aA rfl ?_;refine cK ?_;refine IH (j+1) _ _ aB aB ?_ aA;simp[hz3];exact zK
  ·have hje:j=l.length:=aB;subst hje;rw[bMm];refine znfenrx ?_;exact y2j
 induction N with
 |zero=>
  intro l hN hB h hh;exact y4d
 |succ N ih=>
  intro l hN hB h hh;exact y36
theorem aNa (h:Heap)(hh:WF h)(c:Cl)(hB:Pt.sizes c.ps<=1048576):ACalls Tryz.prog 160 [c.av] h fun o h'=>o= .ret (iA (bT c.ps))/\h'=h:=by
 have c1:=fun(q:Nat) (g:Heap) (hw:WF g) (hq:g[q]?=some (some (.cells [.fn (.func 231) [] [.ptr q 0]])))=>aOh q _ c.ps (bLx _) hB g hw hq
 obtain⟨ps,⟨k,i,n,ls,ks⟩⟩:=c;simp only at c1;simp only[Cl.av,Cl.cells,cells_mk,List.map];refine zE Tryz.func160 Tryz.ntmps160 ?_;refine sE ?_;refine zr ?_;refine zL (c1 (h.length+1) _ (hh.app aA) aA) ?_;refine zox ?_;exact y29
theorem zQ (h:Heap)(hh:WF h)(c:Cl)(hB:Pt.sizes c.ps<=1048576):ACalls Tryz.prog 54 [c.av] h fun o h'=>o= .ret (iA (bT c.ps))/\h'=h:=by
 have c1:=fun g hw=>aJb _ c.ps (bLx _) hB g hw
 obtain⟨ps,⟨k,i,n,ls,ks⟩⟩:=c;simp only at c1;simp only[Cl.av,Cl.cells,cells_mk,List.map];refine dE Tryz.func54 Tryz.ntmps54 ?_;refine zL (c1 _ (hh.app aA)) ?_;refine zox ?_;exact y29
open Go Go.AI
def bKx:Option Int->Option Int->Option Int
 |none,b=>b
 |a,none=>a
 |some x,some y=>some (max x y)
@[simp] theorem aP1 (a:Option Int):bKx none a=a:=rfl
@[simp] theorem aMm (a:Option Int):bKx a none=a:=by cases a<;>rfl
@[simp] theorem bCt (x y:Int):bKx (some x) (some y)=some (max x y):=rfl
def qQ:List (Int×Int)->List (Int×Int)->List (Int×Int)
 |[],b=>b
 |a,[]=>a
 |(i,p)::a,(k,q)::b=>if i<k then(i,p)::qQ a ((k,q)::b) else if k<i then(k,q)::qQ ((i,p)::a) b else(i,max p q)::qQ a b
termination_by a b=>a.length+b.length
@[simp] theorem aIo (a:List (Int×Int)):qQ a [] =a:=by cases a<;>simp[qQ]
@[simp] theorem aMc (a:List (Int×Int)):qQ [] a=a:=by cases a<;>simp[qQ]
open Go Go.AI
theorem bH1:tP Tryz.prog 498=true:=aC
attribute [simp] uT mT aQq bH1
open Go Go.AI
theorem aLt (l:List Int)(j:Nat):(bF3 l)[j]?=(l[j]?).map fun z=>[iP z]:=by simp[bF3]
attribute [simp] aC5 aLt
open Go Go.AI
theorem buf_set {sz m j:Nat} {es:List (List PV)} {c:List PV} (hes:∀e∈es,e.length=sz)(hc:c.length=sz)(hj:j<es.length):patch (buf sz es m) (j*sz) (c.map .p)=buf sz (es.set j c) m:=by
 unfold buf
 have hle:j*sz+sz<=es.length*sz:=by
  have:(j+1)*sz<=es.length*sz:=bNk _ hj;rw[bO3] at this;omega
 rw[patch_app _ _ _ _ (by rw[bMp,bMp,flat_length hes,hc];exact hle),<-jO,lW _ _ _ _ hes hc hj]
open Go Go.AI
theorem bLd:∃a b c,Tryz.prog.underlying 343=some (.func a b c):=⟨#[274,26,24],#[26,4],false,by kernel_rfl⟩
theorem st328:stT Tryz.prog 344=some [(0,1),(1,1),(2,1),(3,1),(4,1),(5,1),(6,1)]:=aC
def usB (env:List Dc)(n:List UInt8)(ls:List Lv):Bool:=decide ((bQ env n).2=0)&& decide ((ls.length:Int)=(bQ env n).1.ps)
theorem aId (env:List Dc)(hg:Env.good env)(hn:Env.short env)(k i:Int)(nm:List UInt8)(ls:List Lv)(ks:List Tm)(q:Nat)(s:Int)(h:Heap)(hh:WF h)(hq:h[q]?=some (some (.cells [eU env,iA s]))):
  ACalls Tryz.prog 259 [.ptr q 0,(Tm.mk k i nm ls ks).av] h fun o h'=>o= .ret (.tup [(bQ env nm).1.av,bA (usB env nm ls)])/\h'=h:=by
 have hql:=(bLw.1 hq).1;have hq':∀l:List (Option AO),(h++l)[q]?=some (some (.cells [eU env,iA s])):=fun l=>by rw[bM9 hql];exact hq
 have c1:=fun g hw=>aEd g hw env nm hg hn
 unfold usB;generalize bQ env nm=r at c1⊢;obtain⟨⟨a0,a1,a2,a3,⟨b0,b1,b2,b3,b4⟩⟩,e⟩:=r;simp only[En.av,En.cells,cells_mk,List.map] at c1;refine ACalls.of_run Tryz.func259 rfl ?_;simp only[Tryz.ntmps259,bM2,bM3,Tm.av,cells_mk,List.map];refine znr ?_;refine NB.Run.drawP (pc:=[6]) [0,0,0,0,0,0,0,0,0,0,0,1,2] [0,0,0,0,0,0,0,0,0,0,0,1,0] [0,1,3,7,0,16,63,127,255,255,0,1535,4095] [10,0,1,2,3,4,5,6,7,8,11,9,12] aC aC ?_;refine zp1 hq' ?_;refine NB.DR.pcall rfl rfl rfl aA rfl rfl (fun g hg=>(c1) g ?_) ?_
 ·exact y2o
 refine zp ?_;refine y8 ?_;refine nv ?_
 by_cases he:e=0
 ·subst he;have hl:((ls.length:Int)==a3)=decide ((ls.length:Int)=a3):=rfl;refine yt ?_;refine zd1 hl ?_;refine y8 ?_;refine znx ?_;refine zF1 hh ?_;exact⟨by simp[En.av,En.cells],rfl⟩
 ·have heb:(e==(0:Int))=false:=by simpa using he
  refine yt ?_;refine zd1 heb ?_;refine y8 ?_;refine znx ?_;refine zF1 hh ?_;exact⟨by simp[En.av,En.cells,he],rfl⟩
def aNx (env:List Dc)(n:List UInt8)(ls:List Lv):Prop:=usB env n ls=false\/(bQ env n).1.k=0\/(bQ env n).1.k=2\/(bQ env n).1.k=3\/(bQ env n).1.k=4
theorem sL (env:List Dc)(hg:Env.good env)(hn:Env.short env)(k i:Int)(nm:List UInt8)(ls:List Lv)(ks args:List Tm)(q:Nat)(s:Int)(h:Heap)(hh:WF h)(hq:h[q]?=some (some (.cells [eU env,iA s])))(hst:aNx env nm ls):
  ACalls Tryz.prog 201 [.ptr q 0,(Tm.mk k i nm ls ks).av, .p (.sl 5 (tmPs args))] h fun o h'=>o= .ret (.tup [zT.av,bA false])/\h'=h:=by
 have hql:=(bLw.1 hq).1;have hq':∀l:List (Option AO),(h++l)[q]?=some (some (.cells [eU env,iA s])):=fun l=>by rw[bM9 hql];exact hq
 have c1:=fun(l:List (Option AO)) (hw:WF (h++l))=>aId env hg hn k i nm ls ks q s (h++l) hw (hq' l)
 unfold aNx at hst;generalize usB env nm ls=b at c1 hst;generalize bQ env nm=r at c1 hst;obtain⟨⟨a0,a1,a2,a3,⟨b0,b1,b2,b3,b4⟩⟩,e⟩:=r;simp only[En.av,En.cells,cells_mk,List.map,Tm.av] at c1;simp only at hst;simp only[Tm.av,zT,cells_mk,List.map];refine dE Tryz.func201 Tryz.ntmps201 ?_;refine zL (c1 _ (hh.app aA)) ?_;refine zor ?_
 cases b with
 |false=>
  refine aDj ?_;exact y5n
 |true=>
  simp only[reduceCtorEq,false_or] at hst;refine znf ?_;rcases hst with rfl|rfl|rfl|rfl
  all_goals
   refine zn ?_;refine bLn ?_;refine Run.regPre 1 fun K J=>?_
   refine yd ?_;simp;refine zi ?_;clear J;refine yb ?_;refine Run.funcNil true rfl (by simp[awanted]) bLd (.inl ⟨by simp,rfl⟩) ?_;refine zs ?_;refine zot ?_;refine yi ?_;exact y5n
def bDx (env:List Dc)(t:Tm):Prop:=t.size<=40960/\(bN t).2.length<=40960/\match (bN t).1 with
 | .mk k _ n ls _=>k≠5/\k≠11/\k≠9/\k≠10/\(k=3->aNx env n ls)
theorem wM (env:List Dc)(hg:Env.good env)(hn:Env.short env)(t:Tm)(hst:bDx env t)(q:Nat)(s:Int)(h:Heap)(hh:WF h)(hq:h[q]?=some (some (.cells [eU env,iA s]))):
  ACalls Tryz.prog 135 [.ptr q 0,t.av] h fun o h'=>o= .ret t.av/\h'=h:=by
 have hql:=(bLw.1 hq).1;have hq':∀l:List (Option AO),(h++l)[q]?=some (some (.cells [eU env,iA s])):=fun l=>by rw[bM9 hql];exact hq
 obtain⟨h1,h2,h3⟩:=hst;have c1:=fun g hw=>rJ g hw t aB
 generalize bN t=r at c1 h2 h3;obtain⟨⟨k,i,nm,ls,ks⟩,asp⟩:=r;simp only at h2 h3;obtain⟨n5,n11,n9,n10,hc⟩:=h3;have c2:=fun(l:List (Option AO)) (hw:WF (h++l)) hc=>sL env hg hn k i nm ls ks asp q s (h++l) hw (hq' l) hc
 obtain⟨k0,i0,nm0,ls0,ks0⟩:=t;simp only[Tm.av,zT,cells_mk,List.map] at c1 c2⊢;have hasl:¬40960<(asp.length:Int):=aB;have hasl':¬40960<asp.length:=aB;have k5:(k==(5:Int))=false:=by simpa using n5
 have k11:(k==(11:Int))=false:=by simpa using n11
 have k9:(k==(9:Int))=false:=by simpa using n9
 have k10:(k==(10:Int))=false:=by simpa using n10
 refine zER Tryz.func135 Tryz.ntmps135 ?_;refine Run.loop ?_;refine znr ?_;refine zL (c1 _ (hh.app aA)) ?_;refine zo ?_;refine zr1 hasl ?_;refine yl ?_;refine zr1 k5 ?_;refine zf ?_;refine zr1 k11 ?_;refine zf ?_;refine zr1 k9 ?_;refine zf ?_;refine zr1 k10 ?_;refine zf ?_
 by_cases k3:k=3
 ·subst k3;refine aT1 ?_;refine zL (c2 _ (hh.app aA) (hc rfl)) ?_;refine sF ?_;exact y29
 ·have k3b:(k==(3:Int))=false:=by simpa using k3
  refine znr1f k3b ?_;refine yi ?_;exact y29
end Go.Proofs.YtplomildbmcmfaaGreat
