import Derived.Test.YtplomildbmcmfaaGreatZA0
import Derived.Test.YtplomildbmcmfaaGreatZFLB
import Derived.Test.YtplomildbmcmfaaGreatZX19
import Derived.Test.YtplomildbmcmfaaGreatZT8
import Derived.Test.YtplomildbmcmfaaGreatZE6
set_option maxRecDepth 8000
set_option maxHeartbeats 16000000
namespace Go.Proofs.YtplomildbmcmfaaGreat
open Go Go.AI
inductive Pt where
 |mk (k:Int) (n:List UInt8) (qs:List Pt)
mutual
def Pt.cells:Pt->List PV
 | .mk k n qs=>[iP k,sP n, .sl 3 (ptPs qs)]
def ptPs:List Pt->List (List PV)
 |[]=>[]
 |p::ps=>p.cells::ptPs ps
end
theorem vT:∀l:List Pt,ptPs l=l.map Pt.cells
 |[]=>by simp[ptPs]
 |p::l=>by simp[ptPs,vT l]
theorem pcells_mk (k:Int)(n:List UInt8)(qs:List Pt):(Pt.mk k n qs).cells=[iP k,sP n, .sl 3 (ptPs qs)]:=by simp only[Pt.cells]
@[simp] theorem aZf (p:Pt):p.cells.length=3:=by cases p;simp[pcells_mk]
@[simp] theorem aX1 (l:List Pt):(ptPs l).length=l.length:=by simp[vT]
@[simp] theorem vU (l:List Pt) (j:Nat):(ptPs l)[j]?=(l[j]?).map Pt.cells:=by simp[vT]
abbrev Pt.av (p:Pt):AV:= .agg (p.cells.map .p)
@[simp] theorem aXh (p:Pt):(p.cells.map AV.p).take 3=p.cells.map .p:=bM7 aA
@[simp] def Pt.kind:Pt->Int| .mk k _ _=>k
@[simp] def Pt.name:Pt->List UInt8| .mk _ n _=>n
@[simp] def Pt.args:Pt->List Pt| .mk _ _ qs=>qs
mutual
def Pt.size:Pt->Nat
 | .mk _ _ qs=>1+Pt.sizes qs
def Pt.sizes:List Pt->Nat
 |[]=>0
 |p::ps=>p.size+Pt.sizes ps
end
theorem Pt.size_pos (p:Pt):0<p.size:=by cases p;simp only[Pt.size];omega
theorem Pt.size_at {l:List Pt} {p:Pt} (h:p∈l):p.size<=Pt.sizes l:=by
 induction l with
 |nil=>cases h
 |cons x l ih=>
  simp only[Pt.sizes];rcases bMh.1 h with rfl|h
  ·omega
  ·have:=ih h;omega
theorem Pt.length_le (l:List Pt):l.length<=Pt.sizes l:=by
 induction l with
 |nil=>simp[Pt.sizes]
 |cons x l ih=>have:=x.size_pos;simp only[Pt.sizes,bM2];omega
structure Cl where
 ps:List Pt
 b:Tm
def Cl.cells (c:Cl):List PV:= .sl 3 (ptPs c.ps)::c.b.cells
abbrev Cl.av (c:Cl):AV:= .agg (c.cells.map .p)
abbrev clPs (l:List Cl):List (List PV):=l.map Cl.cells
@[simp] theorem cl_len (c:Cl):c.cells.length=6:=by simp[Cl.cells]
@[simp] theorem aTr (c:Cl):(c.cells.map AV.p).take 6=c.cells.map .p:=bM7 aA
def dL (env:List Dc)(s:List UInt8):Dc×Int×Bool:=
 if(wV env s).2.2=true/\0<=(wV env s).2.1 then((wV env s).1,aQ7 (wV env s).1 (wV env s).2.1.toNat,true) else(zDc,0,false)
theorem aL8 {env:List Dc} (s:List UInt8):wV env s=(zDc,0,false)\/∃d a,wV env s=(d,a,true)/\d∈env/\(a<0\/∃j:Nat,a=j/\j<d.cs.length):=by
 unfold wV
 cases hz:dX s env 0 with
 |none=>exact .inl rfl
 |some e=>
  obtain⟨j,d,h1,h2,h3,h4,h5⟩:=lV s env 0 e hz;have hm:=bMa h2;simp only[bMw] at h1;have ha:(env[e.at_.toNat]?).getD zDc=d:=by rw[h1,bMk,h2];rfl
  simp only[ha]
  by_cases e3:e.k=3
  ·rw[if_pos e3];exact .inr ⟨d,-1,rfl,hm, .inl aB⟩
  rw[if_neg e3]
  by_cases e4:e.k=4
  ·rw[if_pos e4];exact .inr ⟨d,e.it,rfl,hm, .inr ⟨e.it.toNat,by omega,by have:=h4 e4;omega⟩⟩
  rw[if_neg e4]
  by_cases e5:e.k=5
  ·rw[if_pos e5];exact .inr ⟨d,-2,rfl,hm, .inl aB⟩
  rw[if_neg e5];exact .inl rfl
theorem bAl (d:Dc):(d.cells.map AV.p).all lI=true:=by rw[List.all_map];exact bMg.2 fun _ _=>rfl
theorem aE6 (d:Dc):∃a0 a1 a2 a3 a4 a5 a6 a7 a8 a9 a10 a11 a12 b0 b1 b2 b3 b4 b5 b6 b7,d.cells=[a0,a1,a2,a3,a4,a5,a6,a7,a8,a9,a10,a11,a12,iP d.fx, .sl 6 (d.cs.map Ct.cells),b0,b1,b2,b3,b4,b5,b6,b7]:=by
 obtain⟨k,nm,ps,⟨k1,i1,n1,l1,s1⟩,⟨k2,i2,n2,l2,s2⟩,fx,cs,rp,⟨k3,i3,n3,l3,s3⟩,rr,fs⟩:=d;simp only[Dc.cells,cells_mk,bLz,bM4];exact⟨_,_,_,_,_,_,_,_,_,_,_,_,_,_,_,_,_,_,_,_,_,rfl⟩
abbrev zDcA:List AV:=[iA 0, .p (sP []),iA 0,iA 0,iA 0, .p (sP []), .p (.prim (.slice none 0 0)), .p (.prim (.slice none 0 0)),iA 0,iA 0, .p (sP []), .p (.prim (.slice none 0 0)), .p (.prim (.slice none 0 0)),iA 0, .p (.prim (.slice none 0 0)),iA 0,iA 0,iA 0, .p (sP []), .p (.prim (.slice none 0 0)), .p (.prim (.slice none 0 0)), .p (.prim (.slice none 0 0)), .p (.prim (.slice none 0 0))]
theorem aCi (h:Heap)(hh:WF h)(env:List Dc)(s:List UInt8)(hg:Env.good env)(hn:Env.short env):ACalls Tryz.prog 106 [eU env, .p (sP s)] h fun o h'=>o= .ret (.tup [(dL env s).1.av,iA (dL env s).2.1,bA (dL env s).2.2])/\h'=h:=by
 have c1:=fun g hw=>aH0 g hw env s hg hn
 obtain⟨r,hr⟩:∃r,r=dL env s:=⟨_,rfl⟩;rw[<-hr];unfold dL at hr;rcases aL8 (env:=env) s with e|⟨d,a,e,hm,hj⟩
 ·rw[e] at hr c1;simp at hr;subst hr;simp only[zDc,Dc.av,Dc.cells,zT,cells_mk,List.map,lvPs,tmPs,bLz,bM4] at c1;refine dE Tryz.func106 Tryz.ntmps106 ?_;refine zL (c1 _ (hh.app aA)) ?_;refine sF ?_;exact y4f
 ·have hdl:=bB d;obtain⟨a0,a1,a2,a3,a4,a5,a6,a7,a8,a9,a10,a11,a12,b0,b1,b2,b3,b4,b5,b6,b7,hsp⟩:=aE6 d;rw[e] at hr c1;simp only[Dc.av,hsp,List.map] at c1;rcases hj with ha|⟨j,rfl,hj⟩
  ·have ha':¬0<=a:=aB;simp only[ha',and_false,if_false] at hr;subst hr;refine dE Tryz.func106 Tryz.ntmps106 ?_;refine zL (c1 _ (hh.app aA)) ?_;refine aDk ha ?_;exact y4f
  ·have hgj:d.cs[j]?=some d.cs[j]:=bLv hj;have hgd:=(hg.2 d hm).cs _ (bLy hj);have c2:=fun g hw=>aIy g hw d.cs[j].ty hgd.1
   have hz:aQ7 d j=bF0 d.fx d.cs[j].ty:=by unfold aQ7;rw[hgj]
   simp only[bMk,hz,bF0,show(0:Int)<=j by omega,and_self,if_true] at hr;generalize d.cs[j]=c at hgj c2 hr;generalize iV c.ty=q at c2 hr;obtain⟨qs,⟨u1,u2,u3,u4,u5⟩⟩:=q;obtain⟨x,⟨k4,i4,n4,l4,s4⟩⟩:=c;simp only[Tm.av,cells_mk,List.map] at c2;have hcz:¬(j:Int)<0:=aB;refine dE Tryz.func106 Tryz.ntmps106 ?_;refine zL (c1 _ (hh.app aA)) ?_;refine zor ?_;refine zf ?_;refine aXu hgj ?_;refine zL (c2 _ (hh.app aA)) ?_;refine zo ?_;refine Run.draw [0,0,0,0,0,0,0,0,1,1] [0,0,0,0,0,0,0,0,0,0] [0,0,2,0,8,30,62,1,255,511] [0,7,1,2,3,4,5,6,8,9] aC aC ?_;refine zd ?_;refine y8 ?_;refine znx ?_;refine zF1 hh ?_;exact⟨by rw[hr];simp only[Dc.av,hsp];rfl,rfl⟩
open Go Go.AI
theorem aCl (h:Heap)(hh:WF h)(env:List Dc)(s:List UInt8)(hg:Env.good env)(hn:Env.short env):ACalls Tryz.prog 177 [eU env, .p (sP s)] h fun o h'=>o= .ret (.tup [iA (dL env s).2.1,bA (dL env s).2.2])/\h'=h:=by
 have c1:=fun g hw=>vV g hw env s hg hn
 obtain⟨r,hr⟩:∃r,r=(dL env s).2:=⟨_,rfl⟩;rw[<-hr];unfold dL at hr;rcases aL8 (env:=env) s with e|⟨d,a,e,hm,hj⟩
 ·rw[e] at hr c1;simp at hr;subst hr;simp only[zDc,Dc.av,Dc.cells,zT,cells_mk,List.map,lvPs,tmPs,bLz,bM4] at c1;refine dE Tryz.func177 Tryz.ntmps177 ?_;refine zL (c1 _ hh) ?_;refine sF ?_;exact y2n
 ·have hdl:=bB d;have c2:=fun(j:Nat) (hj:j<d.cs.length) (g:Heap) (hw:WF g)=>tJ g hw d (hg.2 d hm) j hj
  obtain⟨a0,a1,a2,a3,a4,a5,a6,a7,a8,a9,a10,a11,a12,b0,b1,b2,b3,b4,b5,b6,b7,hsp⟩:=aE6 d;rw[e] at hr c1;simp only[Dc.av,hsp,List.map] at c1 c2;rcases hj with ha|⟨j,rfl,hj⟩
  ·have ha':¬0<=a:=aB;simp only[ha',and_false,if_false] at hr;subst hr;refine dE Tryz.func177 Tryz.ntmps177 ?_;refine zL (c1 _ hh) ?_;refine aDk ha ?_;exact y2n
  ·simp only[bMk,show(0:Int)<=j by omega,and_self,if_true] at hr;subst hr;have hcz:¬(j:Int)<0:=aB;refine dE Tryz.func177 Tryz.ntmps177 ?_;refine zL (c1 _ hh) ?_;refine zorfr ?_;refine zL (c2 j hj _ (hh.app aA)) ?_;refine zox ?_;exact y2n
mutual
def aAl (env:List Dc):Pt->Int
 | .mk k n qs=>if k=0\/k=2\/k=3 then(if n=[]/\qs=[] then 0 else 3)
  else if k=1 then(if(dL env n).2.2=false then 9 else if(qs.length:Int)=(dL env n).2.1 then eB env qs else 6)
  else 3
def eB (env:List Dc):List Pt->Int
 |[]=>0
 |p::ps=>if aAl env p=0 then eB env ps else aAl env p
end
theorem uZ (env:List Dc):∀(ls:List Pt)(j:Nat)(l:Pt),eB env (ls.take j)=0->ls[j]?=some l->aAl env l≠0->eB env ls=aAl env l
 |[],j,l,_,h,_=>by simp at h
 |x::ls,0,l,_,h,he=>by
  simp at h;subst h;simp only[eB,if_neg he]
 |x::ls,j+1,l,h0,h,he=>by
  simp only[bMv,eB] at h0
  by_cases c:aAl env x=0
  ·rw[if_pos c] at h0;simp only[eB,if_pos c];exact uZ env ls j l h0 (by simpa using h) he
  ·rw[if_neg c] at h0;exact absurd h0 c
theorem mW (env:List Dc):∀(ls:List Pt)(j:Nat)(l:Pt),eB env (ls.take j)=0->ls[j]?=some l->aAl env l=0->eB env (ls.take (j+1))=0
 |[],j,l,_,h,_=>by simp at h
 |x::ls,0,l,_,h,he=>by
  simp at h;subst h;simp[eB,he]
 |x::ls,j+1,l,h0,h,he=>by
  simp only[bMv,eB] at h0⊢
  by_cases c:aAl env x=0
  ·rw[if_pos c] at h0⊢;exact mW env ls j l h0 (by simpa using h) he
  ·rw[if_neg c] at h0;exact absurd h0 c
theorem mG (h:Heap)(hh:WF h)(env:List Dc)(l:List Pt)(hl:l.length<=1048576)
  (hc:∀p∈l,∀g,WF g->ACalls Tryz.prog 103 [eU env,p.av] g fun o h'=>o= .ret (iA (aAl env p))/\h'=g):
  ACalls Tryz.prog 53 [eU env, .p (.sl 3 (ptPs l))] h fun o h'=>o= .ret (iA (eB env l))/\h'=h:=by
 refine dE Tryz.func53 Tryz.ntmps53 ?_;refine Run.loopS [0,1] (fun j:Nat=>j<=l.length/\eB env (l.take j)=0) (fun j=>l.length-j) (fun j=>[(5,iA j)]) (fun _=>_) 0 (by simp[eB]) ?_ rfl ?_
 ·exact zS
 rintro j ⟨hj,hall⟩ IH;refine cK ?_
 by_cases hjl:j<l.length
 ·have hg:l[j]?=some l[j]:=bLv hjl;have hcj:=hc _ (bLy hjl);have ha:=uZ env l j _ hall hg;have hs:=mW env l j _ hall hg;generalize l[j]=p at hg hcj ha hs;generalize aAl env p=e at hcj ha hs;refine iY hjl hg ?_;refine rl (args:=[eU env,p.av]) rfl aF aA rfl (hcj _ hh) ?_;refine zor ?_
  by_cases he:e=0
  ·refine znf1r he ?_;refine IH (j+1) _ _ ⟨by omega,hs he⟩ aB ?_ rfl;exact zS
  ·rw[ha he];refine dV he ?_;exact y2j
 ·have hje:j=l.length:=aB;subst hje;rw[bMm] at hall;rw[hall];refine znfenrx ?_;exact y2j
theorem aHr (env:List Dc)(hg:Env.good env)(hn:Env.short env)(N:Nat):∀(p:Pt),p.size<=N->p.size<=1048576->∀h,WF h->ACalls Tryz.prog 103 [eU env,p.av] h fun o h'=>o= .ret (iA (aAl env p))/\h'=h:=by
 induction N with
 |zero=>intro p hp;have:=p.size_pos;omega
 |succ N ih=>
 intro p hN hB h hh;obtain⟨k,n,qs⟩:=p;simp only[Pt.size] at hN hB;have hql:=Pt.length_le qs;have c1:=fun g hw=>aCl g hw env n hg hn
 have c2:=fun g hw=>mG g hw env qs aB fun p hp g hw=>ih p (by have:=Pt.size_at hp;omega) (by have:=Pt.size_at hp;omega) g hw
 obtain⟨r,hr⟩:∃r,aAl env (.mk k n qs)=r:=⟨_,rfl⟩;rw[hr];simp only[aAl] at hr;generalize eB env qs=e at c2 hr;generalize (dL env n).2.1=m at c1 hr;generalize (dL env n).2.2=ok at c1 hr;simp only[Pt.av,pcells_mk,List.map];have hkc:(k<0\/3<k)\/(k=0\/k=2\/k=3)\/k=1:=aB;rcases hkc with hk|hk|rfl
 ·have e1:¬(k=0\/k=2\/k=3):=aB;rw[if_neg e1,if_neg aB] at hr;subst hr;refine zER Tryz.func103 Tryz.ntmps103 ?_;rcases hk with hk|hk
  ·refine nU hk ?_;exact y2n
  ·have hk0:¬k<0:=aB;refine wP hk hk0 ?_;exact y2n
 ·rw[if_pos hk] at hr;have hk0:¬k<0:=aB;have hk3:¬3<k:=aB;have hk1:(k==1)=false:=by simp;omega
  have hk1':(k !=1)=true:=by simp;omega
  refine zER Tryz.func103 Tryz.ntmps103 ?_
  by_cases hn0:n=[]
  ·by_cases hq0:qs=[]
   ·rw[if_pos ⟨hn0,hq0⟩] at hr;subst hr;subst hn0 hq0;refine zn ?_;refine zr3 hk0 hk3 hk1' ?_;refine zf ?_;refine zr1 hk1' ?_;refine zt ?_;refine yi ?_;exact y2n
   ·rw[if_neg fun x=>hq0 x.2] at hr;subst hr;subst hn0;have hq1:0<qs.length:=bNx.2 hq0;refine zn ?_;refine zr4 hk0 hk3 hk1' hq1 ?_;refine zt ?_;refine yi ?_;exact y2n
  ·rw[if_neg fun x=>hn0 x.1] at hr;subst hr;have hne:n.isEmpty=false:=by cases n<;>simp_all
   refine zn ?_;refine zr4 hk0 hk3 hk1' hne ?_;refine zt ?_;refine yi ?_;exact y2n
 ·rw[if_neg aB,if_pos rfl] at hr;refine dE Tryz.func103 Tryz.ntmps103 ?_;refine yl ?_;refine yl ?_;refine zL (c1 _ (hh.app aA)) ?_;refine zor ?_
  cases ok with
  |false=>
   rw[if_pos rfl] at hr;subst hr;refine aDj ?_;exact y2n
  |true=>
   rw[if_neg aA] at hr;refine znf ?_
   by_cases hm:(qs.length:Int)=m
   ·rw[if_pos hm] at hr;subst hr;have hm':((qs.length:Int) !=m)=false:=by simp[hm]
    refine znr ?_;refine zf1 hm' ?_;refine zr ?_;refine zL (c2 _ (hh.app aA)) ?_;refine zox ?_;exact y2n
   ·rw[if_neg hm] at hr;subst hr;have hm':((qs.length:Int) !=m)=true:=by simp[hm]
    refine znr ?_;refine zt1 hm' ?_;refine yi ?_;exact y2n
theorem aCj (env:List Dc)(hg:Env.good env)(hn:Env.short env)(l:List Pt)(hB:Pt.sizes l<=1048576)(h:Heap)(hh:WF h):ACalls Tryz.prog 53 [eU env, .p (.sl 3 (ptPs l))] h fun o h'=>o= .ret (iA (eB env l))/\h'=h:=
 mG h hh env l (by have:=Pt.length_le l;omega) fun p hp g hw=>aHr env hg hn p.size p (bLx _) (by have:=Pt.size_at hp;omega) g hw
open Go Go.AI
theorem aHj (env:List Dc)(hg:Env.good env)(hn:Env.short env)(N:Nat):∀(l:List Pt),Pt.sizes l<=N->Pt.sizes l<=1048576->∀h,WF h->ACalls Tryz.prog 56 [eU env, .p (.sl 3 (ptPs l))] h fun o h'=>o= .ret (iA (eB env l))/\h'=h:=by
 induction N with
 |zero=>
  intro l hN hB h hh
  have hl:l=[]:=by
   cases l with
   |nil=>rfl
   |cons p l=>have:=p.size_pos;simp only[Pt.sizes] at hN;omega
  subst hl;refine dE Tryz.func56 Tryz.ntmps56 ?_;refine Run.loop ?_;refine znr ?_;refine zf ?_;refine ze ?_;refine znrx ?_;exact y2j
 |succ N ih=>
 intro l hN hB h hh;have hll:=Pt.length_le l;refine dE Tryz.func56 Tryz.ntmps56 ?_;refine Run.loopS [0,11,12] (fun j:Nat=>j<=l.length/\eB env (l.take j)=0) (fun j=>l.length-j) (fun j=>[(13,iA j)]) (fun _=>h) 0 (by simp[eB]) ?_ rfl ?_
 ·exact zS
 rintro j ⟨hj,hall⟩ IH;refine cK ?_
 by_cases hjl:j<l.length
 ·have hgj:l[j]?=some l[j]:=bLv hjl;have hsz:=Pt.size_at (bLy hjl);have ha:=uZ env l j _ hall hgj;have hs:=mW env l j _ hall hgj;generalize l[j]=p at hgj hsz ha hs;obtain⟨k,n,qs⟩:=p;simp only[Pt.size] at hsz;have c1:=fun g hw=>aCi g hw env n hg hn
  have c2:=fun g hw=>ih qs aB aB g hw
  obtain⟨e,he⟩:∃e,aAl env (.mk k n qs)=e:=⟨_,rfl⟩;rw[he] at ha hs;simp only[aAl] at he;generalize eB env qs=e2 at c2 he;generalize dL env n=fz at c1 he;obtain⟨d,m,ok⟩:=fz;simp only at c1 he;obtain⟨dc,hdc⟩:∃dc,dc=d.cells.map AV.p:=⟨_,rfl⟩;have hdl':dc.length=23:=by rw[hdc];simp[bB d]
  have htd:List.take 23 dc=dc:=bM7 aB;have hone:dc.all lI=true:=by rw[hdc];exact bAl d
  have hpa:∀l:List AV,l.length=23->patch l 0 dc=dc:=fun l hl'=>by
   exact y4c
  have hdu:∀n,AV.underL n dc=true:=fun n=>by rw[hdc];simp
  simp only[Dc.av,<-hdc] at c1;refine znt1 hjl ?_;refine aT3 hgj ?_;refine zr ?_;refine zq ?_
  repeat (first|refine Run.skip ?_|refine Run.opsNil ?_|refine Run.inBlock ?_)
  refine Run.joinH [0,6,11,12,13,18] [(19,bA (decide (k=0\/k=2\/k=3)))] (h++[some (.cells [iA k, .p (sP n), .p (.sl 3 (ptPs qs))])]) (fun hJ=>?_) ?_
  ·by_cases k0:k=0
   ·subst k0;refine ct aA ?_;refine Run.skip ?_;refine hJ _ ?_;exact zS
   ·refine cf (by simp[k0]) ?_;refine znq ?_
    repeat (first|refine Run.skip ?_|refine Run.opsNil ?_|refine Run.inBlock ?_)
    by_cases k2:k=2
    ·subst k2;refine nv ?_;refine ct aA ?_;exact y33
    ·have k2':(k==2)=false:=by simp[k2]
     refine nv ?_;refine cf (by simp[k2']) ?_
     repeat (first|refine Run.skip ?_|refine Run.opsNil ?_|refine Run.inBlock ?_)
     refine znq ?_
     repeat (first|refine Run.skip ?_|refine Run.opsNil ?_|refine Run.inBlock ?_)
     refine hJ _ ?_;simp[k0,k2]
     repeat' first|exact wn|apply wc
     all_goals first|exact Weak.junk _|exact Weak.refl _|exact Weak.of_eq aA
  refine y6 ?_;simp
  by_cases hk:k=0\/k=2\/k=3
  ·rw[if_pos hk] at he;have hkt:(k=0\/k=2\/k=3)=True:=eq_true hk
   by_cases hn0:n=[]
   ·by_cases hq0:qs=[]
    ·rw[if_pos ⟨hn0,hq0⟩] at he;subst hn0 hq0;refine lH hkt ?_;refine zf ?_;refine Run.keep [0,11,12,13] ?_;refine y1s ?_;refine y10 ?_;refine cK ?_;refine IH (j+1) _ _ ⟨by omega,hs he.symm⟩ aB ?_ aA;exact zS
    ·rw[if_neg fun x=>hq0 x.2] at he;subst hn0;subst he;have hq1:0<qs.length:=bNx.2 hq0;refine aAj hkt hq1 ?_;exact y34
   ·rw[if_neg fun x=>hn0 x.1] at he;subst he;have hne:n.isEmpty=false:=by cases n<;>simp_all
    refine aAj hkt hne ?_;exact y34
  ·rw[if_neg hk] at he;refine cf (by simp;omega) (nv ?_);refine zr ?_
   by_cases k1:k=1
   ·rw[if_pos k1] at he;subst k1;refine bE7 ?_;refine zL (c1 _ (hh.app aA)) ?_;refine zo3 hdl' hone hpa ?_;refine zr ?_
    cases ok with
    |false=>
     rw[if_pos rfl] at he;subst he;refine aDj ?_;exact y34
    |true=>
     rw[if_neg aA] at he;refine znf ?_
     by_cases hm:(qs.length:Int)=m
     ·rw[if_pos hm] at he;have hm':((qs.length:Int) !=m)=false:=by simp[hm]
      refine znr ?_;refine zf1 hm' ?_;refine zr ?_;refine zL (c2 _ (hh.app (by simp[hdu]))) ?_;refine zor ?_
      by_cases h0:e2=0
      ·refine aFh h0 ?_;refine Run.keep [0,11,12,13] ?_;refine y1s ?_;refine y10 ?_;refine cK ?_;refine IH (j+1) _ _ ⟨by omega,hs (he.symm.trans h0)⟩ aB ?_ aA;exact zS
      ·subst he;refine dV h0 ?_;refine zF1 hh ?_;exact⟨by rw[ha h0];rfl,rfl⟩
     ·rw[if_neg hm] at he;subst he;have hm':((qs.length:Int) !=m)=true:=by simp[hm]
      refine znr ?_;refine zt1 hm' ?_;refine yi ?_;exact y34
   ·rw[if_neg k1] at he;subst he;have k1':(k==1)=false:=by simp[k1]
    refine aFi k1' ?_;exact y34
 ·have hje:j=l.length:=aB;subst hje;rw[bMm] at hall;rw[hall];refine znfenrx ?_;exact y2j
end Go.Proofs.YtplomildbmcmfaaGreat
