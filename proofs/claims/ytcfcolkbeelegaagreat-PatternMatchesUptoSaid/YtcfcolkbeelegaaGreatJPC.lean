import Derived.Test.YtcfcolkbeelegaaGreatJA0
import Derived.Test.YtcfcolkbeelegaaGreatJX23
import Derived.Test.YtcfcolkbeelegaaGreatJE12
set_option maxRecDepth 8000
set_option maxHeartbeats 16000000
namespace Go.Proofs.YtcfcolkbeelegaaGreat
open Go Go.AI
inductive Pt where
 |mk (k:Int) (n:List UInt8) (qs:List Pt)
mutual
def Pt.cells:Pt->List PV
 | .mk k n qs=>[iP k,sP n, .sl 3 (cC qs)]
def cC:List Pt->List (List PV)
 |[]=>[]
 |p::ps=>p.cells::cC ps
end
theorem nH:∀l:List Pt,cC l=l.map Pt.cells
 |[]=>by simp[cC]
 |p::l=>by simp[cC,nH l]
theorem bC (k:Int)(n:List UInt8)(qs:List Pt):(Pt.mk k n qs).cells=[iP k,sP n, .sl 3 (cC qs)]:=by simp only[Pt.cells]
@[simp] theorem aUy (p:Pt):p.cells.length=3:=by cases p;simp[bC]
@[simp] theorem aEp (l:List Pt):(cC l).length=l.length:=by simp[nH]
@[simp] theorem aX9 (l:List Pt) (j:Nat):(cC l)[j]?=(l[j]?).map Pt.cells:=by simp[nH]
abbrev Pt.av (p:Pt):AV:= .agg (p.cells.map .p)
@[simp] theorem aUh (p:Pt):(p.cells.map AV.p).take 3=p.cells.map .p:=aZ6 aA
@[simp] def Pt.kind:Pt->Int| .mk k _ _=>k
@[simp] def Pt.name:Pt->List UInt8| .mk _ n _=>n
@[simp] def Pt.args:Pt->List Pt| .mk _ _ qs=>qs
theorem lC (l:List Pt):∀e∈cC l,e.length=3:=by
 intro e he;rw[nH] at he;obtain⟨p,_,rfl⟩:=aZq.1 he;simp
mutual
def Pt.size:Pt->Nat
 | .mk _ _ qs=>1+Pt.sizes qs
def Pt.sizes:List Pt->Nat
 |[]=>0
 |p::ps=>p.size+Pt.sizes ps
end
theorem Pt.size_pos (p:Pt):0<p.size:=by cases p;simp only[Pt.size];omega
theorem Pt.size_at {l:List Pt} {p:Pt} (h:p∈l):p.size<=Pt.sizes l:=by
 induction l with
 |nil=>cases h
 |cons x l ih=>
  simp only[Pt.sizes];exact y56
theorem Pt.length_le (l:List Pt):l.length<=Pt.sizes l:=by
 induction l with
 |nil=>simp[Pt.sizes]
 |cons x l ih=>have:=x.size_pos;simp only[Pt.sizes,aZ1];omega
structure Cl where
 ps:List Pt
 b:Tm
def Cl.cells (c:Cl):List PV:= .sl 3 (cC c.ps)::c.b.cells
abbrev Cl.av (c:Cl):AV:= .agg (c.cells.map .p)
abbrev aAy (l:List Cl):List (List PV):=l.map Cl.cells
@[simp] theorem cl_len (c:Cl):c.cells.length=6:=by simp[Cl.cells]
@[simp] theorem aSd (c:Cl):(c.cells.map AV.p).take 6=c.cells.map .p:=aZ6 aA
def aM (env:List Dc)(s:List UInt8):Dc×Int×Bool:=
 if(gS env s).2.2=true/\0<=(gS env s).2.1 then((gS env s).1,oH (gS env s).1 (gS env s).2.1.toNat,true) else(zDc,0,false)
theorem aLf {env:List Dc} (s:List UInt8):gS env s=(zDc,0,false)\/∃d a,gS env s=(d,a,true)/\d∈env/\(a<0\/∃j:Nat,a=j/\j<d.cs.length):=by
 unfold gS
 cases hz:dH s env 0 with
 |none=>exact .inl rfl
 |some e=>
  obtain⟨j,d,h1,h2,h3,h4,h5⟩:=lV s env 0 e hz;have hm:=aZ9 h2;simp only[aZv] at h1;have ha:(env[e.at_.toNat]?).getD zDc=d:=by rw[h1,aZj,h2];rfl
  simp only[ha]
  by_cases e3:e.k=3
  ·rw[if_pos e3];exact .inr ⟨d,-1,rfl,hm, .inl aB⟩
  rw[if_neg e3]
  by_cases e4:e.k=4
  ·rw[if_pos e4];exact .inr ⟨d,e.it,rfl,hm, .inr ⟨e.it.toNat,by omega,by have:=h4 e4;omega⟩⟩
  rw[if_neg e4]
  by_cases e5:e.k=5
  ·rw[if_pos e5];exact .inr ⟨d,-2,rfl,hm, .inl aB⟩
  rw[if_neg e5];exact .inl rfl
theorem aL8 (d:Dc):(d.cells.map AV.p).all vO=true:=by rw[List.all_map];exact aZf.2 fun _ _=>rfl
theorem yI (d:Dc):∃a0 a1 a2 a3 a4 a5 a6 a7 a8 a9 a10 a11 a12 b0 b1 b2 b3 b4 b5 b6 b7,d.cells=[a0,a1,a2,a3,a4,a5,a6,a7,a8,a9,a10,a11,a12,iP d.fx, .sl 6 (d.cs.map Ct.cells),b0,b1,b2,b3,b4,b5,b6,b7]:=by
 obtain⟨k,nm,ps,⟨k1,i1,n1,l1,s1⟩,⟨k2,i2,n2,l2,s2⟩,fx,cs,rp,⟨k3,i3,n3,l3,s3⟩,rr,fs⟩:=d;simp only[Dc.cells,aH,aYy,aZ3];exact⟨_,_,_,_,_,_,_,_,_,_,_,_,_,_,_,_,_,_,_,_,_,rfl⟩
abbrev zDcA:List AV:=[iA 0, .p (sP []),iA 0,iA 0,iA 0, .p (sP []), .p (.prim (.slice none 0 0)), .p (.prim (.slice none 0 0)),iA 0,iA 0, .p (sP []), .p (.prim (.slice none 0 0)), .p (.prim (.slice none 0 0)),iA 0, .p (.prim (.slice none 0 0)),iA 0,iA 0,iA 0, .p (sP []), .p (.prim (.slice none 0 0)), .p (.prim (.slice none 0 0)), .p (.prim (.slice none 0 0)), .p (.prim (.slice none 0 0))]
theorem jZ (h:Heap)(hh:WF h)(env:List Dc)(s:List UInt8)(hg:Env.good env)(hn:Env.short env):AC 123 [bW env, .p (sP s)] h (.tup [(aM env s).1.av,iA (aM env s).2.1,bA (aM env s).2.2]):=by
 have c1:=fun g hw=>wF g hw env s hg hn
 obtain⟨r,hr⟩:∃r,r=aM env s:=⟨_,rfl⟩;rw[<-hr];unfold aM at hr;rcases aLf (env:=env) s with e|⟨d,a,e,hm,hj⟩
 ·rw[e] at hr c1;simp at hr;subst hr;simp only[zDc,Dc.av,Dc.cells,zT,aH,List.map,aW,aL,aYy,aZ3] at c1;refine cW Tryz.func123 Tryz.ntmps123 ?_;refine zL (c1 _ (hh.app aA)) ?_;refine pH ?_;exact y5s
 ·have hdl:=aZ d;obtain⟨a0,a1,a2,a3,a4,a5,a6,a7,a8,a9,a10,a11,a12,b0,b1,b2,b3,b4,b5,b6,b7,hsp⟩:=yI d;rw[e] at hr c1;simp only[Dc.av,hsp,List.map] at c1;rcases hj with ha|⟨j,rfl,hj⟩
  ·have ha':¬0<=a:=aB;simp only[ha',and_false,if_false] at hr;subst hr;refine cW Tryz.func123 Tryz.ntmps123 ?_;refine zL (c1 _ (hh.app aA)) ?_;refine aA9 ha ?_;exact y5s
  ·have hgj:d.cs[j]?=some d.cs[j]:=aYu hj;have hgd:=(hg.2 d hm).cs _ (aYx hj);have c2:=fun g hw=>sJ g hw d.cs[j].ty hgd.1
   have hz:oH d j=aOp d.fx d.cs[j].ty:=by unfold oH;rw[hgj]
   simp only[aZj,hz,aOp,show(0:Int)<=j by omega,and_self,if_true] at hr;generalize d.cs[j]=c at hgj c2 hr;generalize bY c.ty=q at c2 hr;obtain⟨qs,⟨u1,u2,u3,u4,u5⟩⟩:=q;obtain⟨x,⟨k4,i4,n4,l4,s4⟩⟩:=c;simp only[Tm.av,aH,List.map] at c2;have hcz:¬(j:Int)<0:=aB;refine cW Tryz.func123 Tryz.ntmps123 ?_;refine zL (c1 _ (hh.app aA)) ?_;refine aSk ?_;refine aOl hgj ?_;refine zL (c2 _ (hh.app aA)) ?_;refine zo ?_;refine Run.draw [0,0,0,0,0,0,0,0,1,1] [0,0,0,0,0,0,0,0,0,0] [0,0,2,0,8,30,62,1,255,511] [0,7,1,2,3,4,5,6,8,9] aC aC ?_;refine zd ?_;refine y9 ?_;refine znx ?_;refine zF1 hh ?_;exact⟨by rw[hr];simp only[Dc.av,hsp];rfl,rfl⟩
open Go Go.AI
theorem aEu (h:Heap)(hh:WF h)(env:List Dc)(s:List UInt8)(hg:Env.good env)(hn:Env.short env):AC 175 [bW env, .p (sP s)] h (.tup [iA (aM env s).2.1,bA (aM env s).2.2]):=by
 have c1:=fun g hw=>kA g hw env s hg hn
 obtain⟨r,hr⟩:∃r,r=(aM env s).2:=⟨_,rfl⟩;rw[<-hr];unfold aM at hr;rcases aLf (env:=env) s with e|⟨d,a,e,hm,hj⟩
 ·rw[e] at hr c1;simp at hr;subst hr;simp only[zDc,Dc.av,Dc.cells,zT,aH,List.map,aW,aL,aYy,aZ3] at c1;refine cW Tryz.func175 Tryz.ntmps175 ?_;refine zL (c1 _ hh) ?_;refine pH ?_;exact y3i
 ·have hdl:=aZ d;have c2:=fun(j:Nat) (hj:j<d.cs.length) (g:Heap) (hw:WF g)=>pM g hw d (hg.2 d hm) j hj
  obtain⟨a0,a1,a2,a3,a4,a5,a6,a7,a8,a9,a10,a11,a12,b0,b1,b2,b3,b4,b5,b6,b7,hsp⟩:=yI d;rw[e] at hr c1;simp only[Dc.av,hsp,List.map] at c1 c2;rcases hj with ha|⟨j,rfl,hj⟩
  ·have ha':¬0<=a:=aB;simp only[ha',and_false,if_false] at hr;subst hr;refine cW Tryz.func175 Tryz.ntmps175 ?_;refine zL (c1 _ hh) ?_;refine aA9 ha ?_;exact y3i
  ·simp only[aZj,show(0:Int)<=j by omega,and_self,if_true] at hr;subst hr;have hcz:¬(j:Int)<0:=aB;refine cW Tryz.func175 Tryz.ntmps175 ?_;refine zL (c1 _ hh) ?_;refine aOi ?_;refine zL (c2 j hj _ (hh.app aA)) ?_;refine zox ?_;exact y3i
mutual
def jS (env:List Dc):Pt->Int
 | .mk k n qs=>if k=0\/k=2\/k=3 then(if n=[]/\qs=[] then 0 else 3)
  else if k=1 then(if(aM env n).2.2=false then 9 else if(qs.length:Int)=(aM env n).2.1 then cD env qs else 6)
  else 3
def cD (env:List Dc):List Pt->Int
 |[]=>0
 |p::ps=>if jS env p=0 then cD env ps else jS env p
end
theorem yB (env:List Dc):∀(ls:List Pt)(j:Nat)(l:Pt),cD env (ls.take j)=0->ls[j]?=some l->jS env l≠0->cD env ls=jS env l
 |[],j,l,_,h,_=>by simp at h
 |x::ls,0,l,_,h,he=>by
  simp at h;subst h;simp only[cD,if_neg he]
 |x::ls,j+1,l,h0,h,he=>by
  simp only[aZu,cD] at h0
  by_cases c:jS env x=0
  ·rw[if_pos c] at h0;simp only[cD,if_pos c];exact yB env ls j l h0 (by simpa using h) he
  ·rw[if_neg c] at h0;exact absurd h0 c
theorem pJ (env:List Dc):∀(ls:List Pt)(j:Nat)(l:Pt),cD env (ls.take j)=0->ls[j]?=some l->jS env l=0->cD env (ls.take (j+1))=0
 |[],j,l,_,h,_=>by simp at h
 |x::ls,0,l,_,h,he=>by
  simp at h;subst h;simp[cD,he]
 |x::ls,j+1,l,h0,h,he=>by
  simp only[aZu,cD] at h0⊢
  by_cases c:jS env x=0
  ·rw[if_pos c] at h0⊢;exact pJ env ls j l h0 (by simpa using h) he
  ·rw[if_neg c] at h0;exact absurd h0 c
theorem oU (h:Heap)(hh:WF h)(env:List Dc)(l:List Pt)(hl:l.length<=1048576)
  (hc:∀p∈l,∀g,WF g->AC 125 [bW env,p.av] g (iA (jS env p))):
  AC 72 [bW env, .p (.sl 3 (cC l))] h (iA (cD env l)):=by
 refine cW Tryz.func72 Tryz.ntmps72 ?_;refine Run.loopS [0,1] (fun j:Nat=>j<=l.length/\cD env (l.take j)=0) (fun j=>l.length-j) (fun j=>[(5,iA j)]) (fun _=>_) 0 (by simp[cD]) ?_ rfl ?_
 ·exact zS
 rintro j ⟨hj,hall⟩ IH;refine cI ?_
 by_cases hjl:j<l.length
 ·have hg:l[j]?=some l[j]:=aYu hjl;have hcj:=hc _ (aYx hjl);have ha:=yB env l j _ hall hg;have hs:=pJ env l j _ hall hg;generalize l[j]=p at hg hcj ha hs;generalize jS env p=e at hcj ha hs;refine jO hjl hg ?_;refine rl (args:=[bW env,p.av]) rfl aF aA rfl (hcj _ hh) ?_;refine zor ?_
  by_cases he:e=0
  ·refine dJ he ?_;refine IH (j+1) _ _ ⟨by omega,hs he⟩ aB ?_ rfl;exact zS
  ·rw[ha he];refine fT he ?_;exact y3a
 ·have hje:j=l.length:=aB;subst hje;rw[aZl] at hall;rw[hall];refine cY ?_;exact y3a
theorem aJe (env:List Dc)(hg:Env.good env)(hn:Env.short env)(N:Nat):∀(p:Pt),p.size<=N->p.size<=1048576->∀h,WF h->AC 125 [bW env,p.av] h (iA (jS env p)):=by
 induction N with
 |zero=>intro p hp;have:=p.size_pos;omega
 |succ N ih=>
 intro p hN hB h hh;obtain⟨k,n,qs⟩:=p;simp only[Pt.size] at hN hB;have hql:=Pt.length_le qs;have c1:=fun g hw=>aEu g hw env n hg hn
 have c2:=fun g hw=>oU g hw env qs aB fun p hp g hw=>ih p (by have:=Pt.size_at hp;omega) (by have:=Pt.size_at hp;omega) g hw
 obtain⟨r,hr⟩:∃r,jS env (.mk k n qs)=r:=⟨_,rfl⟩;rw[hr];simp only[jS] at hr;generalize cD env qs=e at c2 hr;generalize (aM env n).2.1=m at c1 hr;generalize (aM env n).2.2=ok at c1 hr;simp only[Pt.av,bC,List.map];have hkc:(k<0\/3<k)\/(k=0\/k=2\/k=3)\/k=1:=aB;rcases hkc with hk|hk|rfl
 ·have e1:¬(k=0\/k=2\/k=3):=aB;rw[if_neg e1,if_neg aB] at hr;subst hr;refine zER Tryz.func125 Tryz.ntmps125 ?_;rcases hk with hk|hk
  ·refine gB hk ?_;exact y3i
  ·have hk0:¬k<0:=aB;refine aFt hk hk0 ?_;exact y3i
 ·rw[if_pos hk] at hr;have hk0:¬k<0:=aB;have hk3:¬3<k:=aB;have hk1:(k==1)=false:=by simp;omega
  have hk1':(k !=1)=true:=by simp;omega
  refine zER Tryz.func125 Tryz.ntmps125 ?_
  by_cases hn0:n=[]
  ·by_cases hq0:qs=[]
   ·rw[if_pos ⟨hn0,hq0⟩] at hr;subst hr;subst hn0 hq0;refine zn ?_;refine zr3 hk0 hk3 hk1' ?_;refine zf ?_;refine zr1 hk1' ?_;refine y2a ?_;exact y3i
   ·rw[if_neg fun x=>hq0 x.2] at hr;subst hr;subst hn0;have hq1:0<qs.length:=bAw.2 hq0;refine aFu hk0 hk3 hk1' hq1 ?_;exact y3i
  ·rw[if_neg fun x=>hn0 x.1] at hr;subst hr;have hne:n.isEmpty=false:=by cases n<;>simp_all
   refine aFu hk0 hk3 hk1' hne ?_;exact y3i
 ·rw[if_neg aB,if_pos rfl] at hr;refine cW Tryz.func125 Tryz.ntmps125 ?_;refine yw ?_;refine yw ?_;refine zL (c1 _ (hh.app aA)) ?_;refine zor ?_
  cases ok with
  |false=>
   rw[if_pos rfl] at hr;subst hr;refine lM ?_;exact y3i
  |true=>
   rw[if_neg aA] at hr;refine znf ?_
   by_cases hm:(qs.length:Int)=m
   ·rw[if_pos hm] at hr;subst hr;have hm':((qs.length:Int) !=m)=false:=by simp[hm]
    refine aFv hm' ?_;refine zr ?_;refine zL (c2 _ (hh.app aA)) ?_;refine zox ?_;exact y3i
   ·rw[if_neg hm] at hr;subst hr;have hm':((qs.length:Int) !=m)=true:=by simp[hm]
    refine aFy hm' ?_;exact y3i
theorem aEt (env:List Dc)(hg:Env.good env)(hn:Env.short env)(l:List Pt)(hB:Pt.sizes l<=1048576)(h:Heap)(hh:WF h):AC 72 [bW env, .p (.sl 3 (cC l))] h (iA (cD env l)):=
 oU h hh env l (by have:=Pt.length_le l;omega) fun p hp g hw=>aJe env hg hn p.size p (aYw _) (by have:=Pt.size_at hp;omega) g hw
open Go Go.AI
theorem pW (env:List Dc)(hg:Env.good env)(hn:Env.short env)(N:Nat):∀(l:List Pt),Pt.sizes l<=N->Pt.sizes l<=1048576->∀h,WF h->AC 70 [bW env, .p (.sl 3 (cC l))] h (iA (cD env l)):=by
 induction N with
 |zero=>
  intro l hN hB h hh
  have hl:l=[]:=by
   cases l with
   |nil=>rfl
   |cons p l=>have:=p.size_pos;simp only[Pt.sizes] at hN;omega
  subst hl;refine cW Tryz.func70 Tryz.ntmps70 ?_;refine Run.loop ?_;refine aI1 ?_;exact y3a
 |succ N ih=>
 intro l hN hB h hh;have hll:=Pt.length_le l;refine cW Tryz.func70 Tryz.ntmps70 ?_;refine Run.loopS [0,11,12] (fun j:Nat=>j<=l.length/\cD env (l.take j)=0) (fun j=>l.length-j) (fun j=>[(13,iA j)]) (fun _=>h) 0 (by simp[cD]) ?_ rfl ?_
 ·exact zS
 rintro j ⟨hj,hall⟩ IH;refine cI ?_
 by_cases hjl:j<l.length
 ·have hgj:l[j]?=some l[j]:=aYu hjl;have hsz:=Pt.size_at (aYx hjl);have ha:=yB env l j _ hall hgj;have hs:=pJ env l j _ hall hgj;generalize l[j]=p at hgj hsz ha hs;obtain⟨k,n,qs⟩:=p;simp only[Pt.size] at hsz;have c1:=fun g hw=>jZ g hw env n hg hn
  have c2:=fun g hw=>ih qs aB aB g hw
  obtain⟨e,he⟩:∃e,jS env (.mk k n qs)=e:=⟨_,rfl⟩;rw[he] at ha hs;simp only[jS] at he;generalize cD env qs=e2 at c2 he;generalize aM env n=fz at c1 he;obtain⟨d,m,ok⟩:=fz;simp only at c1 he;obtain⟨dc,hdc⟩:∃dc,dc=d.cells.map AV.p:=⟨_,rfl⟩;have hdl':dc.length=23:=by rw[hdc];simp[aZ d]
  have htd:List.take 23 dc=dc:=aZ6 aB;have hone:dc.all vO=true:=by rw[hdc];exact aL8 d
  have hpa:∀l:List AV,l.length=23->patch l 0 dc=dc:=fun l hl'=>by
   exact y5r
  have hdu:∀n,AV.underL n dc=true:=fun n=>by rw[hdc];simp
  simp only[Dc.av,<-hdc] at c1;refine dF hjl ?_;refine aV5 hgj ?_;refine zr ?_;refine zq ?_
  repeat (first|refine Run.skip ?_|refine Run.opsNil ?_|refine Run.inBlock ?_)
  refine Run.joinH [0,6,11,12,13,18] [(19,bA (decide (k=0\/k=2\/k=3)))] (h++[some (.cells [iA k, .p (sP n), .p (.sl 3 (cC qs))])]) (fun hJ=>?_) ?_
  ·by_cases k0:k=0
   ·subst k0;refine ct aA ?_;refine Run.skip ?_;exact y5p
   ·refine cf (by simp[k0]) ?_;refine znq ?_
    repeat (first|refine Run.skip ?_|refine Run.opsNil ?_|refine Run.inBlock ?_)
    by_cases k2:k=2
    ·subst k2;refine nv ?_;refine ct aA ?_;exact y3e
    ·have k2':(k==2)=false:=by simp[k2]
     refine nv ?_;refine cf (by simp[k2']) ?_
     repeat (first|refine Run.skip ?_|refine Run.opsNil ?_|refine Run.inBlock ?_)
     refine znq ?_
     repeat (first|refine Run.skip ?_|refine Run.opsNil ?_|refine Run.inBlock ?_)
     refine hJ _ ?_;simp[k0,k2]
     repeat' first|exact wn|apply wc
     all_goals first|exact Weak.junk _|exact Weak.refl _|exact Weak.of_eq aA
  refine y7 ?_;simp
  by_cases hk:k=0\/k=2\/k=3
  ·rw[if_pos hk] at he;have hkt:(k=0\/k=2\/k=3)=True:=eq_true hk
   by_cases hn0:n=[]
   ·by_cases hq0:qs=[]
    ·rw[if_pos ⟨hn0,hq0⟩] at he;subst hn0 hq0;refine kL hkt ?_;refine zf ?_;refine Run.keep [0,11,12,13] ?_;refine yh ?_;refine ye ?_;refine cI ?_;refine IH (j+1) _ _ ⟨by omega,hs he.symm⟩ aB ?_ aA;exact zS
    ·rw[if_neg fun x=>hq0 x.2] at he;subst hn0;subst he;have hq1:0<qs.length:=bAw.2 hq0;refine aDm hkt hq1 ?_;exact y41
   ·rw[if_neg fun x=>hn0 x.1] at he;subst he;have hne:n.isEmpty=false:=by cases n<;>simp_all
    refine aDm hkt hne ?_;exact y41
  ·rw[if_neg hk] at he;refine cf (by simp;omega) (nv ?_);refine zr ?_
   by_cases k1:k=1
   ·rw[if_pos k1] at he;subst k1;refine aWr ?_;refine zL (c1 _ (hh.app aA)) ?_;refine zo3 hdl' hone hpa ?_;refine zr ?_
    cases ok with
    |false=>
     rw[if_pos rfl] at he;subst he;refine lM ?_;exact y41
    |true=>
     rw[if_neg aA] at he;refine znf ?_
     by_cases hm:(qs.length:Int)=m
     ·rw[if_pos hm] at he;have hm':((qs.length:Int) !=m)=false:=by simp[hm]
      refine aFv hm' ?_;refine zr ?_;refine zL (c2 _ (hh.app (by simp[hdu]))) ?_;refine zor ?_
      by_cases h0:e2=0
      ·refine vL h0 ?_;refine Run.keep [0,11,12,13] ?_;refine yh ?_;refine ye ?_;refine cI ?_;refine IH (j+1) _ _ ⟨by omega,hs (he.symm.trans h0)⟩ aB ?_ aA;exact zS
      ·subst he;refine fT h0 ?_;refine zF1 hh ?_;exact⟨by rw[ha h0];rfl,rfl⟩
     ·rw[if_neg hm] at he;subst he;have hm':((qs.length:Int) !=m)=true:=by simp[hm]
      refine aFy hm' ?_;exact y41
   ·rw[if_neg k1] at he;subst he;have k1':(k==1)=false:=by simp[k1]
    refine xI k1' ?_;exact y41
 ·have hje:j=l.length:=aB;subst hje;rw[aZl] at hall;rw[hall];refine cY ?_;exact y3a
end Go.Proofs.YtcfcolkbeelegaaGreat
