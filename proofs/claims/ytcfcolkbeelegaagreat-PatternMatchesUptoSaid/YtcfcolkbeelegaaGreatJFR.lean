import Derived.Test.YtcfcolkbeelegaaGreatJA0
import Derived.Test.YtcfcolkbeelegaaGreatJX13
import Derived.Test.YtcfcolkbeelegaaGreatJG1
import Derived.Test.YtcfcolkbeelegaaGreatJFF
import Derived.Test.YtcfcolkbeelegaaGreatJM2
import Derived.Test.YtcfcolkbeelegaaGreatJLO
import Derived.Test.YtcfcolkbeelegaaGreatProg
import Derived.Shelf.Lays
import Derived.KernelRfl
set_option maxRecDepth 8000
set_option maxHeartbeats 16000000
namespace Go.Proofs.YtcfcolkbeelegaaGreat
open Go Go.AI
mutual
def smP (m:Int):Pt->Option Int
 | .mk _ n qs=>if m<=0\/80<(n.length:Int) then none else zV (m-1) qs
def zV (m:Int):List Pt->Option Int
 |[]=>some m
 |p::ps=>match smP m p with|none=>none|some k=>zV k ps
end
mutual
theorem aS9:∀(p:Pt)(m k:Int),smP m p=some k->k=m-p.size/\0<=k
 | .mk _ n qs,m,k,h=>by
  simp only[smP] at h;split at h
  ·cases h
  ·rename_i hc;have h1:=aNo qs (m-1) k h;simp only[Pt.size];refine⟨by rw[h1.1];omega,h1.2 aB⟩
theorem aNo:∀(l:List Pt)(m k:Int),zV m l=some k->k=m-Pt.sizes l/\(0<=m->0<=k)
 |[],m,k,h=>by simp only[zV,aYz] at h;subst h;simp[Pt.sizes]
 |p::ps,m,k,h=>by
  simp only[zV] at h;split at h
  ·cases h
  ·rename_i k1 he;have h1:=aS9 p m k1 he;have h2:=aNo ps k1 k h;simp only[Pt.sizes];refine⟨by rw[h2.1,h1.1];omega,fun _=>h2.2 h1.2⟩
end
def smA:Option Int->AV
 |some k=> .tup [iA k,bA true]
 |none=> .tup [iA 0,bA false]
theorem aNn {m k:Int} {l:List Pt} {j:Nat} (h:zV m l=zV k (l.drop j)) {x:Pt} (hg:l[j]?=some x):zV m l=match smP k x with|none=>none|some k=>zV k (l.drop (j+1)):=by
 rw[h,bD hg,zV]
theorem wV (N:Nat):∀(l:List Pt)(m:Int),Pt.sizes l<=N->Pt.sizes l<=1048576->-1<=m->m<=1048576->∀h,WF h->AC 37 [.p (.sl 3 (cC l)),iA m] h (smA (zV m l)):=by
 have key:∀(l:List Pt) (m:Int),Pt.sizes l<=1048576->-1<=m->m<=1048576->(∀p∈l,∀k,-1<=k->k<=1048576->∀g,WF g->AC 37 [.p (.sl 3 (cC p.args)),iA k] g (smA (zV k p.args)))->
   ∀h,WF h->AC 37 [.p (.sl 3 (cC l)),iA m] h (smA (zV m l)):=by
  intro l m hB hm1 hm2 ih h hh;have hll:=gK l;refine cW Tryz.func37 Tryz.ntmps37 ?_;refine Run.loopS (ι:=Nat×Int) [10,11] (fun p=>p.1<=l.length/\-1<=p.2/\p.2<=1048576/\zV m l=zV p.2 (l.drop p.1)) (fun p=>l.length-p.1) (fun p=>[(1,iA p.2),(12,iA p.1)]) (fun _=>h) (0,m) ⟨by simp,hm1,hm2,by simp⟩ ?_ rfl ?_
  ·exact zS
  rintro⟨j,k⟩ ⟨hj,hk1,hk2,hd⟩ IH;simp only at hj hk1 hk2 hd;refine cI ?_
  by_cases hjl:j<l.length
  ·have hg:l[j]?=some l[j]:=aYu hjl;have hmem:=aYx hjl;generalize l[j]=x at hg hmem;have hd2:=aNn hd hg;have ihx:=ih x hmem (k-1);have hsm:=aS9 x k;have hsz:=Pt.size_at hmem;obtain⟨pk,pn,qs⟩:=x;simp only[smP] at hd2 hsm;simp only[Pt.args] at ihx;refine dF hjl ?_;refine aV5 hg ?_
   by_cases h1:k<=0
   ·simp only[h1,true_or,if_true] at hd2;rw[hd2];refine gB h1 ?_;exact y85
   by_cases h2:80<pn.length
   ·have h2i:80<(pn.length:Int):=aB;simp only[h2i,or_true,if_true] at hd2;rw[hd2];refine aFt h1 h2i ?_;exact y85
   have h2i:¬80<(pn.length:Int):=aB;simp only[h1,h2i,or_self,if_false] at hd2 hsm;have ihx:=fun g hw=>ihx aB aB g hw
   refine sH h1 h2i ?_;refine Go.AI.cf aA (nv ?_);refine zr ?_;refine zL (ihx _ (hh.app aA)) ?_
   cases hr:zV (k-1) qs with
   |none=>
    rw[hr] at hd2;simp only at hd2;rw[hd2];simp only[smA];refine pH ?_;exact y33
   |some k2=>
    rw[hr] at hd2;simp only at hd2;have hs2:=hsm k2 hr;have:=Pt.size_pos (.mk pk pn qs);simp only[smA];refine zor ?_;refine Go.AI.cf aA (nv ?_);refine y26 ?_;refine Run.keep [1,10,11,12] ?_;refine ye ?_;simp;refine IH (j+1,k2) _ _ ⟨by simp only;omega,by simp only;omega,by simp only;omega,hd2⟩ (by simp only;omega) ?_ aA;exact zS
  ·have hje:j=l.length:=aB;subst hje;rw[bAn,zV] at hd;rw[hd];refine nv ?_;refine Go.AI.cf aA (nv ?_);refine ze ?_;refine aOs ?_;refine zF4 hh ?_;exact⟨by simp[smA],rfl⟩
 induction N with
 |zero=>
  intro l m hl hB hm1 hm2
  cases l with
  |nil=>exact key [] m hB hm1 hm2 aA
  |cons p l=>have:=p.size_pos;simp only[Pt.sizes] at hl;omega
 |succ N ih=>
  intro l m hl hB hm1 hm2;refine key l m hB hm1 hm2 fun p hp k hk1 hk2 g hw=>?_
  have h2:=Pt.size_at hp;obtain⟨pk,pn,qs⟩:=p;simp only[Pt.size] at h2;exact ih qs k aB aB hk1 hk2 g hw
open Go Go.AI
theorem aJv (N:Nat):∀(l:List Pt)(s:Int)(B:Int->Heap)(n q f:Nat),Pt.sizes l<=N->Pt.sizes l<=1048576->(∀s,(B s).length=n)->(∀s,WF (B s))->(∀s,(B s)[q]?=some (some (.cells [iA s])))->
  (∀s s',(B s).set q (some (.cells [iA s']))=B s')->(∀s,(B s)[f]?=some (some (.cells [.fn (.func 118) [] [.ptr q 0, .ptr f 0]])))->
  ACalls Tryz.prog 118 [.p (.sl 3 (cC l)), .ptr q 0, .ptr f 0] (B s) fun o h'=>o= .ret (.tup [])/\∃s',h'=B s':=by
 have key:∀(l:List Pt) (s:Int) (B:Int->Heap) (n q f:Nat),Pt.sizes l<=1048576->(∀s,(B s).length=n)->(∀s,WF (B s))->(∀s,(B s)[q]?=some (some (.cells [iA s])))->
  (∀s s',(B s).set q (some (.cells [iA s']))=B s')->(∀s,(B s)[f]?=some (some (.cells [.fn (.func 118) [] [.ptr q 0, .ptr f 0]])))->
  (∀p∈l,∀s,ACalls Tryz.prog 118 [.p (.sl 3 (cC p.args)), .ptr q 0, .ptr f 0] (B s++[some (.cells (p.cells.map .p))]) fun o h'=>o= .ret (.tup [])/\∃s',h'=B s'++[some (.cells (p.cells.map .p))])->
  ACalls Tryz.prog 118 [.p (.sl 3 (cC l)), .ptr q 0, .ptr f 0] (B s) fun o h'=>o= .ret (.tup [])/\∃s',h'=B s':=by
  intro l s B n q f hB hlen hwf hq hset hf ih;have hll:=gK l;have hqlt:=(aYv.1 (hq s)).1;have hflt:=(aYv.1 (hf s)).1;rw[hlen] at hqlt hflt;have cq:∀s (x:List (Option AO)),(B s++x)[q]?=some (some (.cells [iA s])):=fun s x=>by rw[aZ8 (by rw[hlen];exact hqlt)];exact hq s
  have cF:∀s (x:List (Option AO)),(B s++x)[f]?=some (some (.cells [.fn (.func 118) [] [.ptr q 0, .ptr f 0]])):=fun s x=>by rw[aZ8 (by rw[hlen];exact hflt)];exact hf s
  have cs:∀s s' (x:List (Option AO)),(B s++x).set q (some (.cells [iA s']))=B s'++x:=fun s s' x=>by rw[aZp _ _ (by rw[hlen];exact hqlt),hset]
  have gl:∀s (x:List (Option AO)) (k:Nat),(B s++x)[n+k]?=x[k]?:=fun s x k=>eG (hlen s)
  have gl0:∀s (x:List (Option AO)),(B s++x)[n]?=x[0]?:=fun s x=>fV (hlen s)
  have wfl:∀s (x:List (Option AO)),x.all (AO.under (n+x.length))=true->WF (B s++x):=fun s x hl=>(hwf s).app (by rw[hlen];exact hl)
  refine zE Tryz.func118 Tryz.ntmps118 ?_;refine nv ?_;rw[hlen s];refine znr ?_;refine Run.loopS (ι:=Nat×Int) [1,2,6,7] (fun p=>p.1<=l.length) (fun p=>l.length-p.1) (fun p=>[(8,iA p.1)]) (fun p=>B p.2) (0,s) aA ?_ aA ?_
  ·exact zS
  rintro⟨j,s1⟩ hj IH;simp only at hj;refine cI ?_
  by_cases hjl:j<l.length
  ·have hg:l[j]?=some l[j]:=aYu hjl;have hmem:=aYx hjl;generalize l[j]=x at hg hmem;have ihx:=fun s=>ih x hmem s
   obtain⟨pk,pn,qs⟩:=x;simp only[Pt.args,bC,List.map] at ihx;refine dF hjl ?_;refine zrv7 hg hlen ?_
   by_cases hk:pk=1
   ·subst hk;refine aDk hlen ?_;refine zr2 cq cs ?_;refine zr2 hlen cF ?_;refine Run.call (f:=118) (args:=[.p (.sl 3 (cC qs)), .ptr q 0, .ptr f 0]) rfl rfl aA rfl (ihx _) ?_ ?_
    rotate_left
    ·rintro v h' ⟨hv,_⟩;cases hv
    rintro v h' ⟨hv,s2,rfl⟩;simp only[AOut.ret.injEq] at hv;subst hv;refine y1y ?_;exact y6j
   ·refine nQ hlen ?_;refine Go.AI.cf (by simp[hk]) (nv ?_);refine zr2 hlen cF ?_;refine Run.call (f:=118) (args:=[.p (.sl 3 (cC qs)), .ptr q 0, .ptr f 0]) rfl rfl aA rfl (ihx _) ?_ ?_
    rotate_left
    ·rintro v h' ⟨hv,_⟩;cases hv
    rintro v h' ⟨hv,s2,rfl⟩;simp only[AOut.ret.injEq] at hv;subst hv;refine y1y ?_;exact y6j
  ·have hje:l.length<=j:=aB;refine nv ?_;refine Go.AI.cf (by simp[hje]) (nv ?_);refine y21 ?_;refine Run.nil ?_;exact Fin.ret' (h0:=B s1) aA (by rw[hlen]) (hwf s1) (aZ0 _).symm rfl rfl (Weak.refl _) rfl ⟨rfl,s1,rfl⟩
 induction N with
 |zero=>
  intro l s B n q f hl hB
  cases l with
  |nil=>exact fun a b c d e=>key [] s B n q f hB a b c d e aA
  |cons p l=>have:=p.size_pos;simp only[Pt.sizes] at hl;omega
 |succ N ih=>
  intro l s B n q f hl hB hlen hwf hq hset hf;refine key l s B n q f hB hlen hwf hq hset hf fun p hp s1=>?_
  have h2:=Pt.size_at hp;obtain⟨pk,pn,qs⟩:=p;simp only[Pt.size] at h2;have hqlt:=(aYv.1 (hq s)).1;have hflt:=(aYv.1 (hf s)).1;rw[hlen] at hqlt hflt;simp only[Pt.args,bC,List.map]
  exact ih qs s1 (fun s=>B s++[some (.cells [iA pk, .p (sP pn), .p (.sl 3 (cC qs))])]) (n+1) q f aB aB (fun s=>by simp[hlen]) (fun s=>(hwf s).app aA)
   (fun s=>by rw[aZ8 (by rw[hlen];exact hqlt)];exact hq s) (fun s s'=>by rw[aZp _ _ (by rw[hlen];exact hqlt),hset])
   (fun s=>by rw[aZ8 (by rw[hlen];exact hflt)];exact hf s)
theorem aNz (cls:List Cl)(hs:cls.length<=1048576)(hc:∀c∈cls,Pt.sizes c.ps<=1048576)(h:Heap)(hh:WF h):ACalls Tryz.prog 61 [.p (.sl 6 (aAy cls))] h fun o h'=>aWz (fun _=>True) o/\h'=h:=by
 refine zE Tryz.func61 Tryz.ntmps61 ?_;refine iQ ?_;refine y26 ?_
 refine Run.loopS (ι:=Nat×Int) [3,4,8,9] (fun p=>p.1<=cls.length) (fun p=>cls.length-p.1) (fun p=>[(10,iA p.1)])
  (fun p=>h++[some (.cells [iA p.2]),some (.cells [.fn (.func 118) [] [.ptr h.length 0, .ptr (h.length+1) 0]])]) (0,0) aA ?_ aA ?_
 ·exact zS
 rintro⟨j,s⟩ hj IH;simp only at hj;refine cI ?_
 by_cases hjl:j<cls.length
 ·have hgj:cls[j]?=some cls[j]:=aYu hjl;have hmem:=aYx hjl;generalize cls[j]=c at hgj hmem;have hcz:=hc c hmem;obtain⟨ps,⟨k,i,nm,ls,ks⟩⟩:=c
  have c1:=aJv _ ps s (fun s=>h++[some (.cells [iA s]),some (.cells [.fn (.func 118) [] [.ptr h.length 0, .ptr (h.length+1) 0]]),some (.cells [.p (.sl 3 (cC ps)),iA k,iA i, .p (sP nm), .p (.sl 2 (aW ls)), .p (.sl 5 (aL ks))])]) (h.length+3) h.length (h.length+1) (aYw _) hcz
   (fun s=>by simp) (fun s=>hh.app aA) (fun s=>by simp) (fun s s'=>by simp) (fun s=>by simp)
  refine dF hjl ?_;refine zrv8 hgj ?_;refine zr ?_;refine Run.call rfl aF aA rfl c1 ?_ ?_
  rotate_left
  ·rintro v h' ⟨hv,_⟩;cases hv
  rintro v h' ⟨hv,s2,rfl⟩;simp only[AOut.ret.injEq] at hv;subst hv;refine zor ?_;refine Run.keep [3,4,8,9,10] ?_;refine yr ?_;simp;exact y6j
 ·have hje:cls.length<=j:=aB;refine nv ?_;refine Go.AI.cf (by simp[hje]) (nv ?_);refine ze ?_;refine aOs ?_;refine zF1 hh ?_;exact⟨⟨s,rfl,trivial⟩,rfl⟩
theorem aQ9 (env:List Dc)(hg:Env.good env)(h:Heap)(hh:WF h):ACalls Tryz.prog 62 [bW env] h fun o h'=>aWz (fun _=>True) o/\h'=h:=by
 have hel:=hg.1;refine zE Tryz.func62 Tryz.ntmps62 ?_;refine iQ ?_;refine Run.loopS (ι:=Nat×Int) [6,7] (fun p=>p.1<=env.length) (fun p=>env.length-p.1) (fun p=>[(3,iA p.2),(8,iA p.1)]) (fun _=>h) (0,0) aA ?_ rfl ?_
 ·exact zS
 rintro⟨j,s⟩ hj IH;simp only at hj;refine cI ?_
 by_cases hjl:j<env.length
 ·have hgj:env[j]?=some env[j]:=aYu hjl;have hmem:=aYx hjl;generalize env[j]=d at hgj hmem;have hdg:=(hg.2 d hmem).csl;have hdcl:d.cells.length=23:=aZ d;obtain⟨dc,hdc,hdl,hone,hdu,hd14,_⟩:=tC d;have hd14':∀q:14<dc.length,dc[14]= .p (.sl 6 (d.cs.map Ct.cells)):=fun q=>by rw[aYu q] at hd14;exact bAf hd14
  have htd:List.take 23 dc=dc:=aZ6 aB
  have hpa:∀l:List AV,l.length=23->patch l 0 dc=dc:=fun l hl'=>by
   have:=dV dc l [] (by rw[hl',hdl]);exact y61
  have hdm:d.cells.map AV.p=dc:=by simpa [Dc.av] using hdc
  refine dF hjl ?_;refine zr7 hgj hdcl hdm hdl htd hone hpa ?_;refine zr2 hd14' hdl ?_;refine zr ?_;refine Run.keep [3,6,7,8] ?_;refine ye ?_;simp;refine IH (j+1,if s<(d.cs.length:Int) then(d.cs.length:Int) else s) _ _ (by simp only;omega) (by simp only;omega) ?_ aA;exact zS
 ·have hje:env.length<=j:=aB;refine nv ?_;refine Go.AI.cf (by simp[hje]) (nv ?_);refine ze ?_;refine znr ?_
  by_cases h6:6<s
  ·refine fT h6 ?_;exact y4k
  ·refine nv ?_;refine Go.AI.cf (by simp[h6]) (nv ?_);refine zr ?_
   by_cases h3:3<s
   ·refine fT h3 ?_;exact y4k
   ·refine nv ?_;refine Go.AI.cf (by simp[h3]) (nv ?_);refine zrx ?_;exact y4k
open Go Go.AI
theorem aLh (env:List Dc)(hg:Env.good env)(cls:List Cl)(v:List Pt)(hs:PSmall cls v)(h:Heap)(hh:WF h):
  ACalls Tryz.prog 19 [bW env, .p (.sl 6 (aAy cls)), .p (.sl 3 (cC v))] h fun o h'=>aK9 (fun b=>b=true->aP env) o/\h'=h:=by
 have hcl:=hs.cl;have hvl:=gK v;have hvs:=hs.vs;have c1:=fun g hw=>wV _ v 16 (aYw _) hs.vs aB aB g hw
 have c2:=fun(c:Cl) (hc:c∈cls) (g:Heap) (hw:WF g)=>wV _ c.ps 16 (aYw _) (hs.cs c hc) aB aB g hw
 have c3:∀(g:Heap) (hw:WF g),ACalls Tryz.prog 20 [bW env, .p (.prim (.slice none 0 0))] g fun o h'=>aK9 (fun b=>b=true->aP env) o/\h'=g:=fun g hw=>by
  refine ACalls.weak (args':=[bW env, .p (.sl 5 (aL []))]) (WeakL.cons (Weak.refl _) (WeakL.cons (Weak.nil _) WeakL.nil)) ?_;refine(aF9 g hw env [] hg (by simp[Tm.sizes]) (by simp[Tm.lvss]) (by simp[Tm.fits]) aA).mono ?_;rintro o h' ⟨⟨b,hb,hb2⟩,e⟩;exact⟨⟨b,hb,fun hb=>(hb2 hb).1⟩,e⟩
 have c4:=fun g hw=>aNz cls hs.cl hs.cs g hw
 have c5:=fun g hw=>aQ9 env hg g hw
 refine cW Tryz.func19 Tryz.ntmps19 ?_;refine zL (c1 _ hh) ?_;obtain⟨sm,hsm⟩:∃sm,zV 16 v=sm:=⟨_,rfl⟩;rw[hsm];obtain⟨k0,b0,hk0⟩:∃k b,smA sm= .tup [iA k,bA b]:=by cases sm<;>exact⟨_,_,rfl⟩
 rw[hk0];clear hk0 hsm;refine zor ?_;refine Run.loopS (ι:=Nat×Bool) [0,1,2,18,19] (fun p=>p.1<=cls.length) (fun p=>cls.length-p.1) (fun p=>[(8,bA p.2),(20,iA p.1)]) (fun _=>h) (0,b0) aA ?_ rfl ?_
 ·exact zS
 rintro⟨j,b⟩ hj IH;simp only at hj;refine cI ?_
 by_cases hjl:j<cls.length
 ·have hgj:cls[j]?=some cls[j]:=aYu hjl;have hmem:=aYx hjl;generalize cls[j]=c at hgj hmem;have c2:=c2 c hmem;obtain⟨ps,⟨k,i,nm,ls,ks⟩⟩:=c;simp only at c2;refine dF hjl ?_;refine zrv8 hgj ?_;refine zr ?_;refine zL (c2 _ (hh.app aA)) ?_;obtain⟨sm,hsm⟩:∃sm,zV 16 ps=sm:=⟨_,rfl⟩;rw[hsm];obtain⟨k1,b1,hk1⟩:∃k b,smA sm= .tup [iA k,bA b]:=by cases sm<;>exact⟨_,_,rfl⟩
  rw[hk1];clear hk1 hsm;refine zo ?_
  cases b with
  |false=>
   refine rS ?_;exact y52
  |true=>
   cases b1 with
   |false=>
    refine rS ?_;exact y52
   |true=>
    by_cases h4:(ps.length:Int)<=4
    ·have h4':ps.length<=4:=aB;refine nQ h4 ?_;refine zr ?_;refine Run.keep [0,1,2,8,18,19,20] ?_;refine ye ?_;simp;refine IH (j+1,true) _ _ (by simp only;omega) (by simp only;omega) ?_ aA;exact zS
    ·have h4':¬ps.length<=4:=aB;refine nQ h4 ?_;refine zr ?_;exact y52
 ·have hje:cls.length<=j:=aB;refine nv ?_;refine Go.AI.cf (by simp[hje]) (nv ?_);refine y21 ?_
  cases b with
  |false=>
   refine aOs ?_;exact y37
  |true=>
  by_cases h4:(v.length:Int)<=4
  rotate_left
  ·have h4':¬v.length<=4:=aB;refine aRd h4 ?_;exact y37
  have h4':v.length<=4:=aB
  by_cases h6:(cls.length:Int)<=6
  rotate_left
  ·have h6':¬cls.length<=6:=aB;refine sH h4 h6 ?_;refine zx ?_;exact y37
  have h6':cls.length<=6:=aB;refine sH h4 h6 ?_;refine zB (c3 _ hh) fun b hb=>?_
  cases b with
  |false=>
   refine zox ?_;exact y37
  |true=>
   have he:=hb rfl;refine zo ?_;refine zB (c4 _ hh) fun n1 hn1=>?_
   refine zo ?_;refine zB (c5 _ hh) fun n2 hn2=>?_
   refine zox ?_;refine zF4 hh ?_;exact⟨⟨_,rfl,fun _=>he⟩,rfl⟩
end Go.Proofs.YtcfcolkbeelegaaGreat
namespace Go.AI
open Go
section
variable {P:Program} {rd:Option Nat} {nb:Nat} {all:Array Oper} {k:List It} {T:List AV} {h:Heap} {D:List AD} {Q:AX->List AV->Heap->List AD->Prop} {o:Oper} {rest:List Oper}
theorem aPo {P:Program} {w:World} {t:TypeId} {ox:Operand} {a b c} (ht:P.underlying t=some (.func a b c))(x:Value)(r:Bool)(hx:(x= .nilFunc/\r=true)\/(∃f u v,x= .func f u v)/\r=false):
  (do eqGuard .eql t ox (.const .nilFunc) x .nilFunc;binOp .eql t x .nilFunc:Sem Value).run P w= .ok (.bool r) w:=by
 have h1:∀d,(Op.equalIn (d+1) t .nilFunc .nilFunc).run P w= .ok true w:=by
  intro d;simp only[Op.equalIn,Sem.run_bind,run_underlying ht,Result.andThen_ok];rfl
 have h2:∀d f u v,(Op.equalIn (d+1) t (.func f u v) .nilFunc).run P w= .ok false w:=by
  intro d f u v;simp only[Op.equalIn,Sem.run_bind,run_underlying ht,Result.andThen_ok];rfl
 have e1:(Op.equal t .nilFunc .nilFunc).run P w= .ok true w:=h1 9999;have e2:∀f u v,(Op.equal t (.func f u v) .nilFunc).run P w= .ok false w:=h2 9999
 have g1:(eqGuard .eql t ox (.const .nilFunc) .nilFunc .nilFunc).run P w= .ok () w:=by
  unfold eqGuard;simp
 have g2:∀f u v,(eqGuard .eql t ox (.const .nilFunc) (.func f u v) .nilFunc).run P w= .ok () w:=by
  intro f u v;unfold eqGuard;rfl
 rcases hx with ⟨rfl,rfl⟩|⟨⟨f,u,v,rfl⟩,rfl⟩
 ·simp[g1,binOp,e1]
 ·simp[g2,binOp,e2]
theorem Run.funcNil (r:Bool) {t t2:TypeId} {x:Operand} (ho:o.op= .binOp .eql t x (.const .nilFunc) t2)(hw:aJ all T o=some true)(ht:∃a b c,P.underlying t=some (.func a b c))
  (hx:(aev T x= .p (.prim .nilFunc)/\r=true)\/(∃f u v,aev T x= .fn f u v)/\r=false)
  (n:Run P rd nb (.ops all rest::k) (tput T o.dst (.p (.prim (.bool r)))) h D Q):Run P rd nb (.ops all (o::rest)::k) T h D Q:=by
 refine Run.opR (R:=fun y h'=>y= .p (.prim (.bool r))/\h'=h) hw (fun c hc=>by rw[hc] at ho;cases ho) ?_ (by rintro y h' ⟨rfl,rfl⟩;exact n);obtain⟨a,b,c,ht⟩:=ht;intro E w ac s;have hr:=aS s x;refine⟨_,_,E,w, .bool r,⟨rfl,rfl⟩,?_,s.rel,s.fresh,by simp[Rep,RepP,bH],Fr.refl _ _ _⟩
 have:((do eqGuard .eql t x (.const .nilFunc) (ac.eval x) .nilFunc;binOp .eql t (ac.eval x) .nilFunc:Sem Value)).run P w= .ok (.bool r) w:=by
  refine aPo ht _ _ ?_;rcases hx with ⟨e,rfl⟩|⟨⟨f,u,v,e⟩,rfl⟩
  ·rw[e] at hr;simp only[Rep,RepP] at hr;exact .inl ⟨hr.1,rfl⟩
  ·rw[e] at hr;simp only[Rep] at hr;obtain⟨vs,us,e2,_,_⟩:=hr;exact .inr ⟨⟨_,_,_,e2⟩,rfl⟩
 have hq:ac.eval (.const .nilFunc)= .nilFunc:=rfl;simp only[execOp,ho,hq];rw[Sem.run_bind,this]
 rfl
end
open Go
section
variable {P:Program} {rd:Option Nat} {nb:Nat} {all:Array Oper} {k:List It} {T:List AV} {h:Heap} {D:List AD} {Q:AX->List AV->Heap->List AD->Prop} {o:Oper} {rest:List Oper}
theorem Run.assertHit {t xT:TypeId} {x:Operand} {y:AV} (ho:o.op= .typeAssert x xT t true)(hw:aJ all T o=some true) {fs} (ht:P.underlying t=some (.struct fs))(hx:aev T x= .ifc t y)
  (n:Run P rd nb (.ops all rest::k) (tput T o.dst (.tup [y, .p (.prim (.bool true))])) h D Q):Run P rd nb (.ops all (o::rest)::k) T h D Q:=by
 refine Run.opR (R:=fun z h'=>z= .tup [y, .p (.prim (.bool true))]/\h'=h) hw (fun c hc=>by rw[hc] at ho;cases ho) ?_ (by rintro z h' ⟨rfl,rfl⟩;exact n);intro E w ac s;have hr:=aS s x;rw[hx] at hr;simp only[Rep] at hr;obtain⟨u,e,hu⟩:=hr;refine⟨_,_,E,w, .tuple #[u, .bool true],⟨rfl,rfl⟩,?_,s.rel,s.fresh,?_,Fr.refl _ _ _⟩
 ·simp[execOp,ho,e,Instr.typeAssert,run_underlying ht]
 ·exact y7m
theorem Run.assertMiss {t t0 xT:TypeId} {x:Operand} {y:AV} {z:List Value} (ho:o.op= .typeAssert x xT t true)(hw:aJ all T o=some true) {fs} (ht:P.underlying t=some (.struct fs))(hx:aev T x= .ifc t0 y)(hne:t0≠t)
  (hz:∀w,(zeroValue t).run P w= .ok (.agg z.toArray) w) (hzp:z.all bH=true)
  (n:Run P rd nb (.ops all rest::k) (tput T o.dst (.tup [.agg (prims z), .p (.prim (.bool false))])) h D Q):Run P rd nb (.ops all (o::rest)::k) T h D Q:=by
 refine Run.opR (R:=fun v h'=>v= .tup [.agg (prims z), .p (.prim (.bool false))]/\h'=h) hw (fun c hc=>by rw[hc] at ho;cases ho) ?_ (by rintro v h' ⟨rfl,rfl⟩;exact n);intro E w ac s;have hr:=aS s x;rw[hx] at hr;simp only[Rep] at hr;obtain⟨u,e,hu⟩:=hr;refine⟨_,_,E,w, .tuple #[.agg z.toArray, .bool false],⟨rfl,rfl⟩,?_,s.rel,s.fresh,?_,Fr.refl _ _ _⟩
 ·simp[execOp,ho,e,Instr.typeAssert,run_underlying ht,hne,hz]
 ·have hp:∀l:List Value,l.all bH=true->RepL E w (prims l) l:=by
   intro l
   induction l with
   |nil=>intro _;rfl
   |cons a l ih=>
    intro hl;simp only[List.all_cons,aZ7] at hl;exact⟨_,_,rfl,⟨rfl,hl.1⟩,ih hl.2⟩
  simp only[Rep,RepL,RepP];exact⟨[.agg z.toArray, .bool false],rfl, .agg z.toArray,[.bool false],rfl,⟨z,rfl,hp z hzp⟩, .bool false,[],rfl,⟨rfl,rfl⟩,rfl⟩
end
end Go.AI
namespace Go.Proofs.YtcfcolkbeelegaaGreat
open Go Go.AI
def aQa (p:Lv->Bool)(ls:List Lv)(j:Nat):Bool:=match ls[j]? with|some l=>!p l|none=>true
theorem aHe (p:Lv->Bool)(ls:List Lv):(!bB (aQa p ls) ls.length)=ls.any p:=by
 have h1:bB (aQa p ls) ls.length=true↔∀l∈ls,p l=false:=by
  rw[cJ];constructor
  ·intro h l hl;obtain⟨j,hj⟩:=bAl hl;have:=h j (aYv.1 hj).1;simpa [aQa,hj] using this
  ·intro h j hj;have hg:ls[j]?=some ls[j]:=aYu hj;simp[aQa,hg,h _ (aYx hj)]
 cases e:ls.any p with
 |true=>
  obtain⟨l,hl,hp⟩:=bBj.1 e
  cases e2:bB (aQa p ls) ls.length with
  |false=>rfl
  |true=>have:=h1.1 e2 l hl;rw[hp] at this;cases this
 |false=>
  have:=h1.2 fun l hl=>by
   have:=List.any_eq_false.1 e l hl;exact y6y
  rw[this];rfl
theorem aLv (g:FuncId)(hg:aX Tryz.prog g=true)(p:Lv->Bool)(h:Heap)(hh:WF h)(ls:List Lv)(hb:ls.length<=1048576)(hc:∀l∈ls,ACalls Tryz.prog g [l.av] h fun o h'=>o= .ret (bA (p l))/\h'=h):
  ACalls Tryz.prog 94 [.p (.sl 2 (aW ls)), .p (.prim (.func (.func g) #[] #[]))] h fun o h'=>∃r:Int,o= .ret (iA r)/\h'=h/\decide (0<=r)=ls.any p:=by
 refine cW Tryz.func94 Tryz.ntmps94 ?_;refine Run.loopS [0,1,6,7] (fun j:Nat=>j<=ls.length/\bB (aQa p ls) j=true) (fun j=>ls.length-j) (fun j=>[(8,iA j)]) (fun _=>_) 0 (by simp[bB]) ?_ rfl ?_
 ·exact zS
 ·rintro j ⟨hj,hall⟩ IH;refine cI ?_
  by_cases hjl:j<ls.length
  ·have hg':ls[j]?=some ls[j]:=aYu hjl;have hcu:=hc _ (aYx hjl);generalize ls[j]=u at hg' hcu;refine qL hjl hg' ?_;refine Run.call (args:=[u.av]) rfl rfl aA hg hcu ?_ ?_
   ·rintro v h' ⟨hv,rfl⟩;simp only[AOut.ret.injEq] at hv;subst hv;refine zo ?_
    by_cases h1:p u=true
    ·refine dF h1 ?_
     repeat (first|refine nw ?_|(refine Run.reg fun K J=>?_;simp;(try (simp (disch:=omega) only[aQ]));refine J _ _ _ ?_;clear J)|refine ct rfl ?_|refine Go.AI.cf rfl ?_|refine Run.exit rfl ?_|refine Run.ret ?_)
     have:=aU (p:=aQa p ls) hjl (by simp only[aQa,hg'];simp[h1]);refine zF3 hh ?_;exact⟨j,rfl,rfl,by rw[<-aHe,this];simp⟩
    ·have h1:p u=false:=by simpa using h1
     refine nv ?_;refine Go.AI.cf (by simp[h1]) (nv ?_);refine zr ?_;refine IH (j+1) _ _ ⟨by omega,by rw[bK,hall];simp only[aQa,hg'];simp[h1]⟩ aB ?_ rfl;exact zS
   ·rintro v h' ⟨hv,_⟩;cases hv
  ·have hje:j=ls.length:=aB;subst hje;refine nv ?_;refine Go.AI.cf aA (nv ?_);refine y21 ?_
   repeat (first|refine nw ?_|(refine Run.reg fun K J=>?_;simp;(try (simp (disch:=omega) only[aQ]));refine J _ _ _ ?_;clear J)|refine ct rfl ?_|refine Go.AI.cf rfl ?_|refine Run.exit rfl ?_|refine Run.ret ?_)
   refine zF3 hh ?_;exact⟨-1,rfl,rfl,by rw[<-aHe,hall];simp⟩
theorem aKj (g:FuncId)(hg:aX Tryz.prog g=true)(p:Lv->Bool)(h:Heap)(hh:WF h)(ls:List Lv)(hb:ls.length<=1048576)(hc:∀l∈ls,ACalls Tryz.prog g [l.av] h fun o h'=>o= .ret (bA (p l))/\h'=h):
  AC 46 [.p (.sl 2 (aW ls)), .p (.prim (.func (.func g) #[] #[]))] h (bA (ls.any p)):=by
 have hi:=aLv g hg p h hh ls hb hc;generalize ls.any p=r0 at hi⊢;refine cW Tryz.func46 Tryz.ntmps46 ?_;refine Run.call rfl rfl aA rfl hi ?_ ?_
 ·rintro v h' ⟨r,hv,rfl,hr⟩;exact y3j
 ·rintro v h' ⟨r,hv,_⟩;cases hv
theorem aC4 (h:Heap)(hh:WF h)(l:Lv)(hb:l.vars.length<=1048576):AC 161 [l.av] h (bA (!aY l)):=by
 have hv:=fun(g:Heap) (hg:WF g)=>qH g hg l hb
 obtain⟨c,vs⟩:=l;generalize aY ⟨c,vs⟩=b at hv⊢;simp only[Lv.av,Lv.cells,List.map] at hv⊢;refine cW Tryz.func161 Tryz.ntmps161 ?_;refine zL (hv _ (hh.app aA)) ?_;refine zox ?_;exact y2s
theorem zY (h:Heap)(hh:WF h)(ls:List Lv)(hb:ls.length<=1048576)(hbv:∀l∈ls,l.vars.length<=1048576):AC 108 [.p (.sl 2 (aW ls))] h (bA (ls.all aY)):=by
 have hv:=fun(g:Heap) (hg:WF g)=>aKj 161 aC (fun l=>!aY l) g hg ls hb fun l hl=>aC4 g hg l (hbv l hl)
 rw[show ls.any (fun l=>!aY l)=!ls.all aY by simp[List.not_all_eq_any_not]] at hv;generalize ls.all aY=b at hv⊢;refine cW Tryz.func108 Tryz.ntmps108 ?_;refine zL (hv _ hh) ?_;refine zox ?_;exact Fin.ret' aA rfl hh (aZ0 _).symm rfl rfl (Weak.of_eq aA) rfl ⟨rfl,rfl⟩
open Go.Shelf Go.Proofs
def aEe:Go.Shelf.Ren:=⟨fun|189=>196|125=>226|257=>225|128=>254|129=>255|294=>245|295=>246|296=>247|297=>248|298=>249|299=>250|216=>251|300=>252|301=>253|328=>268|329=>269|330=>270|331=>271|332=>272|215=>273|343=>278|n=>n,fun|28=>187|3=>3|46=>245|0=>0|51=>54|53=>322|4=>4|183=>314|182=>313|131=>79|5=>5|9=>9|218=>332|222=>336|228=>340|229=>176|n=>n,fun|n=>n⟩
theorem aTn:Go.Proofs.Lays.n189 Tryz.prog aEe:= {
 mixed:=aC
 f125:=Tryz.func226.trans (congrArg some aC)
 f128:=Tryz.func254.trans (congrArg some aC)
 f129:=Tryz.func255.trans (congrArg some aC)
 f189:=Tryz.func196.trans (congrArg some aC)
 f215:=Tryz.func273.trans (congrArg some aC)
 f216:=Tryz.func251.trans (congrArg some aC)
 f257:=Tryz.func225.trans (congrArg some aC)
 f294:=Tryz.func245.trans (congrArg some aC)
 f295:=Tryz.func246.trans (congrArg some aC)
 f296:=Tryz.func247.trans (congrArg some aC)
 f297:=Tryz.func248.trans (congrArg some aC)
 f298:=Tryz.func249.trans (congrArg some aC)
 f299:=Tryz.func250.trans (congrArg some aC)
 f300:=Tryz.func252.trans (congrArg some aC)
 f301:=Tryz.func253.trans (congrArg some aC)
 f328:=Tryz.func268.trans (congrArg some aC)
 f329:=Tryz.func269.trans (congrArg some aC)
 f330:=Tryz.func270.trans (congrArg some aC)
 f331:=Tryz.func271.trans (congrArg some aC)
 f332:=Tryz.func272.trans (congrArg some aC)
 f343:=Tryz.func278.trans (congrArg some aC)
 t0:=Tryz.underlying0
 a0:=Tryz.isAgg0
 z0:=Tryz.sizeOf0
 v0:=Tryz.zeroValue0
 t3:=Tryz.underlying3
 a3:=Tryz.isAgg3
 z3:=Tryz.sizeOf3
 v3:=Tryz.zeroValue3
 t4:=Tryz.underlying4
 a4:=Tryz.isAgg4
 z4:=Tryz.sizeOf4
 v4:=Tryz.zeroValue4
 t5:=Tryz.underlying5
 a5:=Tryz.isAgg5
 z5:=Tryz.sizeOf5
 v5:=Tryz.zeroValue5
 t9:=Tryz.underlying9
 a9:=Tryz.isAgg9
 z9:=Tryz.sizeOf9
 v9:=Tryz.zeroValue9
 t28:=Tryz.underlying187
 a28:=Tryz.isAgg187
 z28:=Tryz.sizeOf187
 v28:=Tryz.zeroValue187
 t46:=Tryz.underlying245
 a46:=Tryz.isAgg245
 z46:=Tryz.sizeOf245
 v46:=Tryz.zeroValue245
 t51:=Tryz.underlying54
 a51:=Tryz.isAgg54
 z51:=Tryz.sizeOf54
 v51:=Tryz.zeroValue54
 t53:=Tryz.underlying322
 a53:=Tryz.isAgg322
 z53:=Tryz.sizeOf322
 v53:=Tryz.zeroValue322
 t131:=Tryz.underlying79
 a131:=Tryz.isAgg79
 z131:=Tryz.sizeOf79
 v131:=Tryz.zeroValue79
 t182:=Tryz.underlying313
 a182:=Tryz.isAgg313
 z182:=Tryz.sizeOf313
 v182:=Tryz.zeroValue313
 t183:=Tryz.underlying314
 a183:=Tryz.isAgg314
 z183:=Tryz.sizeOf314
 v183:=Tryz.zeroValue314
 t218:=Tryz.underlying332
 a218:=Tryz.isAgg332
 z218:=Tryz.sizeOf332
 v218:=Tryz.zeroValue332
 t222:=Tryz.underlying336
 a222:=Tryz.isAgg336
 z222:=Tryz.sizeOf336
 v222:=Tryz.zeroValue336
 t228:=Tryz.underlying340
 a228:=Tryz.isAgg340
 z228:=Tryz.sizeOf340
 v228:=Tryz.zeroValue340
 t229:=Tryz.underlying176
 a229:=Tryz.isAgg176
 z229:=Tryz.sizeOf176
 v229:=Tryz.zeroValue176}
end Go.Proofs.YtcfcolkbeelegaaGreat
