import Derived.Test.YtplomildbmcmfaaGreatZA0
import Derived.Test.YtplomildbmcmfaaGreatZX11
import Derived.Test.YtplomildbmcmfaaGreatZT7
set_option maxRecDepth 8000
set_option maxHeartbeats 16000000
namespace Go.Proofs.YtplomildbmcmfaaGreat
open Go Go.AI
theorem wF (N:Nat):∀(t:Tr)(dp:Int)(h:Heap),t.size<=N->t.good->WF h->ACalls Tryz.prog 216 [t.av,iA dp] h fun o h'=>aU0 (fun _=>True) o/\h'=h:=by
 induction N with
 |zero=>intro t _ h hN;cases t;simp[Tr.size] at hN
 |succ N ih=>
 intro t dp h hN hgd hh;obtain⟨k,b,v,bs⟩:=t;simp only[Tr.size] at hN;simp only[Tr.good] at hgd;obtain⟨hb,hbl,hbs⟩:=hgd;have c1:=fun g hw=>fS g hw b hb
 have hrec:=fun(t:Tr) (h1:t.size<=Br.sizes bs) (h2:t.good) (dp:Int) (g:Heap) (hw:WF g)=>ih t dp g aB h2 hw
 clear ih;obtain⟨m1,m2,m3,m4,m5⟩:=b;simp only[Tr.av,Tr.cells,Tm.av,cells_mk,List.map,bLz,bM4,brPs_eq] at c1 hrec⊢;refine zER Tryz.func216 Tryz.ntmps216 ?_
 by_cases e1:40<dp
 ·refine aDg e1 ?_;exact y2u
 by_cases e2:40<(bs.length:Int)
 ·refine zn ?_;refine zr2 e1 e2 ?_;refine zt ?_;exact y2u
 refine zn ?_;refine zr2 e1 e2 ?_;refine zB (c1 _ (hh.app aA)) fun b hb=>?_
 cases b with
 |false=>
  refine zot ?_;exact y2u
 |true=>
 refine zofr ?_;refine Run.loopS [1,2] (fun j:Nat=>j<=bs.length) (fun j=>bs.length-j) (fun j=>[(5,iA j)]) (fun _=>_) 0 aA ?_ rfl ?_
 ·exact zS
 rintro j hj IH;refine cK ?_
 by_cases hjl:j<bs.length
 ·have hg:bs[j]?=some bs[j]:=bLv hjl;have hgd:=Br.goods_at hbs _ (bLy hjl);have hsz:=tC (bLy hjl);generalize bs[j]=x at hg hgd hsz;obtain⟨c,a,tr⟩:=x;simp only[Br.good] at hgd;simp only[Br.size] at hsz;have c2:=fun(dp:Int) (g:Heap) (hw:WF g)=>hrec tr aB hgd dp g hw
  obtain⟨p1,⟨p2,p3,p4,p5,p6⟩,p7,p8⟩:=tr;simp only[Tr.cells,cells_mk,List.map,bLz,bM4,brPs_eq] at c2;refine znt1 hjl ?_;refine bEb hg ?_;refine zB (c2 (IntKind.i64.wrap (dp+1)) _ (hh.app aA)) fun b hb=>?_
  cases b with
  |false=>
   refine zot ?_;exact y2u
  |true=>
   by_cases e3:200<(c.length:Int)
   ·refine bE8 hg e3 ?_;refine zt ?_;exact y2u
   ·refine bE8 hg e3 ?_;refine yl ?_;refine IH (j+1) _ _ aB aB ?_ rfl;exact zS
 ·have hje:j=bs.length:=aB;subst hje;refine znfen ?_;exact y2u
theorem aBw (h:Heap)(hh:WF h)(d:Dc)(hd:d.good):ACalls Tryz.prog 148 [d.av] h fun o h'=>aU0 (fun b=>b=true->d.nm.length<=200) o/\h'=h:=by
 have c1:=fun g hw=>fS g hw d.ty hd.ty
 have c2:=fun g hw=>fS g hw d.va hd.va
 have c3:=fun g hw=>fS g hw d.rt hd.rt
 have hcs:=hd.cs;have hrr:=hd.rr;have hfs:=hd.fs;have hcl:=hd.csl;have hrl:=hd.rrl;have hfl:=hd.fsl;obtain⟨k,nm,ps,⟨k1,i1,n1,l1,s1⟩,⟨k2,i2,n2,l2,s2⟩,fx,cs,rp,⟨k3,i3,n3,l3,s3⟩,rr,fs⟩:=d;clear hd;simp only at hcs hrr hfs hcl hrl hfl;simp only[Dc.av,Dc.cells,Tm.av,cells_mk,List.map,bLz,bM4] at c1 c2 c3⊢;refine zER Tryz.func148 Tryz.ntmps148 ?_
 by_cases e1:200<(nm.length:Int)
 ·refine aDg e1 ?_;exact y2e
 refine sD e1 ?_;refine zB (c1 _ (hh.app aA)) fun b hb=>?_
 cases b with
 |false=>
  refine zot ?_;exact y2e
 |true=>
 refine zo ?_;refine zB (c2 _ (hh.app aA)) fun b hb=>?_
 cases b with
 |false=>
  refine zot ?_;exact y2e
 |true=>
 by_cases e2:40<(cs.length:Int)
 ·refine zo1 e2 ?_;refine zt ?_;exact y2e
 by_cases e3:12<(fs.length:Int)
 ·refine zo2 e2 e3 ?_;refine zt ?_;exact y2e
 refine zo2 e2 e3 ?_;refine zB (c3 _ (hh.app aA)) fun b hb=>?_
 cases b with
 |false=>
  refine zot ?_;exact y2e
 |true=>
 by_cases e4:40<(rr.length:Int)
 ·refine zo1 e4 ?_;refine zt ?_;exact y2e
 refine aT2 e4 ?_;clear c1 c2 c3;refine Run.loopS [1] (fun j:Nat=>j<=cs.length) (fun j=>cs.length-j) (fun j=>[(3,iA j)]) (fun _=>_) 0 aA ?_ rfl ?_
 ·exact zS
 rintro j hj IH;refine cK ?_
 by_cases hjl:j<cs.length
 ·have hg:cs[j]?=some cs[j]:=bLv hjl;have c1:=fun g hw=>fS g hw _ (hcs _ (bLy hjl))
  generalize cs[j]=c at hg c1;obtain⟨x,⟨k4,i4,n4,l4,s4⟩⟩:=c;simp only[Tm.av,cells_mk,List.map] at c1;refine znt1 hjl ?_
  by_cases e5:200<(x.length:Int)
  ·refine zn ?_;refine aXv hg e5 ?_;refine zt ?_;exact y2e
  refine zn ?_;refine aXv hg e5 ?_;refine zB (c1 _ (hh.app aA)) fun b hb=>?_
  cases b with
  |false=>
   refine zot ?_;exact y2e
  |true=>
   exact y40
 have hje:j=cs.length:=aB;subst hje;refine oR ?_;refine Run.loopS [1] (fun j:Nat=>j<=rr.length) (fun j=>rr.length-j) (fun j=>[(4,iA j)]) (fun _=>_) 0 aA ?_ rfl ?_
 ·exact zS
 rintro j hj IH;refine cK ?_
 by_cases hjl:j<rr.length
 ·have hg:rr[j]?=some rr[j]:=bLv hjl;have c1:=fun g hw=>fS g hw _ (hrr _ (bLy hjl))
  generalize rr[j]=c at hg c1;obtain⟨k4,i4,n4,l4,s4⟩:=c;simp only[Tm.av,cells_mk,List.map] at c1;refine iY hjl hg ?_;refine zB (c1 _ (hh.app aA)) fun b hb=>?_
  cases b with
  |false=>
   refine zot ?_;exact y2e
  |true=>
   exact y40
 have hje:j=rr.length:=aB;subst hje;refine oR ?_;refine Run.loopS [1] (fun j:Nat=>j<=fs.length) (fun j=>fs.length-j) (fun j=>[(5,iA j)]) (fun _=>_) 0 aA ?_ rfl ?_
 ·exact zS
 rintro j hj IH;refine cK ?_
 by_cases hjl:j<fs.length
 ·have hg:fs[j]?=some fs[j]:=bLv hjl;have hgf:=hfs _ (bLy hjl);generalize fs[j]=c at hg hgf;obtain⟨x,ty,z,w⟩:=c;have c1:=fun g hw=>fS g hw ty hgf.1
  have c2:=fun g hw=>wF w.size w 0 g (bLx _) hgf.2 hw
  clear hgf;obtain⟨k4,i4,n4,l4,s4⟩:=ty;obtain⟨p1,⟨p2,p3,p4,p5,p6⟩,p7,p8⟩:=w;simp only[Tr.av,Tr.cells,Tm.av,cells_mk,List.map,bLz,bM4,brPs_eq] at c1 c2;refine znt1 hjl ?_
  by_cases e5:200<(x.length:Int)
  ·refine zn ?_;refine bEc hg e5 ?_;refine zt ?_;exact y2e
  refine zn ?_;refine bEc hg e5 ?_;refine zB (c1 _ (hh.app aA)) fun b hb=>?_
  cases b with
  |false=>
   refine zot ?_;exact y2e
  |true=>
  refine bLk hg ?_;refine zB (c2 _ (hh.app aA)) fun b hb=>?_
  cases b with
  |false=>
   refine zot ?_;exact y2e
  |true=>
   exact y40
 have hje:j=fs.length:=aB;subst hje;refine znfen ?_;refine zA ?_;refine zF2 hh ?_;exact⟨⟨_,rfl,fun _=>by omega⟩,rfl⟩
theorem aH1 (h:Heap)(hh:WF h)(env:List Dc)(hg:Env.good env):ACalls Tryz.prog 87 [eU env] h fun o h'=>aU0 (fun b=>b=true->Env.short env) o/\h'=h:=by
 obtain⟨hl,hgd⟩:=hg;refine dE Tryz.func87 Tryz.ntmps87 ?_;refine Run.loopS [0] (fun j:Nat=>j<=env.length/\j<=80/\∀d∈env.take j,d.nm.length<=200) (fun j=>env.length-j) (fun j=>[(3,iA j)]) (fun _=>_) 0 aA ?_ rfl ?_
 ·exact zS
 rintro j ⟨hj,hj80,hall⟩ IH;refine zsn ?_;refine Run.regJ [0,3] 11 (decide (j<env.length)&& decide ((j:Int)<80)) (fun K J=>?_) ?_
 ·simp;exact y1x
 refine y6 ?_;simp;refine Run.condB rfl (fun h1=>?_) (fun h1=>?_)
 ·have hjl:j<env.length:=by simp at h1;omega
  have hj8:j<80:=by simp at h1;omega
  have hge:env[j]?=some env[j]:=bLv hjl;have hdl:=bB env[j];have htk:env.take (j+1)=env.take j++[env[j]]:=bM6 hjl;have c1:=fun g hw=>aBw g hw _ (hgd _ (bLy hjl))
  generalize env[j]=d at hge hdl htk c1;have htd:List.take 23 (d.cells.map AV.p)=d.cells.map .p:=bM7 (by simp[hdl]);simp only[Dc.av] at c1;refine zn ?_;refine zr3 hge hdl htd ?_;refine zB (c1 _ hh) fun b hb=>?_
  cases b with
  |false=>
   exact y5q
  |true=>
   refine zofr ?_;refine IH (j+1) _ _ ⟨by omega,by omega,?_⟩ aB ?_ rfl
   ·rw[htk];intro x hx;rcases bMo.1 hx with hx|hx
    ·exact hall x hx
    ·simp at hx;rw[hx];exact hb rfl
   ·exact zS
 ·refine zn ?_;refine ze ?_;refine zn ?_
  by_cases h70:(env.length:Int)<=70
  ·have hje:j=env.length:=by simp at h1;omega
   subst hje;rw[bMm] at hall;refine aOv h70 ?_;refine zF4 hh ?_;exact⟨⟨_,rfl,fun _=>hall⟩,rfl⟩
  ·refine aOv h70 ?_;refine zF4 hh ?_;exact⟨⟨_,rfl,fun h=>by cases h⟩,rfl⟩
def aIs (env:List Dc):Prop:=Env.short env/\bAb env
theorem aC1 (h:Heap)(hh:WF h)(env:List Dc)(hg:Env.good env):ACalls Tryz.prog 39 [eU env] h fun o h'=>aU0 (fun b=>b=true->aIs env) o/\h'=h:=by
 have c1:=fun g hw=>aH1 g hw env hg
 have c2:=fun(hs:Env.short env) (g:Heap) (hw:WF g)=>xO g hw env hg hs
 refine dE Tryz.func39 Tryz.ntmps39 ?_;refine zB (c1 _ hh) fun b hb=>?_
 cases b with
 |false=>
  exact y5q
 |true=>
  have hs:=hb rfl;refine zofr ?_;refine Run.call rfl aF aA rfl (c2 hs _ hh) ?_ ?_
  rotate_left
  ·rintro v h' ⟨⟨_,_,hv,_⟩,_⟩;cases hv
  rintro v h' ⟨⟨x,e,hv,he⟩,rfl⟩;simp only[AOut.ret.injEq] at hv;subst hv;refine zorx ?_;refine zF4 hh ?_;exact⟨⟨_,rfl,fun h=>⟨hs,he (by simpa using h)⟩⟩,rfl⟩
open Go Go.AI
def spG:Nat->Tm->Tm×List Tm
 |0,t=>(t,[])
 |n+1,t=>match isB 4 t with
  |some (f,a)=>((spG n f).1,(spG n f).2++[a])
  |none=>(t,[])
def bN (t:Tm):Tm×List Tm:=spG t.size t
theorem aEi {k:Int} {t a b:Tm} (h:isB k t=some (a,b)):a.size+b.size+1<=t.size:=by
 obtain⟨k',i,n,ls,ks⟩:=t
 match ks,h with
 |[x,y],h=>
  simp only[isB] at h;split at h
  ·injection h with h;injection h with h1 h2
   subst h1;subst h2;simp only[Tm.size,Tm.sizes];omega
  ·cases h
theorem aF6:∀(n m:Nat)(t:Tm),t.size<=n->t.size<=m->spG n t=spG m t
 |0,_,t,h,_=>by have:=t.size_pos;omega
 |_+1,0,t,_,h=>by have:=t.size_pos;omega
 |n+1,m+1,t,h1,h2=>by
  simp only[spG]
  cases hb:isB 4 t with
  |none=>rfl
  |some p=>
   obtain⟨f,a⟩:=p;have:=aEi hb;have:=a.size_pos;simp only;rw[aF6 n m f aB aB]
theorem vW {t f a:Tm} (h:isB 4 t=some (f,a)):bN t=((bN f).1,(bN f).2++[a]):=by
 have hs:=aEi h;have ha:=a.size_pos;obtain⟨m,hm⟩:∃m,t.size=m+1:=⟨t.size-1,by have:=t.size_pos;omega⟩;unfold bN;rw[hm,spG,h];simp only;rw[aF6 m f.size f aB (bLx _)]
theorem zJ {t:Tm} (h:isB 4 t=none):bN t=(t,[]):=by
 obtain⟨m,hm⟩:∃m,t.size=m+1:=⟨t.size-1,by have:=t.size_pos;omega⟩;unfold bN;rw[hm,spG,h]
end Go.Proofs.YtplomildbmcmfaaGreat
