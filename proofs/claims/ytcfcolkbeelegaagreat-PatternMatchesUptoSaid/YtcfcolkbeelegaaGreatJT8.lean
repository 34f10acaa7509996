import Derived.Test.YtcfcolkbeelegaaGreatJA0
import Derived.Test.YtcfcolkbeelegaaGreatJX11
import Derived.Test.YtcfcolkbeelegaaGreatJX2
set_option maxRecDepth 8000
set_option maxHeartbeats 16000000
namespace Go.Proofs.YtcfcolkbeelegaaGreat
open Go Go.AI
theorem zW (N:Nat):∀(t:Tr)(dp:Int)(h:Heap),t.size<=N->t.good->WF h->ACalls Tryz.prog 202 [t.av,iA dp] h fun o h'=>aK9 (fun _=>True) o/\h'=h:=by
 induction N with
 |zero=>intro t _ h hN;cases t;simp[Tr.size] at hN
 |succ N ih=>
 intro t dp h hN hgd hh;obtain⟨k,b,v,bs⟩:=t;simp only[Tr.size] at hN;simp only[Tr.good] at hgd;obtain⟨hb,hbl,hbs⟩:=hgd;have c1:=fun g hw=>iI g hw b hb
 have hrec:=fun(t:Tr) (h1:t.size<=Br.sizes bs) (h2:t.good) (dp:Int) (g:Heap) (hw:WF g)=>ih t dp g aB h2 hw
 clear ih;obtain⟨m1,m2,m3,m4,m5⟩:=b;simp only[Tr.av,Tr.cells,Tm.av,aH,List.map,aYy,aZ3,dX] at c1 hrec⊢;refine zER Tryz.func202 Tryz.ntmps202 ?_
 by_cases e1:40<dp
 ·refine aDk e1 ?_;exact y3t
 by_cases e2:40<(bs.length:Int)
 ·refine sH e1 e2 ?_;refine zt ?_;exact y3t
 refine sH e1 e2 ?_;refine zB (c1 _ (hh.app aA)) fun b hb=>?_
 cases b with
 |false=>
  refine zot ?_;exact y3t
 |true=>
 refine rJ ?_;refine Run.loopS [1,2] (fun j:Nat=>j<=bs.length) (fun j=>bs.length-j) (fun j=>[(5,iA j)]) (fun _=>_) 0 aA ?_ rfl ?_
 ·exact zS
 rintro j hj IH;refine cI ?_
 by_cases hjl:j<bs.length
 ·have hg:bs[j]?=some bs[j]:=aYu hjl;have hgd:=Br.goods_at hbs _ (aYx hjl);have hsz:=vX (aYx hjl);generalize bs[j]=x at hg hgd hsz;obtain⟨c,a,tr⟩:=x;simp only[Br.good] at hgd;simp only[Br.size] at hsz;have c2:=fun(dp:Int) (g:Heap) (hw:WF g)=>hrec tr aB hgd dp g hw
  obtain⟨p1,⟨p2,p3,p4,p5,p6⟩,p7,p8⟩:=tr;simp only[Tr.cells,aH,List.map,aYy,aZ3,dX] at c2;refine dF hjl ?_;refine aWv hg ?_;refine zB (c2 (IntKind.i64.wrap (dp+1)) _ (hh.app aA)) fun b hb=>?_
  cases b with
  |false=>
   refine zot ?_;exact y3t
  |true=>
   by_cases e3:200<(c.length:Int)
   ·refine aWt hg e3 ?_;refine zt ?_;exact y3t
   ·refine aWt hg e3 ?_;refine yw ?_;exact y5j
 ·have hje:j=bs.length:=aB;subst hje;refine dP ?_;exact y3t
theorem aE6 (h:Heap)(hh:WF h)(d:Dc)(hd:d.good):ACalls Tryz.prog 168 [d.av] h fun o h'=>aK9 (fun b=>b=true->d.nm.length<=200) o/\h'=h:=by
 have c1:=fun g hw=>iI g hw d.ty hd.ty
 have c2:=fun g hw=>iI g hw d.va hd.va
 have c3:=fun g hw=>iI g hw d.rt hd.rt
 have hcs:=hd.cs;have hrr:=hd.rr;have hfs:=hd.fs;have hcl:=hd.csl;have hrl:=hd.rrl;have hfl:=hd.fsl;obtain⟨k,nm,ps,⟨k1,i1,n1,l1,s1⟩,⟨k2,i2,n2,l2,s2⟩,fx,cs,rp,⟨k3,i3,n3,l3,s3⟩,rr,fs⟩:=d;clear hd;simp only at hcs hrr hfs hcl hrl hfl;simp only[Dc.av,Dc.cells,Tm.av,aH,List.map,aYy,aZ3] at c1 c2 c3⊢;refine zER Tryz.func168 Tryz.ntmps168 ?_
 by_cases e1:200<(nm.length:Int)
 ·refine aDk e1 ?_;exact y34
 refine nQ e1 ?_;refine zB (c1 _ (hh.app aA)) fun b hb=>?_
 cases b with
 |false=>
  refine zot ?_;exact y34
 |true=>
 refine zo ?_;refine zB (c2 _ (hh.app aA)) fun b hb=>?_
 cases b with
 |false=>
  refine zot ?_;exact y34
 |true=>
 by_cases e2:40<(cs.length:Int)
 ·refine zo1 e2 ?_;refine zt ?_;exact y34
 by_cases e3:12<(fs.length:Int)
 ·refine zo2 e2 e3 ?_;refine zt ?_;exact y34
 refine zo2 e2 e3 ?_;refine zB (c3 _ (hh.app aA)) fun b hb=>?_
 cases b with
 |false=>
  refine zot ?_;exact y34
 |true=>
 by_cases e4:40<(rr.length:Int)
 ·refine zo1 e4 ?_;refine zt ?_;exact y34
 refine zo1 e4 ?_;refine yw ?_;clear c1 c2 c3;refine Run.loopS [1] (fun j:Nat=>j<=cs.length) (fun j=>cs.length-j) (fun j=>[(3,iA j)]) (fun _=>_) 0 aA ?_ rfl ?_
 ·exact zS
 rintro j hj IH;refine cI ?_
 by_cases hjl:j<cs.length
 ·have hg:cs[j]?=some cs[j]:=aYu hjl;have c1:=fun g hw=>iI g hw _ (hcs _ (aYx hjl))
  generalize cs[j]=c at hg c1;obtain⟨x,⟨k4,i4,n4,l4,s4⟩⟩:=c;simp only[Tm.av,aH,List.map] at c1;refine dF hjl ?_
  by_cases e5:200<(x.length:Int)
  ·refine zn ?_;refine aUn hg e5 ?_;refine zt ?_;exact y34
  refine zn ?_;refine aUn hg e5 ?_;refine zB (c1 _ (hh.app aA)) fun b hb=>?_
  cases b with
  |false=>
   refine zot ?_;exact y34
  |true=>
   refine rJ ?_;exact y5j
 have hje:j=cs.length:=aB;subst hje;refine rH ?_;refine Run.loopS [1] (fun j:Nat=>j<=rr.length) (fun j=>rr.length-j) (fun j=>[(4,iA j)]) (fun _=>_) 0 aA ?_ rfl ?_
 ·exact zS
 rintro j hj IH;refine cI ?_
 by_cases hjl:j<rr.length
 ·have hg:rr[j]?=some rr[j]:=aYu hjl;have c1:=fun g hw=>iI g hw _ (hrr _ (aYx hjl))
  generalize rr[j]=c at hg c1;obtain⟨k4,i4,n4,l4,s4⟩:=c;simp only[Tm.av,aH,List.map] at c1;refine jO hjl hg ?_;refine zB (c1 _ (hh.app aA)) fun b hb=>?_
  cases b with
  |false=>
   refine zot ?_;exact y34
  |true=>
   refine rJ ?_;exact y5j
 have hje:j=rr.length:=aB;subst hje;refine rH ?_;refine Run.loopS [1] (fun j:Nat=>j<=fs.length) (fun j=>fs.length-j) (fun j=>[(5,iA j)]) (fun _=>_) 0 aA ?_ rfl ?_
 ·exact zS
 rintro j hj IH;refine cI ?_
 by_cases hjl:j<fs.length
 ·have hg:fs[j]?=some fs[j]:=aYu hjl;have hgf:=hfs _ (aYx hjl);generalize fs[j]=c at hg hgf;obtain⟨x,ty,z,w⟩:=c;have c1:=fun g hw=>iI g hw ty hgf.1
  have c2:=fun g hw=>zW w.size w 0 g (aYw _) hgf.2 hw
  clear hgf;obtain⟨k4,i4,n4,l4,s4⟩:=ty;obtain⟨p1,⟨p2,p3,p4,p5,p6⟩,p7,p8⟩:=w;simp only[Tr.av,Tr.cells,Tm.av,aH,List.map,aYy,aZ3,dX] at c1 c2;refine dF hjl ?_
  by_cases e5:200<(x.length:Int)
  ·refine zn ?_;refine aWw hg e5 ?_;refine zt ?_;exact y34
  refine zn ?_;refine aWw hg e5 ?_;refine zB (c1 _ (hh.app aA)) fun b hb=>?_
  cases b with
  |false=>
   refine zot ?_;exact y34
  |true=>
  refine aYj hg ?_;refine zB (c2 _ (hh.app aA)) fun b hb=>?_
  cases b with
  |false=>
   refine zot ?_;exact y34
  |true=>
   refine rJ ?_;exact y5j
 have hje:j=fs.length:=aB;subst hje;refine dP ?_;refine zA ?_;refine zF2 hh ?_;exact⟨⟨_,rfl,fun _=>by omega⟩,rfl⟩
theorem aIk (h:Heap)(hh:WF h)(env:List Dc)(hg:Env.good env):ACalls Tryz.prog 119 [bW env] h fun o h'=>aK9 (fun b=>b=true->Env.short env) o/\h'=h:=by
 obtain⟨hl,hgd⟩:=hg;refine cW Tryz.func119 Tryz.ntmps119 ?_;refine Run.loopS [0] (fun j:Nat=>j<=env.length/\j<=80/\∀d∈env.take j,d.nm.length<=200) (fun j=>env.length-j) (fun j=>[(3,iA j)]) (fun _=>_) 0 aA ?_ rfl ?_
 ·exact zS
 rintro j ⟨hj,hj80,hall⟩ IH;refine zsn ?_;refine Run.regJ [0,3] 11 (decide (j<env.length)&& decide ((j:Int)<80)) (fun K J=>?_) ?_
 ·simp;exact y2p
 refine y7 ?_;simp;refine Run.condB rfl (fun h1=>?_) (fun h1=>?_)
 ·have hjl:j<env.length:=by simp at h1;omega
  have hj8:j<80:=by simp at h1;omega
  have hge:env[j]?=some env[j]:=aYu hjl;have hdl:=aZ env[j];have htk:env.take (j+1)=env.take j++[env[j]]:=aZ5 hjl;have c1:=fun g hw=>aE6 g hw _ (hgd _ (aYx hjl))
  generalize env[j]=d at hge hdl htk c1;have htd:List.take 23 (d.cells.map AV.p)=d.cells.map .p:=aZ6 (by simp[hdl]);simp only[Dc.av] at c1;refine zn ?_;refine zr3 hge hdl htd ?_;refine zB (c1 _ hh) fun b hb=>?_
  cases b with
  |false=>
   exact y6u
  |true=>
   refine rJ ?_;refine IH (j+1) _ _ ⟨by omega,by omega,?_⟩ aB ?_ rfl
   ·rw[htk];intro x hx;rcases aZn.1 hx with hx|hx
    ·exact hall x hx
    ·simp at hx;rw[hx];exact hb rfl
   ·exact zS
 ·refine zn ?_;refine y21 ?_
  by_cases h70:(env.length:Int)<=70
  ·have hje:j=env.length:=by simp at h1;omega
   subst hje;rw[aZl] at hall;refine aRd h70 ?_;refine zF4 hh ?_;exact⟨⟨_,rfl,fun _=>hall⟩,rfl⟩
  ·refine aRd h70 ?_;exact y37
def aP (env:List Dc):Prop:=Env.short env/\aOt env
theorem tK (h:Heap)(hh:WF h)(env:List Dc)(hg:Env.good env):ACalls Tryz.prog 64 [bW env] h fun o h'=>aK9 (fun b=>b=true->aP env) o/\h'=h:=by
 have c1:=fun g hw=>aIk g hw env hg
 have c2:=fun(hs:Env.short env) (g:Heap) (hw:WF g)=>aAu g hw env hg hs
 refine cW Tryz.func64 Tryz.ntmps64 ?_;refine zB (c1 _ hh) fun b hb=>?_
 cases b with
 |false=>
  exact y6u
 |true=>
  have hs:=hb rfl;refine rJ ?_;refine Run.call rfl aF aA rfl (c2 hs _ hh) ?_ ?_
  rotate_left
  ·rintro v h' ⟨⟨_,_,hv,_⟩,_⟩;cases hv
  rintro v h' ⟨⟨x,e,hv,he⟩,rfl⟩;simp only[AOut.ret.injEq] at hv;subst hv;refine aWs ?_;refine zF4 hh ?_;exact⟨⟨_,rfl,fun h=>⟨hs,he (by simpa using h)⟩⟩,rfl⟩
open Go Go.AI
def aN (t:Tm)(args:List Tm):Tm:=args.foldl vN t
theorem aKm (a b:Tm):WeakL [AV.p (iP 4),AV.p (iP 0),AV.p (sP []),AV.p (.prim (.slice none 0 0)),AV.p (.sl 5 [a.cells,b.cells])] ((vN a b).cells.map .p):=by
 simp only[vN,aH,List.map,aW,aL]
 repeat' first|exact wn|apply wc
 all_goals first|exact Weak.refl _|exact Weak.nil _
theorem dG (h:Heap)(hh:WF h)(t:Tm)(args:List Tm)(hl:args.length<=1048576):ACalls Tryz.prog 234 [t.av, .p (.sl 5 (aL args))] h fun o h'=>o= .ret (aN t args).av/\h'=h:=by
 obtain⟨tc,htc⟩:∃tc,tc=t.cells.map AV.p:=⟨_,rfl⟩;refine y28 ?_;have htl:tc.length=5:=by rw[htc];simp
 refine cW Tryz.func234 Tryz.ntmps234 ?_;rw[htc];refine Run.loopS [2,4,7,8] (fun j:Nat=>j<=args.length) (fun j=>args.length-j) (fun j=>[(9,iA j)]) (fun j=>h++[some (.cells ((aN t (args.take j)).cells.map .p)),some (.cells zTm)]) 0 aA ?_ (by simp[aN]) ?_
 ·exact zS
 intro j hj IH;refine cI ?_
 by_cases hjl:j<args.length
 ·have hg:args[j]?=some args[j]:=aYu hjl
  have htk:aN t (args.take (j+1))=vN (aN t (args.take j)) args[j]:=by
   rw[aZ5 hjl,aN,bBg];rfl
  generalize args[j]=u at hg htk;generalize aN t (args.take j)=c at htk;obtain⟨k0,k1,k2,k3,k4⟩:=c;refine nT hjl hg ?_;refine y20 ?_;refine znr ?_;refine Run.keep [2,4,7,8,9] ?_;simp;refine Run.cutAt 2 hh rfl aB aA aA aA (by simp[iL]) ?_;refine IH (j+1) _ _ aB aB ?_ ?_
  ·exact zS
  ·rw[htk];simp
 ·have hje:j=args.length:=aB;subst hje;rw[aZl];generalize aN t args=c;obtain⟨k0,k1,k2,k3,k4⟩:=c;refine cY ?_;exact y3f
theorem cR (h:Heap)(hh:WF h)(t:Tm)(args:List Tm)(hl:args.length<=1048576):ACalls Tryz.prog 214 [t.av, .p (.sl 5 (aL args))] h fun o h'=>o= .ret (aN t args).av/\h'=h:=by
 obtain⟨tc,htc⟩:∃tc,tc=t.cells.map AV.p:=⟨_,rfl⟩;refine y28 ?_;have htl:tc.length=5:=by rw[htc];simp
 refine cW Tryz.func214 Tryz.ntmps214 ?_;rw[htc];refine Run.loopS [1,2,4] (fun j:Nat=>j<=args.length) (fun j=>args.length-j) (fun j=>[(5,iA j)]) (fun j=>h++[some (.cells ((aN t (args.take j)).cells.map .p)),some (.cells zTm)]) 0 aA ?_ (by simp[aN]) ?_
 ·exact zS
 intro j hj IH;refine cI ?_
 by_cases hjl:j<args.length
 ·have hg:args[j]?=some args[j]:=aYu hjl
  have htk:aN t (args.take (j+1))=vN (aN t (args.take j)) args[j]:=by
   rw[aZ5 hjl,aN,bBg];rfl
  generalize args[j]=u at hg htk;generalize aN t (args.take j)=c at htk;obtain⟨k0,k1,k2,k3,k4⟩:=c;refine dF hjl ?_;refine Run.draw [0,0,0,0,0,0,0,0] [0,0,0,0,0,0,0,0] [0,0,0,6,14,31,63,127] [0,1,2,3,4,5,6,7] aC aC ?_;refine zd1 hg ?_;refine y9 ?_;refine znr ?_;refine y20 ?_;refine IH (j+1) _ _ aB aB ?_ ?_
  ·exact zS
  ·rw[htk];simp
 ·have hje:j=args.length:=aB;subst hje;rw[aZl];generalize aN t args=c;obtain⟨k0,k1,k2,k3,k4⟩:=c;refine cY ?_;exact y3f
def spG:Nat->Tm->Tm×List Tm
 |0,t=>(t,[])
 |n+1,t=>match isB 4 t with
  |some (f,a)=>((spG n f).1,(spG n f).2++[a])
  |none=>(t,[])
def aG (t:Tm):Tm×List Tm:=spG t.size t
theorem oJ {k:Int} {t a b:Tm} (h:isB k t=some (a,b)):a.size+b.size+1<=t.size:=by
 obtain⟨k',i,n,ls,ks⟩:=t
 match ks,h with
 |[x,y],h=>
  simp only[isB] at h;split at h
  ·injection h with h;injection h with h1 h2
   subst h1;subst h2;simp only[Tm.size,Tm.sizes];omega
  ·cases h
theorem aHt:∀(n m:Nat)(t:Tm),t.size<=n->t.size<=m->spG n t=spG m t
 |0,_,t,h,_=>by have:=t.size_pos;omega
 |_+1,0,t,_,h=>by have:=t.size_pos;omega
 |n+1,m+1,t,h1,h2=>by
  simp only[spG]
  cases hb:isB 4 t with
  |none=>rfl
  |some p=>
   obtain⟨f,a⟩:=p;have:=oJ hb;have:=a.size_pos;simp only;rw[aHt n m f aB aB]
theorem gV {t f a:Tm} (h:isB 4 t=some (f,a)):aG t=((aG f).1,(aG f).2++[a]):=by
 have hs:=oJ h;have ha:=a.size_pos;obtain⟨m,hm⟩:∃m,t.size=m+1:=⟨t.size-1,by have:=t.size_pos;omega⟩;unfold aG;rw[hm,spG,h];simp only;rw[aHt m f.size f aB (aYw _)]
theorem dL {t:Tm} (h:isB 4 t=none):aG t=(t,[]):=by
 obtain⟨m,hm⟩:∃m,t.size=m+1:=⟨t.size-1,by have:=t.size_pos;omega⟩;unfold aG;rw[hm,spG,h]
end Go.Proofs.YtcfcolkbeelegaaGreat
