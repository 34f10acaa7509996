import Derived.Test.YtcfcolkbeelegaaGreatJA0
import Derived.Test.YtcfcolkbeelegaaGreatJWD
set_option linter.unusedSectionVars false
set_option maxRecDepth 8000
set_option maxHeartbeats 64000000
namespace Go.Proofs.YtcfcolkbeelegaaGreat
open Go Go.AI
def aG4 (q:Nat)(h:Heap):QO (Option Tm)->AOut->Heap->Prop
 |some r,o,h'=>aSq q h r o h'
 |none,_,_=>False
theorem tO {q:Nat} {h:Heap} {c:Kt} (hq:h[q]?=some (ktB c)):h.set q (ktB c)=h:=by
 exact y4w
section
variable (env:List Dc) (hg:Env.good env) (hf:aP env) (hA:EnvA env)
include hg hf hA
theorem sU (t:Tm)(args:List Tm)(c:Kt)(hk:usB env t.name t.levels=false\/((aK env t.name).1.k≠1/\(aK env t.name).1.k≠5/\(aK env t.name).1.k≠6))(q:Nat)(h:Heap)(hh:WF h)(hq:h[q]?=some (ktB c)):
  ACalls Tryz.prog 216 [bW env,t.av, .p (.sl 5 (aL args)), .ptr q 0] h (aSq q h (none,c)):=by
 have hss:=tO hq;obtain⟨k,i,nm,ls,ks⟩:=t;simp only[Tm.name,Tm.levels] at hk;have c1:=fun g hw=>gX env hg hf.1 k i nm ls ks g hw
 have hen:=fun hu=>iT hf (n:=nm) (ls:=ls) hu
 generalize usB env nm ls=b at c1 hk hen;generalize aK env nm=r at c1 hk hen;obtain⟨⟨a0,a1,a2,a3,⟨b0,b1,b2,b3,b4⟩⟩,e⟩:=r;simp only[En.av,En.cells,aH,List.map,Tm.av] at c1;simp only at hk hen;refine y1o ?_;refine cW Tryz.func216 Tryz.ntmps216 ?_;refine zL (c1 _ (hh.app aA)) ?_;refine zor ?_
 cases b with
 |false=>
  refine lM ?_;exact y42
 |true=>
  obtain⟨j,d,h1,rfl,_,_,_,_,_,_⟩:=hen rfl;simp only[Bool.true_eq_false,false_or] at hk;obtain⟨n1,n5,n6⟩:=hk;have m1:(a0==(1:Int))=false:=by simpa using n1
  have m5:(a0==(5:Int))=false:=by simpa using n5
  have m6:(a0==(6:Int))=false:=by simpa using n6
  have hnl:=(aYv.1 h1).1;have hd':∀q:j<env.length,env[j]'q=d:=fun q=>(aYv.1 h1).2
  have hrow:List.map AV.p d.cells=d.row:=rfl;refine znf ?_;refine aUo hd' hnl hrow ?_;refine zr ?_;refine zr1 m1 ?_;refine zf ?_;refine zr1 m5 ?_;refine zf ?_;refine zr1 m6 ?_;refine zf ?_;refine zrx ?_;exact y42
theorem aB1 (t:Tm)(ht:pQ t.levels)(args:List Tm)(hl:args.length<=100000)(c:Kt)(hu:usB env t.name t.levels=true)(hk:(aK env t.name).1.k=1)(q:Nat)(h:Heap)(hh:WF h)(hq:h[q]?=some (ktB c))(rec:Tm->Kt->QO Tm):
  ACalls Tryz.prog 216 [bW env,t.av, .p (.sl 5 (aL args)), .ptr q 0] h (aG4 q h (cT env rec t.name t.levels args c)):=by
 obtain⟨g1,g2,g3,g4,g5,hlt⟩:=idf hq;have hss:=tO hq;obtain⟨j,d,h1,h2,_,h4,_,_,_,_⟩:=iT hf hu;have hva:=hA.va d (aZ9 h1) (h4 hk);have hd:(env[(aK env t.name).1.at_.toNat]?).getD zDc=d:=by rw[h2,aZj,h1];rfl
 obtain⟨w,hw⟩:∃w,cT env rec t.name t.levels args c=w:=⟨_,rfl⟩;rw[hw];unfold cT at hw;rw[if_neg (by simp[hu]),if_pos hk,hd] at hw;obtain⟨k,i,nm,ls,ks⟩:=t;simp only[Tm.name,Tm.levels] at hu hk h2 hw ht;have c1:=fun g hw=>gX env hg hf.1 k i nm ls ks g hw
 have c2:=fun g hw=>tW d.va hva ls ht g hw
 have hla:=(mQ (ls:=ls) hva).2;rw[hu] at c1;generalize aK env nm=r at c1 hk h2;obtain⟨⟨a0,a1,a2,a3,⟨b0,b1,b2,b3,b4⟩⟩,e⟩:=r;simp only at hk h2;subst hk h2;simp only[En.av,En.cells,aH,List.map,Tm.av] at c1;have hnl:=(aYv.1 h1).1;have hd':∀q:j<env.length,env[j]'q=d:=fun q=>(aYv.1 h1).2
 clear hd hva;obtain⟨⟨⟨r1,r2,r3,r4,r5⟩,e⟩,hre⟩:∃r,bF (lvF ls false) d.va=r:=⟨_,rfl⟩
 replace hw:(if(bF (lvF ls false) d.va).2≠0 then some (none,c) else some (some (aN (bF (lvF ls false) d.va).1 args),c.result (bF (lvF ls false) d.va).1 0))=w:=hw
 rw[hre] at c2 hw hla;simp only at c2 hw hla;have c3:=fun(l:List (Option AO)) (hw:WF (h++l))=>eM c (.mk r1 r2 r3 r4 r5) 0 aB q (h++l) hw (g1 l)
 have c4:=fun g hw=>cR g hw (.mk r1 r2 r3 r4 r5) args aB
 simp only[g2] at c3;generalize c.result (.mk r1 r2 r3 r4 r5) 0=cr at c3 hw;generalize aN (.mk r1 r2 r3 r4 r5) args=ap at c4 hw;obtain⟨p1,p2,p3,p4,p5⟩:=ap;clear hre;obtain⟨kk,nmd,pr,⟨k1,i1,n1,l1,s1⟩,⟨v1,v2,v3,v4,v5⟩,fx,cs,rp,⟨k3,i3,n3,l3,s3⟩,rr,fs⟩:=d;simp only[Tm.av,aH,List.map] at c2 c3 c4;refine y1o ?_;refine cW Tryz.func216 Tryz.ntmps216 ?_;refine zL (c1 _ (hh.app aA)) ?_;refine aSk ?_;refine aYm hd' hnl ?_;refine y26 ?_;refine y2g ?_;refine zL (c2 _ (hh.app aA)) ?_;refine zo ?_
 by_cases he:e=0
 rotate_left
 ·rw[if_pos he] at hw;subst hw;have heb:(e !=(0:Int))=true:=by simpa using he
  refine gB heb ?_;exact y42
 subst he;rw[if_neg aA] at hw;subst hw;refine mI ?_;refine zL (c3 _ (hh.app aA)) ?_;refine zo ?_;have hGw:WF (h.set q (ktB cr)):=hh.set aA;refine zL (c4 _ (hGw.app aA)) ?_;refine zox ?_;refine zF6 hGw ?_;exact⟨by simp[kZ,Tm.av],rfl⟩
theorem aB3 (n0:Nat)(hW:aSo env n0)(t:Tm)(ht:pQ t.levels)(args:List Tm)(haa:∀a∈args,a.at_)(hl:args.length<=100000)(c:Kt)(hc:K2 c)(hu:usB env t.name t.levels=true)(hk:(aK env t.name).1.k=5)
  (hne:cT env (bJ env n0) t.name t.levels args c≠none) (q:Nat) (h:Heap) (hh:WF h) (hq:h[q]?=some (ktB c)):
  ACalls Tryz.prog 216 [bW env,t.av, .p (.sl 5 (aL args)), .ptr q 0] h (aG4 q h (cT env (bJ env n0) t.name t.levels args c)):=by
 obtain⟨g1,g2,g3,g4,g5,hlt⟩:=idf hq;have hss:=tO hq;obtain⟨j,d,h1,h2,hz,_,h5,_,_,_⟩:=iT hf hu;have hm:=aZ9 h1
 have hfam:gS env t.name=(d,-2,true):=by
  unfold gS;rw[hz];simp only;rw[if_neg aB,if_neg aB,if_pos hk,h2,aZj,h1]
  rfl
 have hgd:=hg.2 d hm;have hfx:=hA.fx d hm (h5 hk);have hrr:=hA.rr d hm (h5 hk);have hsb:=jJ hgd hfx.1 hfx.2;have c4:=fun g hw=>uA g hw d hgd hfx.1 hfx.2
 have hd:(env[(aK env t.name).1.at_.toNat]?).getD zDc=d:=by rw[h2,aZj,h1];rfl
 obtain⟨W,hWe⟩:∃w,cT env (bJ env n0) t.name t.levels args c=w:=⟨_,rfl⟩;rw[hWe] at hne⊢;unfold cT at hWe;rw[if_neg (by simp[hu]),if_neg aB,if_pos hk,hd] at hWe;have c6:=fun(m:Tm) (hml:(aG m).2.length<=1048576) (hco:∀co,hU env m=some co->(∀a∈co.as_,a.at_)/\co.as_.length<=4096) (c':Kt) (g:Heap) (hw:WF g) (hgq:g[q]?=some (ktB c')) (hsc:kF d<args.length)=>aEb env hg hf d hgd hfx.1 hfx.2 hrr t ht (-2) hfam args haa hl hsc m hml hco c' q g hw hgq
 obtain⟨n2,hn2⟩:∃n2:Nat,kF d=n2:=⟨(kF d).toNat,by omega⟩;rw[hn2] at hWe hsb;simp only[hn2,Dc.av_row] at c4 c6;clear hd hfam hz;obtain⟨k,i,nm,ls,ks⟩:=t;simp only[Tm.name,Tm.levels] at hu hk h2 hWe ht c6;have c1:=fun g hw=>gX env hg hf.1 k i nm ls ks g hw
 rw[hu] at c1;generalize aK env nm=r at c1 hk h2;obtain⟨⟨a0,a1,a2,a3,⟨b0,b1,b2,b3,b4⟩⟩,e⟩:=r;simp only at hk h2;subst hk h2;simp only[En.av,En.cells,aH,List.map,Tm.av] at c1 c6;have hnl:=(aYv.1 h1).1;have hd':∀q:j<env.length,env[j]'q=d:=fun q=>(aYv.1 h1).2
 have hrow:List.map AV.p d.cells=d.row:=rfl;refine y1o ?_;refine cW Tryz.func216 Tryz.ntmps216 ?_;refine zL (c1 _ (hh.app aA)) ?_;refine aSk ?_;refine aUo hd' hnl hrow ?_;refine y26 ?_;refine yw ?_;refine y2g ?_;refine zL (c4 _ (hh.app aA)) ?_;refine zo ?_
 by_cases hsc:(args.length:Int)<=n2
 ·rw[if_pos hsc] at hWe;subst hWe;have hsc2:args.length<=n2:=aB;refine fT hsc2 ?_;exact y42
 rw[if_neg hsc] at hWe;have hsl:n2<args.length:=aB;have hsl2:¬args.length<=n2:=aB;have hgj:args[n2]?=some args[n2]:=aYu hsl;have hxa:=haa _ (aYx hsl);simp only[aZj,hgj,aZb] at hWe;refine vL hsl2 ?_;have cw:=fun(l:Heap) (hw:WF (h++l)) (hn:bJ env n0 args[n2] c≠none)=>hW args[n2] c (InQ.of_at hxa hc) hc hn q (h++l) hw (g1 l)
 have hgo:=fZ hg hf hA n0 args[n2] c (InQ.of_at hxa hc) hc;generalize hxe:args[n2]=x at hgj hWe cw hgo;obtain⟨x1,x2,x3,x4,x5⟩:=x;simp only[Tm.av,aH,List.map] at cw;generalize bJ env n0 (.mk x1 x2 x3 x4 x5) c=w at hWe cw hgo
 cases w with
 |none=>
  exact y8y
 |some p=>
  obtain⟨m,c'⟩:=p;simp only[QO.bind] at hWe;obtain⟨hc',_,hmo⟩:=hgo;have hmal:(aG m).2.length<=1048576:=by have:=hmo.2;unfold jC at this;omega
  have cw:=fun l hw=>WQPost.some hlt (cw l hw (by intro e;cases e))
  have c6:=fun(l:Heap) (hw:WF (List.set h q (ktB c')++l))=>c6 m hmal (fun co=>eE (co:=co) hg hf hA hmo.1) c' (List.set h q (ktB c')++l) hw (g4 l _) aB
  obtain⟨m1,m2,m3,m4,m5⟩:=m;simp only[Tm.av,aH,List.map] at cw c6;generalize rO env d ls args (.mk m1 m2 m3 m4 m5) c'=it at c6 hWe;subst hWe;obtain⟨o,c2⟩:=it;have hqs:q<(List.set h q (ktB c')).length:=by simpa using hlt
  have c6:=fun(l:Heap) (hw:WF (List.set h q (ktB c')++l))=>(c6 l hw).mono (R':=fun o' g=>o'= .ret (kZ o)/\g=List.set h q (ktB c2)++l) (fun o' g e=>⟨e.1,by rw[e.2,aZp _ _ hqs];simp⟩)
  obtain⟨⟨p1,p2,p3,p4,p5⟩,hz1⟩:∃z,o.getD zT=z:=⟨_,rfl⟩;simp only[kZ,hz1,Tm.av,aH,List.map] at c6;refine nv ?_;refine ND.Run.drawP (pc:=[]) [0,0,0,0,0,0,0,1,1,0,1,0,2,3,3,3,4] [0,0,0,0,0,0,0,0,0,0,1,0,2,0,0,3,0] [0,0,0,0,0,0,32,112,240,0,1016,0,4095,8191,8191,32767,65535] [5,6,3,4,7,8,9,10,0,1,2,11,12,13,14,15,16] aC aC ?_;refine zm ?_;refine ND.DR.call rfl rfl rfl aA rfl rfl (c4 _ (hh.app aA)) ?_;refine zm1 hgj ?_;refine y1l ?_;refine y9 ?_;refine znx ?_;exact Fin.ret' (h0:=List.set h q (ktB c2)) aA aA (hh.set aA) aE aE rfl (Weak.refl _) aA ⟨by simp[kZ,hz1,Tm.av],rfl⟩
end
open Go Go.AI
theorem aB2 (env:List Dc)(hg:Env.good env)(hf:aP env)(hA:EnvA env)(n0:Nat)(hW:aSo env n0)(t:Tm)(ht:pQ t.levels)(args:List Tm)(haa:∀a∈args,a.at_)(hl:args.length<=100000)(c:Kt)(hc:K2 c)(hu:usB env t.name t.levels=true)(hk:(aK env t.name).1.k=6)
  (hne:cT env (bJ env n0) t.name t.levels args c≠none) (q:Nat) (h:Heap) (hh:WF h) (hq:h[q]?=some (ktB c)):
  ACalls Tryz.prog 216 [bW env,t.av, .p (.sl 5 (aL args)), .ptr q 0] h (aG4 q h (cT env (bJ env n0) t.name t.levels args c)):=by
 obtain⟨g1,g2,g3,g4,g5,hlt⟩:=idf hq;have hss:=tO hq;obtain⟨j,d,h1,h2,_,_,_,h6,_,_⟩:=iT hf hu;obtain⟨k4,i,f,hit,hfi⟩:=h6 hk;have hm:=aZ9 h1;obtain⟨r0,r1,r2⟩:=hA.fs d hm k4 f (aZ9 hfi);have hd:(env[(aK env t.name).1.at_.toNat]?).getD zDc=d:=by rw[h2,aZj,h1];rfl
 obtain⟨W,hWe⟩:∃w,cT env (bJ env n0) t.name t.levels args c=w:=⟨_,rfl⟩;rw[hWe] at hne⊢;unfold cT at hWe;rw[if_neg (by simp[hu]),if_neg aB,if_neg aB,if_pos hk,hd,hit,aZj,hfi,aZb] at hWe;unfold aPr at hWe;obtain⟨ar,har⟩:∃ar:Nat,f.ar=ar:=⟨f.ar.toNat,by omega⟩;rw[har] at hWe r0 r1;have hlg:=mA hg hf hA (bJ env n0) (fZ hg hf hA n0) f.tr 200 (args.take ar) c r2 (fun a hx=>haa a (bA3 hx)) (by simp only[aZm];omega) hc;have c1:=fun(l:Heap) (hw:WF (h++l)) hn=>aEf env hg hf hA n0 hW f.tr 200 r2 (args.take ar) (fun a hx=>haa a (bA3 hx)) (by simp only[aZm];omega) (aYw _) c hc hn q (h++l) hw (g1 l)
 have hnl:=(aYv.1 h1).1;have hd':∀q:j<env.length,env[j]'q=d:=fun q=>(aYv.1 h1).2
 have hil:=(aYv.1 hfi).1;have hfi':∀q:i<d.fs.length,d.fs[i]'q=f:=fun q=>(aYv.1 hfi).2
 have hrow:List.map AV.p d.cells=d.row:=rfl
 have hfsr:∀q:22<d.row.length,d.row[22]'q= .p (.sl 15 (d.fs.map Fu.cells)):=fun q=>by
  have:d.row[22]?=some (.p (.sl 15 (d.fs.map Fu.cells))):=by
   exact y3g
  exact y4o
 clear hd r2;obtain⟨nf,⟨y1,y2,y3,y4,y5⟩,af,⟨z1,⟨z2,z3,z4,z5,z6⟩,z7,z8⟩⟩:=f;simp only at har;subst har;obtain⟨k,ix,nm,ls,ks⟩:=t;simp only[Tm.name,Tm.levels] at hu hk h2 hit ht;have cu:=fun g hw=>gX env hg hf.1 k ix nm ls ks g hw
 rw[hu] at cu;generalize aK env nm=r at cu hk h2 hit;obtain⟨⟨a0,a1,a2,a3,⟨t0,t1,t2,t3,t4⟩⟩,e⟩:=r;simp only at hk h2 hit;subst hk h2 hit;simp only[aZj] at hWe;simp only[Tr.av,Tr.cells,aH,List.map,aYy,aZ3] at c1;simp only[En.av,En.cells,Tm.av,aH,List.map] at cu;refine y1o ?_;generalize jE env (bJ env n0) (.mk z1 (.mk z2 z3 z4 z5 z6) z7 z8) (args.take ar) c=w at hWe hlg c1;refine cW Tryz.func216 Tryz.ntmps216 ?_;refine zL (cu _ (hh.app aA)) ?_;refine aSk ?_;refine aUo hd' hnl hrow ?_;refine y26 ?_;refine yw ?_;refine yw ?_;refine zt ?_;refine aYn hfsr hfi' hil ?_
 by_cases hla:(args.length:Int)<ar
 ·rw[if_pos hla] at hWe;subst hWe;have hla2:args.length<ar:=aB;refine gB hla ?_;exact y42
 rw[if_neg hla] at hWe;have hla2:¬args.length<ar:=aB;have hla3:ar<=args.length:=aB;refine nR hla ?_
 cases w with
 |none=>
  exact y8y
 |some p=>
  obtain⟨o,c'⟩:=p;simp only[QO.bind] at hWe;obtain⟨hc',_,hgo⟩:=hlg;obtain⟨st,nd,fo,lm,ov⟩:=c';obtain⟨G,hG⟩:∃G,List.set h q (ktB ⟨st,nd,fo,lm,ov⟩)=G:=⟨_,rfl⟩;have hGl:h.length=G.length:=by rw[<-hG];simp
  have hGw:WF G:=by rw[<-hG];exact hh.set aA
  have hGq:G[q]?=some (ktB ⟨st,nd,fo,lm,ov⟩):=by rw[<-hG];exact g3 _
  have hGs:∀c',List.set G q (ktB c')=List.set h q (ktB c'):=fun c'=>by rw[<-hG];simp
  obtain⟨k1,k2,k3,k4',k5,hGlt⟩:=idf hGq;try simp only at k1 k2 k3 k4' k5 hGq hWe
  have cX:=fun l hw=>(c1 l hw (by intro e;cases e)).mono (R':=fun o' g=>∃v,o'= .ret v/\((∃z,v=gU o z)/\g=G++l)) (fun o' g e=>by
   obtain⟨⟨z,rfl⟩,rfl⟩:=e;exact⟨_,rfl,⟨z,rfl⟩,by rw[aZp _ _ hlt,hG]⟩)
  clear c1
  cases o with
  |none=>
   simp only at hWe;subst hWe;obtain⟨⟨b1,b2,b3,b4,b5⟩,hzz⟩:∃z,zT=z:=⟨_,rfl⟩;have c5:∀z1 z2 z3 z4 z5,gU none (.mk z1 z2 z3 z4 z5)= .tup [.agg [iA b1,iA b2, .p (sP b3), .p (.sl 2 (aW b4)), .p (.sl 5 (aL b5))], .p (.sl 5 []),bA false, .agg [iA z1,iA z2, .p (sP z3), .p (.sl 2 (aW z4)), .p (.sl 5 (aL z5))]]:=fun _ _ _ _ _=>by simp[gU,hzz,Tm.av,aH,aL]
   refine nv ?_;refine ND.Run.draw3 (pc:=[]) 8 14 15 [0,0,0,0,0,0,0,0,0,1,1,1,1,1,1,2,3,4,4,4] [0,0,0,0,0,0,0,0,0,0,0,0,0,0,1,2,3,0,0,4] [0,0,2,0,0,16,56,0,255,511,1023,1023,1023,1023,511,16895,51199,118783,253951,524287] [0,1,2,3,4,5,6,7,8,14,15,9,10,16,11,12,13,17,18,19] [0,0,0,0,0,0,0,0,0,1,1,1,1,1,2,1,3,4,4,4] [0,0,0,0,0,0,0,0,0,0,0,0,0,0,2,1,3,0,0,4] [0,0,2,0,0,16,56,0,255,511,1023,1023,1023,1023,33279,511,51199,118783,253951,524287] [0,1,3,4,7,2,5,6,8,15,14,9,10,16,11,12,13,17,18,19] [0,0,0,0,0,0,0,0,1,2,2,2,2,2,0,2,3,4,4,4] [0,0,0,0,0,0,0,0,1,0,0,0,0,0,0,2,3,0,0,4] [0,0,2,0,0,16,56,0,16639,16895,17407,17407,17407,17407,0,16895,51199,118783,253951,524287] [14,0,1,3,4,7,2,5,6,8,15,9,10,16,11,12,13,17,18,19] [0,0,0,0,0,0,0,0,2,3,3,3,3,3,0,1,3,4,4,4] [0,0,0,0,0,0,0,0,2,0,0,0,0,0,0,1,3,0,0,4] [0,0,2,0,0,16,56,0,49407,49663,50175,50175,50175,50175,0,16384,51199,118783,253951,524287] [14,15,0,1,3,4,7,2,5,6,8,9,10,16,11,12,13,17,18,19] [0,0,0,0,0,0,0,0,1,2,2,2,2,2,2,0,3,4,4,4] [0,0,0,0,0,0,0,0,1,0,0,0,0,0,2,0,3,0,0,4] [0,0,2,0,0,16,56,0,33023,33279,33791,33791,33791,33791,33279,0,51199,118783,253951,524287] [15,0,1,3,4,7,2,5,6,8,14,9,10,16,11,12,13,17,18,19] [0,0,0,0,0,0,0,0,2,3,3,3,3,3,1,0,3,4,4,4] [0,0,0,0,0,0,0,0,2,0,0,0,0,0,1,0,3,0,0,4] [0,0,2,0,0,16,56,0,49407,49663,50175,50175,50175,50175,32768,0,51199,118783,253951,524287] [15,14,0,1,3,4,7,2,5,6,8,9,10,16,11,12,13,17,18,19] aC aC aC aC aC aC aC aC ?_ ?_ ?_ ?_ ?_ ?_
   all_goals
    refine zm1 hla3 ?_;refine y10 ?_;rintro v g ⟨⟨⟨w1,w2,w3,w4,w5⟩,rfl⟩,rfl⟩;refine y1q ?_;refine y9 ?_;refine rI ?_;exact y40
  |some p=>
   obtain⟨b,vs⟩:=p;obtain⟨hba,hva,hvl⟩:=hgo _ rfl;simp only at hWe hba hva hvl;have c2:=fun g hw=>tW b hba ls ht g hw
   have hra:=mQ (ls:=ls) hba
   replace hWe:(if ov=true then some (none,(⟨st,nd,fo,lm,ov⟩:Kt)) else if(bF (lvF ls false) b).2≠0 then some (none,⟨st,nd,fo,lm,ov⟩) else some (some (aN (aI (bF (lvF ls false) b).1 vs.reverse 0).1 (args.drop ar)),Kt.result ⟨st,nd,fo,lm,ov⟩ (aI (bF (lvF ls false) b).1 vs.reverse 0).1 (aI (bF (lvF ls false) b).1 vs.reverse 0).2))=W:=hWe
   obtain⟨⟨⟨r1,r2,r3,r4,r5⟩,e⟩,hr⟩:∃r,bF (lvF ls false) b=r:=⟨_,rfl⟩;simp only[hr] at c2 hra;rw[hr] at hWe;simp only at hWe;have c6:=fun g hw=>aJg g hw vs aB
   have c7:=fun g hw=>qF (.mk r1 r2 r3 r4 r5) vs.reverse hra (fun v hv=>hva v (by simpa using hv)) (by simpa using hvl) g hw
   have hat:=uJ (t:= .mk r1 r2 r3 r4 r5) (vs:=vs.reverse) hra.1 (fun v hv=>(hva v (by simpa using hv)).1);obtain⟨b1,b2,b3,b4,b5⟩:=b;simp only[Tm.av,aH,List.map] at c2 c7;have c5:∀z1 z2 z3 z4 z5,gU (some (.mk b1 b2 b3 b4 b5,vs)) (.mk z1 z2 z3 z4 z5)= .tup [.agg [iA b1,iA b2, .p (sP b3), .p (.sl 2 (aW b4)), .p (.sl 5 (aL b5))], .p (.sl 5 (aL vs)),bA true, .agg [iA z1,iA z2, .p (sP z3), .p (.sl 2 (aW z4)), .p (.sl 5 (aL z5))]]:=fun _ _ _ _ _=>by simp[gU,Tm.av,aH]
   cases ov with
   |true=>
    rw[if_pos rfl] at hWe;subst hWe;refine nv ?_;refine ND.Run.draw3 (pc:=[]) 8 14 15 [0,0,0,0,0,0,0,0,0,1,1,1,1,1,1,2,3,4,4,4] [0,0,0,0,0,0,0,0,0,0,0,0,0,0,1,2,3,0,0,4] [0,0,2,0,0,16,56,0,255,511,1023,1023,1023,1023,511,16895,51199,118783,253951,524287] [0,1,2,3,4,5,6,7,8,14,15,9,10,16,11,12,13,17,18,19] [0,0,0,0,0,0,0,0,0,1,1,1,1,1,2,1,3,4,4,4] [0,0,0,0,0,0,0,0,0,0,0,0,0,0,2,1,3,0,0,4] [0,0,2,0,0,16,56,0,255,511,1023,1023,1023,1023,33279,511,51199,118783,253951,524287] [0,1,3,4,7,2,5,6,8,15,14,9,10,16,11,12,13,17,18,19] [0,0,0,0,0,0,0,0,1,2,2,2,2,2,0,2,3,4,4,4] [0,0,0,0,0,0,0,0,1,0,0,0,0,0,0,2,3,0,0,4] [0,0,2,0,0,16,56,0,16639,16895,17407,17407,17407,17407,0,16895,51199,118783,253951,524287] [14,0,1,3,4,7,2,5,6,8,15,9,10,16,11,12,13,17,18,19] [0,0,0,0,0,0,0,0,2,3,3,3,3,3,0,1,3,4,4,4] [0,0,0,0,0,0,0,0,2,0,0,0,0,0,0,1,3,0,0,4] [0,0,2,0,0,16,56,0,49407,49663,50175,50175,50175,50175,0,16384,51199,118783,253951,524287] [14,15,0,1,3,4,7,2,5,6,8,9,10,16,11,12,13,17,18,19] [0,0,0,0,0,0,0,0,1,2,2,2,2,2,2,0,3,4,4,4] [0,0,0,0,0,0,0,0,1,0,0,0,0,0,2,0,3,0,0,4] [0,0,2,0,0,16,56,0,33023,33279,33791,33791,33791,33791,33279,0,51199,118783,253951,524287] [15,0,1,3,4,7,2,5,6,8,14,9,10,16,11,12,13,17,18,19] [0,0,0,0,0,0,0,0,2,3,3,3,3,3,1,0,3,4,4,4] [0,0,0,0,0,0,0,0,2,0,0,0,0,0,1,0,3,0,0,4] [0,0,2,0,0,16,56,0,49407,49663,50175,50175,50175,50175,32768,0,51199,118783,253951,524287] [15,14,0,1,3,4,7,2,5,6,8,9,10,16,11,12,13,17,18,19] aC aC aC aC aC aC aC aC ?_ ?_ ?_ ?_ ?_ ?_
    all_goals
     refine zm1 hla3 ?_;refine y10 ?_;rintro v g ⟨⟨⟨w1,w2,w3,w4,w5⟩,rfl⟩,rfl⟩;refine y1q ?_;refine y9 ?_;refine gB k1 ?_;exact y40
   |false=>
   rw[if_neg aD] at hWe
   by_cases he:e=0
   rotate_left
   ·rw[if_pos he] at hWe;subst hWe;have heb:(e !=(0:Int))=true:=by simpa using he
    refine nv ?_;refine ND.Run.draw3 (pc:=[]) 8 14 15 [0,0,0,0,0,0,0,0,0,1,1,1,1,1,1,2,3,4,4,4] [0,0,0,0,0,0,0,0,0,0,0,0,0,0,1,2,3,0,0,4] [0,0,2,0,0,16,56,0,255,511,1023,1023,1023,1023,511,16895,51199,118783,253951,524287] [0,1,2,3,4,5,6,7,8,14,15,9,10,16,11,12,13,17,18,19] [0,0,0,0,0,0,0,0,0,1,1,1,1,1,2,1,3,4,4,4] [0,0,0,0,0,0,0,0,0,0,0,0,0,0,2,1,3,0,0,4] [0,0,2,0,0,16,56,0,255,511,1023,1023,1023,1023,33279,511,51199,118783,253951,524287] [0,1,3,4,7,2,5,6,8,15,14,9,10,16,11,12,13,17,18,19] [0,0,0,0,0,0,0,0,1,2,2,2,2,2,0,2,3,4,4,4] [0,0,0,0,0,0,0,0,1,0,0,0,0,0,0,2,3,0,0,4] [0,0,2,0,0,16,56,0,16639,16895,17407,17407,17407,17407,0,16895,51199,118783,253951,524287] [14,0,1,3,4,7,2,5,6,8,15,9,10,16,11,12,13,17,18,19] [0,0,0,0,0,0,0,0,2,3,3,3,3,3,0,1,3,4,4,4] [0,0,0,0,0,0,0,0,2,0,0,0,0,0,0,1,3,0,0,4] [0,0,2,0,0,16,56,0,49407,49663,50175,50175,50175,50175,0,16384,51199,118783,253951,524287] [14,15,0,1,3,4,7,2,5,6,8,9,10,16,11,12,13,17,18,19] [0,0,0,0,0,0,0,0,1,2,2,2,2,2,2,0,3,4,4,4] [0,0,0,0,0,0,0,0,1,0,0,0,0,0,2,0,3,0,0,4] [0,0,2,0,0,16,56,0,33023,33279,33791,33791,33791,33791,33279,0,51199,118783,253951,524287] [15,0,1,3,4,7,2,5,6,8,14,9,10,16,11,12,13,17,18,19] [0,0,0,0,0,0,0,0,2,3,3,3,3,3,1,0,3,4,4,4] [0,0,0,0,0,0,0,0,2,0,0,0,0,0,1,0,3,0,0,4] [0,0,2,0,0,16,56,0,49407,49663,50175,50175,50175,50175,32768,0,51199,118783,253951,524287] [15,14,0,1,3,4,7,2,5,6,8,9,10,16,11,12,13,17,18,19] aC aC aC aC aC aC aC aC ?_ ?_ ?_ ?_ ?_ ?_
    all_goals
     refine zm1 hla3 ?_;refine y10 ?_;rintro v g ⟨⟨⟨w1,w2,w3,w4,w5⟩,rfl⟩,rfl⟩;refine y1q ?_;refine y9 ?_;refine aDj k1 ?_;refine zL (c2 _ (hGw.app aA)) ?_;refine aA9 heb ?_;exact y40
   subst he;rw[if_neg aA] at hWe;have hat2:=hat.2;have c3:=fun(l:Heap) (hw:WF (G++l))=>eM ⟨st,nd,fo,lm,false⟩ (aI (.mk r1 r2 r3 r4 r5) vs.reverse 0).1 (aI (.mk r1 r2 r3 r4 r5) vs.reverse 0).2 aB q (G++l) hw (k1 l)
   have c4:=fun g hw=>cR g hw (aI (.mk r1 r2 r3 r4 r5) vs.reverse 0).1 (args.drop ar) (by simp only[bA0];omega)
   clear hat hat2;generalize aI (.mk r1 r2 r3 r4 r5) vs.reverse 0=ru at c3 c4 c7 hWe;obtain⟨⟨x1,x2,x3,x4,x5⟩,e2⟩:=ru;simp only[k2] at c3 c4 c7 hWe;generalize Kt.result ⟨st,nd,fo,lm,false⟩ (.mk x1 x2 x3 x4 x5) e2=cr at c3 hWe;generalize aN (.mk x1 x2 x3 x4 x5) (args.drop ar)=ap at c4 hWe;subst hWe;obtain⟨q1,q2,q3,q4,q5⟩:=ap;simp only[Tm.av,aH,List.map] at c3 c4 c7;have hG2:WF (G.set q (ktB cr)):=hGw.set aA;refine nv ?_;refine ND.Run.draw3 (pc:=[]) 8 14 15 [0,0,0,0,0,0,0,0,0,1,1,1,1,1,1,2,3,4,4,4] [0,0,0,0,0,0,0,0,0,0,0,0,0,0,1,2,3,0,0,4] [0,0,2,0,0,16,56,0,255,511,1023,1023,1023,1023,511,16895,51199,118783,253951,524287] [0,1,2,3,4,5,6,7,8,14,15,9,10,16,11,12,13,17,18,19] [0,0,0,0,0,0,0,0,0,1,1,1,1,1,2,1,3,4,4,4] [0,0,0,0,0,0,0,0,0,0,0,0,0,0,2,1,3,0,0,4] [0,0,2,0,0,16,56,0,255,511,1023,1023,1023,1023,33279,511,51199,118783,253951,524287] [0,1,3,4,7,2,5,6,8,15,14,9,10,16,11,12,13,17,18,19] [0,0,0,0,0,0,0,0,1,2,2,2,2,2,0,2,3,4,4,4] [0,0,0,0,0,0,0,0,1,0,0,0,0,0,0,2,3,0,0,4] [0,0,2,0,0,16,56,0,16639,16895,17407,17407,17407,17407,0,16895,51199,118783,253951,524287] [14,0,1,3,4,7,2,5,6,8,15,9,10,16,11,12,13,17,18,19] [0,0,0,0,0,0,0,0,2,3,3,3,3,3,0,1,3,4,4,4] [0,0,0,0,0,0,0,0,2,0,0,0,0,0,0,1,3,0,0,4] [0,0,2,0,0,16,56,0,49407,49663,50175,50175,50175,50175,0,16384,51199,118783,253951,524287] [14,15,0,1,3,4,7,2,5,6,8,9,10,16,11,12,13,17,18,19] [0,0,0,0,0,0,0,0,1,2,2,2,2,2,2,0,3,4,4,4] [0,0,0,0,0,0,0,0,1,0,0,0,0,0,2,0,3,0,0,4] [0,0,2,0,0,16,56,0,33023,33279,33791,33791,33791,33791,33279,0,51199,118783,253951,524287] [15,0,1,3,4,7,2,5,6,8,14,9,10,16,11,12,13,17,18,19] [0,0,0,0,0,0,0,0,2,3,3,3,3,3,1,0,3,4,4,4] [0,0,0,0,0,0,0,0,2,0,0,0,0,0,1,0,3,0,0,4] [0,0,2,0,0,16,56,0,49407,49663,50175,50175,50175,50175,32768,0,51199,118783,253951,524287] [15,14,0,1,3,4,7,2,5,6,8,9,10,16,11,12,13,17,18,19] aC aC aC aC aC aC aC aC ?_ ?_ ?_ ?_ ?_ ?_
   all_goals
    refine zm1 hla3 ?_;refine y10 ?_;rintro v g ⟨⟨⟨w1,w2,w3,w4,w5⟩,rfl⟩,rfl⟩;refine y1q ?_;refine y9 ?_;refine aDj k1 ?_;refine zL (c2 _ (hGw.app aA)) ?_;refine aSk ?_;refine ND.Run.drawP (pc:=[]) [0,0,0,1,2,2,2,2,3] [0,0,0,1,0,0,0,2,0] [0,0,2,7,15,31,31,63,255] [1,2,0,3,4,5,7,6,8] aC aC ?_;refine zm ?_;refine ND.DR.call rfl rfl rfl aA rfl rfl (c6 _ (hGw.app aA)) ?_;refine zm ?_;refine y1v ?_;refine y9 ?_;refine nv ?_;refine yy ?_;refine zm1 hla3 ?_;refine ND.DR.call rfl rfl rfl aA rfl rfl (c4 _ (hG2.app aA)) ?_;refine zm ?_;refine y9 ?_;refine znx ?_;exact Fin.ret' (h0:=G.set q (ktB cr)) aA aA hG2 aE aE rfl (Weak.refl _) aA ⟨by simp[kZ,Tm.av],hGs _⟩
end Go.Proofs.YtcfcolkbeelegaaGreat
