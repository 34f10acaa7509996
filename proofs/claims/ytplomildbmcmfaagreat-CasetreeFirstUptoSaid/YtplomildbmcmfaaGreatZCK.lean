import Derived.Test.YtplomildbmcmfaaGreatZA0
import Derived.Test.YtplomildbmcmfaaGreatZYC
import Derived.Test.YtplomildbmcmfaaGreatZG1
import Derived.Test.YtplomildbmcmfaaGreatZE13
import Derived.Test.YtplomildbmcmfaaGreatZE7
import Derived.Test.YtplomildbmcmfaaGreatZCKa
set_option maxRecDepth 8000
set_option maxHeartbeats 32000000
namespace Go.Proofs.YtplomildbmcmfaaGreat
open Go Go.AI
theorem aNb (env:List Dc)(hg:Env.good env)(hn:Env.short env)(c:Cl)(hB:Pt.sizes c.ps<=1048576)(hb:c.b.good)(n:Int)(h:Heap)(hh:WF h):
  ACalls Tryz.prog 22 [eU env,c.av,iA n] h fun o h'=>o= .ret (iA (wS env c n))/\h'=h:=by
 have hl:=vS c.ps;have c1:=fun g hw=>aCj env hg hn c.ps hB g hw
 have c2:=fun g hw=>aFm _ c.ps (bLx _) hB g hw
 have c3:=fun g hw=>kH _ c.b zT g (bLx _) (by have:=hb.1;omega) hb.2.2 hw
 have c4:=fun g hw=>zQ g hw c hB
 have c5:=fun g hw=>lP g hw c.b (bT c.ps) 8 0 0 (by have:=hb.1;omega) hb.2.1
 obtain⟨r,hr⟩:∃r,wS env c n=r:=⟨_,rfl⟩;rw[hr];unfold wS at hr;generalize eB env c.ps=e at c1 hr;generalize jA 3 c.ps=b1 at c2 hr;generalize sameT c.b zT=b2 at c3 hr;generalize (bT c.ps:Int)=m at c4 c5 hr;generalize dK m 8 0 0 c.b=z at c5 hr;obtain⟨ps,⟨k,i,nm,ls,ks⟩⟩:=c;simp only at hl hr c1 c2;have hzw:Weak (.agg zTm) zT.av:=Weak.zT;have c3:=fun g hw=>ACalls.weak (WeakL.cons (Weak.refl _) (WeakL.cons hzw WeakL.nil)) (c3 g hw)
 simp only[Cl.av,Cl.cells,cells_mk,List.map,Tm.av] at c3 c4 c5⊢;refine zER Tryz.func22 Tryz.ntmps22 ?_
 by_cases n1:n<1
 ·rw[if_pos (.inl n1)] at hr;subst hr;refine nU n1 ?_;exact y2a
 by_cases n2:16<n
 ·rw[if_pos (.inr (.inl n2))] at hr;subst hr;refine wP n1 n2 ?_;exact y2a
 by_cases n3:(ps.length:Int)=n
 rotate_left
 ·rw[if_pos (.inr (.inr n3))] at hr;subst hr;have n3b:((ps.length:Int) !=n)=true:=by simpa using n3
  refine aDh n1 n2 n3b ?_;exact y2a
 have n3b:((ps.length:Int) !=n)=false:=by simpa using n3
 rw[if_neg aB] at hr;refine zn ?_;refine zr3 n1 n2 n3b ?_;refine yl ?_;refine zL (c1 _ (hh.app aA)) ?_;refine zor ?_
 by_cases he:e=0
 rotate_left
 ·rw[if_pos he] at hr;subst hr;have heb:(e !=(0:Int))=true:=by simpa using he
  refine dV heb ?_;exact y2a
 subst he;rw[if_neg aA] at hr;refine aIr ?_;refine zL (c2 _ (hh.app aA)) ?_;refine zo ?_
 cases b1 with
 |true=>
  refine znr ?_;refine zL (c3 _ (hh.app aA)) ?_;refine zo ?_
  cases b2 with
  |false=>
   rw[if_pos ⟨rfl,rfl⟩] at hr;subst hr;refine aDj ?_;exact y2a
  |true=>
   refine aIr ?_;refine zL (c4 _ (hh.app aA)) ?_;refine zo ?_
   by_cases hm:200<m
   ·rw[if_neg aA,if_pos hm] at hr;subst hr;refine dV hm ?_;exact y2a
   rw[if_neg aA,if_neg hm] at hr;refine znf1r hm ?_;rw[if_pos rfl] at hr;subst hr;refine aDj ?_;exact y2a
 |false=>
  refine aAi ?_;refine zL (c4 _ (hh.app aA)) ?_;refine zo ?_
  by_cases hm:200<m
  ·rw[if_neg aA,if_pos hm] at hr;subst hr;refine dV hm ?_;exact y2a
  rw[if_neg aA,if_neg hm] at hr;refine znf1r hm ?_;rw[if_neg aA] at hr;subst hr;refine znf ?_;refine NB.Run.drawP (pc:=[3,4]) [0,0,0,0,0,0] [0,0,0,0,0,0] [0,1,0,4,15,31] [0,1,2,3,4,5] aC aC ?_;refine zp ?_;refine NB.DR.pcall rfl rfl rfl aA rfl rfl (fun g hg=>(c4) g ?_) ?_
  ·exact y2o
  refine zp ?_;refine NB.DR.pcall rfl rfl rfl aA rfl rfl (fun g hg=>(c5) g ?_) ?_
  ·exact y2o
  refine zp ?_;refine y8 ?_;refine znx ?_;exact y2a
open Go Go.AI
abbrev cfT (env:List Dc)(cls:List Cl)(n p:Nat)(l:AV)(e:Int):List AV:=
 [eU env, .junk, .p (.sl 6 (clPs cls)), .junk, .ptr n 0, .junk, .junk, .ptr (n+1) 0, .ptr p 0,l, .junk,iA e]++List.replicate 98 .junk
def cfR (m:Nat)(e0:Int)(i:Int)(tr:List AV)(l:AV)(e:Int):Prop:=
 (e≠0/\(m=1->e=e0)/\tr=aDf/\l= .p (.sl 1 []))\/(e=0/\(m=1->e0=0)/\tr=[iA 0,iA 0,iA i, .p (sP []), .p (.sl 2 (lvPs [])), .p (.sl 5 (tmPs [])),iA 0, .p (.prim (.slice none 0 0))]/\∃L:List Int,L.length=m-1/\l= .p (.sl 1 (kI L)))
theorem clPs_six (l:List Cl):∀e∈clPs l,e.length=6:=by
 intro e he;obtain⟨c,_,rfl⟩:=bMr.1 he;obtain⟨ps,⟨k,i,n,ls,ks⟩⟩:=c;simp[Cl.cells]
theorem bAh (m:Nat)(e0 i:Int):∃tr l e,cfR m e0 i tr l e:=by
 by_cases h:e0=0
 ·exact⟨_,_,0, .inr ⟨rfl,fun _=>h,rfl,List.replicate (m-1) 0,by simp,rfl⟩⟩
 ·exact⟨_,_,e0, .inl ⟨h,fun _=>rfl,rfl,rfl⟩⟩
def cfS (env:List Dc)(cls:List Cl)(h:Heap)(e0 i:Int)(a b:List AV)(T:List AV)(H:Heap):Prop:=
 ∃tr l e,cfR (cls.length+1) e0 i tr l e/\((keepT [0,2,4,7,8,9,11] T=cfT env cls h.length (h.length+2) l e/\H=h++[some (.cells a),some (.cells b),some (.cells tr),none])\/
  (keepT [0,2,4,7,8,9,11] T=cfT env cls h.length (h.length+3) l e/\H=h++[some (.cells a),some (.cells b),none,some (.cells tr)]))
theorem aFj (n:Nat):Pt.sizes (List.replicate n zP)=n:=by
 induction n with
 |zero=>rfl
 |succ n ih=>rw[bN3,Pt.sizes,ih];simp[Pt.size,Pt.sizes];omega
theorem mU (haw:∀g,ACalls Tryz.prog 10 [] g fun o h'=>o= .ret (bA true)/\h'=g)(h:Heap)(hh:WF h)(env:List Dc)(hg:Env.good env)(t:Tm)(hsz:t.size<=1048576)(hlv:t.lvs)(hf:t.fit)
  (n:Int) (hn1:-9223372036854775808<=n) (hn2:n<=9223372036854775807) (cls:List Cl) (hl:cls.length<=1048575) (hcs:∀c∈cls,Pt.sizes c.ps<=1048576/\c.b.good/\c.b.nm/\c.b.size<=1099511627776):
  ACalls Tryz.prog 6 [eU env, .agg (t.cells.map .p++[iA n]), .p (.sl 6 (clPs cls))] h fun o h'=>o= .ret (bA true)/\h'=h:=by
 have c9:=fun g hw=>aLm env hg t hsz hf cls aB (fun c hc=>⟨(hcs c hc).1,(hcs c hc).2.2.2⟩) g hw
 have hst:aQ2 0 t=true->1<=n->∀g,WF g->ACalls Tryz.prog 100 [t.av,iA n] g fun o h'=>o= .ret (.tup [(stP t n).1.av,iA (stP t n).2])/\h'=g:=fun hb h1 g hw=>by
  have q:=aWg aB hlv hb;exact aCt g hw t n hsz hn2 (by have:=(uF t n hlv).2.2.2;omega) (rA t n) (aNv t n q.1 q.2.1)
 have hclsl:(clPs cls).length=cls.length:=aA;generalize aQ2 0 t=b2 at c9 hst;have hcell:∃t0 t1 t2 t3 t4,t= .mk t0 t1 t2 t3 t4:=by cases t;exact⟨_,_,_,_,_,rfl⟩
 obtain⟨t0,t1,t2,t3,t4,ht⟩:=hcell;have hav:t.av= .agg [iA t0,iA t1, .p (sP t2), .p (.sl 2 (lvPs t3)), .p (.sl 5 (tmPs t4))]:=by rw[ht];simp[Tm.av,cells_mk]
 have hce:t.cells.map AV.p=[iA t0,iA t1, .p (sP t2), .p (.sl 2 (lvPs t3)), .p (.sl 5 (tmPs t4))]:=by rw[ht];simp[cells_mk]
 rw[hav] at c9;rw[hce];refine y1f ?_;refine dE Tryz.func6 Tryz.ntmps6 ?_;refine zB (c9 _ (hh.app aA)) fun b hb=>?_
 cases b with
 |false=>
  refine zot ?_;refine zr ?_;refine y12 ?_;refine zox ?_;exact y2h
 |true=>
  obtain⟨hfine,hb2⟩:=hb rfl;have hst:=hst hb2
  by_cases hn:n<1
  ·refine zo1 hn ?_;refine zt ?_;refine zr ?_;refine y12 ?_;refine zox ?_;exact y2h
  by_cases hn8:8<n
  ·refine zo2 hn hn8 ?_;refine zt ?_;refine zr ?_;refine y12 ?_;refine zox ?_;exact y2h
  refine zo2 hn hn8 ?_;refine zf ?_
  replace hst:=hst aB
  rw[hav] at hst;obtain⟨N,rfl⟩:∃N:Nat,n=N:=⟨n.toNat,by omega⟩;have c20:=fun g hw=>rZ N aB g hw
  have c21:=fun g hw=>kV ((N:Int)-1) g hw
  have hw1:IntKind.i64.wrap ((N:Int)-1)=N-1:=wrap_id aB aB;simp only[Cl.av,Cl.cells,Tm.cells,List.map] at c20;simp only[vr,Tm.av,cells_mk,List.map] at c21;refine znr ?_;refine zL (c20 _ (hh.app aA)) ?_;refine zo ?_;refine zr1 hw1 ?_;refine zL (c21 _ (hh.app aA)) ?_;refine zo ?_;have hN:0<N:=aB;have hN8:N<=8:=aB
  have hcx:ClsOk (⟨List.replicate N zP,vr ((N:Int)-1)⟩::cls):=⟨by simp;omega,fun c hc=>by
   rcases bMh.1 hc with rfl|hc
   ·exact⟨by rw[aFj];omega,by simp[vr,Tm.good,Tm.size,Tm.sizes,Tm.fit,Tm.fits,Tm.lvs,Tm.lvss];try omega,by simp[vr,Tm.nm,Tm.nms]⟩
   ·exact⟨(hcs c hc).1,(hcs c hc).2.1,(hcs c hc).2.2.1⟩⟩
  have c13:∀g,WF g->ACalls Tryz.prog 13 [eU env, .agg [iA t0,iA t1, .p (sP t2), .p (.sl 2 (lvPs t3)), .p (.sl 5 (tmPs t4))],iA N, .p (.sl 6 ([[.sl 3 (ptPs (List.replicate N zP)),iP 0,iP ((N:Int)-1),sP [], .sl 2 (lvPs []), .sl 5 (tmPs [])]]++clPs cls))] g
    fun o g'=>∃v,o= .ret v/\∃tr l e,cfR (cls.length+1) (stP t N).2 ((N:Int)-1) tr l e/\v= .tup [.agg tr,l,kS,iA e]/\g'=g:=fun g hw=>by
   have:=vB env hg hfine.1 (⟨List.replicate N zP,vr ((N:Int)-1)⟩::cls) hcx N hN aB rfl (aQ4 env N hN hN8) t (by rw[hav];exact hst) g hw;rw[hav] at this;refine ACalls.mono (P:=Tryz.prog) this ?_;rintro o g' (⟨e,he,he1,rfl,rfl⟩|⟨he1,L,hL,rfl,rfl⟩)
   ·exact⟨_,rfl,_,_,e, .inl ⟨he,he1,rfl,rfl⟩,rfl,rfl⟩
   ·exact⟨_,rfl,_,_,0, .inr ⟨rfl,he1,rfl,L,hL,rfl⟩,rfl,rfl⟩
  clear hst c9 c20 c21;have he0:=bLc t N aB;generalize (stP t N).2=e0 at c13 he0;generalize hx:((N:Int)-1)=x at c13;have hstill:NB.still [1006]:=by intro p hp;simp at hp;omega
  obtain⟨tr0,l0,z0,hR0⟩:=bAh (cls.length+1) e0 x;refine nv ?_;refine NB.Run.drawIns (pc:=[1006]) 15 6 8 9 [0,0,0,0,0,0,1,0,2,3,4,4,4,4,4,0,4,5,5,5] [0,0,0,0,0,0,1,0,2,3,0,0,0,0,0,0,4,0,0,0] [0,0,2,0,8,0,32800,0,32992,33279,33791,34815,34815,34815,34815,0,36863,106495,245759,524287] [15,5,6,7,8,0,1,3,2,4,9,10,11,16,12,13,14,17,18,19] [0,0,0,0,0,0,0,0,2,3,4,4,4,4,4,1,4,5,5,5] [0,0,0,0,0,0,0,0,2,3,0,0,0,0,0,1,4,0,0,0] [0,0,2,0,8,0,32,0,32992,33279,33791,34815,34815,34815,34815,96,36863,106495,245759,524287] [5,6,15,7,8,0,1,3,2,4,9,10,11,16,12,13,14,17,18,19] [0,0,0,0,0,0,0,0,1,3,4,4,4,4,4,2,4,5,5,5] [0,0,0,0,0,0,0,0,1,3,0,0,0,0,0,2,4,0,0,0] [0,0,2,0,8,0,32,0,224,33279,33791,34815,34815,34815,34815,480,36863,106495,245759,524287] [5,6,7,8,15,0,1,3,2,4,9,10,11,16,12,13,14,17,18,19] [0,0,0,0,0,0,0,0,1,2,3,3,3,3,3,3,4,5,5,5] [0,0,0,0,0,0,0,0,1,2,0,0,0,0,0,3,4,0,0,0] [0,0,2,0,8,0,32,0,224,511,1023,2047,2047,2047,2047,1023,36863,106495,245759,524287] [5,6,7,8,0,1,2,3,4,9,15,10,11,16,12,13,14,17,18,19] (cfS env cls h e0 x [iA t0,iA t1, .p (sP t2), .p (.sl 2 (lvPs t3)), .p (.sl 5 (tmPs t4)),iA N] [.p (.sl 3 (ptPs (List.replicate N zP))),iA 0,iA x, .p (sP []), .p (.sl 2 (lvPs [])), .p (.sl 5 (tmPs []))]) aC aC aC aC aC aC ?_ ?_ ?_ ?_ ?_
  ·rintro T H ⟨tr,l,e,hR,(⟨hT,rfl⟩|⟨hT,rfl⟩)⟩
   all_goals
    refine Run.keep [0,2,4,7,8,9,11] ?_;rw[hT];simp only[cfT,bLz,bM4,List.replicate];have hvr:(vr x).av= .agg [iA 0,iA x, .p (sP []), .p (.sl 2 (lvPs [])), .p (.sl 5 (tmPs []))]:=by simp[vr,Tm.av,cells_mk]
    have c22:=fun g hw=>aNb env hg hfine.1 ⟨List.replicate N zP,vr x⟩ (by rw[aFj];omega) (by subst hx;exact(hcx.2 _ (List.mem_cons_self)).2.1) N g hw
    have c23:=fun g hw=>bLb (vr x) (by simp[vr,Tm.lvs,Tm.lvss]) (by simp[vr,Tm.size,Tm.sizes]) g hw
    have c21:=fun g hw=>kV x g hw
    rw[hvr] at c23 c21;generalize wS env ⟨List.replicate N zP,vr x⟩ N=z at c22;simp only[Cl.av,Cl.cells,vr,Tm.cells,List.map] at c22;rcases hR with ⟨he,he1,rfl,rfl⟩|⟨rfl,he1,rfl,L,hL,rfl⟩
    ·have heb:(e !=(0:Int))=true:=by simpa using he
     refine znr1tr heb ?_;refine y12 ?_
     by_cases h3:e=3
     ·subst h3;refine zox ?_;exact y2h
     have h3b:(e==3)=false:=by simpa using h3
     by_cases h9:e=9
     ·subst h9;refine zox ?_;exact y2h
     have h9b:(e==9)=false:=by simpa using h9
     by_cases h6:e=6
     ·subst h6;refine zox ?_;exact y2h
     have h6b:(e==6)=false:=by simpa using h6
     by_cases h13:e=13
     ·subst h13;refine zox ?_;exact y2h
     have h13b:(e==13)=false:=by simpa using h13
     by_cases h24:e=24
     ·subst h24;refine zox ?_;exact y2h
     have h24b:(e==24)=false:=by simpa using h24
     have hpos:0<cls.length:=by
      rcases Nat.eq_zero_or_pos cls.length with h0|h0
      ·have:=he1 aB;rcases he0 with q|q<;>omega
      ·exact h0
     have hposi:(0:Int)<cls.length:=aB;refine zo5 h3b h9b h6b h13b h24b ?_;refine zL (c22 _ (hh.app aA)) ?_
     by_cases hz:z=0
     ·subst hz;refine zo1 hpos ?_;refine zx ?_;exact y2h
     ·have hzb:(z !=0)=true:=by simpa using hz
      refine zo1 hzb ?_;refine zx ?_;exact y2h
    ·have hL2:(kI L).length=cls.length:=by simp[kI];omega
     have hw2:IntKind.i64.wrap ((N:Int)-1)=x:=by rw[hw1,hx]
     refine znr ?_;refine zf ?_;refine Run.draw [0,1,1,1,1,1,1,1,1,1,1,1,1,2,3,3,3,3,3,3,3,3,3] [0,0,0,0,0,0,0,0,0,0,0,0,1,2,0,0,0,0,0,0,0,0,0] [0,1,3,7,15,31,63,127,255,127,639,1663,3711,8191,16383,32767,65535,131071,65535,327679,1048575,2097151,4194303] [0,1,2,3,4,5,6,9,10,11,12,7,8,13,14,15,16,17,18,19,20,21,22] aC aC ?_;refine DR.call (args:=[]) rfl rfl rfl aA rfl (haw _) ?_;refine zd1 hw2 ?_;refine DR.call rfl rfl rfl aA rfl (c21 _ (hh.app aA)) ?_;refine zd ?_;refine DR.call rfl rfl rfl aA rfl (c23 _ (hh.app aA)) ?_;refine zd2 hL2 hclsl ?_;refine y8 ?_;refine znx ?_;exact y2h
  ·refine y9 ?_;rintro v g ⟨rfl,rfl⟩;refine yp ?_;refine NB.DR.opR rfl rfl (by simp[awanted]) hstill (NB.NStep.appendA (id:=h.length+3) (e:=54) (sz:=6) (by_:=104) (es:=[[.sl 3 (ptPs (List.replicate N zP)),iP 0,iP x,sP [], .sl 2 (lvPs []), .sl 5 (tmPs [])]]) (ys:=clPs cls) rfl rfl rfl rfl rfl aA aA aA aA aA (by simp[srcSz]) (fun e he=>clPs_six _ e he) (by simp;omega) (by simp;omega)) ⟨_,_,rfl,rfl⟩ ?_;rintro v g ⟨rfl,rfl⟩;refine yc ?_;rintro v g ⟨tr,l,e,hR,rfl,rfl⟩;have hR':=hR;rcases hR with ⟨_,_,rfl,rfl⟩|⟨_,_,rfl,L,_,rfl⟩
   all_goals
    refine zp ?_;exact⟨_,_,_,hR', .inl ⟨rfl,by simp⟩⟩
  ·refine y9 ?_;rintro v g ⟨rfl,rfl⟩;refine NB.DR.eff rfl rfl (by simp[awanted]) (by simp;exact⟨rfl,rfl⟩) ?_;exact y2i
  ·refine y9 ?_;rintro v g ⟨rfl,rfl⟩;exact y2i
  ·refine y9 ?_;rintro v g ⟨rfl,rfl⟩;exact y2i
end Go.Proofs.YtplomildbmcmfaaGreat
