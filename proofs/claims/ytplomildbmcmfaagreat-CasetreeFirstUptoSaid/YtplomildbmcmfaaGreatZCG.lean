import Derived.Test.YtplomildbmcmfaaGreatZA0
import Derived.Test.YtplomildbmcmfaaGreatZQCa
import Derived.Test.YtplomildbmcmfaaGreatZYC
import Derived.Test.YtplomildbmcmfaaGreatZYS0
set_option maxRecDepth 8000
set_option maxHeartbeats 16000000
namespace Go.Proofs.YtplomildbmcmfaaGreat
open Go Go.AI
def wU (n:Nat)(ps:List Pt)(j:Nat):List Eqn:=(List.range j).map fun k:Nat=>⟨ps.getD k zP,vr ((n:Int)-1-k)⟩
theorem aKe (n:Nat)(ps:List Pt)(j:Nat):wU n ps (j+1)=wU n ps j++[⟨ps.getD j zP,vr ((n:Int)-1-j)⟩]:=by simp[wU,List.range_succ]
theorem aE8 (n:Nat)(ps:List Pt)(j:Nat):(wU n ps j).length=j:=by simp[wU]
theorem aGj (n:Nat):wU n (List.replicate n zP) n=fQ n:=by
 unfold wU fQ;refine List.map_congr_left fun k hk=>?_
 have:=bN6.1 hk;simp[this]
def aAn (n:Nat)(cls:List Cl)(j:Nat):List Rw:=(List.range j).map fun i:Nat=>⟨i,wU n (((cls[i]?).map Cl.ps).getD []) n⟩
theorem aNl (n:Nat)(cls:List Cl)(j:Nat):aAn n cls (j+1)=aAn n cls j++[⟨j,wU n (((cls[j]?).map Cl.ps).getD []) n⟩]:=by simp[aAn,List.range_succ]
theorem aF3 (n:Nat)(cls:List Cl)(j:Nat):(aAn n cls j).length=j:=by simp[aAn]
theorem aNm (n:Nat)(cls:List Cl)(j:Nat)(hn:n<=1000):∀r∈aAn n cls j,r.vars/\r.es.length<=1048576:=by
 intro r hr;obtain⟨i,_,rfl⟩:=bMr.1 hr;refine⟨fun e he=>?_,by simp only[aE8];omega⟩;obtain⟨k,_,rfl⟩:=bMr.1 he;exact⟨_,rfl⟩
theorem aOf (n:Nat)(hn:0<n)(h:n<=4096):bE1 n 0=eC n:=by
 unfold bE1 bGf eC;rw[if_neg aB,bMk,bOr];refine List.map_congr_left fun k _=>?_
 simp
theorem bAi {env:List Dc} {c:Cl} {n:Nat} (h:wS env c n=0):c.ps.length=n:=by
 unfold wS at h;split at h
 ·cases h
 ·omega
structure ClsOk (cls:List Cl):Prop where
 len:cls.length<=1048576
 at_:∀c∈cls,Pt.sizes c.ps<=1048576/\c.b.good/\c.b.nm
theorem vC (env:List Dc)(hg:Env.good env)(hsh:Env.short env)(cls:List Cl)(hcs:ClsOk cls)(n:Nat)(hn:0<n)(hn8:n<=16)(hc0:cls[0]?=some ⟨List.replicate n zP,vr ((n:Int)-1)⟩)(hck0:wS env ⟨List.replicate n zP,vr ((n:Int)-1)⟩ n=0)
  (t:Tm) (hst:∀g,WF g->ACalls Tryz.prog 100 [t.av,iA n] g fun o h'=>o= .ret (.tup [(stP t n).1.av,iA (stP t n).2])/\h'=g)
  (q:Nat) (h:Heap) (hh:WF h) (hq:h[q]?=some (fL env cls n 0 (.p (.prim (.slice none 0 0))) (.p (.prim (.slice none 0 0))) 0)):
  ACalls Tryz.prog 51 [.ptr q 0,t.av] h fun o h'=>(∃e,e≠0/\(cls.length=1->e=(stP t n).2)/\o= .panic (.p (aQ0 e))/\h'=h)\/
   ((cls.length=1->(stP t n).2=0)/\o= .ret (aH8 ((n:Int)-1))/\∃b0 b1 b2,h'=h.set q (fL env cls n 1 (.sm (h.length+3) 0 cls.length cls.length 1) (.p (.prim (.slice none 0 0))) 0)++[b0,b1,b2,oT ((List.replicate cls.length false).set 0 true)]):=by
 obtain⟨q1,q2,q3,q4,q5,qlt⟩:=idf hq;obtain⟨hcl,hcat⟩:=hcs;have ck:=fun(c:Cl) (hc:c∈cls) (g:Heap) (hw:WF g)=>aMq env hg hsh c (hcat c hc).1 (hcat c hc).2.1 (hcat c hc).2.2 n g hw
 have hclp:0<cls.length:=(bLw.1 hc0).1;have hkl:(clPs cls).length=cls.length:=aA;generalize hst1:stP t n=st at hst;obtain⟨⟨ty,kn,va,⟨d0,d1,d2,d3,d4⟩⟩,e⟩:=st;obtain⟨t0,t1,t2,t3,t4⟩:=t;simp only[Pb.av,Pb.cells,Tm.av,cells_mk,List.map] at hst⊢;have hq64:=hq
 by_cases h64:64<cls.length
 ·have n64:(64:Int)<cls.length:=aB;refine zER Tryz.func51 Tryz.ntmps51 ?_;refine zr2 q1 n64 ?_;refine zt ?_;refine zr ?_;refine Run.call rfl aF aA rfl (jI _ (hh.app aA) 6 aB) ?_ ?_
  ·rintro v h' ⟨hv,_⟩;cases hv
  rintro v h' ⟨hv,rfl⟩;simp only[AOut.panic.injEq] at hv;subst hv;exact Fin.pan (h0:=h) aA hh rfl (.inl ⟨6,by omega,fun h1=>by omega,rfl,rfl⟩)
 have n64:¬(64:Int)<cls.length:=aB;refine zER Tryz.func51 Tryz.ntmps51 ?_;refine zr2 q1 n64 ?_;refine zf ?_;refine zr1 q1 ?_;refine Run.loopS [0,1,3,4,26,27] (fun j:Nat=>j<=cls.length/\∀i,i<j->∀c,cls[i]?=some c->wS env c n=0) (fun j=>cls.length-j) (fun j=>[(28,iA j)]) (fun _=>_) 0 ⟨by omega,fun i hi=>by omega⟩ ?_ rfl ?_
 ·exact zS
 intro j ⟨hj,hall⟩ IH;refine cK ?_
 by_cases hjl:j<cls.length
 ·have hgc:cls[j]?=some cls[j]:=bLv hjl;have ckj:=ck _ (bLy hjl);generalize hcj:cls[j]=c at hgc ckj
  have hall2:wS env c n=0->∀i,i<j+1->∀c,cls[i]?=some c->wS env c n=0:=fun hz i hi c' hc'=>by
   by_cases hij:i=j
   ·subst hij;rw[hgc] at hc';cases hc';exact hz
   ·exact hall i aB c' hc'
  have hne1:wS env c n≠0->cls.length≠1:=fun hz h1=>by
   have:j=0:=aB;subst this;rw[hc0] at hgc;cases hgc;exact hz hck0
  generalize wS env c n=z at ckj hall2 hne1;obtain⟨ps,⟨b0,b1,b2,b3,b4⟩⟩:=c;have hgq:∀q:j<cls.length,cls[j]'q=⟨ps, .mk b0 b1 b2 b3 b4⟩:=fun q=>hcj
  have hcc:(Cl.mk ps (.mk b0 b1 b2 b3 b4)).cells=[.sl 3 (ptPs ps),iP b0,iP b1,sP b2, .sl 2 (lvPs b3), .sl 5 (tmPs b4)]:=by simp[Cl.cells]
  simp only[Cl.av,hcc,List.map] at ckj;refine znt1 hjl ?_;refine zr3 hgq hcc hjl ?_
  by_cases hz:z=0
  ·subst hz;refine nv ?_;refine Run.draw [0,0,0,0,0,0,0,0,0,0,1] [0,0,0,0,0,0,0,0,0,0,1] [0,1,3,7,0,0,32,96,224,511,1023] [0,1,2,3,4,5,6,7,8,9,10] aC aC ?_;refine zd1 q1 ?_;refine DR.call rfl rfl rfl aA rfl (ckj _ (hh.app aA)) ?_;refine zd ?_;refine DR.call rfl rfl rfl aA rfl (iB _ (hh.app aA)) ?_;refine zd ?_;refine y8 ?_;refine znr ?_;refine Run.keep [0,1,3,4,26,27,28] ?_;simp;refine Run.cutAt 2 hh rfl aB aA (by simp;omega) aA rfl ?_;refine IH (j+1) _ _ ⟨by omega,hall2 rfl⟩ aB ?_ aA;exact zS
  ·refine nv ?_;refine Run.drawPanic [0,0,0,0,0,0,0,0,0,0,1] [0,0,0,0,0,0,0,0,0,0,0] [0,1,3,7,0,0,32,96,224,511,1023] [0,1,2,3,4,5,6,7,8,9] 10 aC aC ?_;refine zd1 q1 ?_;refine DR.call rfl rfl rfl aA rfl (ckj _ (hh.app aA)) ?_;refine zd ?_;refine⟨_,_,_,[iA z],_,_,rfl,rfl,rfl,by simp,rfl,jI _ (hh.app aA) z hz,?_⟩;intro T' hT;exact Fin.pan (h0:=h) aA hh rfl (.inl ⟨z,hz,fun h1=>absurd h1 (hne1 hz),rfl,rfl⟩)
 ·have hje:j=cls.length:=aB;subst hje;refine znfen ?_;refine NB.Run.drawP (pc:=[5]) [0,0,0,0,0,0,0,0,0,0,1,2] [0,0,0,0,0,0,0,0,0,0,1,0] [0,0,2,6,14,31,63,127,127,0,767,2047] [9,0,1,2,3,4,5,6,7,10,8,11] aC aC ?_;refine zp1 q1 ?_;refine NB.DR.pcall rfl rfl rfl aA rfl rfl (fun g hg=>(hst) g ?_) ?_
  ·exact y2o
  refine zp ?_;refine y8 ?_;refine nv ?_
  by_cases he:e=0
  rotate_left
  ·refine znr ?_;refine Run.call rfl aF aA rfl (jI _ (hh.app aA) e he) ?_ ?_
   ·rintro v h' ⟨hv,_⟩;cases hv
   rintro v h' ⟨hv,rfl⟩;simp only[AOut.panic.injEq] at hv;subst hv;exact Fin.pan (h0:=h) aA hh rfl (.inl ⟨e,he,fun _=>rfl,rfl,rfl⟩)
  subst he;have hm1:cls.length<=1099511627776:=aB;have hm3:cls.length<=140737488355328:=aB;refine znr ?_;refine zL (iB _ (hh.app aA)) ?_;refine zo ?_;refine zr4 q1 q2 hm1 hm3 ?_;have hrep:List.replicate cls.length (AV.p (.prim (.bool false)))=(List.replicate cls.length false).map bA:=by rw[List.map_replicate]
  rw[hrep]
  have hbu:∀(L:List Bool) n,AV.underL n (L.map bA)=true:=fun L n=>by
   induction L with
   |nil=>rfl
   |cons a S ih=>simp only[bMd,AV.underL,AV.under,ih];rfl
  have hbr:∀n,AV.underL n (List.replicate cls.length (bA false))=true:=fun n=>by
   have:=hbu (List.replicate cls.length false) n
   rwa [List.map_replicate] at this
  generalize hH:h.set q (some (.cells [eU env, .p (.sl 6 (clPs cls)),iA n,iA 0, .sm (h.length+3) 0 cls.length cls.length 1, .p (.prim (.slice none 0 0)),iA 0]))++_=H;have hHl:H.length=h.length+4:=by rw[<-hH];simp
  have hHw:WF H:=by
   rw[<-hH,<-q2];exact WF.set (hh.app (by simp[AO.under,hbr])) (by simp[AO.under,AV.under])
  have hHq:H[q]?=some (fL env cls n 0 (.sm (h.length+3) 0 cls.length cls.length 1) (.p (.prim (.slice none 0 0))) 0):=by rw[<-hH];exact q4 _ _
  have hH1:H[h.length+1]?=some (some (.cells [iA 0,iA 0,iA 0, .p (sP []), .p (.prim (.slice none 0 0)), .p (.prim (.slice none 0 0)),iA 0, .p (.prim (.slice none 0 0))])):=by rw[<-hH];simp
  have hH2:H[h.length+2]?=some (some (.cells [.p (.sl 5 (tmPs ty)), .p (.sl 1 (bEg kn)), .p (.sl 5 (tmPs va)),iA d0,iA d1, .p (sP d2), .p (.sl 2 (lvPs d3)), .p (.sl 5 (tmPs d4))])):=by rw[<-hH];simp
  have hH3:H[h.length+3]?=some (oT (List.replicate cls.length false)):=by rw[<-hH];simp
  obtain⟨r1,r2,r3,r4,r5,rlt⟩:=idf hHq;obtain⟨u1,u2,u3,u4,u5,ult⟩:=idf hH1;obtain⟨v1,v2,v3,v4,v5,vlt⟩:=idf hH2;have c101:=fun g hw=>aIg g hw n 0 aB aB aB
  rw[aOf n hn aB] at c101;have hdl:(tmPs (eC n)).length=n:=by rw[tmPs_eq,bMp,eN]
  have hdg:∀k:Nat,k<n->(tmPs (eC n))[k]?=some [iP 0,iP ((n:Int)-1-k),sP [], .sl 2 (lvPs []), .sl 5 (tmPs [])]:=fun k hk=>by
   rw[tmPs_eq,bO4];simp[eC,hk,vr]
  refine sD hHq ?_;refine zL (c101 _ hHw) ?_
  rename Heap=>H
  refine zor ?_;refine Run.tok 10 2 aA ?_;refine zsn ?_;refine zrv7 ?_;refine Run.loopS [0,1,3,4,7,9,72,73] (fun j:Nat=>j<=cls.length) (fun j=>cls.length-j) (fun j=>[(10, .own H.length 2 (jV (aAn n cls j))),(74,iA j)]) (fun j=>H++[some (.tok j 2)]) 0 aA ?_ aA ?_
  ·simp[aAn,jV];exact zK
  intro j hj IH2;refine cK ?_
  by_cases hjl2:j<cls.length
  ·have hgc:cls[j]?=some cls[j]:=bLv hjl2;have hcn:=bAi (hall j hjl2 _ hgc);have hrs:=aNl n cls j;rw[hgc] at hrs;simp only[bN2,bMc] at hrs;generalize hcj:cls[j]=c at hgc hcn hrs;obtain⟨ps,⟨b0,b1,b2,b3,b4⟩⟩:=c;simp only at hcn hrs;have hgq:∀q:j<cls.length,cls[j]'q=⟨ps, .mk b0 b1 b2 b3 b4⟩:=fun q=>hcj
   have hcc:(Cl.mk ps (.mk b0 b1 b2 b3 b4)).cells=[.sl 3 (ptPs ps),iP b0,iP b1,sP b2, .sl 2 (lvPs b3), .sl 5 (tmPs b4)]:=by simp[Cl.cells]
   have hpl:(ptPs ps).length=ps.length:=aA;refine nV hjl2 hgq hcc hjl2 ?_;refine Run.tokAt (H.length+2) 1 8 (cs:=[iA j, .p (.prim (.slice none 0 0))]) (by simp[Heap.at]) rfl ?_;refine aAk hpl ?_;refine Run.loopS [0,1,3,4,7,9,10,11,12,13,72,73,74,82,83] (fun k:Nat=>k<=ps.length) (fun k=>ps.length-k) (fun k=>[(84,iA k)]) (fun k=>H++[some (.tok j 2),some (.cells [.p (.sl 3 (ptPs ps)),iA b0,iA b1, .p (sP b2), .p (.sl 2 (lvPs b3)), .p (.sl 5 (tmPs b4))]),some (.cells [iA j, .own (H.length+3) 8 (gG (wU n ps k))]),some (.tok k 8)]) 0 aA ?_ (by simp[wU,gG]) ?_
   ·exact zS
   intro k hk IH3;refine cK ?_
   by_cases hkl2:k<ps.length
   ·have hgp:ps[k]?=some ps[k]:=bLv hkl2;have hes:=aKe n ps k;rw[List.getD_eq_getElem?_getD,hgp,bMc] at hes;have hll:(gG (wU n ps k)).length=k:=by rw[lT,aE8]
    have hd:=hdg k aB;have hkn:k<n:=aB;generalize hpk:ps[k]=pt at hgp hes;obtain⟨x0,x1,x2⟩:=pt
    have hsn:gG (wU n ps (k+1))=gG (wU n ps k)++[[iP x0,sP x1, .sl 3 (ptPs x2),iP 0,iP ((n:Int)-1-k),sP [], .sl 2 (lvPs []), .sl 5 (tmPs [])]]:=by
     rw[hes,yA];simp[Eqn.cells,pcells_mk,vr]
    have hpg:∀q:k<ps.length,ps[k]'q= .mk x0 x1 x2:=fun q=>hpk
    have hpgt:(ptPs ps)[k]?=some [iP x0,sP x1, .sl 3 (ptPs x2)]:=by rw[vU,hgp];simp[pcells_mk]
    have hpgq:∀q:k<(ptPs ps).length,(ptPs ps)[k]'q=[iP x0,sP x1, .sl 3 (ptPs x2)]:=fun q=>by rw[bLv q] at hpgt;exact bNg hpgt
    have hdq:∀q:k<(tmPs (eC n)).length,(tmPs (eC n))[k]'q=[iP 0,iP ((n:Int)-1-k),sP [], .sl 2 (lvPs []), .sl 5 (tmPs [])]:=fun q=>by rw[bLv q] at hd;exact bNg hd
    have hb1:(k+1)*128<=140737488355328:=aB;have hb2:k+1<=9223372036854775807:=aB;generalize hV:tmPs (eC n)=V at hdl hd hdq⊢;generalize ((n:Int)-1-k)=x at hd hdq hsn;generalize gG (wU n ps k)=L at hll hsn⊢;refine znt1 hkl2 ?_;refine zr3 hpgq hpl hkl2 ?_;refine Run.draw [0,0,0,0,0,0,0,0,0,0,1,1] [0,0,0,0,0,0,0,0,0,0,0,1] [0,1,0,0,0,24,56,124,252,511,1023,2047] [0,1,2,3,4,5,6,7,8,9,10,11] aC aC ?_;refine zd6 hdq hdl hkn hll hb1 hb2 ?_;refine y8 ?_;refine znr ?_;subst hV;refine Run.keep [0,1,3,4,7,9,10,11,12,13,72,73,74,82,83,84] ?_;simp;refine Run.cutAt 4 hHw rfl aB aA (by simp;omega) aA rfl ?_;refine IH3 (k+1) _ _ aB aB ?_ ?_
    ·exact zS
    ·simp[hsn]
   ·have hke:k=ps.length:=aB;subst hke;refine znfen ?_;rw[hcn];refine Run.weakH (H.length+2) (cs:=[iA j, .own (H.length+3) 8 (gG (wU n ps n))]) (cs':=[iA j, .p (.sl 8 (gG (wU n ps n)))]) (by simp[Heap.at]) (WeakL.cons (Weak.refl _) (WeakL.cons (Weak.own _ _ _) WeakL.nil)) ?_;simp;have hrl:(jV (aAn n cls j)).length=j:=by rw[wB,aF3]
    have hrn:jV (aAn n cls (j+1))=jV (aAn n cls j)++[[iP j, .sl 8 (gG (wU n ps n))]]:=by rw[hrs,zU];rfl
    have hb3:(j+1)*32<=140737488355328:=aB;have hb4:j+1<=9223372036854775807:=aB;generalize jV (aAn n cls j)=R at hrl hrn⊢;refine zn ?_;refine zr3 hrl hb3 hb4 ?_;refine zr ?_;refine Run.keep [0,1,3,4,7,9,10,72,73,74] ?_;simp;refine Run.cutAt 1 hHw rfl aB aA (by simp;omega) aA rfl ?_;refine IH2 (j+1) _ _ aB aB ?_ ?_
    ·simp[hrn];exact zK
    ·simp
  ·have hje2:j=cls.length:=aB;subst hje2;refine znfen ?_;have hrw:=aNm n cls cls.length aB;have hrl:=aF3 n cls cls.length
   have hr0:(aAn n cls cls.length)[0]?=some ⟨0,fQ n⟩:=by
    simp[aAn,List.getElem?_range hclp,hc0,aGj]
   have c102:=fun(g:Heap) (hw:WF g) (g1:g[q]?=some (fL env cls n 0 (.sm (h.length+3) 0 cls.length cls.length 1) (.p (.prim (.slice none 0 0))) 0)) (g2:g[h.length+3]?=some (oT (List.replicate cls.length false)))=>
    aD0 env hg hsh cls n hn aB hc0 ⟨ty,kn,va, .mk d0 d1 d2 d3 d4⟩ (aAn n cls cls.length) hrw aB hr0 n 0 0 aB (.p (.prim (.slice none 0 0))) (by simp[AV.under]) q (h.length+3) cls.length (List.replicate cls.length false) aA hclp g hw g1 g2 aB
   simp only[Pb.av,Pb.cells,cells_mk,List.map] at c102;obtain⟨w1,w2,w3,w4,w5,wlt⟩:=idf hH3;obtain⟨Z,hZ⟩:∃Z,(H.set q (fL env cls n 1 (.sm (h.length+3) 0 cls.length cls.length 1) (.p (.prim (.slice none 0 0))) 0)).set (h.length+3) (oT ((List.replicate cls.length false).set 0 true))=Z:=⟨_,rfl⟩;have hZl:Z.length=h.length+4:=by rw[<-hZ];simp[hHl]
   have cZ:=c102 (H++[some (.tok cls.length 2)]) (hHw.app aA) (r1 _) (w1 _);rw[show(0:Int)+1=1 by rfl,r2,bMq _ _ (by simp;omega),hZ] at cZ
   have hZw:WF Z:=by
    rw[<-hZ];refine WF.set (WF.set hHw ?_) ?_
    ·simp[AO.under,AV.under];omega
    ·simp only[AO.under];exact hbu _ _
   have hZ1:Z[h.length+1]?=some (some (.cells [iA 0,iA 0,iA 0, .p (sP []), .p (.prim (.slice none 0 0)), .p (.prim (.slice none 0 0)),iA 0, .p (.prim (.slice none 0 0))])):=by
    rw[<-hZ,bMl aB,bMl aB];exact hH1
   have hZf:∀C,∃b0 b1 b2,Z.set (h.length+1) C=h.set q (fL env cls n 1 (.sm (h.length+3) 0 cls.length cls.length 1) (.p (.prim (.slice none 0 0))) 0)++[b0,b1,b2,oT ((List.replicate cls.length false).set 0 true)]:=by
    intro C;rw[<-hZ,<-hH,q5,bNf _ _ aA,bNf _ _ aA];simp
   clear hZ;obtain⟨z1,z2,z3,z4,z5,zlt⟩:=idf hZ1;refine Run.weakAt 10 (.p (.sl 2 (jV (aAn n cls cls.length)))) (Weak.own _ _ _) ?_;refine aAk v1 ?_;refine zL cZ ?_;refine zo2 z1 z2 ?_;refine zx ?_;exact aEc (h0:=Z.set (h.length+1) (some (.cells [iA 0,iA 0,iA (n-1), .p (sP []), .p (.sl 2 (lvPs [])), .p (.sl 5 (tmPs [])),iA 0, .p (.prim (.slice none 0 0))]))) aA (by simp;omega) (hZw.set aA) rfl (by simp[z4];rfl) rfl (Weak.refl _) aA (.inr ⟨rfl,hZf _⟩)
open Go Go.AI
theorem xL (h:Heap)(hh:WF h)(e:Int):ACalls Tryz.prog 50 [.p (aQ0 e)] h fun o h'=>o= .ret (iA e)/\h'=h:=by
 refine zER Tryz.func50 Tryz.ntmps50 ?_;have hu:Tryz.prog.underlying 176=some (.int .i64):=aC;refine sD hu ?_;refine zr ?_;refine zt ?_;refine yi ?_;exact y2j
abbrev aDf:List AV:=[iA 0,iA 0,iA 0, .p (sP []), .p (.prim (.slice none 0 0)), .p (.prim (.slice none 0 0)),iA 0, .p (.prim (.slice none 0 0))]
abbrev kS:AV:= .p (.prim (.slice none 0 0))
theorem aB6 (h:Heap)(hh:WF h)(p:Nat)(hp:p=h.length)(e:Int)(env:List Dc)(cls:List Cl)(n:Int) {c0 c1 c2 c3 c4 c5 c6 c7 d0 d1 d2:AV} (H:Heap)(hH:H=h++[some (.cells [c0,c1,c2,c3,c4,c5,c6,c7]),some (.cells [d0]),some (.cells [d1]),some (.cells [d2]),fL env cls n 0 kS kS 0,some (.cells [.ptr (p+4) 0])])(hw:WF H):
  ADef Tryz.prog 49 [.ptr p 0, .ptr (p+1) 0, .ptr (p+2) 0, .ptr (p+3) 0, .ptr (p+5) 0] (some (.p (aQ0 e))) H
   (h++[some (.cells aDf),some (.cells [kS]),some (.cells [kS]),some (.cells [iA e]),fL env cls n 0 kS kS 0,some (.cells [.ptr (p+4) 0])]):=by
 subst hp;subst hH;refine ADef.of_run Tryz.func49 rfl rfl rfl fun K J=>?_
 simp only[Tryz.ntmps49,bM2,bM3];simp[recA];refine J _ _ ?_;clear J;have hu:Tryz.prog.underlying 20=some (.interface #[]):=aC;refine znr1tr hu ?_;refine zL (xL _ hw e) ?_;refine zo ?_;have hfin:WF (h++[some (.cells aDf),some (.cells [kS]),some (.cells [kS]),some (.cells [iA e]),fL env cls n 0 kS kS 0,some (.cells [.ptr (h.length+4) 0])]):=hh.app aA
 by_cases he:e=18
 ·subst he;refine aT1 ?_;refine Run.nil ?_;exact Fin.ret' (h0:=h++[some (.cells aDf),some (.cells [kS]),some (.cells [kS]),some (.cells [iA 18]),fL env cls n 0 kS kS 0,some (.cells [.ptr (h.length+4) 0])]) aA aA hfin (bM1 _).symm rfl rfl (Weak.refl _) rfl ⟨⟨_,rfl⟩,rfl⟩
 ·refine znr ?_;refine zf1 he ?_;refine Run.nil ?_;exact Fin.ret' (h0:=h++[some (.cells aDf),some (.cells [kS]),some (.cells [kS]),some (.cells [iA e]),fL env cls n 0 kS kS 0,some (.cells [.ptr (h.length+4) 0])]) aA aA hfin (bM1 _).symm rfl rfl (Weak.refl _) rfl ⟨⟨_,rfl⟩,rfl⟩
theorem aFz (h:Heap)(hh:WF h)(a b c d e:Nat):ADef Tryz.prog 49 [.ptr a 0, .ptr b 0, .ptr c 0, .ptr d 0, .ptr e 0] none h h:=by
 refine ADef.of_run Tryz.func49 rfl rfl rfl fun K J=>?_
 simp only[Tryz.ntmps49,bM2,bM3];exact y2k
def unr:Nat->List Int
 |0=>[]
 |j+1=>if j=0 then [] else unr j++[(j:Int)]
theorem aD6 (j:Nat):(unr j).length=j-1:=by
 induction j with
 |zero=>rfl
 |succ j ih=>
  unfold unr
  by_cases h:j=0
  ·simp[h]
  ·rw[if_neg h,bM5,ih,bNy];omega
theorem vB (env:List Dc)(hg:Env.good env)(hsh:Env.short env)(cls:List Cl)(hcs:ClsOk cls)(n:Nat)(hn:0<n)(hn8:n<=16)(hc0:cls[0]?=some ⟨List.replicate n zP,vr ((n:Int)-1)⟩)(hck0:wS env ⟨List.replicate n zP,vr ((n:Int)-1)⟩ n=0)
  (t:Tm) (hst:∀g,WF g->ACalls Tryz.prog 100 [t.av,iA n] g fun o h'=>o= .ret (.tup [(stP t n).1.av,iA (stP t n).2])/\h'=g)
  (h:Heap) (hh:WF h):
  ACalls Tryz.prog 13 [eU env,t.av,iA n, .p (.sl 6 (clPs cls))] h fun o h'=>(∃e,e≠0/\(cls.length=1->e=(stP t n).2)/\o= .ret (.tup [.agg aDf, .p (.sl 1 []),kS,iA e])/\h'=h)\/
   ((cls.length=1->(stP t n).2=0)/\∃L:List Int,L.length=cls.length-1/\o= .ret (.tup [aH8 ((n:Int)-1), .p (.sl 1 (kI L)),kS,iA 0])/\h'=h):=by
 have hclp:0<cls.length:=(bLw.1 hc0).1;have hcl1:=hcs.len;have c51:=fun(q:Nat) (g:Heap) (hw:WF g) (hq:g[q]?=some (fL env cls n 0 kS kS 0))=>vC env hg hsh cls hcs n hn hn8 hc0 hck0 t hst q g hw hq
 generalize (stP t n).2=e0 at c51⊢;obtain⟨t0,t1,t2,t3,t4⟩:=t;simp only[Tm.av,cells_mk,List.map] at c51⊢;refine ACalls.of_runD Tryz.func13 rfl ?_;simp only[Tryz.ntmps13,bM2,bM3];refine sE ?_;refine Run.defer (i:=49) (first:=[]) (cap:=[.ptr (h.length+1) 0, .ptr (h.length+2) 0, .ptr (h.length+3) 0, .ptr (h.length+4) 0, .ptr (h.length+6) 0]) rfl rfl rfl aA ?_;refine zor ?_;refine Run.call rfl aF aA rfl (c51 (h.length+5) _ (hh.app aA) aA) ?_ ?_
 rotate_left
 ·rintro v h' (⟨e,he,he1,hv,hh'⟩|⟨_,hv,_⟩)
  ·simp only[AOut.panic.injEq] at hv;subst hv hh';simp only[wX];refine⟨by simp,rfl,_,aB6 (h++[some (.cells [.p (iP t0), .p (iP t1), .p (sP t2), .p (.sl 2 (lvPs t3)), .p (.sl 5 (tmPs t4))])]) (hh.app aA) (h.length+1) aA e env cls n _ (by rw[bMj];rfl) (hh.app aA),?_⟩;simp;exact Fin.ret' (h0:=h) (xs:=[.agg aDf,kS,kS,iA e]) aA rfl hh rfl aA rfl (Weak.tup (WeakL.cons (Weak.refl _) (WeakL.cons (Weak.nil 1) (WeakL.refl _)))) aA (.inl ⟨e,he,he1,rfl,rfl⟩)
  ·cases hv
 ·rintro v h' (⟨e,he,he1,hv,hh'⟩|⟨he1,hv,b0,b1,b2,hh'⟩)
  ·cases hv
  ·simp only[AOut.ret.injEq] at hv;generalize hLb:((List.replicate cls.length false).set 0 true).map bA=Lb;rw[show oT ((List.replicate cls.length false).set 0 true)=some (.cells Lb) from by rw[<-hLb]] at hh';subst hv hh';refine zo ?_;have hLl:Lb.length=cls.length:=by rw[<-hLb];simp
   have hL0:Lb[0]?=some (bA true):=by rw[<-hLb];simp[hclp]
   have hLj:∀j:Nat,0<j->j<cls.length->Lb[j]?=some (bA false):=fun j h0 hj=>by
    rw[<-hLb,bO4,bMl aB];simp[hj]
   refine znr ?_;refine Run.tokAt (h.length+2) 0 1 (cs:=[kS]) (by simp[Heap.at]) rfl ?_;simp;simp only[show h.length+7+3=h.length+10 from rfl]
   refine Run.loopS [8,9,10,11,27,28] (fun j:Nat=>j<=cls.length) (fun j=>cls.length-j) (fun j=>[(29,iA j)])
    (fun j=>h++[some (.cells [.p (iP t0), .p (iP t1), .p (sP t2), .p (.sl 2 (lvPs t3)), .p (.sl 5 (tmPs t4))]),
     some (.cells [iA 0,iA 0,iA (n-1), .p (sP []), .p (.sl 2 (lvPs [])), .p (.sl 5 (tmPs [])),iA 0,kS]),
     some (.cells [.own (h.length+11) 1 (kI (unr j))]),some (.cells [kS]),some (.cells [iA 0]),
     fL env cls n 1 (.sm (h.length+10) 0 cls.length cls.length 1) kS 0,some (.cells [.ptr (h.length+5) 0]),b0,b1,b2,some (.cells Lb),some (.tok (unr j).length 1)]) 0 aA ?_ (by simp[unr,kI]) ?_
   ·exact zS
   intro j hj IH;refine cK ?_
   by_cases hjl:j<cls.length
   ·by_cases hj0:j=0
    ·subst hj0;have hL0':∀q:0<Lb.length,Lb[0]'q=bA true:=fun q=>by rw[bLv q] at hL0;exact bNg hL0
     refine nV hjl hL0' hLl hclp ?_;refine yl ?_;refine Run.keep [8,9,10,11,27,28,29] ?_;simp;refine IH 1 _ _ aB aB ?_ ?_
     ·exact zS
     ·simp[unr]
    ·have hLj1:=hLj j aB hjl;have hLj':∀q:j<Lb.length,Lb[j]'q=bA false:=fun q=>by rw[bLv q] at hLj1;exact bNg hLj1
     have hu:unr (j+1)=unr j++[(j:Int)]:=by rw[unr,if_neg hj0]
     have hb1:((unr j).length+1)*8<=140737488355328:=by rw[aD6];omega
     have hb2:(unr j).length+1<=9223372036854775807:=by rw[aD6];omega
     generalize hR:unr j=R at hu hb1 hb2;have hRl:(kI R).length=R.length:=by simp[kI]
     refine nV hjl hLj' hLl hjl ?_;refine zt ?_;refine zr3 hRl hb1 hb2 ?_;refine zr ?_;refine Run.keep [8,9,10,11,27,28,29] ?_;simp;refine IH (j+1) _ _ aB aB ?_ ?_
     ·exact zS
     ·simp[hu,kI]
   ·have hje:j=cls.length:=aB;subst hje;refine znfen ?_;have hrl:=aD6 cls.length;generalize unr cls.length=R at hrl;refine Run.weakH (h.length+2) (cs:=[.own (h.length+11) 1 (kI R)]) (cs':=[.p (.sl 1 (kI R))]) (by simp[Heap.at]) (WeakL.cons (Weak.own _ _ _) WeakL.nil) ?_;simp;refine Run.weakH (h.length+6-1) (cs:=[eU env, .p (.sl 6 (clPs cls)),iA n,iA 1, .sm (h.length+10) 0 cls.length cls.length 1,kS,iA 0]) (cs':=[eU env, .p (.sl 6 (clPs cls)),iA n,iA 1, .junk,kS,iA 0]) (by simp[Heap.at]) (WeakL.cons (Weak.refl _) (WeakL.cons (Weak.refl _) (WeakL.cons (Weak.refl _) (WeakL.cons (Weak.refl _) (WeakL.cons (Weak.junk _) (WeakL.refl _)))))) ?_;simp;refine Run.keep [8,9,10,11] ?_;simp;refine Run.cutAt 7 hh rfl aB aA aA aA (by simp[dU]) ?_;refine zsn ?_;refine Run.draw [0,0,0,1,2,3] [0,0,0,1,2,3] [0,0,1,7,15,31] [0,2,1,3,4,5] aC aC ?_;refine zd ?_;refine y8 ?_;refine znx ?_;simp only[wX];refine⟨by simp,rfl,_,aFz _ (hh.app aA) (h.length+1) (h.length+2) (h.length+3) (h.length+4) (h.length+6),?_⟩;exact Fin.ret' (h0:=h) (xs:=[aH8 ((n:Int)-1), .p (.sl 1 (kI R)),kS,iA 0]) aA rfl hh rfl aA rfl (Weak.refl _) aA (.inr ⟨he1,R,hrl,rfl,rfl⟩)
end Go.Proofs.YtplomildbmcmfaaGreat
