import Derived.Test.YtplomildbmcmfaaGreatZA0
import Derived.Test.YtplomildbmcmfaaGreatZYS0
import Derived.Test.YtplomildbmcmfaaGreatZT7
import Derived.Test.YtplomildbmcmfaaGreatZE7
import Derived.Test.YtplomildbmcmfaaGreatZFI
import Derived.Test.YtplomildbmcmfaaGreatZEVc
import Derived.Test.YtplomildbmcmfaaGreatZPQ
set_option maxRecDepth 8000
set_option maxHeartbeats 16000000
namespace Go.Proofs.YtplomildbmcmfaaGreat
open Go Go.AI
abbrev zP:Pt:= .mk 0 [] []
theorem aLr (l:List Pt)(hl:l.length<=1048576)(h:Heap)(hh:WF h)(hc:∀p∈l,ACalls Tryz.prog 242 [p.av] h fun o h'=>o= .ret (bA false)/\h'=h):
  ACalls Tryz.prog 180 [.p (.sl 3 (ptPs l)), .p (.prim (.func (.func 242) #[] #[]))] h fun o h'=>o= .ret (iA (-1))/\h'=h:=by
 have hkl:(ptPs l).length=l.length:=aA;refine zE Tryz.func180 Tryz.ntmps180 ?_;refine wQ hkl ?_;refine Run.loopS [0,1,4,7] (fun j:Nat=>j<=l.length) (fun j=>l.length-j) (fun j=>[(8,iA j)]) (fun _=>h) 0 aA ?_ rfl ?_
 ·exact zS
 intro j hj IH;refine cK ?_
 by_cases hjl:j<l.length
 ·have hg1:l[j]?=some l[j]:=bLv hjl;have hcb:=hc _ (bLy hjl);generalize l[j]=p at hg1 hcb;have hgt:(ptPs l)[j]?=some p.cells:=by rw[vU,hg1];rfl
  have hgq:∀q:j<(ptPs l).length,(ptPs l)[j]'q=p.cells:=fun q=>by rw[bLv q] at hgt;exact bNg hgt
  obtain⟨k,n,qs⟩:=p;simp only[Pt.av,pcells_mk,List.map] at hcb hgt hgq;refine lH hjl ?_;refine zr3 hgq hkl hjl ?_;refine zL (hcb) ?_;exact y40
 ·exact y51
theorem nW (l:List Pt)(hl:l.length<=1048576)(h:Heap)(hh:WF h)(hc:∀p∈l,ACalls Tryz.prog 242 [p.av] h fun o h'=>o= .ret (bA false)/\h'=h):
  ACalls Tryz.prog 172 [.p (.sl 3 (ptPs l))] h fun o h'=>o= .ret (bA false)/\h'=h:=by
 have c1:=aLr l hl h hh hc
 have c2:ACalls Tryz.prog 107 [.p (.sl 3 (ptPs l)), .p (.prim (.func (.func 242) #[] #[]))] h fun o h'=>o= .ret (bA false)/\h'=h:=by
  refine dE Tryz.func107 Tryz.ntmps107 ?_;refine zL (c1) ?_;exact y6f
 refine dE Tryz.func172 Tryz.ntmps172 ?_;refine zL (c2) ?_;exact y6f
theorem xA (h:Heap)(hh:WF h):ACalls Tryz.prog 242 [zP.av] h fun o h'=>o= .ret (bA false)/\h'=h:=by
 have c1:=fun g hw=>nW [] aA g hw aA
 simp only[zP,Pt.av,pcells_mk,List.map,ptPs] at c1⊢;refine dE Tryz.func242 Tryz.ntmps242 ?_;refine zL (c1 _ (hh.app aA)) ?_;refine zox ?_;exact y29
theorem wZ (n:Nat)(hn:n<=1048576)(h:Heap)(hh:WF h):ACalls Tryz.prog 172 [.p (.sl 3 (ptPs (List.replicate n zP)))] h fun o h'=>o= .ret (bA false)/\h'=h:=
 nW _ (by simpa using hn) h hh (fun p hp=>by rw[List.eq_of_mem_replicate hp];exact xA h hh)
theorem aLq (l:List Eqn)(hl:l.length<=1048576)(hk:∀e∈l,e.p.kind=0)(h:Heap)(hh:WF h):
  ACalls Tryz.prog 173 [.p (.sl 8 (gG l)), .p (.prim (.func (.func 174) #[] #[]))] h fun o h'=>o= .ret (iA (-1))/\h'=h:=by
 have hkl:(gG l).length=l.length:=lT l;refine zE Tryz.func173 Tryz.ntmps173 ?_;refine wQ hkl ?_;refine Run.loopS [0,1,4,7] (fun j:Nat=>j<=l.length) (fun j=>l.length-j) (fun j=>[(8,iA j)]) (fun _=>h) 0 aA ?_ rfl ?_
 ·exact zS
 intro j hj IH;refine cK ?_
 by_cases hjl:j<l.length
 ·have hg1:l[j]?=some l[j]:=bLv hjl;have hcb:=fun g hw=>kM l[j] g hw
  rw[hk _ (bLy hjl),show bAm 0=false from rfl] at hcb;generalize l[j]=e at hg1 hcb;have hgt:(gG l)[j]?=some e.cells:=by rw[pA,hg1];rfl
  have hgq:=fun q=>pY hg1 q
  obtain⟨⟨k,n,qs⟩,⟨t0,t1,t2,t3,t4⟩⟩:=e;simp only[Eqn.av,Eqn.cells,pcells_mk,cells_mk,bLz,bM4,List.map] at hcb hgt hgq;refine lH hjl ?_;refine zr3 hgq hkl hjl ?_;refine zL (hcb _ hh) ?_;exact y40
 ·exact y51
theorem yT (e:Eqn)(hk:e.p.kind=0)(h:Heap)(hh:WF h):ACalls Tryz.prog 248 [e.av] h fun o h'=>o= .ret (.tup [e.t.av,bA true])/\h'=h:=by
 obtain⟨⟨k,n,qs⟩,⟨t0,t1,t2,t3,t4⟩⟩:=e;simp only[Pt.kind] at hk;subst hk;simp only[Eqn.av,Eqn.cells,pcells_mk,Tm.av,cells_mk,bLz,bM4,List.map];refine zER Tryz.func248 Tryz.ntmps248 ?_;refine Run.draw [0,0,0,0,0,0,0,1] [0,0,0,0,0,0,0,0] [0,1,0,4,12,28,3,127] [0,1,6,2,3,4,5,7] aC aC ?_;refine zd ?_;refine y8 ?_;refine znx ?_;exact y29
def aI9 (l:List Eqn)(j:Nat):List (List PV):=tmPs ((l.take j).map Eqn.t)
theorem aO7 (l:List Eqn):aI9 l 0=[]:=by simp[aI9,tmPs]
theorem aSf (l:List Eqn):aI9 l l.length=tmPs (l.map Eqn.t):=by rw[aI9,bMm]
theorem aO6 {l:List Eqn} {j:Nat} {e:Eqn} (h:l[j]?=some e):aI9 l (j+1)=aI9 l j++[e.t.cells]:=by
 unfold aI9;rw[bNh,h,tmPs_eq,tmPs_eq];simp
theorem aSg (l:List Eqn)(j:Nat)(hj:j<=l.length):(aI9 l j).length=j:=by
 unfold aI9;rw[tmPs_eq,bMp,bMp,bMn];omega
theorem aO5 (l:List Eqn)(j:Nat):∀e∈aI9 l j,e.length=5:=fun e he=>by
 unfold aI9 at he;rw[tmPs_eq] at he;obtain⟨t,_,rfl⟩:=bMr.1 he;cases t;rfl
theorem vP (l:List Eqn)(hl:l.length<=1000000)(hpos:0<l.length)(hk:∀e∈l,e.p.kind=0)(h:Heap)(hh:WF h):
  ACalls Tryz.prog 247 [.p (.sl 8 (gG l)), .p (.prim (.func (.func 248) #[] #[]))] h fun o h'=>∃cap,l.length<=cap/\o= .ret (.sm (h.length+1) 0 l.length cap 5)/\h'=h++[none,some (.cells (buf 5 (tmPs (l.map Eqn.t)) (cap-l.length)))]:=by
 have hkl:(gG l).length=l.length:=lT l;refine dE Tryz.func247 Tryz.ntmps247 ?_;refine Run.vecS 5 5 aA ?_;refine aAk hkl ?_;refine Run.loopS [0,1,4,10,11] (fun j:Nat=>j<=l.length) (fun j=>l.length-j) (fun j=>[(5, .vec h.length j),(12,iA j)]) (fun j=>h++[some (.vec 5 (aI9 l j))]) 0 aA ?_ (by simp[aO7]) ?_
 ·exact zS
 intro j hj IH;refine cK ?_
 by_cases hjl:j<l.length
 ·have hg1:l[j]?=some l[j]:=bLv hjl;have hcb:=fun g hw=>yT l[j] (hk _ (bLy hjl)) g hw
  generalize l[j]=e at hg1 hcb;have hgt:(gG l)[j]?=some e.cells:=by rw[pA,hg1];rfl
  have hgq:=fun q=>pY hg1 q
  obtain⟨⟨k,n,qs⟩,⟨t0,t1,t2,t3,t4⟩⟩:=e;have hsn:=aO6 hg1;have hll:=aSg l j hj;have h5:=aO5 l j;simp only[Eqn.av,Eqn.cells,pcells_mk,Tm.av,cells_mk,bLz,bM4,List.map] at hcb hgt hgq hsn;generalize aI9 l j=L at hsn hll h5⊢;refine nV hjl hgq hkl hjl ?_;refine zL (hcb _ (hh.app aA)) ?_;refine zor ?_;refine zt ?_;refine Run.regPre 3 fun K J=>?_
  refine yd ?_;simp;refine zi ?_;clear J;refine yb ?_;refine Run.appendV (id:=h.length) (es:=L) (ys:=[[iP t0,iP t1,sP t2, .sl 2 (lvPs t3), .sl 5 (tmPs t4)]]) (sz:=5) (by_:=80) (e:=26) rfl (by simp[awanted]) rfl rfl rfl rfl (by simp[hll]) (by simp[Heap.at]) h5 aA aA aA (by simp[hll];omega) (by simp[hll];omega) ?_;simp[hll];refine zor ?_;refine Run.keep [0,1,4,5,10,11,12] ?_;simp;refine yq ?_;refine IH (j+1) _ _ aB aB ?_ ?_
  ·exact zS
  ·simp[hsn]
 ·have hje:j=l.length:=aB;subst hje;have htl:=aSf l;refine znfen ?_
  refine Run.thawS 5 (id:=h.length) (n:=l.length) (sz:=5) (es:=tmPs (l.map Eqn.t)) aA (by simp[Heap.at,htl]) (fun e he=>by
   rw[tmPs_eq] at he;obtain⟨t,_,rfl⟩:=bMr.1 he;cases t;rfl) aA hpos fun cap hcap=>?_
  refine zsnrx ?_;have hbu:∀n,AV.underL n (buf 5 (tmPs (l.map Eqn.t)) (cap-l.length))=true:=fun n=>lO n 5 _ _
  exact aEc (h0:=h++[none,some (.cells (buf 5 (tmPs (l.map Eqn.t)) (cap-l.length)))]) aA aA (hh.app (by simp[AO.under,hbu])) (bM1 _).symm aE rfl (Weak.refl _) (by simp[AV.under]) ⟨cap,hcap,rfl,rfl⟩
open Go Go.AI
mutual
theorem aTo:∀(t:Tm)(dp m:Int),t.ok (m+dp)->0<=dp->m+dp+t.size<=65537->dQ 0 0 dp t=t/\bE 0 0 dp t=false
 | .mk k i n ls ks,dp,m,h,hd,hs=>by
  simp only[Tm.ok,Tm.okN] at h;simp only[Tm.size] at hs;simp only[dQ,bE]
  by_cases hk:k=0
  ·obtain⟨h1,h2,rfl,rfl,rfl⟩:=h.1.1 hk;subst hk;simp only[if_true];refine⟨?_,?_⟩
   ·split
    ·rfl
    ·simp[vr]
   ·by_cases c:i<0+dp
    ·simp;omega
    ·have:¬(65535:Int)<i+0:=aB;have c2:¬i+0<0+dp:=aB;simp only[c,c2,this,decide_false,Bool.or_self,Bool.and_false]
  ·simp only[hk,if_false];have:=aNq ks k dp m 0 (by simpa using h.2) hd aB;rw[this.1,this.2];exact⟨rfl,rfl⟩
theorem aNq:∀(l:List Tm)(k dp m:Int)(idx:Nat),Tm.oks (m+dp) k idx l->0<=dp->m+dp+1+Tm.sizes l<=65537->dH 0 0 dp k idx l=l/\aV 0 0 dp k idx l=false
 |[],k,dp,m,idx,_,_,_=>⟨rfl,rfl⟩
 |t::ts,k,dp,m,idx,h,hd,hs=>by
  simp only[Tm.oks] at h;simp only[Tm.sizes] at hs;have hz:=bL k idx;have h1:=aTo t (dp+aI k idx) m (by rw[<-Int.add_assoc];exact h.1) aB aB;have h2:=aNq ts k dp m (idx+1) h.2 hd (by have:=t.size_pos;omega);simp only[dH,aV,h1.1,h1.2,h2.1,h2.2];exact⟨trivial,rfl⟩
end
def zeroB (kn:List Bool)(va:List Tm)(t:Tm):Bool:=if t.kind≠0 then false else match kn[((kn.length:Int)-1-t.index).toNat]?,va[((kn.length:Int)-1-t.index).toNat]? with
 |some true,some v=>sameT v zT
 |_,_=>decide (t.index=0)
open Go Go.AI
def eC (n:Nat):List Tm:=(List.range n).map fun k:Nat=>vr ((n:Int)-1-k)
def fQ (n:Nat):List Eqn:=(List.range n).map fun k:Nat=>⟨zP,vr ((n:Int)-1-k)⟩
theorem kC (n:Nat):(fQ n).length=n:=by simp[fQ]
theorem aRf (n:Nat):(fQ n).map Eqn.t=eC n:=by simp[fQ,eC]
theorem qX (n:Nat):∀e∈fQ n,e.p.kind=0:=by
 intro e he;obtain⟨k,_,rfl⟩:=bMr.1 he
 rfl
theorem eN (n:Nat):(eC n).length=n:=by simp[eC]
theorem aJg {n:Nat} {v:Tm} (h:v∈eC n):∃k:Nat,k<n/\v=vr k:=by
 obtain⟨k,hk,rfl⟩:=bMr.1 h;have:=bN6.1 hk;exact⟨n-1-k,by omega,by congr 1;omega⟩
theorem aG3 (n:Nat)(hn:0<n):(eC n).reverse[n-1]?=some (vr ((n:Int)-1)):=by
 rw[List.getElem?_reverse (by rw[eN];omega),eN];simp[eC,hn]
theorem bE4 (k:Nat)(hk:k<=1000):(vr k).ok 65536/\(vr k).size<=4096:=by
 simp only[vr,Tm.ok,Tm.okN,Tm.oks,Tm.size,Tm.sizes];exact⟨⟨⟨fun _=>⟨by omega,by omega,trivial,trivial,trivial⟩,by simp,by simp,by simp⟩,trivial⟩,by omega⟩
theorem aRg (n:Nat)(hn:0<n)(h8:n<=1000)(h:Heap)(hh:WF h):ACalls Tryz.prog 205 [(vr ((n:Int)-1)).av, .p (.sl 5 (tmPs (eC n).reverse))] h fun o h'=>o= .ret (.tup [(vr ((n:Int)-1)).av,iA 0])/\h'=h:=by
 obtain⟨m,hm⟩:∃m:Nat,(n:Int)-1=m:=⟨n-1,by omega⟩;have hlast:=aG3 n hn;rw[hm] at hlast⊢;rw[show n-1=m by omega] at hlast;have hok:=bE4 m aB
 have c1:=(aCx (vr m) (eC n).reverse hok.1 hok.2 (by rw[List.length_reverse,eN];omega) (fun v hv=>by
  obtain⟨k,hk,rfl⟩:=aJg (List.mem_reverse.1 hv);exact bE4 k aB) h hh).1
 have hcap:cT 0=0:=by simp[cT]
 have hz:=aTo (vr m) 0 1001 (by
  simp only[vr,Tm.ok,Tm.okN,Tm.oks];exact⟨⟨fun _=>⟨by omega,by omega,trivial,trivial,trivial⟩,by simp,by simp,by simp⟩,trivial⟩) aB (by simp[vr,Tm.size,Tm.sizes])
 have e:aM (vr m) (eC n).reverse 0=(vr m,0):=by
  rw[jS _ _ _ aB,hcap];have hz1:=hz.1;have hz2:=hz.2;simp only[vr] at hlast hz1 hz2⊢;have e1:cR (eC n).reverse 0 (.mk 0 m [] [] [])=1:=by simp[cR,hlast,Tm.size,Tm.sizes]
  have e2:fE (eC n).reverse 0 (.mk 0 m [] [] [])=false:=by simp[fE,hlast,hz2]
  have e3:aIq (eC n).reverse 0 (.mk 0 m [] [] [])= .mk 0 m [] [] []:=by simp[aIq,hlast,hz1]
  rw[zM,e1,e2,e3,if_neg aB,if_neg aA,if_neg (by simp[Tm.depth,Tm.depths])]
 rw[e] at c1;exact c1
abbrev aH8 (i:Int):AV:= .agg [iA 0,iA 0,iA i, .p (sP []), .p (.sl 2 (lvPs [])), .p (.sl 5 (tmPs [])),iA 0, .p (.prim (.slice none 0 0))]
abbrev oT (L:List Bool):Option AO:=some (.cells (L.map bA))
theorem aCd (env:List Dc)(cls:List Cl)(ps:List Pt)(n:Nat)(hn:0<n)(hn8:n<=1000)(hc0:cls[0]?=some ⟨ps,vr ((n:Int)-1)⟩)(ar nodes sh:Int)(w:AV)(q id N:Nat)(L:List Bool)(hL:L.length=N)(hN:0<N)(h:Heap)(hh:WF h)
  (hq:h[q]?=some (fL env cls ar nodes (.sm id 0 N N 1) w sh)) (hid:h[id]?=some (oT L)) (hne:q≠id):
  ACalls Tryz.prog 176 [.ptr q 0,(Rw.mk 0 (fQ n)).av] h fun o h'=>o= .ret (aH8 ((n:Int)-1))/\h'=h.set id (oT (L.set 0 true)):=by
 obtain⟨q1,q2,q3,q4,q5,qlt⟩:=idf hq;have hB:(L.map bA).set 0 (bA true)=(L.set 0 true).map bA:=by rw[List.map_set]
 have hbu:∀(L:List Bool) n,AV.underL n (L.map bA)=true:=fun L n=>by
  induction L with
  |nil=>rfl
  |cons a S ih=>simp only[bMd,AV.underL,AV.under,ih];rfl
 have hbu2:=hbu (L.set 0 true);have hL1:1<=(L.map bA).length:=by rw[bMp];omega
 change h[id]?=some (some (.cells (L.map bA))) at hid;change ACalls Tryz.prog 176 _ h fun o h'=>o= .ret (aH8 ((n:Int)-1))/\h'=h.set id (some (.cells ((L.set 0 true).map bA)))
 generalize (L.set 0 true).map bA=B2 at hB hbu2⊢;generalize L.map bA=B at hB hid hL1;clear hbu;obtain⟨i1,i2,i3,i4,i5,ilt⟩:=idf hid;obtain⟨G,hG⟩:∃G,h.set id (some (.cells B2))=G:=⟨_,rfl⟩;have hGl:h.length=G.length:=by rw[<-hG];simp
 have hGw:WF G:=by rw[<-hG];exact hh.set (by show AV.underL _ _=true;exact hbu2 _)
 have hGq:G[q]?=some (fL env cls ar nodes (.sm id 0 N N 1) w sh):=by rw[<-hG,bMl (fun e=>hne e.symm)];exact hq
 obtain⟨r1,r2,r3,r4,r5,rlt⟩:=idf hGq;have c1:=fun g hw=>vP (fQ n) (by rw[kC];omega) (by rw[kC];omega) (qX n) g hw
 rw[kC,aRf] at c1;have c2:=fun(g:Heap) (hw:WF g) (id' cap m:Nat) (hid':g[id']?=some (row (eC n) m))=>reverse_any g hw (eC n) id' cap m (by rw[eN];omega) hid'
 rw[eN] at c2;have c3:=fun g hw=>aRg n hn hn8 g hw
 have hcc:∀x:Int,(Cl.mk ps (vr x)).cells=[.sl 3 (ptPs ps),iP 0,iP x,sP [], .sl 2 (lvPs []), .sl 5 (tmPs [])]:=fun x=>by simp[Cl.cells,vr]
 have hcl:0<cls.length:=(bLw.1 hc0).1;have hcg:∀q:0<cls.length,cls[0]'q=⟨ps,vr ((n:Int)-1)⟩:=fun q=>by rw[bLv q] at hc0;exact bNg hc0
 generalize ((n:Int)-1)=x at c3 hcg hc0⊢;have hdl:(eC n).length=n:=eN n;have hrl:(eC n).reverse.length=n:=by rw[List.length_reverse,eN]
 generalize hW:(eC n).reverse=W at c2 c3 hrl;generalize hV:eC n=V at c1 c2 hdl;simp only[vr,Tm.av,cells_mk,List.map] at c3;simp only[Rw.av,Rw.cells,List.map];have hN1:1<=N:=hN;refine zER Tryz.func176 Tryz.ntmps176 ?_;refine Run.draw [0,0,0,0,0,0,0,0] [0,0,0,0,0,0,0,0] [0,1,3,7,0,16,63,127] [0,1,2,3,4,5,6,7] aC aC ?_;refine zd6 q1 i1 i2 hN hL1 hB ?_;refine y8 ?_;refine nv ?_;rw[hG];simp only[hGl];refine znr ?_;refine Run.call rfl aF aA rfl (c1 _ (hGw.app aA)) ?_ ?_
 rotate_left
 ·rintro v h' ⟨cap,_,hv,_⟩;cases hv
 rintro v h' ⟨cap,hcap,hv,rfl⟩;simp only[AOut.ret.injEq] at hv;subst hv;have hbr:∀k,AV.underL k (buf 5 (tmPs V) (cap-n))=true:=fun k=>lO k 5 _ _
 have hbw:∀k,AV.underL k (buf 5 (tmPs W) (cap-n))=true:=fun k=>lO k 5 _ _
 refine zor ?_;refine rl (args:=[.sm (G.length+3) 0 n cap 5]) rfl aF aA rfl (c2 _ (hGw.app (by simp[AO.under,hbr])) (G.length+3) cap (cap-n) (by simp[row])) ?_;refine zo ?_
 refine Run.freezeS 5 (id:=G.length+3) (n:=n) (cap:=cap) (sz:=5) (m:=cap-n) (es:=tmPs W) aA (by simp[Heap.at,row]) (fun e he=>by
  rw[tmPs_eq] at he;obtain⟨t,_,rfl⟩:=bMr.1 he;cases t;rfl) (by simp[hrl]) aB ?_
 refine zsn ?_;refine NB.Run.drawP (pc:=[10]) [0,0,0,0,0,0,0,0,0,0,0,0,0,0,0,1,2] [0,0,0,0,0,0,0,0,0,0,0,0,0,0,0,1,0] [0,1,3,7,0,16,63,127,255,0,1023,2047,4095,4095,0,24575,65535] [14,0,1,2,3,4,5,6,7,8,9,10,11,12,15,13,16] aC aC ?_;refine bLm hcg hcl hcc ?_;refine NB.DR.pcall rfl rfl rfl aA rfl rfl (fun g hg=>c3 g ?_) ?_
 ·simp at hg;(first|(rcases hg with rfl|rfl|rfl)|(rcases hg with rfl|rfl)|subst hg)<;>exact hGw.app aA
 refine zp ?_;refine y8 ?_;refine znr ?_;refine zL (iB _ (hGw.app aA)) ?_;refine zorx ?_;refine zF1 hGw ?_;exact⟨rfl,rfl⟩
open Go Go.AI
structure Pb where
 ty:List Tm
 kn:List Bool
 va:List Tm
 tg:Tm
abbrev bEg (l:List Bool):List (List PV):=l.map fun b=>[bP b]
abbrev Pb.cells (p:Pb):List AV:= .p (.sl 5 (tmPs p.ty)):: .p (.sl 1 (bEg p.kn)):: .p (.sl 5 (tmPs p.va))::p.tg.cells.map .p
abbrev Pb.av (p:Pb):AV:= .agg p.cells
abbrev zPb:Pb:=⟨[],[],[],zT⟩
theorem aMd (h:Heap)(hh:WF h)(t:Tm):ACalls Tryz.prog 167 [t.av,iA 0] h fun o h'=>o= .ret t.av/\h'=h:=by
 obtain⟨k,i,n,ls,ks⟩:=t;simp only[Tm.av,cells_mk,List.map];refine dE Tryz.func167 Tryz.ntmps167 ?_;refine zf ?_;refine yi ?_;exact y29
theorem aC2 (h:Heap)(hh:WF h)(p:Nat):ADef Tryz.prog 235 [.ptr p 0] none h h:=by
 refine ADef.of_run Tryz.func235 rfl rfl rfl fun K J=>?_
 simp only[Tryz.ntmps235,bM2,bM3];exact y2k
theorem yK (i:FuncId)(hi:aK Tryz.prog i=true)(cap:List AV)(H G:Heap)(hGw:WF G)(hGl:G.length=H.length)(_hH:WF H)
  (_hcap:∀x∈cap,x.under H.length=true)
  (c1:ACalls Tryz.prog i cap (H++[some (.cells [iA 0])]) fun o h'=>o= .ret (.tup [])/\h'=G++[some (.cells [iA 0])]):
  ACalls Tryz.prog 163 [.fn (.func i) [] cap] H fun o h'=>o= .ret (iA 0)/\h'=G:=by
 refine ACalls.of_runD Tryz.func163 rfl ?_;simp only[Tryz.ntmps163,bM2,bM3];refine znr ?_;refine Run.regPre 1 fun K J=>?_
 refine yd ?_;simp;refine zi ?_;clear J;refine yb ?_;refine Run.defer (i:=235) (first:=[]) (cap:=[.ptr H.length 0]) rfl rfl rfl aA ?_;refine zor ?_;refine rl (args:=cap) rfl rfl aA hi c1 ?_;have g1:∀(l:Heap),(G++l)[H.length]?=l[0]?:=fun l=>by rw[bN8 aB,hGl,Nat.sub_self]
 have g2:∀(l:Heap) o,(G++l).set H.length o=G++l.set 0 o:=fun l o=>by rw[bNf _ _ aB,hGl,Nat.sub_self]
 refine zo ?_;refine zr2 g2 hGl ?_;refine zx ?_;simp only[wX];refine⟨by simp,rfl,_,aC2 _ (hGw.app (by simp[hGl])) H.length,?_⟩;exact y70
open Go Go.AI
theorem aD0 (env:List Dc)(hg:Env.good env)(hsh:Env.short env)(cls:List Cl)(n:Nat)(hn:0<n)(hn8:n<=1000)(hc0:cls[0]?=some ⟨List.replicate n zP,vr ((n:Int)-1)⟩)(p:Pb)(rows:List Rw)(hr:∀r∈rows,r.vars/\r.es.length<=1048576)(hrl:rows.length<=1048576)(hr0:rows[0]?=some ⟨0,fQ n⟩)
  (ar nodes sh:Int) (hnd:0<=nodes/\nodes<4096) (w:AV) (hwu:∀k,w.under k=true) (q id N:Nat) (L:List Bool) (hL:L.length=N) (hN:0<N) (h:Heap) (hh:WF h)
  (hq:h[q]?=some (fL env cls ar nodes (.sm id 0 N N 1) w sh)) (hid:h[id]?=some (oT L)) (hne:q≠id):
  ACalls Tryz.prog 102 [.ptr q 0,p.av, .p (.sl 2 (jV rows))] h fun o h'=>o= .ret (aH8 ((n:Int)-1))/\h'=(h.set q (fL env cls ar (nodes+1) (.sm id 0 N N 1) w sh)).set id (oT (L.set 0 true)):=by
 obtain⟨q1,q2,q3,q4,q5,qlt⟩:=idf hq;have ilt:=(bLw.1 hid).1;obtain⟨G,hG⟩:∃G,h.set q (fL env cls ar (nodes+1) (.sm id 0 N N 1) w sh)=G:=⟨_,rfl⟩;have hGl:h.length=G.length:=by rw[<-hG];simp
 have hGw:WF G:=by rw[<-hG];exact hh.set (by simp[AO.under,AV.under,hwu];omega)
 have hGq:G[q]?=some (fL env cls ar (nodes+1) (.sm id 0 N N 1) w sh):=by rw[<-hG];exact q3 _
 have hGi:G[id]?=some (oT L):=by rw[<-hG,bMl hne];exact hid
 obtain⟨r1,r2,r3,r4,r5,rlt⟩:=idf hGq;obtain⟨s1,s2,s3,s4,s5,slt⟩:=idf hGi;have c1:=fun(l:Heap) (hw:WF (G++l))=>vO env hg hsh cls ar (nodes+1) sh (.sm id 0 N N 1) w rows hr hrl q (G++l) hw (r1 l)
 have c2:=fun g hw=>wZ n aB g hw
 have c3:=fun g hw=>aLq (fQ n) (by rw[kC];omega) (qX n) g hw
 have c4:=fun(l:Heap) (hw:WF (G++l))=>aCd env cls (List.replicate n zP) n hn hn8 hc0 ar (nodes+1) sh w q id N L hL hN (G++l) hw (r1 l) (s1 l) hne
 simp only[s2] at c4;rw[hG];obtain⟨G2,hG2⟩:∃G2,G.set id (oT (L.set 0 true))=G2:=⟨_,rfl⟩;rw[hG2] at c4⊢;have hG2l:G.length=G2.length:=by rw[<-hG2];simp
 have hbu:∀(L:List Bool) n,AV.underL n (L.map bA)=true:=fun L n=>by
  induction L with
  |nil=>rfl
  |cons a S ih=>simp only[bMd,AV.underL,AV.under,ih];rfl
 have hG2w:WF G2:=by rw[<-hG2];exact hGw.set (by show AV.underL _ _=true;exact hbu _ _)
 have hrg:∀q:0<(jV rows).length,(jV rows)[0]'q=[iP 0, .sl 8 (gG (fQ n))]:=fun q=>zR hr0 q
 have hrgt:(jV rows)[0]?=some [iP 0, .sl 8 (gG (fQ n))]:=by rw[wA,hr0];rfl
 have hrp:0<(jV rows).length:=(bLw.1 hrgt).1;have hrp0:¬(jV rows).length=0:=aB;have hcc:∀x:Int,(Cl.mk (List.replicate n zP) (vr x)).cells=[.sl 3 (ptPs (List.replicate n zP)),iP 0,iP x,sP [], .sl 2 (lvPs []), .sl 5 (tmPs [])]:=fun x=>by simp[Cl.cells,vr]
 have hcl:0<cls.length:=(bLw.1 hc0).1;have hcg:∀q:0<cls.length,cls[0]'q=⟨List.replicate n zP,vr ((n:Int)-1)⟩:=fun q=>by rw[bLv q] at hc0;exact bNg hc0
 generalize ((n:Int)-1)=x at c4 hcg hc0⊢;simp only[Rw.av,Rw.cells,List.map] at c4;generalize hE:gG (fQ n)=E at c3 c4 hrg hrgt;generalize hZ:List.replicate n zP=Z at c2 hcc hcg hc0;generalize hR:jV rows=R at c1 hrg hrgt hrp hrp0;have hn1:¬(4096:Int)<nodes+1:=aB;have hw1:IntKind.i64.wrap (nodes+1)=nodes+1:=wrap_id aB aB;obtain⟨ty,kn,va,⟨d0,d1,d2,d3,d4⟩⟩:=p;refine zER Tryz.func102 Tryz.ntmps102 ?_;refine zr3 q1 q2 hw1 ?_;rw[hG];simp only[hGl];refine zn ?_;refine bLo hn1 ?_;refine yl ?_;refine rl (args:=[.p (.sl 2 R), .fn (.func 170) [.ptr q 0] []]) rfl aF aA rfl (c1 _ (hGw.app aA)) ?_;refine zor ?_;refine zf1 hrp0 ?_;refine zr2 hrg hrp ?_;refine Run.draw [0,0,0,0,0,0,0,0,0,0] [0,0,0,0,0,0,0,0,0,0] [0,1,3,7,0,16,63,127,255,511] [0,1,2,3,4,5,6,7,8,9] aC aC ?_;refine bLh hcg hcl hcc ?_;refine DR.call rfl rfl rfl aA rfl (c2 _ (hGw.app aA)) ?_;refine zd ?_;refine y8 ?_;refine aIr ?_;refine zL (c3 _ (hGw.app aA)) ?_;refine zorfr ?_;refine zL (c4 _ (hGw.app aA)) ?_;simp only[hG2l];refine zox ?_;exact Fin.ret' (h0:=G2) aA rfl hG2w rfl aE rfl (Weak.refl _) aA ⟨rfl,rfl⟩
open Go Go.AI
theorem vS:∀l:List Pt,l.length<=Pt.sizes l
 |[]=>by simp
 |p::l=>by have:=vS l;have:=p.size_pos;simp only[Pt.sizes,bM2];omega
end Go.Proofs.YtplomildbmcmfaaGreat
