import Derived.Test.YtplomildbmcmfaaGreatZA0
import Derived.Test.YtplomildbmcmfaaGreatZPQ
import Derived.Test.YtplomildbmcmfaaGreatZX14
import Derived.Test.YtplomildbmcmfaaGreatZFQ
import Derived.Test.YtplomildbmcmfaaGreatZFD
set_option maxRecDepth 8000
set_option maxHeartbeats 8000000
namespace Go.Proofs.YtplomildbmcmfaaGreat
open Go Go.AI
theorem aNj (h:Heap)(hh:WF h)(p:Nat):ADef Tryz.prog 133 [.ptr p 0] none h h:=by
 refine ADef.of_run Tryz.func133 rfl rfl rfl fun K J=>?_
 simp only[Tryz.ntmps133,bM2,bM3];exact y2k
section
variable (env:List Dc) (t t':Tm) (s':Int)
def uQ:Prop:=∀(H:Heap)(q:Nat),WF H->H[q]?=some (some (.cells [eU env,iA 20000]))->ACalls Tryz.prog 135 [.ptr q 0,t.av] H fun o h'=>o= .ret t'.av/\h'=H.set q (some (.cells [eU env,iA s']))
theorem aOk (hc:uQ env t t' s')(H:Heap)(hh:WF H)(q p r:Nat)(hq:H[q]?=some (some (.cells [eU env,iA 20000])))(hp:H[p]?=some (some (.cells (t.cells.map .p)))) {a b c d e:AV} (hr:H[r]?=some (some (.cells [a,b,c,d,e])))(hqr:q≠r):
  ACalls Tryz.prog 210 [.ptr q 0, .ptr p 0, .ptr r 0] H fun o h'=>o= .ret (.tup [])/\h'=(H.set q (some (.cells [eU env,iA s']))).set r (some (.cells (t'.cells.map .p))):=by
 have c1:=hc H q hh hq;have hrl:=(bLw.1 hr).1;have hr2:(H.set q (some (.cells [eU env,iA s'])))[r]?=some (some (.cells [a,b,c,d,e])):=by rw[bMl hqr];exact hr
 obtain⟨k,i,nm,ls,ks⟩:=t;obtain⟨k2,i2,nm2,ls2,ks2⟩:=t';simp only[Tm.av,cells_mk,List.map] at c1 hp⊢;refine zE Tryz.func210 Tryz.ntmps210 ?_;refine sD hp ?_;refine zL (c1) ?_;refine zo1 hr2 ?_;refine Run.nil ?_;exact Fin.ret' aA aA ((hh.set aA).set aA) (bM1 _).symm rfl rfl (Weak.refl _) rfl ⟨rfl,rfl⟩
theorem aHt (hc:uQ env t t' s')(H:Heap)(hh:WF H)(p r:Nat)(hp:H[p]?=some (some (.cells (t.cells.map .p)))) {a b c d e:AV} (hr:H[r]?=some (some (.cells [a,b,c,d,e]))):
  ACalls Tryz.prog 79 [eU env, .fn (.func 210) [] [.ptr p 0, .ptr r 0]] H fun o h'=>o= .ret (iA 0)/\h'=H.set r (some (.cells (t'.cells.map .p))):=by
 have hpl:=(bLw.1 hp).1;have hrl:=(bLw.1 hr).1;have c1:=aOk env t t' s' hc (H++[some (.cells [iA 0]),some (.cells [eU env,iA 20000])]) (hh.app aA) (H.length+1) p r aA (by rw[bM9 hpl];exact hp) (by rw[bM9 hrl];exact hr) aB
 have hs1:((H++[some (AO.cells [iA 0]),some (AO.cells [eU env,iA 20000])]).set (H.length+1) (some (AO.cells [eU env,iA s']))).set r (some (AO.cells (t'.cells.map .p)))=H.set r (some (AO.cells (t'.cells.map .p)))++[some (AO.cells [iA 0]),some (AO.cells [eU env,iA s'])]:=by
  have e1:(H++[some (AO.cells [iA 0]),some (AO.cells [eU env,iA 20000])]).set (H.length+1) (some (AO.cells [eU env,iA s']))=H++[some (AO.cells [iA 0]),some (AO.cells [eU env,iA s'])]:=aA;rw[e1,bMq _ _ hrl]
 rw[hs1] at c1;refine ACalls.of_runD Tryz.func79 rfl ?_;simp only[Tryz.ntmps79,bM2,bM3];refine znr ?_;refine Run.regPre 1 fun K J=>?_
 refine yd ?_;simp;refine zi ?_;clear J;refine yb ?_;refine Run.defer (i:=133) (first:=[]) (cap:=[.ptr H.length 0]) rfl rfl rfl aA ?_;refine zor ?_;refine rl (args:=[.ptr (H.length+1) 0, .ptr p 0, .ptr r 0]) rfl rfl aA rfl c1 ?_;have g1:∀(G l:Heap),G.length=H.length->(G++l)[H.length]?=l[0]?:=fun G l e=>by rw[bN8 aB,e,Nat.sub_self]
 have g2:∀(G l:Heap) o,G.length=H.length->(G++l).set H.length o=G++l.set 0 o:=fun G l o e=>by rw[bNf _ _ aB,e,Nat.sub_self]
 generalize hG:H.set r (some (.cells (t'.cells.map .p)))=G;have hGl:G.length=H.length:=by rw[<-hG];simp
 have hGw:WF G:=by rw[<-hG];exact hh.set aA
 refine zo ?_;refine zr2 g2 hGl ?_;refine zx ?_;simp only[wX];refine⟨by simp,rfl,_,aNj _ (hGw.app (by simp[hGl])) H.length,?_⟩;exact y70
theorem aDa (hc:uQ env t t' s')(h:Heap)(hh:WF h):
  ACalls Tryz.prog 143 [eU env,t.av] h fun o h'=>o= .ret (.tup [t'.av,iA 0])/\h'=h:=by
 have c1:=aHt env t t' s' hc (h++[some (AO.cells (t.cells.map .p)),some (AO.cells zTm),some (AO.cells zTm)]) (hh.app aA) h.length (h.length+2) aA (by simp;exact⟨rfl,rfl,rfl,rfl,rfl⟩);obtain⟨k,i,nm,ls,ks⟩:=t;obtain⟨k2,i2,nm2,ls2,ks2⟩:=t';simp only[Tm.av,cells_mk,List.map] at c1⊢;refine zE Tryz.func143 Tryz.ntmps143 ?_;refine sE ?_;refine zL (c1) ?_;refine zorfr ?_;refine zx ?_;exact y29
end
open Go Go.AI
abbrev aQ0 (e:Int):PV:= .ifc 176 (iP e)
theorem iB (h:Heap)(hh:WF h):ACalls Tryz.prog 98 [iA 0] h fun o h'=>o= .ret (.tup [])/\h'=h:=by
 refine zER Tryz.func98 Tryz.ntmps98 ?_;refine zf ?_;refine Run.nil ?_;refine zF3 hh ?_;exact⟨rfl,rfl⟩
theorem jI (h:Heap)(hh:WF h)(e:Int)(he:e≠0):ACalls Tryz.prog 98 [iA e] h fun o h'=>o= .panic (.p (aQ0 e))/\h'=h:=by
 have heb:(e !=(0:Int))=true:=by simpa using he
 refine zE Tryz.func98 Tryz.ntmps98 ?_;refine znr1tr heb ?_;refine Run.panic (t:=176) (y:=iP e) rfl rfl aA ?_;exact Fin.pan (h0:=h) aA hh (bM1 _).symm ⟨rfl,rfl⟩
structure Eqn where
 p:Pt
 t:Tm
def Eqn.cells (e:Eqn):List PV:=e.p.cells++e.t.cells
abbrev Eqn.av (e:Eqn):AV:= .agg (e.cells.map .p)
def gG (l:List Eqn):List (List PV):=l.map Eqn.cells
theorem lT (l:List Eqn):(gG l).length=l.length:=by simp[gG]
theorem pA (l:List Eqn)(j:Nat):(gG l)[j]?=(l[j]?).map Eqn.cells:=by simp[gG]
theorem pY {l:List Eqn} {j:Nat} {e:Eqn} (h:l[j]?=some e)(q:j<(gG l).length):(gG l)[j]'q=e.cells:=by
 have:=pA l j;rw[h,bLv q] at this;exact bNg this
theorem yA (l:List Eqn)(e:Eqn):gG (l++[e])=gG l++[e.cells]:=by simp[gG]
structure Rw where
 c:Int
 es:List Eqn
def Rw.cells (r:Rw):List PV:=[iP r.c, .sl 8 (gG r.es)]
abbrev Rw.av (r:Rw):AV:= .agg (r.cells.map .p)
def jV (l:List Rw):List (List PV):=l.map Rw.cells
theorem wB (l:List Rw):(jV l).length=l.length:=by simp[jV]
theorem wA (l:List Rw)(j:Nat):(jV l)[j]?=(l[j]?).map Rw.cells:=by simp[jV]
theorem zR {l:List Rw} {j:Nat} {e:Rw} (h:l[j]?=some e)(q:j<(jV l).length):(jV l)[j]'q=e.cells:=by
 have:=wA l j;rw[h,bLv q] at this;exact bNg this
theorem zU (l:List Rw)(e:Rw):jV (l++[e])=jV l++[e.cells]:=by simp[jV]
def bAm (k:Int):Bool:=k==1||k==3
theorem kM (e:Eqn)(h:Heap)(hh:WF h):ACalls Tryz.prog 174 [e.av] h fun o h'=>o= .ret (bA (bAm e.p.kind))/\h'=h:=by
 obtain⟨⟨k,n,qs⟩,⟨t0,t1,t2,t3,t4⟩⟩:=e;simp only[Eqn.av,Eqn.cells,pcells_mk,cells_mk,bLz,bM4,List.map,Pt.kind]
 by_cases h1:k=1
 ·have b1:(k==(1:Int))=true:=by simpa using h1
  refine zE Tryz.func174 Tryz.ntmps174 ?_;refine wQ b1 ?_;refine zx ?_;refine zF1 hh ?_;exact⟨by simp[bAm,h1],rfl⟩
 ·have b1:(k==(1:Int))=false:=by simpa using h1
  have b3:(k==(3:Int))=decide (k=3):=rfl;refine zER Tryz.func174 Tryz.ntmps174 ?_;refine zr2 b1 b3 ?_;refine zx ?_;refine zF1 hh ?_;exact⟨by simp[bAm,b1,b3],rfl⟩
abbrev fL (env:List Dc)(cls:List Cl)(ar nodes:Int)(rs w:AV)(sh:Int):Option AO:=some (.cells [eU env, .p (.sl 6 (clPs cls)),iA ar,iA nodes,rs,w,iA sh])
theorem aDc (env:List Dc)(hg:Env.good env)(hn:Env.short env)(i:Int)(h:Heap)(hh:WF h):ACalls Tryz.prog 143 [eU env,(vr i).av] h fun o h'=>o= .ret (.tup [(vr i).av,iA 0])/\h'=h:=by
 refine aDa env (vr i) (vr i) 20000 (fun H q hw hq=>?_) h hh;refine(wM env hg hn (vr i) ?_ q 20000 H hw hq).mono ?_
 ·have hs:bN (vr i)=(vr i,[]):=by simp[bN,vr,Tm.size,Tm.sizes,spG,isB]
  refine⟨by simp[vr,Tm.size,Tm.sizes],by rw[hs];simp,?_⟩;rw[hs];simp[vr]
 ·rintro o h' ⟨rfl,rfl⟩;exact⟨rfl,(iM hq).symm⟩
theorem aDb (env:List Dc)(hg:Env.good env)(hn:Env.short env)(cls:List Cl)(ar nodes sh:Int)(rs w:AV)(i:Int)(q:Nat)(h:Heap)(hh:WF h)(hq:h[q]?=some (fL env cls ar nodes rs w sh)):
  ACalls Tryz.prog 243 [.ptr q 0,(vr i).av] h fun o h'=>o= .ret (vr i).av/\h'=h:=by
 obtain⟨q1,q2,q3,q4,q5,qlt⟩:=idf hq;have c1:=fun g hw=>aDc env hg hn i g hw
 simp only[vr,Tm.av,cells_mk,List.map] at c1⊢;refine zER Tryz.func243 Tryz.ntmps243 ?_;refine NB.Run.drawP (pc:=[5]) [0,0,0,0,0,0,0,0,0,0,1,2] [0,0,0,0,0,0,0,0,0,0,1,0] [0,1,3,7,0,31,63,127,127,0,767,2047] [9,0,1,2,3,4,5,6,7,10,8,11] aC aC ?_;refine zp1 q1 ?_;refine NB.DR.pcall rfl rfl rfl aA rfl rfl (fun g hg=>(c1) g ?_) ?_
 ·exact y2o
 refine zp ?_;refine y8 ?_;refine znr ?_;refine zL (iB _ (hh.app aA)) ?_;refine zorx ?_;exact y29
theorem aB8 (i:Int)(q:Nat)(h:Heap)(hh:WF h):ACalls Tryz.prog 297 [.ptr q 0,(vr i).av] h fun o h'=>o= .ret (.tup [.p (sP []), .p (.prim (.slice none 0 0)),bA false])/\h'=h:=by
 have c1:=fun g hw=>rJ g hw (vr i) (by simp[vr,Tm.size,Tm.sizes])
 have hs:bN (vr i)=(vr i,[]):=by simp[bN,vr,Tm.size,Tm.sizes,spG,isB]
 rw[hs] at c1;simp only[vr,Tm.av,cells_mk,List.map] at c1⊢;refine dE Tryz.func297 Tryz.ntmps297 ?_;refine zL (c1 _ (hh.app aA)) ?_;refine sF ?_;exact y29
theorem rI (env:List Dc)(hg:Env.good env)(hn:Env.short env)(cls:List Cl)(ar nodes sh:Int)(rs w:AV)(p:Pt)(i:Int)(q:Nat)(h:Heap)(hh:WF h)(hq:h[q]?=some (fL env cls ar nodes rs w sh)):
  ACalls Tryz.prog 239 [.ptr q 0,(Eqn.mk p (vr i)).av] h fun o h'=>o= .ret (.tup [.p (.sl 8 [(Eqn.mk p (vr i)).cells]),bA true])/\h'=h:=by
 obtain⟨q1,q2,q3,q4,q5,qlt⟩:=idf hq;have c1:=fun g hw=>kM ⟨p,vr i⟩ g hw
 have c2:=fun(l:Heap) (hw:WF (h++l))=>aDb env hg hn cls ar nodes sh rs w i q (h++l) hw (q1 l)
 have c3:=fun g hw=>aB8 i q g hw
 obtain⟨k,n,qs⟩:=p;simp only[Eqn.av,Eqn.cells,pcells_mk,vr,Tm.av,cells_mk,bLz,bM4,List.map,Pt.kind] at c1 c2 c3⊢;generalize bAm k=b at c1
 cases b with
 |false=>
  refine dE Tryz.func239 Tryz.ntmps239 ?_;refine zL (c1 _ (hh.app aA)) ?_;refine zot ?_;refine yi ?_;exact y29
 |true=>
  refine dE Tryz.func239 Tryz.ntmps239 ?_;refine zL (c1 _ (hh.app aA)) ?_;refine zofr ?_;refine zL (c2 _ (hh.app aA)) ?_;refine zo ?_;refine zL (c3 _ (hh.app aA)) ?_;refine sF ?_;exact y29
open Go Go.AI
def Rw.vars (r:Rw):Prop:=∀e∈r.es,∃i,e.t=vr i
theorem nQ (env:List Dc)(hg:Env.good env)(hn:Env.short env)(cls:List Cl)(ar nodes sh:Int)(rs w:AV)(r:Rw)(hr:r.vars)(hl:r.es.length<=1048576)(q:Nat)(h:Heap)(hh:WF h)(hq:h[q]?=some (fL env cls ar nodes rs w sh)):
  ACalls Tryz.prog 170 [.ptr q 0,r.av] h fun o h'=>o= .ret (.tup [r.av,bA true])/\h'=h:=by
 obtain⟨q1,q2,q3,q4,q5,qlt⟩:=idf hq;have c1:=fun(p:Pt) (i:Int) (l:Heap) (hw:WF (h++l))=>rI env hg hn cls ar nodes sh rs w p i q (h++l) hw (q1 l)
 obtain⟨c,es⟩:=r;simp only[Rw.vars] at hr;simp only at hl;have hkl:(gG es).length=es.length:=lT es;simp only[Rw.av,Rw.cells,List.map];refine dE Tryz.func170 Tryz.ntmps170 ?_;refine Run.tokAt (h.length+2) 1 8 (cs:=[iA c, .p (.prim (.slice none 0 0))]) (by simp[Heap.at]) rfl ?_;refine aAk hkl ?_;refine Run.loopS [0,3,4,5,6,15,16] (fun j:Nat=>j<=es.length) (fun j=>es.length-j) (fun j=>[(17,iA j)]) (fun j=>h++[some (.cells [iA c, .p (.sl 8 (gG es))]),some (.cells [iA 0, .p (.prim (.slice none 0 0))]),some (.cells [iA c, .own (h.length+3) 8 (gG (es.take j))]),some (.tok j 8)]) 0 aA ?_ (by simp[gG]) ?_
 ·exact zS
 intro j hj IH;refine cK ?_
 by_cases hjl:j<es.length
 ·have hg1:es[j]?=some es[j]:=bLv hjl;obtain⟨i,hi⟩:=hr _ (bLy hjl);have htk:es.take (j+1)=es.take j++[es[j]]:=bM6 hjl;generalize es[j]=e at hg1 hi htk;have hgq0:=pY hg1;obtain⟨p,t⟩:=e;simp only at hi;subst hi;have c1':=c1 p i;obtain⟨k,n,qs⟩:=p;have hcl:(Eqn.mk (.mk k n qs) (vr i)).cells=[iP k,sP n, .sl 3 (ptPs qs),iP 0,iP i,sP [], .sl 2 (lvPs []), .sl 5 (tmPs [])]:=by simp[Eqn.cells,pcells_mk,vr]
  simp only[Eqn.av,hcl,List.map] at c1';have hgq:∀q:j<(gG es).length,(gG es)[j]'q=[iP k,sP n, .sl 3 (ptPs qs),iP 0,iP i,sP [], .sl 2 (lvPs []), .sl 5 (tmPs [])]:=fun q=>by rw[hgq0 q,hcl]
  have hgt:(gG es)[j]?=some [iP k,sP n, .sl 3 (ptPs qs),iP 0,iP i,sP [], .sl 2 (lvPs []), .sl 5 (tmPs [])]:=by rw[pA,hg1,<-hcl];rfl
  have hsn:gG (es.take (j+1))=gG (es.take j)++[[iP k,sP n, .sl 3 (ptPs qs),iP 0,iP i,sP [], .sl 2 (lvPs []), .sl 5 (tmPs [])]]:=by rw[htk,yA,hcl]
  have hll:(gG (es.take j)).length=j:=by rw[lT,bMn];omega
  have hb1:(j+1)*128<=140737488355328:=aB;have hb2:j+1<=9223372036854775807:=aB;generalize gG (es.take j)=L at hsn hll⊢;generalize hE:gG es=E at hkl hgq hgt c1'⊢;refine nV hjl hgq hkl hjl ?_;refine zL (c1' _ (hh.app aA)) ?_;refine zor ?_;refine zf ?_;refine zr3 hll hb1 hb2 ?_;refine zr ?_;subst hE;refine Run.keep [0,3,4,5,6,15,16,17] ?_;simp;refine Run.cutAt 4 hh rfl aB aA (by simp;omega) aA rfl ?_;refine IH (j+1) _ _ aB aB ?_ ?_
  ·exact zS
  ·simp[hsn]
 ·have hje:j=es.length:=aB;subst hje;have htl:=bMm (l:=es);refine znfenrx ?_;exact Fin.ret' (h0:=h) (xs:=[.agg [iA c, .own (h.length+3) 8 (gG es)],bA true]) aA rfl hh rfl aA rfl (Weak.tup (WeakL.cons (Weak.agg (WeakL.cons (Weak.refl _) (WeakL.cons (Weak.own _ _ _) WeakL.nil))) (WeakL.refl _))) aA ⟨rfl,rfl⟩
theorem vO (env:List Dc)(hg:Env.good env)(hn:Env.short env)(cls:List Cl)(ar nodes sh:Int)(rs w:AV)(rows:List Rw)(hr:∀r∈rows,r.vars/\r.es.length<=1048576)(hl:rows.length<=1048576)(q:Nat)(h:Heap)(hh:WF h)(hq:h[q]?=some (fL env cls ar nodes rs w sh)):
  ACalls Tryz.prog 169 [.p (.sl 2 (jV rows)), .fn (.func 170) [.ptr q 0] []] h fun o h'=>o= .ret (.p (.sl 2 (jV rows)))/\h'=h:=by
 obtain⟨q1,q2,q3,q4,q5,qlt⟩:=idf hq;have c1:=fun(r:Rw) (hv:r.vars/\r.es.length<=1048576) (l:Heap) (hw:WF (h++l))=>nQ env hg hn cls ar nodes sh rs w r hv.1 hv.2 q (h++l) hw (q1 l)
 have hkl:(jV rows).length=rows.length:=wB rows;refine dE Tryz.func169 Tryz.ntmps169 ?_;refine Run.tok 5 2 aA ?_;refine aAk hkl ?_;refine Run.loopS [0,1,4,10,11] (fun j:Nat=>j<=rows.length) (fun j=>rows.length-j) (fun j=>[(5, .own h.length 2 (jV (rows.take j))),(12,iA j)]) (fun j=>h++[some (.tok j 2)]) 0 aA ?_ aA ?_
 ·simp[jV];exact zK
 intro j hj IH;refine cK ?_
 by_cases hjl:j<rows.length
 ·have hg1:rows[j]?=some rows[j]:=bLv hjl;have hv:=hr _ (bLy hjl);have htk:rows.take (j+1)=rows.take j++[rows[j]]:=bM6 hjl;generalize rows[j]=e at hg1 hv htk;have hgq0:=zR hg1;have c1':=c1 e hv;obtain⟨c,es⟩:=e;simp only[Rw.av,Rw.cells,List.map] at c1' hgq0;have hgt:(jV rows)[j]?=some [iP c, .sl 8 (gG es)]:=by rw[wA,hg1];rfl
  have hsn:jV (rows.take (j+1))=jV (rows.take j)++[[iP c, .sl 8 (gG es)]]:=by rw[htk,zU];rfl
  have hll:(jV (rows.take j)).length=j:=by rw[wB,bMn];omega
  have hb1:(j+1)*32<=140737488355328:=aB;have hb2:j+1<=9223372036854775807:=aB;generalize jV (rows.take j)=L at hsn hll⊢;generalize hE:jV rows=E at hkl hgq0 hgt⊢;refine nV hjl hgq0 hkl hjl ?_;refine zL (c1' _ (hh.app aA)) ?_;refine zor ?_;refine zt ?_;refine zr3 hll hb1 hb2 ?_;refine zr ?_;subst hE;refine Run.keep [0,1,4,5,10,11,12] ?_;simp;refine Run.cutAt 1 hh rfl aB aA (by simp;omega) aA rfl ?_;refine IH (j+1) _ _ aB aB ?_ ?_
  ·simp[hsn];exact zK
  ·simp
 ·have hje:j=rows.length:=aB;subst hje;have htl:=bMm (l:=rows);refine znfenrx ?_;exact Fin.ret' (h0:=h) (xs:=[.own h.length 2 (jV rows)]) aA rfl hh rfl aA rfl (Weak.own _ _ _) aA ⟨rfl,rfl⟩
end Go.Proofs.YtplomildbmcmfaaGreat
namespace Go.AI
open Go
section
variable {P:Program} {rd:Option Nat} {nb:Nat} {k:List It} {T:List AV} {h:Heap} {D:List AD} {Q:AX->List AV->Heap->List AD->Prop}
theorem Run.vecS (slot sz:Nat)(hs:tget T slot= .p (.prim (.slice none 0 0)))(r:Run P rd nb k (T.set slot (.vec h.length 0)) (h++[some (.vec sz [])]) D Q):Run P rd nb k T h D Q:=by
 intro E w a s;obtain⟨t1,t2,t3⟩:=s.rel.newTk s.fresh (tk:= .vec sz []) (sz:=sz) rfl;have s':=s.move t2 t1 (by simpa using t3);have hv:=s.tmps.get slot;rw[<-tget_eq,hs] at hv;simp only[Rep,RepP] at hv
 have hx:Rep {E with t:=fun id=>if id=h.length then some ⟨none,0,0⟩ else E.t id} w (.vec h.length 0) (.slice none 0 0):=by
  simp only[Rep];exact⟨⟨none,0,0⟩,by simp,bLx _,none,0,rfl,fun _=>⟨rfl,rfl⟩⟩
 exact y30
theorem Run.thawS (slot:Nat) {id n sz:Nat} {es:List (List PV)} (hs:tget T slot= .vec id n)(hat:h.at id=some (.vec sz es))(hes:∀e∈es,e.length=sz)(hn:es.length=n)(hpos:0<n)
  (r:∀cap,n<=cap->Run P rd nb k (T.set slot (.sm h.length 0 n cap sz)) (h.set id none++[some (.cells (buf sz es (cap-n)))]) D Q):Run P rd nb k T h D Q:=by
 intro E w a s;subst hn;have hlt:=bD hat;obtain⟨blk,cap,ht,k1,k2,k3⟩:=s.rel.toks id _ _ _ _ _ hat rfl
 obtain⟨b,rfl⟩:∃b,blk=some b:=by
  cases blk with
  |none=>have:=k2 rfl;omega
  |some b=>exact⟨b,rfl⟩
 obtain⟨t1,t2,t3,_⟩:=s.rel.thaw s.fresh hat ht hes;have hl1:(h.set id none++[some (AO.cells (buf sz es (cap-es.length)))]).length=h.length+1:=aA;have s':=s.move t2 t1 (by rw[hl1];exact t3);have hvr:=s'.tmps.get slot;rw[<-tget_eq,hs] at hvr;simp only[Rep] at hvr;obtain⟨L,hL,_,ad,cap0,hv,hcur⟩:=hvr;rw[ht] at hL;cases hL;obtain⟨e1,e2⟩:=hcur rfl;simp only[bN2] at e1 e2;subst e1;have e3:=e2.symm;subst e3
 have hx:Rep {E with g:=fun i=>if i=h.length then some b else E.g i} w (.sm h.length 0 es.length cap sz) (.slice (some ⟨b,0,none⟩) es.length cap):=by
  simp only[Rep];exact⟨b,by simp,rfl⟩
 have hset:=s'.tmps.set hx slot
 have hsame:(a.tmps.toList).set slot (.slice (some ⟨b,0,none⟩) es.length cap)=a.tmps.toList:=by
  exact y4j
 rw[hsame] at hset;exact K_mono (P:=P) (rd:=rd) (Post.of_fr (Q:=Q) t2) k _ _ _ (r cap k1 _ w a ⟨s'.rel,s'.fresh,hset,s'.defers⟩)
end
end Go.AI
namespace Go.Proofs.YtplomildbmcmfaaGreat
open Go Go.AI
theorem aEc {P:Program} {fn:Func} {R:AOut->Heap->Prop} {T:List AV} {h h0:Heap} {n:Nat} {l:List (Option AO)} {x y:AV} {xs:List AV} {ax:AX} (hax:(∀v,ax≠ .panic v)/\∀i,ax≠ .exit i)(hn:n<=h0.length)(hh:WF h0)(e:h=h0++l)(hr:aX P T h fn.results.toList=some xs)(hx:bR xs=x)(hw:Weak x y)(hy:y.under h0.length=true)(hR:R (.ret y) h0):
  Fin P fn n R ax T h []:=by
 subst e hx
 have:∃l' y' h' m,aX P T (h0++l) fn.results.toList=some l'/\Settles (bR l') (h0++l) y' h'/\n<=m/\m<=h'.length/\y'.under m=true/\(h'.take m).all (AO.under m)=true/\R (.ret y') (h'.take m):=by
  exact y64
 cases ax with
 |panic v=>exact absurd rfl (hax.1 v)
 |exit v=>exact absurd rfl (hax.2 v)
 |normal=>exact⟨rfl,this⟩
 |ret=>exact⟨rfl,this⟩
end Go.Proofs.YtplomildbmcmfaaGreat
