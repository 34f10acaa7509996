import Derived.Test.YtcfcolkbeelegaaGreatJA0
import Derived.Test.YtcfcolkbeelegaaGreatJPJ
import Derived.Test.YtcfcolkbeelegaaGreatJG1
import Derived.Test.YtcfcolkbeelegaaGreatJLO
import Derived.Test.YtcfcolkbeelegaaGreatJLB
import Derived.Test.YtcfcolkbeelegaaGreatJFL
import Derived.Test.YtcfcolkbeelegaaGreatJX23
import Derived.Test.YtcfcolkbeelegaaGreatJX9
import Derived.Test.YtcfcolkbeelegaaGreatJPC
import Derived.Test.YtcfcolkbeelegaaGreatJH5
import Derived.Test.YtcfcolkbeelegaaGreatJT8
set_option maxRecDepth 8000
set_option maxHeartbeats 32000000
namespace Go.Proofs.YtcfcolkbeelegaaGreat
open Go Go.AI
abbrev zPt:List PV:=[iP 0,sP [], .prim (.slice none 0 0)]
theorem zrow (m:Nat):(List.replicate m [iA 0,AV.p (sP []),AV.p (.prim (.slice none 0 0))]).flatten=buf 3 (List.replicate m zPt) 0:=by
 unfold buf;simp only[Nat.zero_mul,List.replicate_zero,aZ0]
 induction m with
 |zero=>rfl
 |succ m ih=>rw[bA2,bA9,ih,bA2,bA9];rfl
theorem aRb (m:Nat):WeakPs (List.replicate m zPt) (cC (List.replicate m aA1)):=by
 induction m with
 |zero=>simp only[List.replicate_zero,cC];exact WeakPs.nil
 |succ m ih=>
  rw[bA2,bA2];simp only[cC];refine WeakPs.cons ?_ ih;simp only[aA1,bC,cC];exact WeakPL.cons (WeakP.refl _) (WeakPL.cons (WeakP.refl _) (WeakPL.cons (WeakP.nil _) WeakPL.nil))
theorem aHx (m:Nat):∀e∈List.replicate m zPt,e.length=3:=by
 intro e he;rw[(bBo.1 he).2];rfl
theorem tC (d:Dc):∃dc:List AV,d.av= .agg dc/\dc.length=23/\dc.all vO=true/\(∀n,AV.underL n dc=true)/\dc[14]?=some (.p (.sl 6 (d.cs.map Ct.cells)))/\dc[13]?=some (iA d.fx):=by
 refine⟨d.cells.map .p,rfl,by simp[aZ d],aL8 d,fun n=>by simp,?_,?_⟩
 ·exact y7f
 ·exact y7f
theorem aCa (env:List Dc)(hf:aP env)(hg:Env.good env)(cls:List Cl):∀(n:Nat)(v:List Pt),CovOk env cls v->pT cls v<n->∀h,WF h->
  AC 77 [bW env, .p (.sl 6 (aAy cls)), .p (.sl 3 (cC v))] h (bA (aIi env cls n v)):=by
 intro n
 induction n with
 |zero=>intro v _ h;omega
 |succ n ihn=>
 intro v hok hlt h hh;have hfl:=aRz hf hg;have hcl:=hok.cl;simp only[aIi];refine cW Tryz.func77 Tryz.ntmps77 ?_;refine Run.loopS [0,1,2,21,22] (fun j:Nat=>j<=cls.length/\∀c∈cls.take j,(bI 0 c.ps v).v=1) (fun j=>cls.length-j) (fun j=>[(23,iA j)]) (fun _=>h) 0 aA ?_ rfl ?_
 ·exact zS
 rintro j ⟨hj,hall⟩ IH;refine cI ?_
 by_cases hjl:j<cls.length
 ·have hgj:cls[j]?=some cls[j]:=aYu hjl;have hmem:=aYx hjl;have hsk:=sW (aIi env cls n) env v cls j hall;rw[bD hgj,aRw] at hsk;have htk:cls.take (j+1)=cls.take j++[cls[j]]:=aZ5 hjl;generalize cls[j]=c at hgj hmem hsk htk;obtain⟨hc1,hc2,hc3⟩:=hok.cs c hmem;have c1:=fun g hw=>aC9 env hfl _ c.ps v (aYw _) hc2 ⟨hc3,hc1,hok.vc⟩ g hw
  have hvv:=aT7 0 c.ps v;have h2:=aT8 (l:=c.ps) (vs:=v);have hput:=fun nm w hp jj x hx=>CovOk.put hok hf hmem (nm:=nm) (w:=w) hp (j:=jj) (x:=x) hx
  have hnm:=fun nm w (hp:PathC nm w c.ps v)=>hp.name (env:=env) hc1
  have hlast:(bI 0 c.ps v).v=1->∀x∈cls.take (j+1),(bI 0 x.ps v).v=1:=by
   intro e x hx;rw[htk] at hx;rcases aZn.1 hx with hx|hx
   ·exact hall x hx
   ·simp at hx;subst hx;exact e
  obtain⟨ps,⟨k,i,nmt,ls,ks⟩⟩:=c;simp only at c1 hvv h2 hsk hlast;generalize bI 0 ps v=r at c1 hvv h2 hsk hlast;obtain⟨e,w,nm⟩:=r;simp only[vxA] at c1 hvv h2 hsk hlast;rw[hsk];refine dF hjl ?_;refine zrv8 hgj ?_;refine zr ?_;refine zL (c1 _ (hh.app aA)) ?_;refine zor ?_;rcases hvv with rfl|rfl|rfl
  ·refine lM ?_;exact y33
  ·refine aAc ?_;refine zt ?_;refine y21 ?_;refine Run.keep [0,1,2,21,22,23] ?_;refine yh ?_;refine ye ?_;simp;have hsk1:aRw (aIi env cls n) env v cls=aRw (aIi env cls n) env v (cls.drop (j+1)):=by simpa using hsk
   rw[<-hsk1];refine znr ?_;refine IH (j+1) _ _ ⟨by omega,hlast rfl⟩ aB ?_ aA;exact zS
  ·have hp:=h2 rfl;have hput:=hput nm w hp;have hn:=hnm nm w hp;have hpo:=hp.v.ok hfl hok.vl hok.vc;have c2:=fun g hw=>jZ g hw env nm hg hf.1
   have hff:=fun(jj:Nat) (x:Ct) (hx:(aM env nm).1.cs[jj]?=some x)=>qS hf hn hx
   have hdl:(aM env nm).1.cs.length<=1048576:=by
    unfold aM;split
    ·rcases fF hf nm with e|⟨d,a,e,hm,_⟩
     ·rw[e];simp[zDc]
     ·rw[e];exact(hg.2 d hm).csl
    ·simp[zDc]
   simp only[show¬((2:Int)=0) by omega,show¬((2:Int)=1) by omega,if_false] at hsk⊢;generalize aM env nm=fz at c2 hff hput hdl;obtain⟨d,m,ok⟩:=fz;simp only at c2 hff hput hdl;obtain⟨dc,hdc,hdcl,hone,hdu,hd14,_⟩:=tC d;have hd14':∀q:14<dc.length,dc[14]= .p (.sl 6 (d.cs.map Ct.cells)):=fun q=>by rw[aYu q] at hd14;exact bAf hd14
   have htd:List.take 23 dc=dc:=aZ6 aB
   have hpa:∀l:List AV,l.length=23->patch l 0 dc=dc:=fun l hl'=>by
    have:=dV dc l [] (by rw[hl',hdcl]);exact y61
   rw[hdc] at c2;refine aAc ?_;refine yw ?_;refine zL (c2 _ (hh.app aA)) ?_;refine zo3 hdcl hone hpa ?_;refine zr2 hd14' hdcl ?_
   refine Run.loopS [0,1,2,10,47,48] (fun jj:Nat=>jj<=d.cs.length/\bB (aKh (aIi env cls n) d w v) jj=true) (fun jj=>d.cs.length-jj) (fun jj=>[(49,iA jj)])
    (fun _=>h++[some (.cells [.p (.sl 3 (cC ps)),iA k,iA i, .p (sP nmt), .p (.sl 2 (aW ls)), .p (.sl 5 (aL ks))]),some (.cells dc)]) 0 (by simp[bB]) ?_ aA ?_
   ·exact zS
   rintro jj ⟨hjj,hallj⟩ IH2;refine cI ?_
   by_cases hjjl:jj<d.cs.length
   ·have hgx:d.cs[jj]?=some d.cs[jj]:=aYu hjjl;have hfx:=hff jj _ hgx;have hpx:=hput jj _ hgx;have hac:aKh (aIi env cls n) d w v jj=aIi env cls n (iF w v (mG d.cs[jj].nm (oH d jj).toNat)):=by unfold aKh;rw[hgx]
    generalize d.cs[jj]=x at hgx hfx hpx hac;obtain⟨xn,⟨xk,xi,xm,xl,xs⟩⟩:=x;simp only at hfx hpx hac;have c3:=fun g hw=>jZ g hw env xn hg hf.1
    have hmb:=hfl xn;rw[hfx] at c3 hmb;simp only[hdc] at c3 hmb;obtain⟨mm,hmm⟩:∃mm:Nat,oH d jj=mm:=⟨(oH d jj).toNat,by have:=yM d jj;omega⟩;rw[hmm] at c3 hpx hac hmb;simp only[aZj] at hpx hac;have c4:=fun g hw=>aCc (mG xn mm) w v hpo g hw
    have c5:=fun g hw=>ihn _ hpx.1 aB g hw
    rw[<-hac] at c5;generalize iF w v (mG xn mm)=v2 at c4 c5;obtain⟨b2,hb2⟩:∃b2,aKh (aIi env cls n) d w v jj=b2:=⟨_,rfl⟩;rw[hb2] at c5;simp only[mG,Pt.av,bC,List.map] at c4;have hmb1:mm*48<=140737488355328:=aB;have hmb2:mm<=1099511627776:=aB;refine dF hjjl ?_;refine aOl hgx ?_;refine zr ?_;refine zL (c3 _ (hh.app (by simp[hdu]))) ?_;refine zo3 hdcl hone hpa ?_;refine ND.Run.draw2 (pc:=[]) 3 5 [0,0,0,0,1,1,2] [0,0,0,0,0,1,2] [0,1,0,4,15,12,63] [2,3,5,0,1,4,6] [0,0,0,1,2,0,2] [0,0,0,1,0,0,2] [0,1,0,36,47,0,63] [5,2,3,0,1,4,6] aC aC aC aC ?_ ?_
    ·refine zm2 hmb1 hmb2 ?_;refine y9 ?_;refine nv ?_;rw[zrow];refine Run.freezeAt (h.length+5) 2 (id:=h.length+4) (n:=mm) (cap:=mm) (sz:=3) (m:=0) (es:=List.replicate mm zPt) aE aA aA aB (aHx mm) aA aB ?_;refine Run.weakH (h.length+5) (cs:=[iA 1, .p (sP xn), .p (.sl 3 (List.replicate mm zPt))]) (cs':=[iA 1, .p (sP xn), .p (.sl 3 (cC (List.replicate mm aA1)))]) aA ?_ ?_
     ·exact y8b
     refine cI ?_;refine zL (c4 _ (hh.app (by simp[hdu]))) ?_;refine zo ?_;refine zL (c5 _ (hh.app (by simp[hdu]))) ?_;refine zo ?_
     cases b2 with
     |false=>
      rw[aU hjjl hb2];refine lM ?_;exact y33
     |true=>
      exact y5a
    ·refine zm2 hmb1 hmb2 ?_;refine y9 ?_;refine nv ?_;rw[zrow];refine Run.freezeAt (h.length+4) 2 (id:=h.length+5) (n:=mm) (cap:=mm) (sz:=3) (m:=0) (es:=List.replicate mm zPt) aE aA aA aB (aHx mm) aA aB ?_;refine Run.weakH (h.length+4) (cs:=[iA 1, .p (sP xn), .p (.sl 3 (List.replicate mm zPt))]) (cs':=[iA 1, .p (sP xn), .p (.sl 3 (cC (List.replicate mm aA1)))]) aA ?_ ?_
     ·exact y8b
     refine cI ?_;refine zL (c4 _ (hh.app (by simp[hdu]))) ?_;refine zo ?_;refine zL (c5 _ (hh.app (by simp[hdu]))) ?_;refine zo ?_
     cases b2 with
     |false=>
      rw[aU hjjl hb2];refine lM ?_;exact y33
     |true=>
      exact y5a
   ·have hje:jj=d.cs.length:=aB;subst hje;rw[hallj];refine cY ?_;exact y33
 ·have hje:j=cls.length:=aB;subst hje;rw[aZl] at hall;have hsk:=sW (aIi env cls n) env v cls cls.length (by rw[aZl];exact hall);rw[bAn] at hsk;rw[hsk];refine cY ?_;exact y3a
open Go Go.AI
def mF (env:List Dc)(n:Nat)(c:Cl):Bool:=decide (c.ps.length≠n)||(cD env c.ps !=0)
def yD (env:List Dc)(n:Nat)(cls:List Cl)(j:Nat):Bool:=match cls[j]? with|some c=>!mF env n c|none=>true
def nA (env:List Dc)(cls:List Cl)(v:List Pt):Bool:=
 if(decide (cD env v≠0)||vS 3 v)=true then false else if bB (yD env v.length cls) cls.length=false then false else aIi env cls (pT cls v+1) v
theorem jT {env:List Dc} {n:Nat} {cls:List Cl} {j:Nat} {c:Cl} (h:cls[j]?=some c):yD env n cls j=!mF env n c:=by unfold yD;rw[h]
structure PSmall (cls:List Cl) (v:List Pt):Prop where
 cl:cls.length<=1048576
 cs:∀c∈cls,Pt.sizes c.ps<=1048576
 vs:Pt.sizes v<=1048576
theorem gK:∀l:List Pt,l.length<=Pt.sizes l
 |[]=>by simp
 |p::l=>by have:=gK l;have:=p.size_pos;simp only[Pt.sizes,aZ1];omega
theorem aL4 (env:List Dc)(hg:Env.good env)(hn:Env.short env)(v:List Pt)(_hv:v.length<=1048576)(c:Cl)(hc:Pt.sizes c.ps<=1048576)(h:Heap)(hh:WF h)(p q:Nat)(hp:h[p]?=some (some (.cells [.p (.sl 3 (cC v))])))(hq:h[q]?=some (some (.cells [bW env]))):
  AC 76 [c.av, .ptr p 0, .ptr q 0] h (bA (mF env v.length c)):=by
 have hpl:=(aYv.1 hp).1;have hql:=(aYv.1 hq).1;have hp':∀l:List (Option AO),(h++l)[p]?=some (some (.cells [.p (.sl 3 (cC v))])):=fun l=>by rw[aZ8 hpl];exact hp
 have hq':∀l:List (Option AO),(h++l)[q]?=some (some (.cells [bW env])):=fun l=>by rw[aZ8 hql];exact hq
 have c1:=fun g hw=>pW env hg hn _ c.ps (aYw _) hc g hw
 have hcl:=gK c.ps;obtain⟨ps,⟨k,i,nm,ls,ks⟩⟩:=c;simp only at c1 hc hcl;obtain⟨e,he⟩:∃e,cD env ps=e:=⟨_,rfl⟩;rw[he] at c1;simp only[Cl.av,Cl.cells,aH,List.map];refine zER Tryz.func76 Tryz.ntmps76 ?_
 by_cases h1:ps.length=v.length
 ·have hr:mF env v.length ⟨ps, .mk k i nm ls ks⟩=(e !=0):=by simp[mF,h1,he]
  rw[hr];refine zn ?_;refine zr3 hp' hq' h1 ?_;refine zL (c1 _ (hh.app aA)) ?_;refine zox ?_;exact y2s
 ·have hr:mF env v.length ⟨ps, .mk k i nm ls ks⟩=true:=by simp[mF,h1]
  rw[hr];have h1b:((ps.length:Int) !=(v.length:Int))=true:=by simp;omega
  refine sH hp' h1b ?_;refine zx ?_;exact y33
def aAi (env:List Dc)(n:Nat)(cls:List Cl):Bool:=!bB (yD env n cls) cls.length
theorem aM2 (env:List Dc)(hg:Env.good env)(hn:Env.short env)(v:List Pt)(cls:List Cl)(hs:PSmall cls v)(h:Heap)(hh:WF h)(p q:Nat)(hp:h[p]?=some (some (.cells [.p (.sl 3 (cC v))])))(hq:h[q]?=some (some (.cells [bW env]))):
  ACalls Tryz.prog 129 [.p (.sl 6 (aAy cls)), .fn (.func 76) [] [.ptr p 0, .ptr q 0]] h fun o h'=>∃r:Int,o= .ret (iA r)/\h'=h/\decide (0<=r)=aAi env v.length cls:=by
 have hcl:=hs.cl;have hvl:=gK v;have hvs:=hs.vs;refine cW Tryz.func129 Tryz.ntmps129 ?_;refine Run.loopS [0,1,6,7] (fun j:Nat=>j<=cls.length/\bB (yD env v.length cls) j=true) (fun j=>cls.length-j) (fun j=>[(8,iA j)]) (fun _=>_) 0 (by simp[bB]) ?_ rfl ?_
 ·exact zS
 ·rintro j ⟨hj,hall⟩ IH;refine cI ?_
  by_cases hjl:j<cls.length
  ·have hgj:cls[j]?=some cls[j]:=aYu hjl;have hmem:=aYx hjl;generalize cls[j]=c at hgj hmem;have c1:=aL4 env hg hn v aB c (hs.cs c hmem) h hh p q hp hq;have hok:=jT (env:=env) (n:=v.length) hgj;obtain⟨b,hb⟩:∃b,mF env v.length c=b:=⟨_,rfl⟩;rw[hb] at c1 hok;obtain⟨ps,⟨k,i,nm,ls,ks⟩⟩:=c;simp only[Cl.av,Cl.cells,aH,List.map] at c1;refine kL hjl ?_;refine zrv8 hgj ?_;refine zL (c1) ?_;refine zo ?_
   cases b with
   |true=>
    refine znt ?_;refine zA ?_;have:=aU hjl hok;refine zF3 hh ?_;exact⟨j,rfl,rfl,by simp[aAi,this]⟩
   |false=>
    refine aAc ?_;refine IH (j+1) _ _ ⟨by omega,by rw[bK,hall,hok];rfl⟩ aB ?_ rfl;exact zS
  ·have hje:j=cls.length:=aB;subst hje;refine dP ?_;refine zA ?_;refine zF3 hh ?_;exact⟨-1,rfl,rfl,by simp[aAi,hall]⟩
theorem aP6 (env:List Dc)(hg:Env.good env)(hn:Env.short env)(v:List Pt)(cls:List Cl)(hs:PSmall cls v)(h:Heap)(hh:WF h)(p q:Nat)(hp:h[p]?=some (some (.cells [.p (.sl 3 (cC v))])))(hq:h[q]?=some (some (.cells [bW env]))):
  AC 75 [.p (.sl 6 (aAy cls)), .fn (.func 76) [] [.ptr p 0, .ptr q 0]] h (bA (aAi env v.length cls)):=by
 refine cW Tryz.func75 Tryz.ntmps75 ?_;refine Run.call rfl rfl aA rfl (aM2 env hg hn v cls hs h hh p q hp hq) ?_ ?_
 ·rintro v h' ⟨r,hv,rfl,hr⟩;exact y3j
 ·rintro v h' ⟨r,hv,_⟩;cases hv
theorem CovOk.of {env:List Dc} {cls:List Cl} {v:List Pt} (hs:PSmall cls v)(h1:cD env v=0)(h2:bB (yD env v.length cls) cls.length=true):CovOk env cls v:=by
 refine⟨hs.cl,fun c hc=>?_,bAr (gK v) hs.vs,h1⟩;obtain⟨j,hj,rfl⟩:=List.mem_iff_getElem.1 hc;have:=jP h2 hj;rw[jT (aYu hj)] at this;simp[mF] at this;exact⟨this.2,hs.cs _ hc,this.1⟩
theorem lU (env:List Dc)(hf:aP env)(hg:Env.good env)(cls:List Cl)(v:List Pt)(hs:PSmall cls v)(h:Heap)(hh:WF h):
  AC 26 [bW env, .p (.sl 6 (aAy cls)), .p (.sl 3 (cC v))] h (bA (nA env cls v)):=by
 have c1:=fun g hw=>pW env hg hf.1 _ v (aYw _) hs.vs g hw
 have c2:=fun g hw=>zH 3 _ v (aYw _) hs.vs g hw
 have c3:=aP6 env hg hf.1 v cls hs (h++[some (.cells [bW env]),some (.cells [.p (.sl 3 (cC v))])]) (hh.app aA) (h.length+1) h.length aA aA;have c4:=fun h1 h2 (g:Heap) (hw:WF g)=>aCa env hf hg cls (pT cls v+1) v (CovOk.of hs h1 h2) (Nat.lt_succ_self _) g hw
 obtain⟨r,hr⟩:∃r,nA env cls v=r:=⟨_,rfl⟩;rw[hr];unfold nA at hr;generalize cD env v=e at c1 c4 hr;generalize vS 3 v=b1 at c2 hr;unfold aAi at c3;generalize bB (yD env v.length cls) cls.length=b2 at c3 c4 hr;generalize aIi env cls (pT cls v+1) v=b3 at c4 hr;refine cW Tryz.func26 Tryz.ntmps26 ?_;refine zL (c1 _ (hh.app aA)) ?_
 by_cases h1:e=0
 ·subst h1;refine zo ?_;refine zL (c2 _ (hh.app aA)) ?_;refine zo ?_
  cases b1 with
  |true=>
   simp at hr;rw[hr];refine lM ?_;exact y33
  |false=>
   refine aAc ?_;refine zL (c3) ?_;refine zo ?_
   cases b2 with
   |false=>
    simp at hr;rw[hr];refine aOs ?_;exact y33
   |true=>
    simp at hr;subst hr;refine znr ?_;refine zL (c4 rfl rfl _ (hh.app aA)) ?_;refine zox ?_;exact y33
 ·simp[h1] at hr;rw[hr];have h1b:(e !=(0:Int))=true:=by simpa using h1
  refine zo1 h1b ?_;refine y2a ?_;exact y33
open Go Go.AI
open Rows (uptoBulk uptoBulkAll)
open Go.ChangeShapes Go.WideShapes Go.ChangeAt Go.RowKit
section
variable {H:Type} {enc:TypeId×Value->H} {W:World} {sp:Nat->Bool} {held:Bool}
theorem aKx:Tryz.prog.cellsOf 53=6:=aC
theorem aE0:Tryz.prog.cellsOf 74=3:=aC
def GPt (p:Pt)(d:DataW H):Prop:=uptoBulk d<=1048576->p.size<=uptoBulk d
theorem aRk:∀ {ts:List Pt} {ds:List (DataW H)},GL GPt ts ds->uptoBulkAll ds<=1048576->Pt.sizes ts<=uptoBulkAll ds
 |[],[],_,_=>by simp[Pt.sizes]
 |t::ts,d::ds,h,hb=>by
  simp only[uptoBulkAll] at hb;have h1:=h.1 aB;have h2:=aRk h.2 aB;simp only[Pt.sizes,uptoBulkAll];omega
 |[],_::_,h,_=>h.elim
 |_::_,[],h,_=>h.elim
theorem aHn (l:List Pt):cC l=l.map Pt.cells:=by
 induction l with
 |nil=>rfl
 |cons p l ih=>simp only[cC,ih,aZc]
theorem aU3 (N:Nat):∀(n:Nat)(cs:List Value)(x:DataW H×List MemPlace),n<=N->DataW.trod enc Tryz.prog W 0 sp held n 74 cs=some x->
  ∃p:Pt,RepL (fH W) W (p.cells.map .p) cs/\GPt p x.1:=by
 induction N with
 | zero => intro n cs x hn h;obtain rfl:n=0:=aB
           simp[DataW.trod] at h
 |succ N ih=>
 intro n cs x hn h;obtain⟨xs,m,rfl,rfl,hl,hlen,hf⟩:=DataW.trod_struct Tryz.underlying74 h;rw[aE0] at hl;obtain⟨c0,c1,c2,rfl⟩:∃a b c,cs=[a,b,c]:=by match cs,hl with|[a,b,c],_=>exact⟨a,b,c,rfl⟩
 obtain⟨x0,x1,x2,rfl⟩:∃a b c,xs=[a,b,c]:=by match xs,hlen with|[a,b,c],_=>exact⟨a,b,c,rfl⟩
 have h0:=hf 0 _ rfl;have h1:=hf 1 _ rfl;have h2:=hf 2 _ rfl;simp only[aZt,aZr] at h0 h1 h2;obtain⟨k,e0,r0,_,_⟩:=jH h0;obtain⟨s,v,e1,r1⟩:=aC7 h1;obtain⟨ps,w,e2,r2,hG2⟩:=dD (α:=Pt) Tryz.underlying50 aE0 aD Pt.cells GPt (fun p=>by cases p;rfl) (fun m' hm cs y hy=>ih m' cs y aB hy) h2
 injection e0 with e0;injection e1 with e1;injection e2 with e2
 subst e0;subst e1;subst e2;refine⟨.mk k s ps,?_,fun hb=>?_⟩
 ·simp only[bC,aHn,aZc,bAa,RepL,Rep];exact⟨_,_,rfl,r0,_,_,rfl,r1,_,_,rfl,r2,rfl⟩
 ·simp only[aZc,bAa,uptoBulk,uptoBulkAll] at hb⊢;simp only[Pt.size];rcases hG2 with ⟨rfl,_⟩|⟨elems,rest,he,hG⟩
  ·simp[Pt.sizes]
  ·exact y9i
def GCl (c:Cl)(d:DataW H):Prop:=uptoBulk d<=1048576->Pt.sizes c.ps<=uptoBulk d/\c.b.good
theorem aTy {n:Nat} {cs:List Value} {x:DataW H×List MemPlace} (h:DataW.trod enc Tryz.prog W 0 sp held n 53 cs=some x):∃c:Cl,RepL (fH W) W (c.cells.map .p) cs/\GCl c x.1:=by
 obtain⟨xs,m,rfl,rfl,hl,hlen,hf⟩:=DataW.trod_struct Tryz.underlying53 h;rw[aKx] at hl;obtain⟨c0,c1,c2,c3,c4,c5,rfl⟩:∃a b c d e f,cs=[a,b,c,d,e,f]:=by match cs,hl with|[a,b,c,d,e,f],_=>exact⟨a,b,c,d,e,f,rfl⟩
 obtain⟨x0,x1,rfl⟩:∃a b,xs=[a,b]:=by match xs,hlen with|[a,b],_=>exact⟨a,b,rfl⟩
 have h0:=hf 0 _ rfl;have h1:=hf 1 _ rfl;simp only[aZt,aZr] at h0 h1;obtain⟨ps,w,e0,r0,hG0⟩:=dD (α:=Pt) Tryz.underlying50 aE0 aD Pt.cells GPt (fun p=>by cases p;rfl) (fun m' _ cs y hy=>aU3 m' m' cs y (aYw _) hy) h0;obtain⟨t,r1,g1⟩:=uE h1
 injection e0 with e0;subst e0
 refine⟨⟨ps,t⟩,?_,fun hb=>?_⟩
 ·simp only[Cl.cells,aHn,aZc,RepL,Rep];exact⟨_,_,rfl,r0,r1⟩
 ·simp only[aZc,bAa,uptoBulk,uptoBulkAll] at hb⊢;refine⟨?_,g1 aB⟩;rcases hG0 with ⟨rfl,_⟩|⟨elems,rest,he,hG⟩
  ·simp[Pt.sizes]
  ·exact y9i
end
theorem aSu {H:Type} {enc:TypeId×Value->H} {W:World} {v:Value} {d:DataW H} {p:List MemPlace} {base:Nat}
  (hv:Value.okWide Tryz.prog W .any base 37 v) (h:DataW.Trod enc Tryz.prog W 0 (fun _=>true) true 37 v d p):∃cls:List Cl,Rep (fH W) W (.p (.sl 6 (aAy cls))) v/\(uptoBulk d<=1048576->cls.length<=1048576/\∀c∈cls,Pt.sizes c.ps<=1048576/\c.b.good):=by
 obtain⟨a,len,cap,rfl⟩:=okWide_slice Tryz.underlying37 hv;obtain⟨n,hn⟩:=h;obtain⟨xs,v',e,r,hG⟩:=dD (α:=Cl) Tryz.underlying37 aKx aD Cl.cells GCl (fun c=>by obtain⟨_,⟨_,_,_,_,_⟩⟩:=c;rfl) (fun m' _ cs y hy=>aTy hy) hn;simp[Value.cells] at e;subst e;refine⟨xs,by simp only[Rep];exact r,fun hb=>?_⟩;exact jL (Q:=fun c:Cl=>Pt.sizes c.ps<=1048576/\c.b.good) (fun x d hg hb=>by have:=hg hb;exact⟨by omega,this.2⟩) hG hb
open Go Go.AI
theorem aIq (h:Heap)(hh:WF h)(l:List Tm)(hl:l.length<=1048576)(hg:∀t∈l,t.good):ACalls Tryz.prog 121 [.p (.sl 5 (aL l)), .p (.prim (.func (.func 66) #[] #[]))] h fun o h'=>aWz (fun _=>True) o/\h'=h:=by
 refine cW Tryz.func121 Tryz.ntmps121 ?_;refine Run.loopS [0,1,7] (fun j:Nat=>j<=l.length) (fun j=>l.length-j) (fun j=>[(8,iA j)]) (fun _=>_) 0 aA ?_ rfl ?_
 ·exact zS
 rintro j hj IH;refine cI ?_
 by_cases hjl:j<l.length
 ·have hge:l[j]?=some l[j]:=aYu hjl;have c1:=fun g hw=>aH2 g hw _ (hg _ (aYx hjl))
  generalize (eQ 60000 8 65536 65536 l[j] !=0)=b at c1;generalize l[j]=t at hge c1;obtain⟨k,i,n,ls,ks⟩:=t;simp only[Tm.av,aH,List.map] at c1;refine qL hjl hge ?_;refine zL (c1 _ hh) ?_
  cases b with
  |false=>
   refine rJ ?_;exact y5j
  |true=>
   refine zot ?_;exact y7k
 ·have hje:j=l.length:=aB;subst hje;refine dP ?_;exact y7k
theorem yF (h:Heap)(hh:WF h)(l:List Tm)(hl:l.length<=1048576)(hg:∀t∈l,t.good):ACalls Tryz.prog 65 [.p (.sl 5 (aL l)), .p (.prim (.func (.func 66) #[] #[]))] h fun o h'=>aK9 (fun _=>True) o/\h'=h:=by
 refine cW Tryz.func65 Tryz.ntmps65 ?_;refine zB (aIq _ hh l hl hg) fun e he=>?_
 refine zox ?_;exact y4k
theorem aF9 (h:Heap)(hh:WF h)(env:List Dc)(l:List Tm)(hg:Env.good env)(hsz:Tm.sizes l<=1048576)(hlv:Tm.lvss l)(hf:Tm.fits l)(hgl:∀t∈l,t.good):
  ACalls Tryz.prog 20 [bW env, .p (.sl 5 (aL l))] h fun o h'=>aK9 (fun b=>b=true->aP env/\aBp l=true) o/\h'=h:=by
 have hll:=aR l;have c1:=fun g hw=>oM (Tm.sizes l) l 60 g (aYw _) aB aB aB hw
 have c2:=fun g hw=>aGz g hw l aB hlv hf
 have c3:=fun g hw=>tK g hw env hg
 have c4:=fun g hw=>yF g hw l aB hgl
 generalize aBp l=gb at c2⊢;generalize nd 60 0 l=n at c1;refine cW Tryz.func20 Tryz.ntmps20 ?_;refine zL (c1 _ hh) ?_
 by_cases e1:n<=60
 rotate_left
 ·refine zo1 e1 ?_;refine zx ?_;exact y37
 refine zo1 e1 ?_;refine zL (c2 _ hh) ?_
 cases gb with
 |false=>
  refine zox ?_;exact y37
 |true=>
 refine zo ?_;refine zB (c3 _ hh) fun b hb=>?_
 cases b with
 |false=>
  refine zox ?_;exact y37
 |true=>
  have he:=hb rfl;refine zo ?_;refine zB (c4 _ hh) fun b hb=>?_
  refine zox ?_;refine zF4 hh ?_;exact⟨⟨_,rfl,fun _=>⟨he,rfl⟩⟩,rfl⟩
end Go.Proofs.YtcfcolkbeelegaaGreat
