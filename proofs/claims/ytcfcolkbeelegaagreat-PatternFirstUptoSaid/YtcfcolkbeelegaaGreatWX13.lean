import Derived.Test.YtcfcolkbeelegaaGreatWA0
import Derived.Test.YtcfcolkbeelegaaGreatWPJ
import Derived.Test.YtcfcolkbeelegaaGreatWG1
import Derived.Test.YtcfcolkbeelegaaGreatWLO
import Derived.Test.YtcfcolkbeelegaaGreatWLB
import Derived.Test.YtcfcolkbeelegaaGreatWFL
import Derived.Test.YtcfcolkbeelegaaGreatWX23
import Derived.Test.YtcfcolkbeelegaaGreatWX9
import Derived.Test.YtcfcolkbeelegaaGreatWPC
import Derived.Test.YtcfcolkbeelegaaGreatWH5
import Derived.Test.YtcfcolkbeelegaaGreatWT8
set_option maxRecDepth 8000
set_option maxHeartbeats 32000000
namespace Go.Proofs.YtcfcolkbeelegaaGreat
open Go Go.AI
abbrev zPt:List PV:=[iP 0,sP [], .prim (.slice none 0 0)]
theorem zrow (m:Nat):(List.replicate m [iA 0,AV.p (sP []),AV.p (.prim (.slice none 0 0))]).flatten=buf 3 (List.replicate m zPt) 0:=by
 unfold buf;simp only[Nat.zero_mul,List.replicate_zero,aYh]
 induction m with
 |zero=>rfl
 |succ m ih=>rw[aZj,aZq,ih,aZj,aZq];rfl
theorem aQt (m:Nat):WeakPs (List.replicate m zPt) (bX (List.replicate m zP)):=by
 induction m with
 |zero=>simp only[List.replicate_zero,bX];exact WeakPs.nil
 |succ m ih=>
  rw[aZj,aZj];simp only[bX];refine WeakPs.cons ?_ ih;simp only[zP,bC,bX];exact WeakPL.cons (WeakP.refl _) (WeakPL.cons (WeakP.refl _) (WeakPL.cons (WeakP.nil _) WeakPL.nil))
theorem aHg (m:Nat):∀e∈List.replicate m zPt,e.length=3:=by
 intro e he;rw[(bB5.1 he).2];rfl
theorem sS (d:Dc):∃dc:List AV,d.av= .agg dc/\dc.length=23/\dc.all vH=true/\(∀n,AV.underL n dc=true)/\dc[14]?=some (.p (.sl 6 (d.cs.map Ct.cells)))/\dc[13]?=some (iA d.fx):=by
 refine⟨d.cells.map .p,rfl,by simp[aZ d],aKr d,fun n=>by simp,?_,?_⟩
 ·exact y7e
 ·exact y7e
theorem aBz (env:List Dc)(hf:aQ env)(hg:Env.good env)(cls:List Cl):∀(n:Nat)(v:List Pt),CovOk env cls v->pL cls v<n->∀h,WF h->
  AC 77 [bW env, .p (.sl 6 (vG cls)), .p (.sl 3 (bX v))] h (bA (aI1 env cls n v)):=by
 intro n
 induction n with
 |zero=>intro v _ h;omega
 |succ n ihn=>
 intro v hok hlt h hh;have hfl:=aRi hf hg;have hcl:=hok.cl;simp only[aI1];refine cR Tryz.func77 Tryz.ntmps77 ?_;refine Run.loopS [0,1,2,21,22] (fun j:Nat=>j<=cls.length/\∀c∈cls.take j,(bI 0 c.ps v).v=1) (fun j=>cls.length-j) (fun j=>[(23,iA j)]) (fun _=>h) 0 aA ?_ rfl ?_
 ·exact zS
 rintro j ⟨hj,hall⟩ IH;refine cC ?_
 by_cases hjl:j<cls.length
 ·have hgj:cls[j]?=some cls[j]:=aYb hjl;have hmem:=aYe hjl;have hsk:=sM (aI1 env cls n) env v cls j hall;rw[bD hgj,aRf] at hsk;have htk:cls.take (j+1)=cls.take j++[cls[j]]:=aYm hjl;generalize cls[j]=c at hgj hmem hsk htk;obtain⟨hc1,hc2,hc3⟩:=hok.cs c hmem;have c1:=fun g hw=>aBy env hfl _ c.ps v (aYd _) hc2 ⟨hc3,hc1,hok.vc⟩ g hw
  have hvv:=aSq 0 c.ps v;have h2:=aSr (l:=c.ps) (vs:=v);have hput:=fun nm w hp jj x hx=>CovOk.put hok hf hmem (nm:=nm) (w:=w) hp (j:=jj) (x:=x) hx
  have hnm:=fun nm w (hp:PathC nm w c.ps v)=>hp.name (env:=env) hc1
  have hlast:(bI 0 c.ps v).v=1->∀x∈cls.take (j+1),(bI 0 x.ps v).v=1:=by
   intro e x hx;rw[htk] at hx;rcases aZ4.1 hx with hx|hx
   ·exact hall x hx
   ·simp at hx;subst hx;exact e
  obtain⟨ps,⟨k,i,nmt,ls,ks⟩⟩:=c;simp only at c1 hvv h2 hsk hlast;generalize bI 0 ps v=r at c1 hvv h2 hsk hlast;obtain⟨e,w,nm⟩:=r;simp only[vxA] at c1 hvv h2 hsk hlast;rw[hsk];refine dD hjl ?_;refine zrv8 hgj ?_;refine zr ?_;refine zL (c1 _ (hh.app aA)) ?_;refine zor ?_;rcases hvv with rfl|rfl|rfl
  ·refine lF ?_;exact y34
  ·refine aA2 ?_;refine zt ?_;refine y21 ?_;refine Run.keep [0,1,2,21,22,23] ?_;refine yh ?_;refine ye ?_;simp;have hsk1:aRf (aI1 env cls n) env v cls=aRf (aI1 env cls n) env v (cls.drop (j+1)):=by simpa using hsk
   rw[<-hsk1];refine znr ?_;refine IH (j+1) _ _ ⟨by omega,hlast rfl⟩ aB ?_ aA;exact zS
  ·have hp:=h2 rfl;have hput:=hput nm w hp;have hn:=hnm nm w hp;have hpo:=hp.v.ok hfl hok.vl hok.vc;have c2:=fun g hw=>jR g hw env nm hg hf.1
   have hff:=fun(jj:Nat) (x:Ct) (hx:(aN env nm).1.cs[jj]?=some x)=>qL hf hn hx
   have hdl:(aN env nm).1.cs.length<=1048576:=by
    unfold aN;split
    ·rcases fD hf nm with e|⟨d,a,e,hm,_⟩
     ·rw[e];simp[zDc]
     ·rw[e];exact(hg.2 d hm).csl
    ·simp[zDc]
   simp only[show¬((2:Int)=0) by omega,show¬((2:Int)=1) by omega,if_false] at hsk⊢;generalize aN env nm=fz at c2 hff hput hdl;obtain⟨d,m,ok⟩:=fz;simp only at c2 hff hput hdl;obtain⟨dc,hdc,hdcl,hone,hdu,hd14,_⟩:=sS d;have hd14':∀q:14<dc.length,dc[14]= .p (.sl 6 (d.cs.map Ct.cells)):=fun q=>by rw[aYb q] at hd14;exact aZw hd14
   have htd:List.take 23 dc=dc:=aYn aB
   have hpa:∀l:List AV,l.length=23->patch l 0 dc=dc:=fun l hl'=>by
    have:=dV dc l [] (by rw[hl',hdcl]);exact y62
   rw[hdc] at c2;refine aA2 ?_;refine yw ?_;refine zL (c2 _ (hh.app aA)) ?_;refine zo3 hdcl hone hpa ?_;refine zr2 hd14' hdcl ?_
   refine Run.loopS [0,1,2,10,47,48] (fun jj:Nat=>jj<=d.cs.length/\bB (aK0 (aI1 env cls n) d w v) jj=true) (fun jj=>d.cs.length-jj) (fun jj=>[(49,iA jj)])
    (fun _=>h++[some (.cells [.p (.sl 3 (bX ps)),iA k,iA i, .p (sP nmt), .p (.sl 2 (aW ls)), .p (.sl 5 (aL ks))]),some (.cells dc)]) 0 (by simp[bB]) ?_ aA ?_
   ·exact zS
   rintro jj ⟨hjj,hallj⟩ IH2;refine cC ?_
   by_cases hjjl:jj<d.cs.length
   ·have hgx:d.cs[jj]?=some d.cs[jj]:=aYb hjjl;have hfx:=hff jj _ hgx;have hpx:=hput jj _ hgx;have hac:aK0 (aI1 env cls n) d w v jj=aI1 env cls n (iC w v (lY d.cs[jj].nm (rC d jj).toNat)):=by unfold aK0;rw[hgx]
    generalize d.cs[jj]=x at hgx hfx hpx hac;obtain⟨xn,⟨xk,xi,xm,xl,xs⟩⟩:=x;simp only at hfx hpx hac;have c3:=fun g hw=>jR g hw env xn hg hf.1
    have hmb:=hfl xn;rw[hfx] at c3 hmb;simp only[hdc] at c3 hmb;obtain⟨mm,hmm⟩:∃mm:Nat,rC d jj=mm:=⟨(rC d jj).toNat,by have:=yD d jj;omega⟩;rw[hmm] at c3 hpx hac hmb;simp only[aZ0] at hpx hac;have c4:=fun g hw=>aC1 (lY xn mm) w v hpo g hw
    have c5:=fun g hw=>ihn _ hpx.1 aB g hw
    rw[<-hac] at c5;generalize iC w v (lY xn mm)=v2 at c4 c5;obtain⟨b2,hb2⟩:∃b2,aK0 (aI1 env cls n) d w v jj=b2:=⟨_,rfl⟩;rw[hb2] at c5;simp only[lY,Pt.av,bC,List.map] at c4;have hmb1:mm*48<=140737488355328:=aB;have hmb2:mm<=1099511627776:=aB;refine dD hjjl ?_;refine aO3 hgx ?_;refine zr ?_;refine zL (c3 _ (hh.app (by simp[hdu]))) ?_;refine zo3 hdcl hone hpa ?_;refine ND.Run.draw2 (pc:=[]) 3 5 [0,0,0,0,1,1,2] [0,0,0,0,0,1,2] [0,1,0,4,15,12,63] [2,3,5,0,1,4,6] [0,0,0,1,2,0,2] [0,0,0,1,0,0,2] [0,1,0,36,47,0,63] [5,2,3,0,1,4,6] aC aC aC aC ?_ ?_
    ·refine zm2 hmb1 hmb2 ?_;refine y9 ?_;refine nv ?_;rw[zrow];refine Run.freezeAt (h.length+5) 2 (id:=h.length+4) (n:=mm) (cap:=mm) (sz:=3) (m:=0) (es:=List.replicate mm zPt) aE aA aA aB (aHg mm) aA aB ?_;refine Run.weakH (h.length+5) (cs:=[iA 1, .p (sP xn), .p (.sl 3 (List.replicate mm zPt))]) (cs':=[iA 1, .p (sP xn), .p (.sl 3 (bX (List.replicate mm zP)))]) aA ?_ ?_
     ·exact y88
     refine cC ?_;refine zL (c4 _ (hh.app (by simp[hdu]))) ?_;refine zo ?_;refine zL (c5 _ (hh.app (by simp[hdu]))) ?_;refine zo ?_
     cases b2 with
     |false=>
      rw[aU hjjl hb2];refine lF ?_;exact y34
     |true=>
      exact y5c
    ·refine zm2 hmb1 hmb2 ?_;refine y9 ?_;refine nv ?_;rw[zrow];refine Run.freezeAt (h.length+4) 2 (id:=h.length+5) (n:=mm) (cap:=mm) (sz:=3) (m:=0) (es:=List.replicate mm zPt) aE aA aA aB (aHg mm) aA aB ?_;refine Run.weakH (h.length+4) (cs:=[iA 1, .p (sP xn), .p (.sl 3 (List.replicate mm zPt))]) (cs':=[iA 1, .p (sP xn), .p (.sl 3 (bX (List.replicate mm zP)))]) aA ?_ ?_
     ·exact y88
     refine cC ?_;refine zL (c4 _ (hh.app (by simp[hdu]))) ?_;refine zo ?_;refine zL (c5 _ (hh.app (by simp[hdu]))) ?_;refine zo ?_
     cases b2 with
     |false=>
      rw[aU hjjl hb2];refine lF ?_;exact y34
     |true=>
      exact y5c
   ·have hje:jj=d.cs.length:=aB;subst hje;rw[hallj];refine cQ ?_;exact y34
 ·have hje:j=cls.length:=aB;subst hje;rw[aZ2] at hall;have hsk:=sM (aI1 env cls n) env v cls cls.length (by rw[aZ2];exact hall);rw[bA4] at hsk;rw[hsk];refine cQ ?_;exact y39
open Go Go.AI
def mQ (env:List Dc)(n:Nat)(c:Cl):Bool:=decide (c.ps.length≠n)||(cU env c.ps !=0)
def zZ (env:List Dc)(n:Nat)(cls:List Cl)(j:Nat):Bool:=match cls[j]? with|some c=>!mQ env n c|none=>true
def mR (env:List Dc)(cls:List Cl)(v:List Pt):Bool:=
 if(decide (cU env v≠0)||vL 3 v)=true then false else if bB (zZ env v.length cls) cls.length=false then false else aI1 env cls (pL cls v+1) v
theorem kK {env:List Dc} {n:Nat} {cls:List Cl} {j:Nat} {c:Cl} (h:cls[j]?=some c):zZ env n cls j=!mQ env n c:=by unfold zZ;rw[h]
structure PSmall (cls:List Cl) (v:List Pt):Prop where
 cl:cls.length<=1048576
 cs:∀c∈cls,Pt.sizes c.ps<=1048576
 vs:Pt.sizes v<=1048576
theorem gJ:∀l:List Pt,l.length<=Pt.sizes l
 |[]=>by simp
 |p::l=>by have:=gJ l;have:=p.size_pos;simp only[Pt.sizes,aYi];omega
theorem aKn (env:List Dc)(hg:Env.good env)(hn:Env.short env)(v:List Pt)(_hv:v.length<=1048576)(c:Cl)(hc:Pt.sizes c.ps<=1048576)(h:Heap)(hh:WF h)(p q:Nat)(hp:h[p]?=some (some (.cells [.p (.sl 3 (bX v))])))(hq:h[q]?=some (some (.cells [bW env]))):
  AC 76 [c.av, .ptr p 0, .ptr q 0] h (bA (mQ env v.length c)):=by
 have hpl:=(aYc.1 hp).1;have hql:=(aYc.1 hq).1;have hp':∀l:List (Option AO),(h++l)[p]?=some (some (.cells [.p (.sl 3 (bX v))])):=fun l=>by rw[aYp hpl];exact hp
 have hq':∀l:List (Option AO),(h++l)[q]?=some (some (.cells [bW env])):=fun l=>by rw[aYp hql];exact hq
 have c1:=fun g hw=>pO env hg hn _ c.ps (aYd _) hc g hw
 have hcl:=gJ c.ps;obtain⟨ps,⟨k,i,nm,ls,ks⟩⟩:=c;simp only at c1 hc hcl;obtain⟨e,he⟩:∃e,cU env ps=e:=⟨_,rfl⟩;rw[he] at c1;simp only[Cl.av,Cl.cells,aG,List.map];refine zER Tryz.func76 Tryz.ntmps76 ?_
 by_cases h1:ps.length=v.length
 ·have hr:mQ env v.length ⟨ps, .mk k i nm ls ks⟩=(e !=0):=by simp[mQ,h1,he]
  rw[hr];refine zn ?_;refine zr3 hp' hq' h1 ?_;refine zL (c1 _ (hh.app aA)) ?_;refine zox ?_;exact y2t
 ·have hr:mQ env v.length ⟨ps, .mk k i nm ls ks⟩=true:=by simp[mQ,h1]
  rw[hr];have h1b:((ps.length:Int) !=(v.length:Int))=true:=by simp;omega
  refine rW hp' h1b ?_;refine zx ?_;exact y34
def aA8 (env:List Dc)(n:Nat)(cls:List Cl):Bool:=!bB (zZ env n cls) cls.length
theorem aLi (env:List Dc)(hg:Env.good env)(hn:Env.short env)(v:List Pt)(cls:List Cl)(hs:PSmall cls v)(h:Heap)(hh:WF h)(p q:Nat)(hp:h[p]?=some (some (.cells [.p (.sl 3 (bX v))])))(hq:h[q]?=some (some (.cells [bW env]))):
  ACalls Tryz.prog 129 [.p (.sl 6 (vG cls)), .fn (.func 76) [] [.ptr p 0, .ptr q 0]] h fun o h'=>∃r:Int,o= .ret (iA r)/\h'=h/\decide (0<=r)=aA8 env v.length cls:=by
 have hcl:=hs.cl;have hvl:=gJ v;have hvs:=hs.vs;refine cR Tryz.func129 Tryz.ntmps129 ?_;refine Run.loopS [0,1,6,7] (fun j:Nat=>j<=cls.length/\bB (zZ env v.length cls) j=true) (fun j=>cls.length-j) (fun j=>[(8,iA j)]) (fun _=>_) 0 (by simp[bB]) ?_ rfl ?_
 ·exact zS
 ·rintro j ⟨hj,hall⟩ IH;refine cC ?_
  by_cases hjl:j<cls.length
  ·have hgj:cls[j]?=some cls[j]:=aYb hjl;have hmem:=aYe hjl;generalize cls[j]=c at hgj hmem;have c1:=aKn env hg hn v aB c (hs.cs c hmem) h hh p q hp hq;have hok:=kK (env:=env) (n:=v.length) hgj;obtain⟨b,hb⟩:∃b,mQ env v.length c=b:=⟨_,rfl⟩;rw[hb] at c1 hok;obtain⟨ps,⟨k,i,nm,ls,ks⟩⟩:=c;simp only[Cl.av,Cl.cells,aG,List.map] at c1;refine kB hjl ?_;refine zrv8 hgj ?_;refine zL (c1) ?_;refine zo ?_
   cases b with
   |true=>
    refine znt ?_;refine zA ?_;have:=aU hjl hok;refine zF3 hh ?_;exact⟨j,rfl,rfl,by simp[aA8,this]⟩
   |false=>
    refine aA2 ?_;refine IH (j+1) _ _ ⟨by omega,by rw[bJ,hall,hok];rfl⟩ aB ?_ rfl;exact zS
  ·have hje:j=cls.length:=aB;subst hje;refine dJ ?_;refine zA ?_;refine zF3 hh ?_;exact⟨-1,rfl,rfl,by simp[aA8,hall]⟩
theorem aOo (env:List Dc)(hg:Env.good env)(hn:Env.short env)(v:List Pt)(cls:List Cl)(hs:PSmall cls v)(h:Heap)(hh:WF h)(p q:Nat)(hp:h[p]?=some (some (.cells [.p (.sl 3 (bX v))])))(hq:h[q]?=some (some (.cells [bW env]))):
  AC 75 [.p (.sl 6 (vG cls)), .fn (.func 76) [] [.ptr p 0, .ptr q 0]] h (bA (aA8 env v.length cls)):=by
 refine cR Tryz.func75 Tryz.ntmps75 ?_;refine Run.call rfl rfl aA rfl (aLi env hg hn v cls hs h hh p q hp hq) ?_ ?_
 ·rintro v h' ⟨r,hv,rfl,hr⟩;exact y3k
 ·rintro v h' ⟨r,hv,_⟩;cases hv
theorem CovOk.of {env:List Dc} {cls:List Cl} {v:List Pt} (hs:PSmall cls v)(h1:cU env v=0)(h2:bB (zZ env v.length cls) cls.length=true):CovOk env cls v:=by
 refine⟨hs.cl,fun c hc=>?_,bA8 (gJ v) hs.vs,h1⟩;obtain⟨j,hj,rfl⟩:=List.mem_iff_getElem.1 hc;have:=lL h2 hj;rw[kK (aYb hj)] at this;simp[mQ] at this;exact⟨this.2,hs.cs _ hc,this.1⟩
theorem lO (env:List Dc)(hf:aQ env)(hg:Env.good env)(cls:List Cl)(v:List Pt)(hs:PSmall cls v)(h:Heap)(hh:WF h):
  AC 26 [bW env, .p (.sl 6 (vG cls)), .p (.sl 3 (bX v))] h (bA (mR env cls v)):=by
 have c1:=fun g hw=>pO env hg hf.1 _ v (aYd _) hs.vs g hw
 have c2:=fun g hw=>yV 3 _ v (aYd _) hs.vs g hw
 have c3:=aOo env hg hf.1 v cls hs (h++[some (.cells [bW env]),some (.cells [.p (.sl 3 (bX v))])]) (hh.app aA) (h.length+1) h.length aA aA;have c4:=fun h1 h2 (g:Heap) (hw:WF g)=>aBz env hf hg cls (pL cls v+1) v (CovOk.of hs h1 h2) (Nat.lt_succ_self _) g hw
 obtain⟨r,hr⟩:∃r,mR env cls v=r:=⟨_,rfl⟩;rw[hr];unfold mR at hr;generalize cU env v=e at c1 c4 hr;generalize vL 3 v=b1 at c2 hr;unfold aA8 at c3;generalize bB (zZ env v.length cls) cls.length=b2 at c3 c4 hr;generalize aI1 env cls (pL cls v+1) v=b3 at c4 hr;refine cR Tryz.func26 Tryz.ntmps26 ?_;refine zL (c1 _ (hh.app aA)) ?_
 by_cases h1:e=0
 ·subst h1;refine zo ?_;refine zL (c2 _ (hh.app aA)) ?_;refine zo ?_
  cases b1 with
  |true=>
   simp at hr;rw[hr];refine lF ?_;exact y34
  |false=>
   refine aA2 ?_;refine zL (c3) ?_;refine zo ?_
   cases b2 with
   |false=>
    simp at hr;rw[hr];refine aOb ?_;exact y34
   |true=>
    simp at hr;subst hr;refine znr ?_;refine zL (c4 rfl rfl _ (hh.app aA)) ?_;refine zox ?_;exact y34
 ·simp[h1] at hr;rw[hr];have h1b:(e !=(0:Int))=true:=by simpa using h1
  refine zo1 h1b ?_;refine y2a ?_;exact y34
open Go Go.AI
open Rows (uptoBulk uptoBulkAll)
open Go.ChangeShapes Go.WideShapes Go.ChangeAt Go.RowKit
section
variable {H:Type} {enc:TypeId×Value->H} {W:World} {sp:Nat->Bool} {held:Bool}
theorem aKf:Tryz.prog.cellsOf 53=6:=aC
theorem aDo:Tryz.prog.cellsOf 74=3:=aC
def GPt (p:Pt)(d:DataW H):Prop:=uptoBulk d<=1048576->p.size<=uptoBulk d
theorem aR2:∀ {ts:List Pt} {ds:List (DataW H)},GL GPt ts ds->uptoBulkAll ds<=1048576->Pt.sizes ts<=uptoBulkAll ds
 |[],[],_,_=>by simp[Pt.sizes]
 |t::ts,d::ds,h,hb=>by
  simp only[uptoBulkAll] at hb;have h1:=h.1 aB;have h2:=aR2 h.2 aB;simp only[Pt.sizes,uptoBulkAll];omega
 |[],_::_,h,_=>h.elim
 |_::_,[],h,_=>h.elim
theorem aH7 (l:List Pt):bX l=l.map Pt.cells:=by
 induction l with
 |nil=>rfl
 |cons p l ih=>simp only[bX,ih,aYt]
theorem aTo (N:Nat):∀(n:Nat)(cs:List Value)(x:DataW H×List MemPlace),n<=N->DataW.trod enc Tryz.prog W 0 sp held n 74 cs=some x->
  ∃p:Pt,RepL (fF W) W (p.cells.map .p) cs/\GPt p x.1:=by
 induction N with
 | zero => intro n cs x hn h;obtain rfl:n=0:=aB
           simp[DataW.trod] at h
 |succ N ih=>
 intro n cs x hn h;obtain⟨xs,m,rfl,rfl,hl,hlen,hf⟩:=DataW.trod_struct Tryz.underlying74 h;rw[aDo] at hl;obtain⟨c0,c1,c2,rfl⟩:∃a b c,cs=[a,b,c]:=by match cs,hl with|[a,b,c],_=>exact⟨a,b,c,rfl⟩
 obtain⟨x0,x1,x2,rfl⟩:∃a b c,xs=[a,b,c]:=by match xs,hlen with|[a,b,c],_=>exact⟨a,b,c,rfl⟩
 have h0:=hf 0 _ rfl;have h1:=hf 1 _ rfl;have h2:=hf 2 _ rfl;simp only[aZa,aZ8] at h0 h1 h2;obtain⟨k,e0,r0,_,_⟩:=iY h0;obtain⟨s,v,e1,r1⟩:=aBw h1;obtain⟨ps,w,e2,r2,hG2⟩:=dC (α:=Pt) Tryz.underlying50 aDo aD Pt.cells GPt (fun p=>by cases p;rfl) (fun m' hm cs y hy=>ih m' cs y aB hy) h2
 injection e0 with e0;injection e1 with e1;injection e2 with e2
 subst e0;subst e1;subst e2;refine⟨.mk k s ps,?_,fun hb=>?_⟩
 ·simp only[bC,aH7,aYt,aZr,RepL,Rep];exact⟨_,_,rfl,r0,_,_,rfl,r1,_,_,rfl,r2,rfl⟩
 ·simp only[aYt,aZr,uptoBulk,uptoBulkAll] at hb⊢;simp only[Pt.size];rcases hG2 with ⟨rfl,_⟩|⟨elems,rest,he,hG⟩
  ·simp[Pt.sizes]
  ·exact y9f
def GCl (c:Cl)(d:DataW H):Prop:=uptoBulk d<=1048576->Pt.sizes c.ps<=uptoBulk d/\c.b.good
theorem aTj {n:Nat} {cs:List Value} {x:DataW H×List MemPlace} (h:DataW.trod enc Tryz.prog W 0 sp held n 53 cs=some x):∃c:Cl,RepL (fF W) W (c.cells.map .p) cs/\GCl c x.1:=by
 obtain⟨xs,m,rfl,rfl,hl,hlen,hf⟩:=DataW.trod_struct Tryz.underlying53 h;rw[aKf] at hl;obtain⟨c0,c1,c2,c3,c4,c5,rfl⟩:∃a b c d e f,cs=[a,b,c,d,e,f]:=by match cs,hl with|[a,b,c,d,e,f],_=>exact⟨a,b,c,d,e,f,rfl⟩
 obtain⟨x0,x1,rfl⟩:∃a b,xs=[a,b]:=by match xs,hlen with|[a,b],_=>exact⟨a,b,rfl⟩
 have h0:=hf 0 _ rfl;have h1:=hf 1 _ rfl;simp only[aZa,aZ8] at h0 h1;obtain⟨ps,w,e0,r0,hG0⟩:=dC (α:=Pt) Tryz.underlying50 aDo aD Pt.cells GPt (fun p=>by cases p;rfl) (fun m' _ cs y hy=>aTo m' m' cs y (aYd _) hy) h0;obtain⟨t,r1,g1⟩:=tX h1
 injection e0 with e0;subst e0
 refine⟨⟨ps,t⟩,?_,fun hb=>?_⟩
 ·simp only[Cl.cells,aH7,aYt,RepL,Rep];exact⟨_,_,rfl,r0,r1⟩
 ·simp only[aYt,aZr,uptoBulk,uptoBulkAll] at hb⊢;refine⟨?_,g1 aB⟩;rcases hG0 with ⟨rfl,_⟩|⟨elems,rest,he,hG⟩
  ·simp[Pt.sizes]
  ·exact y9f
end
theorem aSd {H:Type} {enc:TypeId×Value->H} {W:World} {v:Value} {d:DataW H} {p:List MemPlace} {base:Nat}
  (hv:Value.okWide Tryz.prog W .any base 37 v) (h:DataW.Trod enc Tryz.prog W 0 (fun _=>true) true 37 v d p):∃cls:List Cl,Rep (fF W) W (.p (.sl 6 (vG cls))) v/\(uptoBulk d<=1048576->cls.length<=1048576/\∀c∈cls,Pt.sizes c.ps<=1048576/\c.b.good):=by
 obtain⟨a,len,cap,rfl⟩:=okWide_slice Tryz.underlying37 hv;obtain⟨n,hn⟩:=h;obtain⟨xs,v',e,r,hG⟩:=dC (α:=Cl) Tryz.underlying37 aKf aD Cl.cells GCl (fun c=>by obtain⟨_,⟨_,_,_,_,_⟩⟩:=c;rfl) (fun m' _ cs y hy=>aTj hy) hn;simp[Value.cells] at e;subst e;refine⟨xs,by simp only[Rep];exact r,fun hb=>?_⟩;exact jB (Q:=fun c:Cl=>Pt.sizes c.ps<=1048576/\c.b.good) (fun x d hg hb=>by have:=hg hb;exact⟨by omega,this.2⟩) hG hb
open Go Go.AI
theorem aI9 (h:Heap)(hh:WF h)(l:List Tm)(hl:l.length<=1048576)(hg:∀t∈l,t.good):ACalls Tryz.prog 121 [.p (.sl 5 (aL l)), .p (.prim (.func (.func 66) #[] #[]))] h fun o h'=>aWh (fun _=>True) o/\h'=h:=by
 refine cR Tryz.func121 Tryz.ntmps121 ?_;refine Run.loopS [0,1,7] (fun j:Nat=>j<=l.length) (fun j=>l.length-j) (fun j=>[(8,iA j)]) (fun _=>_) 0 aA ?_ rfl ?_
 ·exact zS
 rintro j hj IH;refine cC ?_
 by_cases hjl:j<l.length
 ·have hge:l[j]?=some l[j]:=aYb hjl;have c1:=fun g hw=>aGn g hw _ (hg _ (aYe hjl))
  generalize (eP 60000 8 65536 65536 l[j] !=0)=b at c1;generalize l[j]=t at hge c1;obtain⟨k,i,n,ls,ks⟩:=t;simp only[Tm.av,aG,List.map] at c1;refine qE hjl hge ?_;refine zL (c1 _ hh) ?_
  cases b with
  |false=>
   refine qF ?_;exact y5l
  |true=>
   refine zot ?_;exact y7i
 ·have hje:j=l.length:=aB;subst hje;refine dJ ?_;exact y7i
theorem xX (h:Heap)(hh:WF h)(l:List Tm)(hl:l.length<=1048576)(hg:∀t∈l,t.good):ACalls Tryz.prog 65 [.p (.sl 5 (aL l)), .p (.prim (.func (.func 66) #[] #[]))] h fun o h'=>aJr (fun _=>True) o/\h'=h:=by
 refine cR Tryz.func65 Tryz.ntmps65 ?_;refine zB (aI9 _ hh l hl hg) fun e he=>?_
 refine zox ?_;exact y4l
theorem aEw (h:Heap)(hh:WF h)(env:List Dc)(l:List Tm)(hg:Env.good env)(hsz:Tm.sizes l<=1048576)(hlv:Tm.lvss l)(hf:Tm.fits l)(hgl:∀t∈l,t.good):
  ACalls Tryz.prog 20 [bW env, .p (.sl 5 (aL l))] h fun o h'=>aJr (fun b=>b=true->aQ env/\aBe l=true) o/\h'=h:=by
 have hll:=aR l;have c1:=fun g hw=>oD (Tm.sizes l) l 60 g (aYd _) aB aB aB hw
 have c2:=fun g hw=>aGk g hw l aB hlv hf
 have c3:=fun g hw=>tC g hw env hg
 have c4:=fun g hw=>xX g hw l aB hgl
 generalize aBe l=gb at c2⊢;generalize nd 60 0 l=n at c1;refine cR Tryz.func20 Tryz.ntmps20 ?_;refine zL (c1 _ hh) ?_
 by_cases e1:n<=60
 rotate_left
 ·refine zo1 e1 ?_;refine zx ?_;exact y38
 refine zo1 e1 ?_;refine zL (c2 _ hh) ?_
 cases gb with
 |false=>
  refine zox ?_;exact y38
 |true=>
 refine zo ?_;refine zB (c3 _ hh) fun b hb=>?_
 cases b with
 |false=>
  refine zox ?_;exact y38
 |true=>
  have he:=hb rfl;refine zo ?_;refine zB (c4 _ hh) fun b hb=>?_
  refine zox ?_;refine zF4 hh ?_;exact⟨⟨_,rfl,fun _=>⟨he,rfl⟩⟩,rfl⟩
end Go.Proofs.YtcfcolkbeelegaaGreat
