import Derived.Test.YtcfcolkbeelegaaGreatJA0
import Derived.Test.YtcfcolkbeelegaaGreatJLH
import Derived.Test.YtcfcolkbeelegaaGreatJPJ
import Derived.Test.YtcfcolkbeelegaaGreatJC
import Derived.Test.YtcfcolkbeelegaaGreatJE12
import Derived.Test.YtcfcolkbeelegaaGreatJLO
set_option maxRecDepth 8000
set_option maxHeartbeats 8000000
namespace Go.Proofs.YtcfcolkbeelegaaGreat
open Go Go.AI
def aD0 (H:Heap)(om:List (Int×Int))(c:Int):Heap:=H++[some (.aux (.map (om.map ikv))),some (.cells [.mp H.length,iA c])]
theorem aUf (H:Heap)(hH:WF H):SumH (aD0 H) H.length (H.length+1) (H.length+2) where
 len om c:=by simp[aD0]
 gi om c l:=by simp[aD0]
 gs om c l:=by simp[aD0]
 si om c om' l:=by simp[aD0]
 ss om c c' l:=by simp[aD0]
 wf om c:=hH.app aA
 lt:=⟨by omega,by omega⟩
theorem aIo {α β:Type} (f:α->β->α)(a:α)(l:List β) {j:Nat} {x:β} (h:l[j]?=some x):(l.take (j+1)).foldl f a=f ((l.take j).foldl f a) x:=by
 have e:l.take (j+1)=l.take j++[x]:=by rw[bAg,h];rfl
 rw[e,bBg];rfl
theorem aIz (h:Heap)(hh:WF h)(l:Lv)(vals:List Lv)(hb:l.vars.length<=1048576)(hbs:vals.length<=1048576)(hbv:∀x∈vals,x.vars.length<=1048576):
  AC 56 [l.av, .p (.sl 2 (aW vals))] h (.tup [(iJ l vals).1.av,iA (iJ l vals).2]):=by
 have hv:=fun(g:Heap) (hg:WF g)=>qH g hg l hb
 have hva:=fun(g:Heap) (hg:WF g)=>zY g hg vals hbs hbv
 have hpa:=fun(g:Heap) (hg:WF g)=>aFh g hg l hb
 have hV:=fun(e:aY l=true)=>Vd.of e
 have hlt:=fun(e:aY l=true) (v:Int×Int) (hv:v∈l.vars)=>aJa e hv
 obtain⟨r,hr⟩:∃r,iJ l vals=r:=⟨_,rfl⟩;rw[hr];unfold iJ at hr;have hVa:vals.all aY=true->∀x∈vals,Vd x:=fun e x hx=>Vd.of (aZf.1 e x hx)
 generalize aY l=b1 at hv hr hV hlt;generalize vals.all aY=b2 at hva hr hVa;generalize iE l=pa at hpa hr hlt;obtain⟨c,vs⟩:=l;simp only[Lv.av,Lv.cells,List.map] at hv hpa hb hlt hr hV⊢;refine cW Tryz.func56 Tryz.ntmps56 ?_;refine zL (hv _ (hh.app aA)) ?_
 cases b1 with
 |false=>
  refine aOj ?_;simp only[bB7,bBr,if_true] at hr;exact y39
 |true=>
  refine zo ?_;refine zL (hva _ (hh.app aA)) ?_
  cases b2 with
  |false=>
   refine aOj ?_;simp only[bBn,bB7,bB5,if_true] at hr;exact y39
  |true=>
   have V:=hV rfl;have Va:=hVa rfl;simp only[bBn,bB5,aZd,if_false] at hr;refine rJ ?_;refine zL (hpa _ (hh.app aA)) ?_;refine zo ?_
   by_cases h1:(vals.length:Int)<pa
   ·refine kL h1 ?_;rw[if_pos h1] at hr;subst hr;refine Run.ret ?_;refine Fin.ret' (h0:=h) aA rfl hh rfl aE rfl (y:= .tup [.agg [iA 0, .p (.sl 2 (bN []))],iA 24]) ?_ aA ⟨rfl,rfl⟩;exact y3d
   ·refine vL h1 ?_;rw[if_neg h1] at hr;refine znr ?_;generalize hH:h++[some (AO.cells [AV.p (iP c),AV.p (PV.sl 2 (bN vs))]),some (AO.cells [AV.p (PV.prim (Value.int IntKind.i64 0)),AV.p (PV.prim (Value.slice none 0 0))])]=H;have hwH:WF H:=by rw[<-hH];exact hh.app aA
    have hlH:H.length=h.length+2:=by rw[<-hH];simp
    have hB:=aUf H hwH;have gb:∀om x l,(aD0 H om x++l)[h.length]?=some (some (.cells [iA c, .p (.sl 2 (bN vs))])):=fun om x l=>by rw[<-hH];simp[aD0]
    have gb0:∀om x,(aD0 H om x)[h.length]?=some (some (.cells [iA c, .p (.sl 2 (bN vs))])):=fun om x=>by have:=gb om x [];rwa [aZ0] at this
    have gs0:∀om x,(aD0 H om x)[H.length+1]?=some (some (.cells [.mp H.length,iA x])):=fun om x=>by have:=hB.gs om x [];rwa [aZ0] at this
    have ss0:∀om x x',(aD0 H om x).set (H.length+1) (some (.cells [.mp H.length,iA x']))=aD0 H om x':=fun om x x'=>by have:=hB.ss om x x' [];rwa [aZ0,aZ0] at this
    refine zL (aJ4 H hwH) ?_;rw[show H++[some (AO.aux (.map [])),some (.cells [.mp H.length,iA 0])]=aD0 H [] 0 from rfl];refine zo ?_;refine zr3 gb0 gs0 ss0 ?_;refine zr1 gb0 ?_;obtain⟨st,hst⟩:∃st:Nat->Int×List (Int×Int),st=fun j=>(vs.take j).foldl (gL vals false) (c,[]):=⟨_,rfl⟩
    have hsn:=fun(j:Nat) v (hg:vs[j]?=some v)=>aIo (gL vals false) (c,[]) vs hg
    have hst0:st 0=(c,[]):=by rw[hst];rfl
    have hstn:st vs.length=vs.foldl (gL vals false) (c,[]):=by rw[hst];simp
    have hss:∀(j:Nat) v,vs[j]?=some v->st (j+1)=gL vals false (st j) v:=fun j v hg=>by rw[hst];exact hsn j v hg
    have hok:StOk (vs.foldl (gL vals false) (c,[])):=StOk.all Va vs (fun v hv=>⟨V.i0 v hv,V.i1 v hv,V.v1 v hv⟩) (StOk.start V);rw[<-hstn] at hok hr;clear hst hsn;refine Run.loopS [1,4,6,31,32] (fun j:Nat=>j<=vs.length) (fun j=>vs.length-j) (fun j=>[(33,iA j)]) (fun j=>aD0 H (st j).2 (st j).1) 0 aB ?_ (by rw[hst0]) ?_
    ·exact zS
    rintro j hj IH;refine cI ?_
    by_cases hjl:j<vs.length
    ·have hg:vs[j]?=some vs[j]:=aYu hjl;have k0:=V.v0 _ (aYx hjl);have k1:=V.v1 _ (aYx hjl);have k2:=hlt rfl _ (aYx hjl);have hsj:=hss j _ hg;obtain⟨⟨a,b⟩,hab⟩:∃p,vs[j]=p:=⟨_,rfl⟩;rw[hab] at hg k0 k1 k2 hsj;simp only at k0 k1 k2;obtain⟨⟨sc,sm⟩,hsc⟩:∃s,st j=s:=⟨_,rfl⟩;rw[hsc] at hsj⊢;simp only;refine dF hjl ?_;refine Run.reg fun K J=>?_
     simp[hg,hB.sl0,hB.len];refine zj ?_;clear J;refine Run.reg fun K J=>?_
     simp[hB.gl0];refine zj ?_;clear J
     by_cases ha:a<0
     ·refine dF ha ?_;refine Run.draw [0,0,0,0,0,0,0,0,0] [0,0,0,0,0,0,0,0,0] [0,1,3,7,0,16,0,64,255] [0,1,2,3,4,5,6,7,8] aC aC ?_;refine DR.go fun K J=>?_
      simp[hB.gs,hB.gl0];refine zh ?_;clear J;refine DR.call (args:=[.mp H.length,iA a,iA b]) rfl rfl rfl aA rfl (aCd hB sm sc _ a b fun om'=>hB.wfl om' _ _ aA) ?_;refine zd ?_;refine y9 ?_;refine nv ?_;refine Run.keep [1,4,6,31,32,33] ?_;refine yf ?_;refine y2d ?_;refine IH (j+1) _ _ aB aB ?_ ?_
      ·exact zS
      ·rw[hsj];simp[gL,aS1,ha]
     ·have hax:a.toNat<vals.length:=aB;have hgx:vals[a.toNat]?=some vals[a.toNat]:=aYu hax;have hVx:=Va _ (aYx hax);have hbx:=hbv _ (aYx hax);generalize vals[a.toNat]=x at hgx hVx hbx;refine vL ha ?_;refine Run.draw [0,0,0,0,0,0,0,0,0] [0,0,0,0,0,0,0,0,0] [0,0,0,4,14,30,0,64,255] [0,1,2,3,4,5,6,7,8] aC aC ?_;refine DR.go fun K J=>?_
      simp[hgx,hB.gl0,ha];refine zh ?_;clear J;have cS:ACalls Tryz.prog 112 [.ptr (H.length+1) 0,x.av,iA b] (aD0 H sm sc++[some (AO.cells [AV.p (iP a),AV.p (iP b)])]) fun o h'=>o= .ret (.tup [])/\h'=aD0 H (aAf sm x.vars b) (max sc (x.c+b))++[some (AO.cells [AV.p (iP a),AV.p (iP b)])]:=aOy (hB.app [some (AO.cells [AV.p (iP a),AV.p (iP b)])] aA) sm sc x b hVx hbx k0 k1
      obtain⟨xc,xv⟩:=x
      have hst2:st (j+1)=(max sc (xc+b),aAf sm xv b):=by
       rw[hsj];simp[gL,aS1,ha,hgx]
      refine DR.call (args:=[.ptr (H.length+1) 0,(Lv.mk xc xv).av,iA b]) rfl rfl rfl (by simp[Lv.av,Lv.cells]) rfl cS ?_;refine zd ?_;refine y9 ?_;refine nv ?_;refine Run.keep [1,4,6,31,32,33] ?_;refine yf ?_;refine y2d ?_;refine IH (j+1) _ _ aB aB ?_ ?_
      ·exact zS
      ·rw[hst2]
    ·have hje:j=vs.length:=aB;subst hje;refine dP ?_;have cL:=aD1 hB (st vs.length).2 (st vs.length).1 (bAr hok.len aB) hok.wf;rw[show((st vs.length).1,(st vs.length).2)=st vs.length from rfl,hr] at cL;refine znr ?_;refine zL (cL) ?_;simp only[aD0,<-hH,Lv.av,Lv.cells,List.map];refine zox ?_;exact y3f
open Go Go.AI
theorem aJc (h:Heap)(hh:WF h)(k i:Int)(n:List UInt8)(ls:List Lv)(ks:List Tm)(hb:tT ls):ACalls Tryz.prog 102 [(Tm.mk k i n ls ks).av] h fun o h'=>o= .ret (.agg [iA k,iA i, .p (sP n), .vec (h.length+3) ls.length, .p (.prim (.slice none 0 0))])/\
  h'=h++[some (.cells [iA k,iA i, .p (sP n), .p (.sl 2 (aW ls)), .p (.sl 5 (aL ks))]),some (.cells [iA k,iA i, .p (sP n), .vec (h.length+3) ls.length, .p (.prim (.slice none 0 0))]),
    some (.cells [iA k,iA i, .p (sP n), .vec (h.length+3) ls.length, .p (.prim (.slice none 0 0))]),some (.vec 2 (aW ls))]:=by
 refine ACalls.of_run Tryz.func102 rfl ?_;simp only[Tryz.ntmps102,aZ1,aZ2,Tm.av,aH,List.map];refine iQ ?_;refine Run.vecAt (h.length+2) 3 2 aE aA ?_;simp
 refine Run.loopS [1,2,3,14,15] (fun j:Nat=>j<=ls.length) (fun j=>ls.length-j) (fun j=>[(16,iA j)])
   (fun j=>h++[some (.cells [iA k,iA i, .p (sP n), .p (.sl 2 (aW ls)), .p (.sl 5 (aL ks))]),some (.cells [iA 0,iA 0, .p (sP []), .p (.prim (.slice none 0 0)), .p (.prim (.slice none 0 0))]),
    some (.cells [iA k,iA i, .p (sP n), .vec (h.length+3) j, .p (.prim (.slice none 0 0))]),some (.vec 2 (aW (ls.take j)))])
   0 aA ?_ (by simp[aW]) ?_
 ·exact zS
 ·intro j hj IH;refine cI ?_
  by_cases hjl:j<ls.length
  ·have hg:ls[j]?=some ls[j]:=aYu hjl;have hvl:=hb.2 _ (aYx hjl);have hmin:min j ls.length=j:=bAb hj;have hb0:=hb.1;refine aA8 hjl hg ?_;refine y1c ?_;have hb1:ls[j].vars.length*16<=140737488355328:=aB;have hb2:ls[j].vars.length<=9223372036854775807:=aB;have hb3:(j+1)*32<=140737488355328:=aB;have hb4:j+1<=9223372036854775807:=aB;have hl2:(∀(x:List PV),x∈aW (List.take j ls)->x.length=2)=True:=eq_true fun e he=>by simp only[aW,aZq] at he;obtain⟨a,_,rfl⟩:=he;simp[Lv.cells]
   refine zd6 hmin hb1 hb2 hb3 hb4 hl2 ?_;exact y5v
  ·have hje:j=ls.length:=aB;subst hje;refine cY ?_
   refine Fin.retM (h0:=h++[some (.cells [iA k,iA i, .p (sP n), .p (.sl 2 (aW ls)), .p (.sl 5 (aL ks))]),some (.cells [iA k,iA i, .p (sP n), .vec (h.length+3) ls.length, .p (.prim (.slice none 0 0))]),
    some (.cells [iA k,iA i, .p (sP n), .vec (h.length+3) ls.length, .p (.prim (.slice none 0 0))]),some (.vec 2 (aW ls))]) (l:=[]) aA aA (hh.app aA) aA aE rfl (Weak.refl _) aA ⟨rfl,rfl⟩
open Go Go.AI
def vR (f:Lv->Lv×Int):List Lv->Int
 |[]=>0
 |l::ls=>if(f l).2=0 then vR f ls else(f l).2
theorem aLc (f:Lv->Lv×Int):∀(ls:List Lv)(j:Nat)(l:Lv),vR f (ls.take j)=0->ls[j]?=some l->(f l).2≠0->vR f ls=(f l).2
 |[],j,l,_,h,_=>by simp at h
 |x::ls,0,l,_,h,he=>by
  simp at h;subst h;simp only[vR,if_neg he]
 |x::ls,j+1,l,h0,h,he=>by
  simp only[aZu,vR] at h0
  by_cases c:(f x).2=0
  ·rw[if_pos c] at h0;simp only[vR,if_pos c];exact aLc f ls j l h0 (by simpa using h) he
  ·rw[if_neg c] at h0;exact absurd h0 c
theorem aBd (f:Lv->Lv×Int):∀(ls:List Lv)(j:Nat)(l:Lv),vR f (ls.take j)=0->ls[j]?=some l->(f l).2=0->vR f (ls.take (j+1))=0
 |[],j,l,_,h,_=>by simp at h
 |x::ls,0,l,_,h,he=>by
  simp at h;subst h;simp[vR,he]
 |x::ls,j+1,l,h0,h,he=>by
  simp only[aZu,vR] at h0⊢
  by_cases c:(f x).2=0
  ·rw[if_pos c] at h0⊢;exact aBd f ls j l h0 (by simpa using h) he
  ·rw[if_neg c] at h0;exact absurd h0 c
def aA2 (f:Lv->Lv×Int)(s:Int)(t:Tm)(_:Int):VO:=
 if vR f t.levels=0 then .go (.mk t.kind t.index t.name (t.levels.map fun l=>(f l).1) []) s else .bad (vR f t.levels) s
def aEz (f:Lv->Lv×Int)(ls:List Lv)(j:Nat):List (List PV):=aW ((ls.take j).map (fun l=>(f l).1)++ls.drop j)
theorem aNc (f:Lv->Lv×Int)(ls:List Lv)(j:Nat):∀e∈aEz f ls j,e.length=2:=by
 intro e he;simp only[aEz,aW,aZq] at he;obtain⟨a,_,rfl⟩:=he;simp[Lv.cells]
theorem aF0 (f:Lv->Lv×Int)(ls:List Lv) {j:Nat} (hj:j<=ls.length):(aEz f ls j).length=ls.length:=by
 simp[aEz,aW];omega
theorem aNd (f:Lv->Lv×Int)(ls:List Lv):aEz f ls 0=aW ls:=by simp[aEz]
theorem aQr (f:Lv->Lv×Int)(ls:List Lv):aEz f ls ls.length=aW (ls.map fun l=>(f l).1):=by simp[aEz]
theorem aQs (f:Lv->Lv×Int)(ls:List Lv) {j:Nat} {l:Lv} (h:ls[j]?=some l):(aEz f ls j).set j (f l).1.cells=aEz f ls (j+1):=by
 have hj:j<ls.length:=(aYv.1 h).1;have hg:ls[j]=l:=(aYv.1 h).2;have htk:ls.take (j+1)=ls.take j++[l]:=by rw[bAg,h];rfl
 have hdr:ls.drop j=l::ls.drop (j+1):=by rw[<-hg];exact bAu hj
 unfold aEz;rw[htk,hdr];have hl:(aW ((ls.take j).map fun l=>(f l).1)).length=j:=by simp[aW];omega
 simp only[aW,aZx,aZc,bAa] at hl⊢;rw[bAe _ _ aB,hl,Nat.sub_self,bB0];simp
theorem buf_set {sz m j:Nat} {es:List (List PV)} {c:List PV} (hes:∀e∈es,e.length=sz)(hc:c.length=sz)(hj:j<es.length):patch (buf sz es m) (j*sz) (c.map .p)=buf sz (es.set j c) m:=by
 unfold buf
 have hle:j*sz+sz<=es.length*sz:=by
  have:(j+1)*sz<=es.length*sz:=bAj _ hj;rw[bB2] at this;omega
 rw[uG _ _ _ _ (by rw[aZo,aZo,aV hes,hc];exact hle),<-kW,oG _ _ _ _ hes hc hj]
theorem aQ5 (f:Lv->Lv×Int)(g:FuncId)(hg:aX Tryz.prog g=true)(capR:List AV)(HH:Heap)(p:Nat)(hw:WF HH)(hp:∀l,(HH++l)[p]?=some (some (.cells [.fn (.func g) [] capR])))(hpn:p<HH.length)
  (hR:∀l lv,lv.vars.length<=1048576->WF (HH++l)->ACalls Tryz.prog g ([lv.av]++capR) (HH++l) fun o h'=>o= .ret (.tup [(f lv).1.av,iA (f lv).2])/\h'=HH++l)
  (s:Int) (t:Tm) (d:Int) (hd:tT t.levels):
  ACalls Tryz.prog 105 ([t.av,iA d]++[.ptr p 0]) HH (iZ (fun _=>HH) [] (aA2 f s t d)):=by
 obtain⟨k,i,nm,ls,ks⟩:=t;simp only[Tm.levels] at hd;have hvis:aA2 f s (.mk k i nm ls ks) d=if vR f ls=0 then .go (.mk k i nm (ls.map fun l=>(f l).1) []) s else .bad (vR f ls) s:=rfl
 rw[hvis];clear hvis;simp only[aYy,aZ3]
 by_cases hls:ls=[]
 ·subst hls;have hpl:=fun(g:Heap) (hg:WF g)=>oQ g hg (.mk k i nm [] ks) hd
  simp only[vR,if_true];refine ACalls.of_run Tryz.func105 rfl ?_;simp only[Tryz.ntmps105,aZ1,aZ2,Tm.av,aH,List.map];refine rS ?_;refine zL (hpl _ (hw.app aA)) ?_;simp only[Tm.bare,Tm.av,aH,List.map];refine zor ?_;refine Run.loop ?_;refine aI1 ?_;refine Fin.ret' (h0:=HH) aA rfl hw rfl aE rfl (Weak.refl _) aA ?_;simp[iZ,Tm.av]
 ·have hpl:=fun(g:Heap) (hg:WF g)=>aJc g hg k i nm ls ks hd
  have hl0:0<ls.length:=bAw.2 hls;have hlu:=hd.1;refine ACalls.of_run Tryz.func105 rfl ?_;simp only[Tryz.ntmps105,aZ1,aZ2,Tm.av,aH,List.map];refine rS ?_;refine zL (hpl _ (hw.app aA)) ?_;refine zo ?_;simp only[bAz,Nat.reduceAdd]
  refine Run.thawAt (HH.length+6) 3 (id:=HH.length+5) (n:=ls.length) (sz:=2) (es:=aW ls) aE aA aA (fun e he=>by simp only[aW,aZq] at he;obtain⟨a,_,rfl⟩:=he;simp[Lv.cells]) (by simp[aW]) hl0 ?_;intro cap hcap;refine cI ?_
  refine Run.loopS [2,3,5,7,15,16] (fun j:Nat=>j<=ls.length/\vR f (ls.take j)=0) (fun j=>ls.length-j) (fun j=>[(17,iA j)])
   (fun j=>HH++[some (.cells [iA k,iA i, .p (sP nm), .p (.sl 2 (aW ls)), .p (.sl 5 (aL ks))]),some (.cells [iA 0,iA 0, .p (sP []), .p (.prim (.slice none 0 0)), .p (.prim (.slice none 0 0))]),
    some (.cells [iA k,iA i, .p (sP nm), .p (.sl 2 (aW ls)), .p (.sl 5 (aL ks))]),some (.cells [iA k,iA i, .p (sP nm), .vec (HH.length+5) ls.length, .p (.prim (.slice none 0 0))]),
    some (.cells [iA k,iA i, .p (sP nm), .vec (HH.length+5) ls.length, .p (.prim (.slice none 0 0))]),none,
    some (.cells [iA k,iA i, .p (sP nm), .sm (HH.length+7) 0 ls.length cap 2, .p (.prim (.slice none 0 0))]),some (.cells (buf 2 (aEz f ls j) (cap-ls.length)))]) 0 (by simp[vR]) ?_ (by simp[aNd]) ?_
  ·exact zS
  rintro j ⟨hj,her⟩ IH;have hrl:=aF0 f ls hj;have hr2:=aNc f ls j;have hbl:=kQ (sz:=2) (m:=cap-ls.length) hr2;refine cI ?_
  by_cases hjl:j<ls.length
  ·have hgj:ls[j]?=some ls[j]:=aYu hjl;have hbv:=hd.2 _ (aYx hjl);have hst:=aQs f ls hgj;have hea:=aLc f ls j _ her hgj;have hes:=aBd f ls j _ her hgj;have hcl:=fun(l:List (Option AO)) (hl:l.all (AO.under (HH.length+l.length))=true)=>hR l _ hbv (hw.app hl)
   generalize ls[j]=lv at hgj hbv hst hea hes hcl;obtain⟨⟨⟨c',vs'⟩,e⟩,hfe⟩:∃r,f lv=r:=⟨_,rfl⟩;rw[hfe] at hst hea hes hcl;simp only at hst hea hes hcl;obtain⟨c,vs⟩:=lv
   have hput:((buf 2 (aEz f ls j) (cap-ls.length)).set (j*2) (AV.p (iP c'))).set (j*2+1) (AV.p (.sl 2 (bN vs')))=buf 2 (aEz f ls (j+1)) (cap-ls.length):=by
    rw[<-hst];exact buf_set (c:=(Lv.mk c' vs').cells) hr2 (by simp[Lv.cells]) (by rw[hrl];exact hjl)
   have hle:j*2+2<=(buf 2 (aEz f ls j) (cap-ls.length)).length:=by rw[hbl,hrl];omega
   refine aA8 hjl hgj ?_;refine Run.regPre 2 fun K J=>?_
   refine yd ?_;simp[hp];refine zi ?_;clear J;refine ya ?_;simp only[aYy,aZ3,Lv.av,Lv.cells,List.map] at hcl;refine rl rfl aF aA hg (hcl _ (by simp[bT])) ?_;refine zor ?_
   by_cases he:e=0
   ·refine vL he ?_;refine zr3 hjl hle hput ?_;refine zr ?_;refine Run.keep [2,3,5,7,15,16,17] ?_;refine yf ?_;refine Run.cutAt 8 hw rfl aB aA (by simp;omega) (by simp[bT]) rfl ?_;simp;refine IH (j+1) _ _ ⟨by omega,hes he⟩ aB ?_ rfl;exact zS
   ·have hee:=hea he;rw[if_neg (by rw[hee];exact he),hee];refine kL he ?_;refine Run.call (args:=[iA e]) rfl aF aA rfl (sF _ (hw.app (by simp[bT])) e) ?_ ?_
    ·rintro v h' ⟨hv,_⟩;cases hv
    rintro v h' ⟨hv,rfl⟩;simp only[AOut.panic.injEq] at hv;subst hv;exact Fin.pan rfl hw rfl (by simp[iZ])
  ·have hje:j=ls.length:=aB;subst hje;rw[aZl] at her;rw[aQr] at hr2 hrl⊢;rw[if_pos her];refine dP ?_;refine Run.freezeAt (HH.length+6) 3 (id:=HH.length+7) (n:=ls.length) (cap:=cap) (sz:=2) (m:=cap-ls.length) (es:=aW (ls.map fun l=>(f l).1)) aE aA aA aB hr2 (by simp[aW]) hcap ?_;refine aRi ?_;refine Fin.ret' (h0:=HH) aA rfl hw rfl aE rfl (y:= .tup [(Tm.mk k i nm (ls.map fun l=>(f l).1) []).av,bA false]) ?_ aA ?_
   ·exact y3d
   ·simp[iZ]
open Go Go.AI
def aTv (ls:List Lv)(j:Nat):Bool:=match ls[j]? with|some l=>aY l|none=>true
theorem aHg (ls:List Lv):bB (aTv ls) ls.length=ls.all aY:=by
 rw[aZs,cJ,aZf];constructor
 ·intro h l hl;obtain⟨j,hj⟩:=bAl hl;have:=h j (aYv.1 hj).1;simpa [aTv,hj] using this
 ·intro h j hj;have hg:ls[j]?=some ls[j]:=aYu hj;simp[aTv,hg,h _ (aYx hj)]
theorem oT (h:Heap)(hh:WF h)(ls:List Lv)(hb:ls.length<=1048576)(hbv:∀l∈ls,l.vars.length<=1048576):AC 165 [.p (.sl 2 (aW ls))] h (bA (ls.all aY)):=by
 refine cW Tryz.func165 Tryz.ntmps165 ?_;refine Run.loopS [0] (fun j:Nat=>j<=ls.length/\bB (aTv ls) j=true) (fun j=>ls.length-j) (fun j=>[(3,iA j)]) (fun _=>_) 0 (by simp[bB]) ?_ rfl ?_
 ·exact zS
 rintro j ⟨hj,hall⟩ IH;refine cI ?_
 by_cases hjl:j<ls.length
 ·have hg':ls[j]?=some ls[j]:=aYu hjl;have hc:=fun(g:Heap) (hg:WF g)=>jN g hg _ (hbv _ (aYx hjl))
  generalize ls[j]=u at hg' hc;refine jO hjl hg' ?_;obtain⟨v,hv⟩:∃v,aY u=v:=⟨_,rfl⟩;simp only[hv] at hc;refine rl (args:=[u.av]) rfl aF aA rfl (hc _ hh) ?_
  cases v with
  |true=>
   refine rJ ?_;refine IH (j+1) _ _ ⟨by omega,by rw[bK,hall];simp only[aTv,hg'];simp[hv]⟩ aB ?_ rfl;exact zS
  |false=>
   have hf:ls.all aY=false:=by rw[<-aHg];exact aU (p:=aTv ls) hjl (by simp only[aTv,hg'];simp[hv])
   rw[hf];refine aOj ?_;refine zx ?_;exact y3a
 ·have hje:j=ls.length:=aB;subst hje;rw[aHg] at hall;rw[hall];refine cY ?_;exact y3a
theorem aF1 (h:Heap)(hh:WF h)(l:Lv)(hb:l.vars.length<=1048576):AC 166 [l.av] h (iA (iE l)):=by
 have hv:=fun(g:Heap) (hg:WF g)=>jN g hg l hb
 have hV:=fun(e:aY l=true)=>Vd.of e
 obtain⟨c,vs⟩:=l;obtain⟨r,hr⟩:∃r,iE ⟨c,vs⟩=r:=⟨_,rfl⟩;rw[hr];unfold iE at hr;simp only at hb hr;generalize aY ⟨c,vs⟩=b at hv hr hV;simp only[Lv.av,Lv.cells,List.map] at hv⊢;refine cW Tryz.func166 Tryz.ntmps166 ?_;refine zL (hv _ (hh.app aA)) ?_
 cases b with
 |false=>
  refine aOj ?_;simp at hr;subst hr;refine Run.ret ?_;exact y2s
 |true=>
  have V:=hV rfl
  by_cases h0:0<vs.length
  ·have hg:vs[vs.length-1]?=some vs[vs.length-1]:=aYu aB;have k0:=V.i0 _ (aYx (show vs.length-1<vs.length by omega));have k1:=V.i1 _ (aYx (show vs.length-1<vs.length by omega));generalize vs[vs.length-1]=v at hg k0 k1;rw[hg] at hr;simp only[if_true] at hr;have w1:IntKind.i64.wrap ((vs.length:Int)-1)=((vs.length-1:Nat):Int):=by rw[aQ aB aB];omega
   have w2:IntKind.i64.wrap (v.1+1)=v.1+1:=aQ aB aB;have hw:(if 0<v.1+1 then v.1+1 else 0)=r:=by rw[<-hr];split<;>omega
   have h1:¬vs=[]:=fun e=>by simp[e] at h0
   refine zo ?_;refine zf1 h1 ?_;refine zr4 hg w1 w2 hw ?_;refine zx ?_;exact y2s
  ·have e:vs=[]:=bAv aB;subst e;simp at hr;subst hr;refine aOj ?_;refine zx ?_;exact y2s
end Go.Proofs.YtcfcolkbeelegaaGreat
