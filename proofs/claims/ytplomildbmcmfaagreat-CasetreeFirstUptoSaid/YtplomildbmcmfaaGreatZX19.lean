import Derived.Test.YtplomildbmcmfaaGreatZA0
import Derived.Test.YtplomildbmcmfaaGreatZX14
import Derived.Test.YtplomildbmcmfaaGreatZX5
import Derived.Test.YtplomildbmcmfaaGreatZT8
import Derived.Test.YtplomildbmcmfaaGreatZEVq
set_option maxRecDepth 8000
set_option maxHeartbeats 16000000
namespace Go.AI
open Go
theorem Run.loopD {P:Program} {rd:Option Nat} {nb:Nat} {c:Code} {k:List It} {D:List AD} {Q:AX->List AV->Heap->List AD->Prop} {T:List AV} {h:Heap} {ι:Type} (keep:List Nat)(pre:ι->Prop)(μ:ι->Nat)(f:ι->List (Nat×AV))(g:ι->Heap)(d:ι->List AD)
  (i0:ι) (hp:pre i0) (hT:WeakL T (setMany (keepT keep T) (f i0))) (hh:g i0=h) (hd:d i0=D)
  (round:∀i,pre i->(∀j T' h' D',pre j->μ j<μ i->WeakL T' (setMany (keepT keep T) (f j))->h'=g j->D'=d j->Run P rd nb (.code (.loop c)::k) T' h' D' Q)->
   Run P rd nb (.code c:: .code (.loop c)::k) (setMany (keepT keep T) (f i)) (g i) (d i) Q):Run P rd nb (.code (.loop c)::k) T h D Q:=by
 subst hh hd;refine Run.weak hT ?_
 have:∀n i,μ i=n->pre i->Run P rd nb (.code (.loop c)::k) (setMany (keepT keep T) (f i)) (g i) (d i) Q:=by
  intro n
  induction n using Nat.strongRecOn with
  |_ n ih=>
   intro i hn hi;exact Run.loop (round i hi fun j T' h' D' hj hlt hw he hd=>by subst he hd;exact Run.weak hw (ih (μ j) (hn▸hlt) j rfl hj))
 exact this _ i0 rfl hp
theorem FinM.of {P:Program} {fn:Func} {n:Nat} {R:AOut->Heap->Prop} {x:AX} {T:List AV} (h1:Heap):∀(ids:List Nat)(G:Heap),(∀id∈ids,h1.length<=id/\Heap.at (h1++G) id=some (.aux .dblk))->ids.Nodup->(∀G':Heap,Fin P fn n R x T (h1++G') [])->
  FinM P fn n R x T (h1++G) (ids.map fun id=>(Fn.yield id,[],[]))
 |[],G,_,_,hF=>by simpa only[bNb,FinM] using hF G
 |id::ids,G,hat,hnd,hF=>by
  have h0:=hat id aA;simp only[bMd,FinM];refine⟨h0.2,?_⟩;have e:(h1++G).set id none=h1++G.set (id-h1.length) none:=bNf _ _ h0.1;have hn:=bNd.1 hnd;rw[e];refine FinM.of h1 ids _ (fun i hi=>?_) hn.2 hF;have h2:=hat i (bNr _ hi);refine⟨h2.1,?_⟩;rw[<-e];have hne:id≠i:=fun e=>hn.1 (e▸hi)
  unfold Heap.at at h2⊢;rw[bMl hne];exact h2.2
theorem FinM.of' {P:Program} {fn:Func} {n:Nat} {R:AOut->Heap->Prop} {x:AX} {T:List AV} {hp:Heap} {D:List AD} (h1:Heap)(ids:List Nat)(G:Heap)(e:hp=h1++G)(eD:D=ids.map fun id=>(Fn.yield id,[],[]))(hat:∀id∈ids,h1.length<=id/\G[id-h1.length]?=some (some (.aux .dblk)))
  (hnd:ids.Nodup) (hF:∀G':Heap,Fin P fn n R x T (h1++G') []):FinM P fn n R x T hp D:=by
 subst e eD;refine FinM.of h1 ids G (fun id hi=>?_) hnd hF;have h2:=hat id hi;refine⟨h2.1,?_⟩;unfold Heap.at;rw[bN8 h2.1,h2.2]
 rfl
end Go.AI
namespace Go.Proofs.YtplomildbmcmfaaGreat
open Go Go.AI
theorem aBh (h:Heap)(hh:WF h)(d:Dc)(a:Int):ACalls Tryz.prog 310 [d.av,iA a] h fun o h'=>o= .ret (.fn (.func 351) [] [.ptr (h.length+1) 0, .ptr h.length 0])/\h'=h++[some (.cells (d.cells.map .p)),some (.cells [iA a])]:=by
 have hdl:=bB d;obtain⟨dc,hdc⟩:∃dc,dc=d.cells.map AV.p:=⟨_,rfl⟩;have hdu:∀n,AV.underL n dc=true:=fun n=>by rw[hdc];simp
 have hdl':dc.length=23:=by rw[hdc];simp[hdl]
 simp only[Dc.av];rw[<-hdc];have htd:List.take 23 dc=dc:=bM7 aB;refine zE Tryz.func310 Tryz.ntmps310 ?_;refine aT0 ?_;refine Fin.retM (h0:=h++[some (.cells dc),some (.cells [iA a])]) (l:=[]) aA aA (hh.app (by simp[AO.under,hdu])) aA aE rfl (Weak.refl _) aA ⟨rfl,rfl⟩
def stF (s:List UInt8)(r:Option En)(x:List UInt8×En):Option En×Bool:=if x.1=s then(some x.2,false) else(r,true)
theorem zN (s:List UInt8):∀l:List (List UInt8×En),(mI (stF s) none l).1=bI s l
 |[]=>rfl
 |(x,e)::l=>by
  simp only[mI,stF,bI];split
  ·simp
  ·simp;exact zN s l
theorem nB (s:List UInt8):∀(env:List Dc)(i j:Nat),(∀k d,k<j->env[k]?=some d->bI s (kZ d ((i+k:Nat):Int))=none)->qE s env i=qE s (env.drop j) (i+j)
 |env,i,0,_=>by simp
 |[],i,j+1,_=>by simp[qE]
 |d::env,i,j+1,h=>by
  simp only[qE,bO5];have h0:=h 0 d aB rfl;simp only[bO7] at h0
  rw[h0,nB s env (i+1) j (fun k x hk hx=>by
   have:=h (k+1) x aB (by simpa using hx)
   rwa [show i+(k+1)=i+1+k by omega] at this)]
  simp only
  congr 1;omega
theorem aL9 {s:List UInt8} {env:List Dc} {j:Nat} {d:Dc} {e:En} (h:∀k d,k<j->env[k]?=some d->bI s (kZ d k)=none)(hg:env[j]?=some d)(hc:bI s (kZ d j)=some e):qE s env 0=some e:=by
 obtain⟨hj,e'⟩:=bLw.1 hg;rw[nB s env 0 j (fun k d hk hd=>by simpa using h k d hk hd),bNv hj,e',qE];simp only[bMw,hc]
theorem aH2 {s:List UInt8} {env:List Dc} (h:∀k d,k<env.length->env[k]?=some d->bI s (kZ d k)=none):qE s env 0=none:=by
 rw[nB s env 0 env.length (fun k d hk hd=>by simpa using h k d hk hd)];simp[qE]
def enC (r:Option En):List AV:=match r with
 |some e=>e.cells.map .p
 |none=>[iA 0,iA 0,iA 0,iA 0,iA 0,iA 0, .p (sP []), .p (.prim (.slice none 0 0)), .p (.prim (.slice none 0 0))]
theorem aK8 (n:Nat)(r:Option En):AV.underL n (enC r)=true:=by
 cases r with
 |none=>simp[enC]
 |some e=>simp[enC]
theorem aEd (h:Heap)(hh:WF h)(env:List Dc)(s:List UInt8)(hg:Env.good env)(hn:Env.short env):ACalls Tryz.prog 249 [eU env, .p (sP s)] h fun o h'=>o= .ret (.tup [(bQ env s).1.av,iA (bQ env s).2])/\h'=h:=by
 obtain⟨hl,hg⟩:=hg;obtain⟨r,hr⟩:∃r,r=bQ env s:=⟨_,rfl⟩;rw[<-hr];unfold bQ at hr;rw[<-yC] at hr;refine ACalls.of_runM Tryz.func249 rfl ?_;simp only[Tryz.ntmps249,bM2,bM3];refine znrr ?_
 refine Run.loopD (ι:=Nat×List (Option AO)×List Nat) [3,4,5,10,11] (fun p=>p.1<=env.length/\(∀k d,k<p.1->env[k]?=some d->bI s (kZ d k)=none)/\p.2.1.all (AO.under (h.length+3+p.2.1.length))=true/\p.2.2.Nodup/\
   (∀id∈p.2.2,h.length+3<=id/\p.2.1[id-(h.length+3)]?=some (some (.aux .dblk)))) (fun p=>env.length-p.1) (fun p=>[(12,iA p.1)])
  (fun p=>h++(some (.cells [.p (sP s)])::some (.cells (enC none))::some (.cells [iA 0])::p.2.1)) (fun p=>p.2.2.map fun id=>(Fn.yield id,[],[])) (0,[],[]) aA ?_ (by simp[enC]) rfl ?_
 ·exact zS
 rintro⟨j,G,ids⟩ ⟨hj,hall,hGu,hnd,hids⟩ IH;simp only at hj hall hGu hids hnd;simp;obtain⟨Hd,hHd⟩:∃Hd:Option En->Heap,Hd=fun b=>h++(some (.cells [.p (sP s)])::some (.cells (enC b))::some (.cells [iA 0])::G):=⟨_,rfl⟩
 obtain⟨n,hnn⟩:∃n,n=h.length+3+G.length:=⟨_,rfl⟩;have hlenH:∀b,(Hd b).length=n:=fun b=>by rw[hHd,hnn];simp;omega
 have hHn:h++(some (.cells [.p (sP s)])::some (.cells (enC none))::some (.cells [iA 0])::G)=Hd none:=by rw[hHd]
 have hwfH:∀b,WF (Hd b):=fun b=>by
  rw[hHd];refine hh.app ?_;rw[<-hnn] at hGu;have e:h.length+(some (AO.cells [.p (sP s)])::some (.cells (enC b))::some (.cells [iA 0])::G).length=n:=by rw[hnn];simp;omega
  rw[e];simp[AO.under,aK8];simpa using hGu
 refine znr ?_
 by_cases hjl:j<env.length
 ·have hge:env[j]?=some env[j]:=bLv hjl;have hmem:env[j]∈env:=bLy hjl;have hd:=hg _ hmem;have hdn:=hn _ hmem;have hdl:=bB env[j];have hhit:=fun(e:En) (hc:bI s (kZ env[j] j)=some e)=>aL9 hall hge hc
  have hnext:bI s (kZ env[j] j)=none->∀k d,k<j+1->env[k]?=some d->bI s (kZ d k)=none:=fun h0 k d hk hd=>by
   by_cases hkj:k<j
   ·exact hall k d hkj hd
   ·have hk2:k=j:=aB;have hd2:d=env[j]:=by rw[hk2,hge] at hd;exact(bNg hd).symm
    rw[hd2,hk2];exact h0
  generalize env[j]=d at hge hhit hd hdn hdl hnext;clear hmem;obtain⟨dc,hdc⟩:∃dc,dc=d.cells.map AV.p:=⟨_,rfl⟩;have hdu:∀n,AV.underL n dc=true:=fun n=>by rw[hdc];simp
  have hdl':dc.length=23:=by rw[hdc];simp[hdl]
  have htd:List.take 23 dc=dc:=bM7 aB
  have hone:dc.all lI=true:=by
   exact y6w
  have hpa:∀l:List AV,l.length=23->patch l 0 dc=dc:=fun l hl'=>by
   exact y4c
  have c1:=fun g hw=>aBh g hw d j
  simp only[Dc.av] at c1;rw[<-hdc] at c1;have gl:∀b (l:List (Option AO)) (k:Nat),(Hd b++l)[n+k]?=l[k]?:=fun b l k=>cG (hlenH b)
  have gl0:∀b (l:List (Option AO)),(Hd b++l)[n]?=l[0]?:=fun b l=>eG (hlenH b)
  have sl:∀b (l:List (Option AO)) (k:Nat) (o:Option AO),(Hd b++l).set (n+k) o=Hd b++l.set k o:=fun b l k o=>cH (hlenH b)
  have sl0:∀b (l:List (Option AO)) (o:Option AO),(Hd b++l).set n o=Hd b++l.set 0 o:=fun b l o=>gU (hlenH b)
  have wfl:∀b (l:List (Option AO)),l.all (AO.under (n+l.length))=true->WF (Hd b++l):=fun b l hl=>(hwfH b).app (by rw[hlenH];exact hl)
  refine znt1 hjl ?_;rw[hHn];refine nv ?_;refine Run.reg fun K J=>?_
  simp[hge,hdl,<-hdc,htd,hdl',hone,hpa,hlenH,sl0];refine zj ?_;clear J;refine zr3 hdl' htd gl0 ?_;refine zL (c1 _ (wfl _ _ (by simp[AO.under,hdu]))) ?_;refine zo1 hlenH ?_;refine Run.keep [3,4,5,10,11,12,6,19] ?_;simp;refine Run.rangeG (gf:=351) (cap:=[.ptr (n+2) 0, .ptr (n+1) 0]) aA rfl fun y Tl ag' bd' hT hag hbd=>?_
  have hTu:∀k,AV.underL (n+(3+k)) Tl=true:=fun k=>by rw[hT];simp;omega
  obtain⟨B,hB⟩:∃B:Option En->Heap,B=fun b=>Hd b++[some (.cells dc),some (.cells dc),some (.cells [iA j]),some (.aux .dblk),some (.aux (.loop y (if b.isSome=true then .done else .ready) (if b.isSome=true then some .ret else none) Tl #[20,21] ag' bd'))]:=⟨_,rfl⟩
  obtain⟨Z,hZ⟩:∃Z:Option En->Heap,Z=fun b=>Hd b++[some (.cells dc),some (.cells dc),some (.cells [iA j]),some (.aux .dblk),some (.aux (.loop y .busy none Tl #[20,21] ag' bd'))]:=⟨_,rfl⟩
  have hlen:∀b,(B b).length=n+5:=fun b=>by rw[hB];simp[hlenH]
  have hlenZ:∀b,(Z b).length=n+5:=fun b=>by rw[hZ];simp[hlenH]
  have hwf:∀b,WF (B b):=fun b=>by rw[hB];exact wfl _ _ (by simp[AO.under,hTu 2,hdu])
  have hat:∀(l:List (Option AO)),Heap.at (B none++l) (n+4)=some (.aux (.loop y .ready none Tl #[20,21] ag' bd')):=fun l=>by rw[hB];simp[gl]
  have hatZ:∀b (l:List (Option AO)),Heap.at (Z b++l) (n+4)=some (.aux (.loop y .busy none Tl #[20,21] ag' bd')):=fun b l=>by rw[hZ];simp[gl]
  have hbusy:∀(l:List (Option AO)),(B none++l).set (n+4) (some (.aux (.loop y .busy none Tl #[20,21] ag' bd')))=Z none++l:=fun l=>by rw[hB,hZ];simp[sl]
  have hnorm:∀(l:List (Option AO)),(Z none++l).set (n+4) (some (.aux (.loop y .ready none Tl #[20,21] ag' bd')))=B none++l:=fun l=>by rw[hB,hZ];simp[sl]
  have hdone:∀(e:En) (l:List (Option AO)),(Z (some e)++l).set (n+4) (some (.aux (.loop y .done (some .ret) Tl #[20,21] ag' bd')))=B (some e)++l:=fun e l=>by rw[hB,hZ];simp[sl]
  have c0:∀b (l:List (Option AO)),(Z b++l)[h.length]?=some (some (.cells [.p (sP s)])):=fun b l=>by rw[hZ,hHd];simp
  have c1':∀b (l:List (Option AO)),(Z b++l)[h.length+1]?=some (some (.cells (enC b))):=fun b l=>by rw[hZ,hHd];simp
  have s1:∀(e:En) (l:List (Option AO)),(Z none++l).set (h.length+1) (some (.cells (e.cells.map .p)))=Z (some e)++l:=fun e l=>by rw[hZ,hHd];simp[enC]
  have c2:∀b (l:List (Option AO)),(Z b++l)[h.length+2]?=some (some (.cells [iA 0])):=fun b l=>by rw[hZ,hHd];simp
  have s2:∀b (l:List (Option AO)),(Z b++l).set (h.length+2) (some (.cells [iA 0]))=Z b++l:=fun b l=>by rw[hZ,hHd];simp
  have glZ:∀b (l l':List (Option AO)),(Z b++(l++l'))[n+5+l.length]?=l'[0]?:=fun b l l'=>by rw[cG (hlenZ b),yI]
  have slZ:∀b (l l':List (Option AO)) (o:Option AO),(Z b++(l++l')).set (n+5+l.length) o=Z b++(l++l'.set 0 o):=fun b l l' o=>by rw[cH (hlenZ b),zX]
  have htk:∀b (l l':List (Option AO)),(B b++(l++l')).take (n+5+l.length)=B b++l:=fun b l l'=>by rw[<-bMj,show n+5+l.length=(B b++l).length by rw[bM5,hlen],take_last]
  have hit:=aPt (stF s) (fun b=>b=none) (fun b x hs hg=>by
    subst hs;simp only[stF] at hg⊢
    by_cases hx:x.1=s
    ·rw[if_pos hx] at hg;simp at hg
    ·rw[if_neg hx]) y (n+2) (n+1) d j (by have:=hdn;omega) hd.csl hd.fsl none B (n+5) rfl hlen hwf (fun b=>by rw[hB];simp[gl]) (fun b=>by rw[hB,<-hdc];simp[gl])
   (fun b nm e l hs hw=>by
    subst hs;obtain⟨a1,a2,a3,a4,⟨uk,ui,un,uls,uks⟩⟩:=e;refine AYield.of_run (hat l) aA ?_;refine Run.codeEq hag ?_;refine Run.tEq (congrArg (fun T=>eH T _ _) hT) ?_;refine cK ?_;refine zr1 hlen ?_;refine Run.nil ⟨rfl,rfl,hat _,?_⟩;rw[hbusy];refine Run.codeEq hbd ?_
    have hw2:∀b,WF (B b++l):=fun b=>by
     refine(hwf b).app ?_;have:=hw.all;rw[bO9,bM8,bM5,hlen] at this;rw[hlen];exact this.2
    refine sD c0 ?_
    by_cases hx:nm=s
    ·have hst:stF s none (nm,⟨a1,a2,a3,a4, .mk uk ui un uls uks⟩)=(some ⟨a1,a2,a3,a4, .mk uk ui un uls uks⟩,false):=by simp only[stF];rw[if_pos hx]
     rw[hst,hlen];have hs1:=fun l=>s1 ⟨a1,a2,a3,a4, .mk uk ui un uls uks⟩ l
     simp only[En.cells,cells_mk,List.map] at hs1;refine znt1 hx ?_;refine bLq glZ c1' hs1 c2 s2 ?_;refine zx ?_;refine⟨some .ret,n+5+l.length,rfl,rfl,bLx _,by simp[hlenZ],hatZ _ _,?_,?_⟩
     ·rw[show stOf (some Code.ret)= .done from rfl,hdone,htk];have:=(hw2 (some ⟨a1,a2,a3,a4, .mk uk ui un uls uks⟩)).all
      rwa [bM5,hlen] at this
     ·rw[show stOf (some Code.ret)= .done from rfl,hdone,htk];exact⟨rfl,rfl⟩
    ·have hst:stF s none (nm,⟨a1,a2,a3,a4, .mk uk ui un uls uks⟩)=(none,true):=by simp only[stF];rw[if_neg hx]
     rw[hst,hlen];refine aFh hx ?_;refine Run.nil ?_;refine⟨none,n+5+l.length,rfl,rfl,bLx _,by simp[hlenZ],hatZ none _,?_,?_⟩
     ·refine y1l ?_;have:=(hw2 none).all
      rwa [bM5,hlen] at this
     ·refine y1l ?_;exact⟨rfl,rfl⟩)
  have hB0:B none=(Hd none++[some (.cells dc),some (.cells dc),some (.cells [iA j])])++[some (.aux .dblk),some (.aux (.loop y .ready none Tl #[20,21] ag' bd'))]:=by rw[hB];simp
  rw[zN] at hit;refine⟨_,hB0▸hit,?_⟩;rintro o h' ⟨rfl,rfl⟩;generalize bI s (kZ d j)=b at hhit hnext
  have hid2:∀id∈(n+3)::ids,h.length+3<=id/\∀l4:Option AO,(G++[some (.cells dc),some (.cells dc),some (.cells [iA j]),some (.aux .dblk),l4])[id-(h.length+3)]?=some (some (.aux .dblk)):=fun id hi=>by
   rcases bMh.1 hi with rfl|hi
   ·refine⟨by omega,fun l4=>?_⟩;rw[show n+3-(h.length+3)=G.length+3 by omega];simp
   ·have:=hids id hi;refine⟨this.1,fun l4=>?_⟩;have hlt:=(bLw.1 this.2).1;rw[bM9 hlt];exact this.2
  have hnd2:((n+3)::ids).Nodup:=bNd.2 ⟨fun hi=>by
   have:=hids _ hi;have hlt:=(bLw.1 this.2).1;omega,hnd⟩
  refine⟨_,(if b.isSome=true then .done else .ready),(if b.isSome=true then some .ret else none),rfl,by rw[hB];simp[hlenH,bO0],by cases b<;>simp,?_⟩;rw[hB];simp only[bM5,hlenH,bM2,bM3,bMw,Nat.reduceAdd,bO0,sl,bOc,bO1]
  cases b with
  |some e=>
   rw[hhit e rfl] at hr;simp only at hr;obtain⟨a1,a2,a3,a4,⟨uk,ui,un,uls,uks⟩⟩:=e;rw[hHd];simp[enC,En.cells];refine Run.ret ?_;refine FinM.of' (h++[some (.cells [.p (sP s)]),some (.cells [iA a1,iA a2,iA a3,iA a4, .p (iP uk), .p (iP ui), .p (sP un), .p (.sl 2 (lvPs uls)), .p (.sl 5 (tmPs uks))]),some (.cells [iA 0])]) ((n+3)::ids) (G++[some (.cells dc),some (.cells dc),some (.cells [iA j]),some (.aux .dblk),some (.aux (.loop y .exhausted (some .ret) Tl #[20,21] ag' bd'))]) aA aA (fun id hi=>⟨by simpa using(hid2 id hi).1,by simpa using(hid2 id hi).2 _⟩) hnd2 fun G'=>?_
   exact Fin.ret' (h0:=h) aA rfl hh aE aE rfl (Weak.refl _) aA ⟨by rw[hr];simp[En.av,En.cells],rfl⟩
  |none=>
   rw[<-bM1 (Hd none++_)];refine cK ?_;refine IH (j+1,G++[some (.cells dc),some (.cells dc),some (.cells [iA j]),some (.aux .dblk),some (.aux (.loop y .exhausted none Tl #[20,21] ag' bd'))],(n+3)::ids) _ _ _ ⟨by simp only;omega,hnext rfl,?_,hnd2,fun id hi=>⟨(hid2 id hi).1,(hid2 id hi).2 _⟩⟩ (by simp only;omega) ?_ (by rw[hHd];simp) aA
   ·rw[bO9,bM8];refine⟨?_,?_⟩
    ·refine bMg.2 fun o ho=>AO.under_mono aA (bMg.1 hGu o ho)
    ·have e:h.length+3+(G++[some (.cells dc),some (.cells dc),some (.cells [iA j]),some (.aux .dblk),some (.aux (.loop y .exhausted none Tl #[20,21] ag' bd'))]:List (Option AO)).length=n+5:=by rw[hnn];simp;omega
     simp only at e⊢;rw[e];simp[AO.under,hTu 2,hdu]
   ·exact zS
 ·have hje:j=env.length:=aB;subst hje;rw[aH2 hall] at hr;simp only at hr;refine znfen ?_;refine bLr ?_;refine zx ?_;refine FinM.of' (h++[some (.cells [.p (sP s)]),some (.cells [iA 0,iA 0,iA 0,iA 0,iA 0,iA 0, .p (sP []), .p (.prim (.slice none 0 0)), .p (.prim (.slice none 0 0))]),some (.cells [iA 9])]) ids G aA aA (fun id hi=>⟨by simpa using(hids id hi).1,by simpa using(hids id hi).2⟩) hnd fun G'=>?_
  exact Fin.ret' (h0:=h) (xs:=[.agg [iA 0,iA 0,iA 0,iA 0,iA 0,iA 0, .p (sP []), .p (.prim (.slice none 0 0)), .p (.prim (.slice none 0 0))],iA 9]) aA rfl hh aE aA rfl (Weak.tup (WeakL.cons aE7 (WeakL.refl _))) (by simp[zEn,En.av,En.cells,zT]) ⟨by rw[hr],rfl⟩
open Go Go.AI
def zDc:Dc:=⟨0,[],0,zT,zT,0,[],0,zT,[],[]⟩
def wV (env:List Dc)(s:List UInt8):Dc×Int×Bool:=match dX s env 0 with
 |some e=>if e.k=3 then((env[e.at_.toNat]?).getD zDc,-1,true) else if e.k=4 then((env[e.at_.toNat]?).getD zDc,e.it,true) else if e.k=5 then((env[e.at_.toNat]?).getD zDc,-2,true) else(zDc,0,false)
 |none=>(zDc,0,false)
theorem dc_weak0:Weak (.agg [iA 0, .p (sP []),iA 0,iA 0,iA 0, .p (sP []), .p (.prim (.slice none 0 0)), .p (.prim (.slice none 0 0)),iA 0,iA 0, .p (sP []), .p (.prim (.slice none 0 0)), .p (.prim (.slice none 0 0)),iA 0, .p (.prim (.slice none 0 0)),iA 0,iA 0,iA 0, .p (sP []), .p (.prim (.slice none 0 0)), .p (.prim (.slice none 0 0)), .p (.prim (.slice none 0 0)), .p (.prim (.slice none 0 0))]) zDc.av:=by
 simp only[zDc,Dc.av,Dc.cells,zT,cells_mk,List.map,lvPs,tmPs,bLz,bM4];exact y2y
theorem aH0 (h:Heap)(hh:WF h)(env:List Dc)(s:List UInt8)(hg:Env.good env)(hn:Env.short env):ACalls Tryz.prog 178 [eU env, .p (sP s)] h fun o h'=>o= .ret (.tup [(wV env s).1.av,iA (wV env s).2.1,bA (wV env s).2.2])/\h'=h:=by
 have hl:=hg.1;have c1:=fun g hw=>aEd g hw env s hg hn
 obtain⟨r,hr⟩:∃r,r=wV env s:=⟨_,rfl⟩;rw[<-hr];unfold wV at hr;unfold bQ at c1;have hok:=lV s env 0
 cases hz:dX s env 0 with
 |none=>
  rw[hz] at hr c1;simp only[zEn,zT,En.av,En.cells,cells_mk,List.map,lvPs,tmPs] at c1 hr;refine dE Tryz.func178 Tryz.ntmps178 ?_;refine zL (c1 _ (hh.app aA)) ?_;refine sF ?_;exact y27
 |some e=>
  rw[hz] at hr c1;obtain⟨j,d,h1,h2,h3,h4,h5⟩:=hok e hz;have hdl:=bB d;obtain⟨a1,a2,a3,a4,⟨k,i,n,ls,ks⟩⟩:=e;simp only[bMw] at h1 h3 h4 h5;subst h1;simp only[bMk,h2,bMc] at hr;simp only[En.av,En.cells,cells_mk,List.map] at c1;have hjl:=(bLw.1 h2).1;obtain⟨dc,hdc⟩:∃dc,dc=d.cells.map AV.p:=⟨_,rfl⟩;have hdu:∀n,AV.underL n dc=true:=fun n=>by rw[hdc];simp
  have hdl':dc.length=23:=by rw[hdc];simp[hdl]
  have htd:List.take 23 dc=dc:=bM7 aB
  have hone:dc.all lI=true:=by
   exact y6w
  have hpa:∀l:List AV,l.length=23->patch l 0 dc=dc:=fun l hl'=>by
   exact y4c
  have hdav:d.av= .agg dc:=by rw[hdc];rfl
  refine dE Tryz.func178 Tryz.ntmps178 ?_;exact y26
theorem vV (h:Heap)(hh:WF h)(env:List Dc)(s:List UInt8)(hg:Env.good env)(hn:Env.short env):ACalls Tryz.prog 125 [eU env, .p (sP s)] h fun o h'=>o= .ret (.tup [(wV env s).1.av,iA (wV env s).2.1,bA (wV env s).2.2])/\h'=h:=by
 have hl:=hg.1;have c1:=fun g hw=>iI g hw env s hg hn
 obtain⟨r,hr⟩:∃r,r=wV env s:=⟨_,rfl⟩;rw[<-hr];unfold wV at hr;unfold bQ at c1;have hok:=lV s env 0
 cases hz:dX s env 0 with
 |none=>
  rw[hz] at hr c1;simp only[zEn,zT,En.av,En.cells,cells_mk,List.map,lvPs,tmPs] at c1 hr;refine dE Tryz.func125 Tryz.ntmps125 ?_;refine zL (c1 _ (hh.app aA)) ?_;refine sF ?_;exact y27
 |some e=>
  rw[hz] at hr c1;obtain⟨j,d,h1,h2,h3,h4,h5⟩:=hok e hz;have hdl:=bB d;obtain⟨a1,a2,a3,a4,⟨k,i,n,ls,ks⟩⟩:=e;simp only[bMw] at h1 h3 h4 h5;subst h1;simp only[bMk,h2,bMc] at hr;simp only[En.av,En.cells,cells_mk,List.map] at c1;have hjl:=(bLw.1 h2).1;obtain⟨dc,hdc⟩:∃dc,dc=d.cells.map AV.p:=⟨_,rfl⟩;have hdu:∀n,AV.underL n dc=true:=fun n=>by rw[hdc];simp
  have hdl':dc.length=23:=by rw[hdc];simp[hdl]
  have htd:List.take 23 dc=dc:=bM7 aB
  have hone:dc.all lI=true:=by
   exact y6w
  have hpa:∀l:List AV,l.length=23->patch l 0 dc=dc:=fun l hl'=>by
   exact y4c
  have hdav:d.av= .agg dc:=by rw[hdc];rfl
  refine dE Tryz.func125 Tryz.ntmps125 ?_;exact y26
end Go.Proofs.YtplomildbmcmfaaGreat
namespace Go.AI
open Go
end Go.AI
namespace Go.Proofs.YtplomildbmcmfaaGreat
open Go Go.AI
@[simp] theorem bDz (l:List Tm) (n:Nat):(tmPs l).take n=tmPs (l.take n):=by simp[tmPs_eq]
@[simp] theorem bDy (l:List Tm) (n:Nat):(tmPs l).drop n=tmPs (l.drop n):=by simp[tmPs_eq]
open Go Go.AI
structure Rc where
 i:Nat
 bs:List Tm
 ix:List Tm
def Rc.cells (r:Rc):List PV:=[iP r.i, .sl 5 (tmPs r.bs), .sl 5 (tmPs r.ix)]
def bDr (l:List Rc):List (List PV):=l.map Rc.cells
@[simp] theorem aX8 (l:List Rc):(bDr l).length=l.length:=by simp[bDr]
@[simp] theorem bG8 (l:List Rc) (i:Nat):(bDr l)[i]?=(l[i]?).map Rc.cells:=by simp[bDr]
structure Cn where
 nm:List UInt8
 fs:List Tm
 rc:List Rc
 ix:List Tm
def Cn.cells (c:Cn):List PV:=[sP c.nm, .sl 5 (tmPs c.fs), .sl 3 (bDr c.rc), .sl 5 (tmPs c.ix)]
def bEh (l:List Cn):List (List PV):=l.map Cn.cells
@[simp] theorem aUm (l:List Cn):(bEh l).length=l.length:=by simp[bEh]
@[simp] theorem bEi (l:List Cn) (i:Nat):(bEh l)[i]?=(l[i]?).map Cn.cells:=by simp[bEh]
end Go.Proofs.YtplomildbmcmfaaGreat
