import Derived.Test.YtcfcolkbeelegaaGreatJA0
import Derived.Test.YtcfcolkbeelegaaGreatJX14
import Derived.Test.YtcfcolkbeelegaaGreatJX4
import Derived.Scope
import Derived.Test.YtcfcolkbeelegaaGreatJX2
import Derived.Test.YtcfcolkbeelegaaGreatJT8
set_option maxRecDepth 8000
set_option maxHeartbeats 16000000
namespace Go.AI
open Go
theorem Run.loopD {P:Program} {rd:Option Nat} {nb:Nat} {c:Code} {k:List It} {D:List AD} {Q:AX->List AV->Heap->List AD->Prop} {T:List AV} {h:Heap} {ι:Type} (keep:List Nat)(pre:ι->Prop)(μ:ι->Nat)(f:ι->List (Nat×AV))(g:ι->Heap)(d:ι->List AD)
  (i0:ι) (hp:pre i0) (hT:WeakL T (bQ (keepT keep T) (f i0))) (hh:g i0=h) (hd:d i0=D)
  (round:∀i,pre i->(∀j T' h' D',pre j->μ j<μ i->WeakL T' (bQ (keepT keep T) (f j))->h'=g j->D'=d j->Run P rd nb (.code (.loop c)::k) T' h' D' Q)->
   Run P rd nb (.code c:: .code (.loop c)::k) (bQ (keepT keep T) (f i)) (g i) (d i) Q):Run P rd nb (.code (.loop c)::k) T h D Q:=by
 subst hh hd;refine Run.weak hT ?_
 have:∀n i,μ i=n->pre i->Run P rd nb (.code (.loop c)::k) (bQ (keepT keep T) (f i)) (g i) (d i) Q:=by
  intro n
  induction n using Nat.strongRecOn with
  |_ n ih=>
   intro i hn hi;exact Run.loop (round i hi fun j T' h' D' hj hlt hw he hd=>by subst he hd;exact Run.weak hw (ih (μ j) (hn▸hlt) j rfl hj))
 exact this _ i0 rfl hp
theorem FinM.of {P:Program} {fn:Func} {n:Nat} {R:AOut->Heap->Prop} {x:AX} {T:List AV} (h1:Heap):∀(ids:List Nat)(G:Heap),(∀id∈ids,h1.length<=id/\Heap.at (h1++G) id=some (.aux .dblk))->ids.Nodup->(∀G':Heap,Fin P fn n R x T (h1++G') [])->
  FinM P fn n R x T (h1++G) (ids.map fun id=>(Fn.yield id,[],[]))
 |[],G,_,_,hF=>by simpa only[bAa,FinM] using hF G
 |id::ids,G,hat,hnd,hF=>by
  have h0:=hat id aA;simp only[aZc,FinM];refine⟨h0.2,?_⟩;have e:(h1++G).set id none=h1++G.set (id-h1.length) none:=bAe _ _ h0.1;have hn:=bAc.1 hnd;rw[e];refine FinM.of h1 ids _ (fun i hi=>?_) hn.2 hF;have h2:=hat i (bAq _ hi);refine⟨h2.1,?_⟩;rw[<-e];have hne:id≠i:=fun e=>hn.1 (e▸hi)
  unfold Heap.at at h2⊢;rw[aZk hne];exact h2.2
theorem FinM.of' {P:Program} {fn:Func} {n:Nat} {R:AOut->Heap->Prop} {x:AX} {T:List AV} {hp:Heap} {D:List AD} (h1:Heap)(ids:List Nat)(G:Heap)(e:hp=h1++G)(eD:D=ids.map fun id=>(Fn.yield id,[],[]))(hat:∀id∈ids,h1.length<=id/\G[id-h1.length]?=some (some (.aux .dblk)))
  (hnd:ids.Nodup) (hF:∀G':Heap,Fin P fn n R x T (h1++G') []):FinM P fn n R x T hp D:=by
 subst e eD;refine FinM.of h1 ids G (fun id hi=>?_) hnd hF;have h2:=hat id hi;refine⟨h2.1,?_⟩;unfold Heap.at;rw[bA7 h2.1,h2.2]
 rfl
end Go.AI
namespace Go.Proofs.YtcfcolkbeelegaaGreat
open Go Go.AI
theorem aE5 (h:Heap)(hh:WF h)(d:Dc)(a:Int):ACalls Tryz.prog 232 [d.av,iA a] h fun o h'=>o= .ret (.fn (.func 259) [] [.ptr (h.length+1) 0, .ptr h.length 0])/\h'=h++[some (.cells (d.cells.map .p)),some (.cells [iA a])]:=by
 have hdl:=aZ d;obtain⟨dc,hdc⟩:∃dc,dc=d.cells.map AV.p:=⟨_,rfl⟩;have hdu:∀n,AV.underL n dc=true:=fun n=>by rw[hdc];simp
 have hdl':dc.length=23:=by rw[hdc];simp[hdl]
 simp only[Dc.av];rw[<-hdc];have htd:List.take 23 dc=dc:=aZ6 aB;refine zE Tryz.func232 Tryz.ntmps232 ?_;refine aDl ?_;refine Fin.retM (h0:=h++[some (.cells dc),some (.cells [iA a])]) (l:=[]) aA aA (hh.app (by simp[AO.under,hdu])) aA aE rfl (Weak.refl _) aA ⟨rfl,rfl⟩
def stF (s:List UInt8)(r:Option En)(x:List UInt8×En):Option En×Bool:=if x.1=s then(some x.2,false) else(r,true)
theorem aCl (s:List UInt8):∀l:List (List UInt8×En),(oV (stF s) none l).1=cH s l
 |[]=>rfl
 |(x,e)::l=>by
  simp only[oV,stF,cH];split
  ·simp
  ·simp;exact aCl s l
theorem pO (s:List UInt8):∀(env:List Dc)(i j:Nat),(∀k d,k<j->env[k]?=some d->cH s (nB d ((i+k:Nat):Int))=none)->tH s env i=tH s (env.drop j) (i+j)
 |env,i,0,_=>by simp
 |[],i,j+1,_=>by simp[tH]
 |d::env,i,j+1,h=>by
  simp only[tH,bB4];have h0:=h 0 d aB rfl;simp only[bB6] at h0
  rw[h0,pO s env (i+1) j (fun k x hk hx=>by
   have:=h (k+1) x aB (by simpa using hx)
   rwa [show i+(k+1)=i+1+k by omega] at this)]
  simp only
  congr 1;omega
theorem aLk {s:List UInt8} {env:List Dc} {j:Nat} {d:Dc} {e:En} (h:∀k d,k<j->env[k]?=some d->cH s (nB d k)=none)(hg:env[j]?=some d)(hc:cH s (nB d j)=some e):tH s env 0=some e:=by
 obtain⟨hj,e'⟩:=aYv.1 hg;rw[pO s env 0 j (fun k d hk hd=>by simpa using h k d hk hd),bAu hj,e',tH];simp only[aZv,hc]
theorem aIl {s:List UInt8} {env:List Dc} (h:∀k d,k<env.length->env[k]?=some d->cH s (nB d k)=none):tH s env 0=none:=by
 rw[pO s env 0 env.length (fun k d hk hd=>by simpa using h k d hk hd)];simp[tH]
def enC (r:Option En):List AV:=match r with
 |some e=>e.cells.map .p
 |none=>[iA 0,iA 0,iA 0,iA 0,iA 0,iA 0, .p (sP []), .p (.prim (.slice none 0 0)), .p (.prim (.slice none 0 0))]
theorem aLa (n:Nat)(r:Option En):AV.underL n (enC r)=true:=by
 cases r with
 |none=>simp[enC]
 |some e=>simp[enC]
theorem aGv (h:Heap)(hh:WF h)(env:List Dc)(s:List UInt8)(hg:Env.good env)(hn:Env.short env):AC 208 [bW env, .p (sP s)] h (.tup [(aK env s).1.av,iA (aK env s).2]):=by
 obtain⟨hl,hg⟩:=hg;obtain⟨r,hr⟩:∃r,r=aK env s:=⟨_,rfl⟩;rw[<-hr];unfold aK at hr;rw[<-aBi] at hr;refine ACalls.of_runM Tryz.func208 rfl ?_;simp only[Tryz.ntmps208,aZ1,aZ2];refine rS ?_
 refine Run.loopD (ι:=Nat×List (Option AO)×List Nat) [3,4,5,10,11] (fun p=>p.1<=env.length/\(∀k d,k<p.1->env[k]?=some d->cH s (nB d k)=none)/\p.2.1.all (AO.under (h.length+3+p.2.1.length))=true/\p.2.2.Nodup/\
   (∀id∈p.2.2,h.length+3<=id/\p.2.1[id-(h.length+3)]?=some (some (.aux .dblk)))) (fun p=>env.length-p.1) (fun p=>[(12,iA p.1)])
  (fun p=>h++(some (.cells [.p (sP s)])::some (.cells (enC none))::some (.cells [iA 0])::p.2.1)) (fun p=>p.2.2.map fun id=>(Fn.yield id,[],[])) (0,[],[]) aA ?_ (by simp[enC]) rfl ?_
 ·exact zS
 rintro⟨j,G,ids⟩ ⟨hj,hall,hGu,hnd,hids⟩ IH;simp only at hj hall hGu hids hnd;simp;obtain⟨Hd,hHd⟩:∃Hd:Option En->Heap,Hd=fun b=>h++(some (.cells [.p (sP s)])::some (.cells (enC b))::some (.cells [iA 0])::G):=⟨_,rfl⟩
 obtain⟨n,hnn⟩:∃n,n=h.length+3+G.length:=⟨_,rfl⟩;have hlenH:∀b,(Hd b).length=n:=fun b=>by rw[hHd,hnn];simp;omega
 have hHn:h++(some (.cells [.p (sP s)])::some (.cells (enC none))::some (.cells [iA 0])::G)=Hd none:=by rw[hHd]
 have hwfH:∀b,WF (Hd b):=fun b=>by
  rw[hHd];refine hh.app ?_;rw[<-hnn] at hGu;have e:h.length+(some (AO.cells [.p (sP s)])::some (.cells (enC b))::some (.cells [iA 0])::G).length=n:=by rw[hnn];simp;omega
  rw[e];simp[AO.under,aLa];simpa using hGu
 refine znr ?_
 by_cases hjl:j<env.length
 ·have hge:env[j]?=some env[j]:=aYu hjl;have hmem:env[j]∈env:=aYx hjl;have hd:=hg _ hmem;have hdn:=hn _ hmem;have hdl:=aZ env[j];have hhit:=fun(e:En) (hc:cH s (nB env[j] j)=some e)=>aLk hall hge hc
  have hnext:cH s (nB env[j] j)=none->∀k d,k<j+1->env[k]?=some d->cH s (nB d k)=none:=fun h0 k d hk hd=>by
   by_cases hkj:k<j
   ·exact hall k d hkj hd
   ·have hk2:k=j:=aB;have hd2:d=env[j]:=by rw[hk2,hge] at hd;exact(bAf hd).symm
    rw[hd2,hk2];exact h0
  generalize env[j]=d at hge hhit hd hdn hdl hnext;clear hmem;obtain⟨dc,hdc⟩:∃dc,dc=d.cells.map AV.p:=⟨_,rfl⟩;have hdu:∀n,AV.underL n dc=true:=fun n=>by rw[hdc];simp
  have hdl':dc.length=23:=by rw[hdc];simp[hdl]
  have htd:List.take 23 dc=dc:=aZ6 aB
  have hone:dc.all vO=true:=by
   exact y84
  have hpa:∀l:List AV,l.length=23->patch l 0 dc=dc:=fun l hl'=>by
   exact y5r
  have c1:=fun g hw=>aE5 g hw d j
  simp only[Dc.av] at c1;rw[<-hdc] at c1;have gl:∀b (l:List (Option AO)) (k:Nat),(Hd b++l)[n+k]?=l[k]?:=fun b l k=>eG (hlenH b)
  have gl0:∀b (l:List (Option AO)),(Hd b++l)[n]?=l[0]?:=fun b l=>fV (hlenH b)
  have sl:∀b (l:List (Option AO)) (k:Nat) (o:Option AO),(Hd b++l).set (n+k) o=Hd b++l.set k o:=fun b l k o=>eU (hlenH b)
  have sl0:∀b (l:List (Option AO)) (o:Option AO),(Hd b++l).set n o=Hd b++l.set 0 o:=fun b l o=>jK (hlenH b)
  have wfl:∀b (l:List (Option AO)),l.all (AO.under (n+l.length))=true->WF (Hd b++l):=fun b l hl=>(hwfH b).app (by rw[hlenH];exact hl)
  refine dF hjl ?_;rw[hHn];refine nv ?_;refine Run.reg fun K J=>?_
  simp[hge,hdl,<-hdc,htd,hdl',hone,hpa,hlenH,sl0];refine zj ?_;clear J;refine Run.reg fun K J=>?_
  simp[hdl',htd,gl0];refine zj ?_;clear J;refine zL (c1 _ (wfl _ _ (by simp[AO.under,hdu]))) ?_;refine zo1 hlenH ?_;refine Run.keep [3,4,5,10,11,12,6,19] ?_;simp;refine Run.rangeG (gf:=259) (cap:=[.ptr (n+2) 0, .ptr (n+1) 0]) aA rfl fun y Tl ag' bd' hT hag hbd=>?_
  have hTu:∀k,AV.underL (n+(3+k)) Tl=true:=fun k=>by rw[hT];simp;omega
  obtain⟨B,hB⟩:∃B:Option En->Heap,B=fun b=>Hd b++[some (.cells dc),some (.cells dc),some (.cells [iA j]),some (.aux .dblk),some (.aux (.loop y (if b.isSome=true then .done else .ready) (if b.isSome=true then some .ret else none) Tl #[20,21] ag' bd'))]:=⟨_,rfl⟩
  obtain⟨Z,hZ⟩:∃Z:Option En->Heap,Z=fun b=>Hd b++[some (.cells dc),some (.cells dc),some (.cells [iA j]),some (.aux .dblk),some (.aux (.loop y .busy none Tl #[20,21] ag' bd'))]:=⟨_,rfl⟩
  have hlen:∀b,(B b).length=n+5:=fun b=>by rw[hB];simp[hlenH]
  have hlenZ:∀b,(Z b).length=n+5:=fun b=>by rw[hZ];simp[hlenH]
  have hwf:∀b,WF (B b):=fun b=>by rw[hB];exact wfl _ _ (by simp[AO.under,hTu 2,hdu])
  have hat:∀(l:List (Option AO)),Heap.at (B none++l) (n+4)=some (.aux (.loop y .ready none Tl #[20,21] ag' bd')):=fun l=>by rw[hB];simp[gl]
  have hatZ:∀b (l:List (Option AO)),Heap.at (Z b++l) (n+4)=some (.aux (.loop y .busy none Tl #[20,21] ag' bd')):=fun b l=>by rw[hZ];simp[gl]
  have hbusy:∀(l:List (Option AO)),(B none++l).set (n+4) (some (.aux (.loop y .busy none Tl #[20,21] ag' bd')))=Z none++l:=fun l=>by rw[hB,hZ];simp[sl]
  have hnorm:∀(l:List (Option AO)),(Z none++l).set (n+4) (some (.aux (.loop y .ready none Tl #[20,21] ag' bd')))=B none++l:=fun l=>by rw[hB,hZ];simp[sl]
  have hdone:∀(e:En) (l:List (Option AO)),(Z (some e)++l).set (n+4) (some (.aux (.loop y .done (some .ret) Tl #[20,21] ag' bd')))=B (some e)++l:=fun e l=>by rw[hB,hZ];simp[sl]
  have c0:∀b (l:List (Option AO)),(Z b++l)[h.length]?=some (some (.cells [.p (sP s)])):=fun b l=>by rw[hZ,hHd];simp
  have c1':∀b (l:List (Option AO)),(Z b++l)[h.length+1]?=some (some (.cells (enC b))):=fun b l=>by rw[hZ,hHd];simp
  have s1:∀(e:En) (l:List (Option AO)),(Z none++l).set (h.length+1) (some (.cells (e.cells.map .p)))=Z (some e)++l:=fun e l=>by rw[hZ,hHd];simp[enC]
  have c2:∀b (l:List (Option AO)),(Z b++l)[h.length+2]?=some (some (.cells [iA 0])):=fun b l=>by rw[hZ,hHd];simp
  have s2:∀b (l:List (Option AO)),(Z b++l).set (h.length+2) (some (.cells [iA 0]))=Z b++l:=fun b l=>by rw[hZ,hHd];simp
  have glZ:∀b (l l':List (Option AO)),(Z b++(l++l'))[n+5+l.length]?=l'[0]?:=fun b l l'=>by rw[eG (hlenZ b),aBn]
  have slZ:∀b (l l':List (Option AO)) (o:Option AO),(Z b++(l++l')).set (n+5+l.length) o=Z b++(l++l'.set 0 o):=fun b l l' o=>by rw[eU (hlenZ b),aCo]
  have htk:∀b (l l':List (Option AO)),(B b++(l++l')).take (n+5+l.length)=B b++l:=fun b l l'=>by rw[<-aZi,show n+5+l.length=(B b++l).length by rw[aZ4,hlen],cK]
  have hit:=aPi (stF s) (fun b=>b=none) (fun b x hs hg=>by
    subst hs;simp only[stF] at hg⊢
    by_cases hx:x.1=s
    ·rw[if_pos hx] at hg;simp at hg
    ·rw[if_neg hx]) y (n+2) (n+1) d j (by have:=hdn;omega) hd.csl hd.fsl none B (n+5) rfl hlen hwf (fun b=>by rw[hB];simp[gl]) (fun b=>by rw[hB,<-hdc];simp[gl])
   (fun b nm e l hs hw=>by
    subst hs;obtain⟨a1,a2,a3,a4,⟨uk,ui,un,uls,uks⟩⟩:=e;refine AYield.of_run (hat l) aA ?_;refine Run.codeEq hag ?_;refine Run.tEq (congrArg (fun T=>qA T _ _) hT) ?_;refine cI ?_;refine zr1 hlen ?_;refine Run.nil ⟨rfl,rfl,hat _,?_⟩;rw[hbusy];refine Run.codeEq hbd ?_
    have hw2:∀b,WF (B b++l):=fun b=>by
     refine(hwf b).app ?_;have:=hw.all;rw[bB8,aZ7,aZ4,hlen] at this;rw[hlen];exact this.2
    refine nQ c0 ?_
    by_cases hx:nm=s
    ·have hst:stF s none (nm,⟨a1,a2,a3,a4, .mk uk ui un uls uks⟩)=(some ⟨a1,a2,a3,a4, .mk uk ui un uls uks⟩,false):=by simp only[stF];rw[if_pos hx]
     rw[hst,hlen];have hs1:=fun l=>s1 ⟨a1,a2,a3,a4, .mk uk ui un uls uks⟩ l
     simp only[En.cells,aH,List.map] at hs1;refine dF hx ?_;refine aYq glZ c1' hs1 c2 s2 ?_;refine zx ?_;refine⟨some .ret,n+5+l.length,rfl,rfl,aYw _,by simp[hlenZ],hatZ _ _,?_,?_⟩
     ·rw[show aQz (some Code.ret)= .done from rfl,hdone,htk];have:=(hw2 (some ⟨a1,a2,a3,a4, .mk uk ui un uls uks⟩)).all
      rwa [aZ4,hlen] at this
     ·rw[show aQz (some Code.ret)= .done from rfl,hdone,htk];exact⟨rfl,rfl⟩
    ·have hst:stF s none (nm,⟨a1,a2,a3,a4, .mk uk ui un uls uks⟩)=(none,true):=by simp only[stF];rw[if_neg hx]
     rw[hst,hlen];refine vL hx ?_;refine Run.nil ?_;refine⟨none,n+5+l.length,rfl,rfl,aYw _,by simp[hlenZ],hatZ none _,?_,?_⟩
     ·rw[show aQz none= .ready from rfl,hnorm,htk];have:=(hw2 none).all
      rwa [aZ4,hlen] at this
     ·rw[show aQz none= .ready from rfl,hnorm,htk];exact⟨rfl,rfl⟩)
  have hB0:B none=(Hd none++[some (.cells dc),some (.cells dc),some (.cells [iA j])])++[some (.aux .dblk),some (.aux (.loop y .ready none Tl #[20,21] ag' bd'))]:=by rw[hB];simp
  rw[aCl] at hit;refine⟨_,hB0▸hit,?_⟩;rintro o h' ⟨rfl,rfl⟩;generalize cH s (nB d j)=b at hhit hnext
  have hid2:∀id∈(n+3)::ids,h.length+3<=id/\∀l4:Option AO,(G++[some (.cells dc),some (.cells dc),some (.cells [iA j]),some (.aux .dblk),l4])[id-(h.length+3)]?=some (some (.aux .dblk)):=fun id hi=>by
   rcases aZg.1 hi with rfl|hi
   ·refine⟨by omega,fun l4=>?_⟩;rw[show n+3-(h.length+3)=G.length+3 by omega];simp
   ·have:=hids id hi;refine⟨this.1,fun l4=>?_⟩;have hlt:=(aYv.1 this.2).1;rw[aZ8 hlt];exact this.2
  have hnd2:((n+3)::ids).Nodup:=bAc.2 ⟨fun hi=>by
   have:=hids _ hi;have hlt:=(aYv.1 this.2).1;omega,hnd⟩
  refine⟨_,(if b.isSome=true then .done else .ready),(if b.isSome=true then some .ret else none),rfl,by rw[hB];simp[hlenH,bAz],by cases b<;>simp,?_⟩;rw[hB];simp only[aZ4,hlenH,aZ1,aZ2,aZv,Nat.reduceAdd,bAz,sl,bBb,bB0]
  cases b with
  |some e=>
   rw[hhit e rfl] at hr;simp only at hr;obtain⟨a1,a2,a3,a4,⟨uk,ui,un,uls,uks⟩⟩:=e;rw[hHd];simp[enC,En.cells];refine Run.ret ?_;refine FinM.of' (h++[some (.cells [.p (sP s)]),some (.cells [iA a1,iA a2,iA a3,iA a4, .p (iP uk), .p (iP ui), .p (sP un), .p (.sl 2 (aW uls)), .p (.sl 5 (aL uks))]),some (.cells [iA 0])]) ((n+3)::ids) (G++[some (.cells dc),some (.cells dc),some (.cells [iA j]),some (.aux .dblk),some (.aux (.loop y .exhausted (some .ret) Tl #[20,21] ag' bd'))]) aA aA (fun id hi=>⟨by simpa using(hid2 id hi).1,by simpa using(hid2 id hi).2 _⟩) hnd2 fun G'=>?_
   exact Fin.ret' (h0:=h) aA rfl hh aE aE rfl (Weak.refl _) aA ⟨by rw[hr];simp[En.av,En.cells],rfl⟩
  |none=>
   rw[<-aZ0 (Hd none++_)];refine cI ?_;refine IH (j+1,G++[some (.cells dc),some (.cells dc),some (.cells [iA j]),some (.aux .dblk),some (.aux (.loop y .exhausted none Tl #[20,21] ag' bd'))],(n+3)::ids) _ _ _ ⟨by simp only;omega,hnext rfl,?_,hnd2,fun id hi=>⟨(hid2 id hi).1,(hid2 id hi).2 _⟩⟩ (by simp only;omega) ?_ (by rw[hHd];simp) aA
   ·rw[bB8,aZ7];refine⟨?_,?_⟩
    ·refine aZf.2 fun o ho=>AO.under_mono aA (aZf.1 hGu o ho)
    ·have e:h.length+3+(G++[some (.cells dc),some (.cells dc),some (.cells [iA j]),some (.aux .dblk),some (.aux (.loop y .exhausted none Tl #[20,21] ag' bd'))]:List (Option AO)).length=n+5:=by rw[hnn];simp;omega
     simp only at e⊢;rw[e];simp[AO.under,hTu 2,hdu]
   ·exact zS
 ·have hje:j=env.length:=aB;subst hje;rw[aIl hall] at hr;simp only at hr;refine dP ?_;refine aYr ?_;refine zx ?_;refine FinM.of' (h++[some (.cells [.p (sP s)]),some (.cells [iA 0,iA 0,iA 0,iA 0,iA 0,iA 0, .p (sP []), .p (.prim (.slice none 0 0)), .p (.prim (.slice none 0 0))]),some (.cells [iA 9])]) ids G aA aA (fun id hi=>⟨by simpa using(hids id hi).1,by simpa using(hids id hi).2⟩) hnd fun G'=>?_
  exact Fin.ret' (h0:=h) (xs:=[.agg [iA 0,iA 0,iA 0,iA 0,iA 0,iA 0, .p (sP []), .p (.prim (.slice none 0 0)), .p (.prim (.slice none 0 0))],iA 9]) aA rfl hh aE aA rfl (Weak.tup (WeakL.cons aGs (WeakL.refl _))) (by simp[zEn,En.av,En.cells,zT]) ⟨by rw[hr],rfl⟩
open Go Go.AI
def zDc:Dc:=⟨0,[],0,zT,zT,0,[],0,zT,[],[]⟩
def gS (env:List Dc)(s:List UInt8):Dc×Int×Bool:=match dH s env 0 with
 |some e=>if e.k=3 then((env[e.at_.toNat]?).getD zDc,-1,true) else if e.k=4 then((env[e.at_.toNat]?).getD zDc,e.it,true) else if e.k=5 then((env[e.at_.toNat]?).getD zDc,-2,true) else(zDc,0,false)
 |none=>(zDc,0,false)
theorem oB:Weak (.agg [iA 0, .p (sP []),iA 0,iA 0,iA 0, .p (sP []), .p (.prim (.slice none 0 0)), .p (.prim (.slice none 0 0)),iA 0,iA 0, .p (sP []), .p (.prim (.slice none 0 0)), .p (.prim (.slice none 0 0)),iA 0, .p (.prim (.slice none 0 0)),iA 0,iA 0,iA 0, .p (sP []), .p (.prim (.slice none 0 0)), .p (.prim (.slice none 0 0)), .p (.prim (.slice none 0 0)), .p (.prim (.slice none 0 0))]) zDc.av:=by
 simp only[zDc,Dc.av,Dc.cells,zT,aH,List.map,aW,aL,aYy,aZ3];exact y3n
theorem wF (h:Heap)(hh:WF h)(env:List Dc)(s:List UInt8)(hg:Env.good env)(hn:Env.short env):AC 171 [bW env, .p (sP s)] h (.tup [(gS env s).1.av,iA (gS env s).2.1,bA (gS env s).2.2]):=by
 have hl:=hg.1;have c1:=fun g hw=>aGv g hw env s hg hn
 obtain⟨r,hr⟩:∃r,r=gS env s:=⟨_,rfl⟩;rw[<-hr];unfold gS at hr;unfold aK at c1;have hok:=lV s env 0
 cases hz:dH s env 0 with
 |none=>
  rw[hz] at hr c1;simp only[zEn,zT,En.av,En.cells,aH,List.map,aW,aL] at c1 hr;refine cW Tryz.func171 Tryz.ntmps171 ?_;refine zL (c1 _ (hh.app aA)) ?_;refine pH ?_;exact y30
 |some e=>
  rw[hz] at hr c1;obtain⟨j,d,h1,h2,h3,h4,h5⟩:=hok e hz;have hdl:=aZ d;obtain⟨a1,a2,a3,a4,⟨k,i,n,ls,ks⟩⟩:=e;simp only[aZv] at h1 h3 h4 h5;subst h1;simp only[aZj,h2,aZb] at hr;simp only[En.av,En.cells,aH,List.map] at c1;have hjl:=(aYv.1 h2).1;obtain⟨dc,hdc⟩:∃dc,dc=d.cells.map AV.p:=⟨_,rfl⟩;have hdu:∀n,AV.underL n dc=true:=fun n=>by rw[hdc];simp
  have hdl':dc.length=23:=by rw[hdc];simp[hdl]
  have htd:List.take 23 dc=dc:=aZ6 aB
  have hone:dc.all vO=true:=by
   exact y84
  have hpa:∀l:List AV,l.length=23->patch l 0 dc=dc:=fun l hl'=>by
   exact y5r
  have hdav:d.av= .agg dc:=by rw[hdc];rfl
  refine cW Tryz.func171 Tryz.ntmps171 ?_;exact y2z
theorem kA (h:Heap)(hh:WF h)(env:List Dc)(s:List UInt8)(hg:Env.good env)(hn:Env.short env):AC 133 [bW env, .p (sP s)] h (.tup [(gS env s).1.av,iA (gS env s).2.1,bA (gS env s).2.2]):=by
 have hl:=hg.1;have c1:=fun g hw=>iG g hw env s hg hn
 obtain⟨r,hr⟩:∃r,r=gS env s:=⟨_,rfl⟩;rw[<-hr];unfold gS at hr;unfold aK at c1;have hok:=lV s env 0
 cases hz:dH s env 0 with
 |none=>
  rw[hz] at hr c1;simp only[zEn,zT,En.av,En.cells,aH,List.map,aW,aL] at c1 hr;refine cW Tryz.func133 Tryz.ntmps133 ?_;refine zL (c1 _ (hh.app aA)) ?_;refine pH ?_;exact y30
 |some e=>
  rw[hz] at hr c1;obtain⟨j,d,h1,h2,h3,h4,h5⟩:=hok e hz;have hdl:=aZ d;obtain⟨a1,a2,a3,a4,⟨k,i,n,ls,ks⟩⟩:=e;simp only[aZv] at h1 h3 h4 h5;subst h1;simp only[aZj,h2,aZb] at hr;simp only[En.av,En.cells,aH,List.map] at c1;have hjl:=(aYv.1 h2).1;obtain⟨dc,hdc⟩:∃dc,dc=d.cells.map AV.p:=⟨_,rfl⟩;have hdu:∀n,AV.underL n dc=true:=fun n=>by rw[hdc];simp
  have hdl':dc.length=23:=by rw[hdc];simp[hdl]
  have htd:List.take 23 dc=dc:=aZ6 aB
  have hone:dc.all vO=true:=by
   exact y84
  have hpa:∀l:List AV,l.length=23->patch l 0 dc=dc:=fun l hl'=>by
   exact y5r
  have hdav:d.av= .agg dc:=by rw[hdc];rfl
  refine cW Tryz.func133 Tryz.ntmps133 ?_;exact y2z
end Go.Proofs.YtcfcolkbeelegaaGreat
namespace Go.AI
open Go
theorem ACalls.plain {P:Program} {f:FuncId} {args:List AV} {h:Heap} {R R':AOut->Heap->Prop} (hh:WF h)(c:ACalls P f args h R)(hR:∀o h',R o h'->∃x y l,o= .ret x/\h'=h++l/\Weak x y/\y.under h.length=true/\R' (.ret y) h):ACalls P f args h R':=by
 intro E w vs h1 h2 h3;refine(c E w vs h1 h2 h3).mono ?_;rintro e w' ⟨out,h',E',hr,r2,f2,ho,fr⟩;obtain⟨x,y,l,rfl,rfl,hw,hy,hR'⟩:=hR _ _ hr;obtain⟨v,he,hv⟩:=ho;have a1:=r2.cut h.length (by rw[cK];exact hh);have a2:=Fresh.cut E' (m:=h.length) (h:=h++l) aA;have a3:=(fr.toN h.length).cut h2 (m:=h.length) (aYw _);rw[cK] at a1 a2 a3;exact⟨.ret y,h,E'.cut h.length,hR',a1,a2,⟨v,he,(hw _ _ _ hv).cut hy⟩,a3⟩
end Go.AI
namespace Go.Proofs.YtcfcolkbeelegaaGreat
open Go Go.AI
@[simp] theorem aWa (l:List Tm) (n:Nat):(aL l).take n=aL (l.take n):=by simp[dA]
@[simp] theorem aW9 (l:List Tm) (n:Nat):(aL l).drop n=aL (l.drop n):=by simp[dA]
open Go Go.AI
structure Rc where
 i:Nat
 bs:List Tm
 ix:List Tm
def Rc.cells (r:Rc):List PV:=[iP r.i, .sl 5 (aL r.bs), .sl 5 (aL r.ix)]
def aW4 (l:List Rc):List (List PV):=l.map Rc.cells
@[simp] theorem aU7 (l:List Rc):(aW4 l).length=l.length:=by simp[aW4]
@[simp] theorem aXa (l:List Rc) (i:Nat):(aW4 l)[i]?=(l[i]?).map Rc.cells:=by simp[aW4]
structure Cn where
 nm:List UInt8
 fs:List Tm
 rc:List Rc
 ix:List Tm
def Cn.cells (c:Cn):List PV:=[sP c.nm, .sl 5 (aL c.fs), .sl 3 (aW4 c.rc), .sl 5 (aL c.ix)]
def aX4 (l:List Cn):List (List PV):=l.map Cn.cells
@[simp] theorem aT9 (l:List Cn):(aX4 l).length=l.length:=by simp[aX4]
@[simp] theorem aX5 (l:List Cn) (i:Nat):(aX4 l)[i]?=(l[i]?).map Cn.cells:=by simp[aX4]
theorem qM (t:Tm)(hl:t.lvs)(hs:t.size<=1048576):(∀u∈(bY t).1,u.lvs/\u.size<=1048576)/\(bY t).2.lvs/\(bY t).2.size<=1048576/\(bY t).1.length<=t.size:=by
 have:=aDt 6 1048576 t.size [] t aA hl hs;simpa [bY] using this
open Go Go.AI
structure DcOk (d:Dc):Prop where
 ps0:0<=d.ps
 ps8:d.ps<=8
 fx0:0<=d.fx
 fix:d.k=3->aIn d=true
theorem yH {env:List Dc} (h:aOt env) {j:Nat} {d:Dc} (hg:env[j]?=some d):DcOk d:=by
 have h0:=h j d hg;unfold oC at h0;split at h0
 ·simp at h0
 split at h0
 ·simp at h0
 split at h0
 ·exact y6g
 rename_i hc;have hc:gH d=0:=by simpa using hc
 unfold gH at hc;split at hc
 ·simp at hc
 rename_i h1;split at hc
 ·simp at hc
 split at hc
 ·simp at hc
 split at hc
 ·simp at hc
 rename_i h4;simp only[bAd,aZh,not_or] at h1;refine⟨by omega,by omega,by omega,fun hk=>?_⟩
 cases hf:aIn d with
 |true=>rfl
 |false=>exact absurd ⟨hk, .inr (.inr hf)⟩ h4
theorem aBw:∀(n:Nat)(acc:List Tm)(t:Tm),t.size<=n->(aKa 6 n acc t).1.length=acc.length+dI t
 |0,acc,t,h=>by have:=t.size_pos;omega
 |n+1,acc,t,h=>by
  simp only[aKa]
  cases hb:isB 6 t with
  |none=>
   have:dI t=0:=by
    obtain⟨k,i,nm,ls,ks⟩:=t
    match ks,hb with
    |[],_=>simp[dI]
    |[a],_=>simp[dI]
    |[a,b],hb=>
     simp only[isB] at hb;simp only[dI];split at hb
     ·cases hb
     ·rename_i hk;rw[if_neg hk]
    |a::b::c::r,_=>simp[dI]
   simp only[this,bB6]
  |some p=>
   obtain⟨a,b⟩:=p;have hs:=oJ hb;have ha:=a.size_pos
   have hl:dI t=dI b+1:=by
    obtain⟨k,i,nm,ls,ks⟩:=t
    match ks,hb with
    |[x,y],hb=>
     simp only[isB] at hb;split at hb
     ·rename_i hk
      injection hb with hb;injection hb with h1 h2
      subst h1;subst h2;simp only[dI];rw[if_pos hk]
     ·cases hb
   simp only;rw[aBw n (acc++[a]) b aB,hl];simp only[aZ4,bAx];omega
theorem lY (t:Tm):(bY t).1.length=dI t:=by
 have:=aBw t.size [] t (aYw _);simpa [bY] using this
theorem fF {env:List Dc} (hf:aP env)(s:List UInt8):gS env s=(zDc,0,false)\/∃d a,gS env s=(d,a,true)/\d∈env/\d.k=3/\DcOk d/\(a<0\/∃j:Nat,a=j/\j<d.cs.length):=by
 unfold gS
 cases hz:dH s env 0 with
 |none=>exact .inl rfl
 |some e=>
  obtain⟨j,d,h1,h2,h3,h4,h5⟩:=lV s env 0 e hz;have hd:=yH hf.2 h2;have hm:=aZ9 h2;simp only[aZv] at h1;have ha:(env[e.at_.toNat]?).getD zDc=d:=by rw[h1,aZj,h2];rfl
  simp only[ha]
  by_cases e3:e.k=3
  ·rw[if_pos e3];exact .inr ⟨d,-1,rfl,hm,h5 (.inl e3),hd, .inl aB⟩
  rw[if_neg e3]
  by_cases e4:e.k=4
  ·rw[if_pos e4];exact .inr ⟨d,e.it,rfl,hm,h5 (.inr (.inl e4)),hd, .inr ⟨e.it.toNat,by omega,by have:=h4 e4;omega⟩⟩
  rw[if_neg e4]
  by_cases e5:e.k=5
  ·rw[if_pos e5];exact .inr ⟨d,-2,rfl,hm,h5 (.inr (.inr e5)),hd, .inl aB⟩
  rw[if_neg e5];exact .inl rfl
structure Co where
 d:Dc
 i:Nat
 as_:List Tm
def zCo:Co:=⟨zDc,0,[]⟩
def nG (o:Option Co):Co:=o.getD zCo
def hU (env:List Dc)(t:Tm):Option Co:=
 if(aG t).1.kind≠3 then none
 else if(gS env (aG t).1.name).2.2=true/\0<=(gS env (aG t).1.name).2.1 then
  match (gS env (aG t).1.name).1.cs[(gS env (aG t).1.name).2.1.toNat]? with
  |some c=>if(aG t).2.length=(bY c.ty).1.length then some ⟨(gS env (aG t).1.name).1,(gS env (aG t).1.name).2.1.toNat,(aG t).2.drop (gS env (aG t).1.name).1.fx.toNat⟩ else none
  |none=>none
 else none
abbrev aY3:List AV:=[iA 0, .p (sP []),iA 0,iA 0,iA 0, .p (sP []), .p (.prim (.slice none 0 0)), .p (.prim (.slice none 0 0)),iA 0,iA 0, .p (sP []), .p (.prim (.slice none 0 0)), .p (.prim (.slice none 0 0)),iA 0, .p (.prim (.slice none 0 0)),iA 0,iA 0,iA 0, .p (sP []), .p (.prim (.slice none 0 0)), .p (.prim (.slice none 0 0)), .p (.prim (.slice none 0 0)), .p (.prim (.slice none 0 0))]
end Go.Proofs.YtcfcolkbeelegaaGreat
