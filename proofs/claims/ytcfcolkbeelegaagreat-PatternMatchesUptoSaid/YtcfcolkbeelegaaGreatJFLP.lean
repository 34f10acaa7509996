import Derived.Test.YtcfcolkbeelegaaGreatJA0
import Derived.Test.YtcfcolkbeelegaaGreatJFZ
import Derived.Test.YtcfcolkbeelegaaGreatJLB
import Derived.Test.YtcfcolkbeelegaaGreatJX4
import Derived.Test.YtcfcolkbeelegaaGreatJX13
import Derived.Test.YtcfcolkbeelegaaGreatJM2
import Derived.Test.YtcfcolkbeelegaaGreatJFR
import Derived.Test.YtcfcolkbeelegaaGreatJX2
import Derived.Test.YtcfcolkbeelegaaGreatJG1
import Derived.Test.YtcfcolkbeelegaaGreatJE1
import Derived.Test.YtcfcolkbeelegaaGreatJFL
set_option maxRecDepth 16000
set_option maxHeartbeats 16000000
namespace Go.Proofs.YtcfcolkbeelegaaGreat
open Go Go.AI
mutual
def nN:Pt->List UInt8
 | .mk k n qs=>if k=0 then [95] else if k=2 then [46,95] else if k=3 then [40,41] else if k=1 then(if qs=[] then n else 40::(n++aA0 qs++[41])) else []
def aA0:List Pt->List UInt8
 |[]=>[]
 |p::ps=>32::(nN p++aA0 ps)
end
theorem aJw (n:List UInt8)(l:List Pt):Lib.join (n::l.map nN) [32]=n++aA0 l:=by
 rw[Lib.join_cons]
 congr 1
 induction l with
 |nil=>rfl
 |cons p l ih=>simp only[aZc,Lib.joinTail,bA9,aA0] at ih⊢;rw[ih];simp
theorem aO0 {l:List Pt} {p:Pt} (h:p∈l):(nN p).length<=(aA0 l).length:=by
 induction l with
 |nil=>simp at h
 |cons q l ih=>
  simp only[aA0,aZ1,aZ4];exact y56
theorem aM3 (h:Heap)(xs:List (List UInt8))(sep:List UInt8)(hN:xs.length<=140737488355328)(hlen:(Lib.join xs sep).length<=140737488355328):
  AC 87 [.p (.sl 1 (eI xs)), .p (sP sep)] h (.p (sP (Lib.join xs sep))):=aIu aTm aQ4 xs sep hN hlen
theorem aN2 (N:Nat):∀(p:Pt),p.size<=N->p.size<=1048576->(nN p).length<=1099511627776->∀h,WF h->AC 39 [p.av] h (.p (sP (nN p))):=by
 induction N with
 |zero=>intro p hp;have:=p.size_pos;omega
 |succ N ih=>
 intro p hp hB hL h hh;obtain⟨k,n,qs⟩:=p;simp only[Pt.size] at hp hB;obtain⟨r,hr⟩:∃r,nN (.mk k n qs)=r:=⟨_,rfl⟩;rw[hr] at hL⊢;rw[nN] at hr;simp only[Pt.av,bC,List.map];have hql:=gK qs;refine zE Tryz.func39 Tryz.ntmps39 ?_;refine iQ ?_
 by_cases k0:k=0
 ·subst k0;rw[if_pos rfl] at hr;subst hr;refine lM ?_;exact y33
 have k0b:(k==(0:Int))=false:=by simpa using k0
 rw[if_neg k0] at hr;refine dJ k0b ?_
 by_cases k2:k=2
 ·subst k2;rw[if_pos rfl] at hr;subst hr;refine lM ?_;exact y33
 have k2b:(k==(2:Int))=false:=by simpa using k2
 rw[if_neg k2] at hr;refine dJ k2b ?_
 by_cases k3:k=3
 ·subst k3;rw[if_pos rfl] at hr;subst hr;refine lM ?_;exact y33
 have k3b:(k==(3:Int))=false:=by simpa using k3
 rw[if_neg k3] at hr;refine dJ k3b ?_
 by_cases k1:k=1
 rotate_left
 ·have k1b:(k==(1:Int))=false:=by simpa using k1
  rw[if_neg k1] at hr;subst hr;refine xI k1b ?_;exact y33
 subst k1;rw[if_pos rfl] at hr;refine znt ?_;refine Run.regPre 2 fun K J=>?_
 refine yd ?_;simp;refine zi ?_;clear J;refine ya ?_;refine Run.buildV (sz:=1) (es:=[[sP n]]) rfl (by simp[aJ]) aA aA ?_;refine zs ?_;refine zor ?_
 have hqb:qs≠[]->(aA0 qs).length+n.length+2<=1099511627776:=fun hne=>by
  rw[if_neg hne] at hr;rw[<-hr] at hL;simp at hL;omega
 refine Run.loopS [1,20,21] (fun j:Nat=>j<=qs.length) (fun j=>qs.length-j) (fun j=>[(3, .vec (h.length+1) (j+1)),(22,iA j)])
  (fun j=>h++[some (.cells [iA 1, .p (sP n), .p (.sl 3 (cC qs))]),some (.vec 1 (eI (n::(qs.take j).map nN)))]) 0 aA ?_ (by simp[eI]) ?_
 ·exact zS
 rintro j hj IH;refine cI ?_
 by_cases hjl:j<qs.length
 ·have hg:qs[j]?=some qs[j]:=aYu hjl;have hmem:=aYx hjl;have htk:qs.take (j+1)=qs.take j++[qs[j]]:=aZ5 hjl;have hmin:min j qs.length=j:=bAb hj;generalize qs[j]=q at hg hmem htk;have hsz:=Pt.size_at hmem;have hne:qs≠[]:=by intro e;subst e;simp at hjl
  have hqb:=hqb hne;have hml:=aO0 hmem;have c1:=ih q aB aB aB;obtain⟨pk,pn,ps⟩:=q;simp only[Pt.av,bC,List.map] at c1;obtain⟨tx,htx⟩:∃tx,nN (Pt.mk pk pn ps)=tx:=⟨_,rfl⟩;rw[htx] at c1 hml;refine dF hjl ?_;refine aV5 hg ?_;refine zr ?_;refine zL (c1 _ (hh.app aA)) ?_;refine Run.opsPre 1 fun K J=>?_
  refine yd ?_;simp;refine zi ?_;clear J;refine ya ?_;refine Run.appendV (id:=h.length+1) (es:=eI (n::(qs.take j).map nN)) (ys:=[[sP tx]]) (sz:=1) (by_:=16) (e:=9) rfl (by simp[aJ]) rfl rfl rfl rfl (by simp[hmin]) aA (jM _) aA aA aA (by simp;omega) (by simp;omega) ?_;simp[hmin];refine zo ?_;refine Run.keep [1,3,20,21,22] ?_;refine yf ?_;refine Run.cutAt 2 hh rfl aB aA aA aA rfl ?_;refine cI ?_;refine IH (j+1) _ _ aB aB ?_ ?_
  ·exact zS
  ·rw[htk];simp[eI,htx]
 ·have hje:j=qs.length:=aB;subst hje;have htl:List.take qs.length (qs.map nN)=qs.map nN:=aZ6 aA;rw[htl];refine dP ?_;refine Run.keep [1,3] ?_;refine yf ?_;refine Run.freezeV 3 (id:=h.length+1) (n:=qs.length+1) (sz:=1) (es:=eI (n::qs.map nN)) aA aA (jM _) aA ?_;simp
  by_cases hq0:qs=[]
  ·subst hq0;rw[if_pos rfl] at hr;subst hr;refine rI ?_;exact y33
  ·have hqb:=hqb hq0;rw[if_neg hq0] at hr
   have hlb:((qs.length:Int)+1==1)=false:=by
    have:0<qs.length:=bAw.2 hq0;simp;omega
   have hjn:=aJw n qs;have c2:=aM3 (h++[some (.cells [iA 1, .p (sP n), .p (.sl 3 (cC qs))]),none]) (n::qs.map nN) [32] (by simp;omega) (by rw[hjn];simp;omega);rw[hjn] at c2;have hb1:1+(n.length+(aA0 qs).length)<=9223372036854775807:=aB;refine aDj hlb ?_;refine zL (c2) ?_;have hb2:n.length+(aA0 qs).length+1+1<=9223372036854775807:=aB;refine zo2 hb1 hb2 ?_;refine zx ?_;subst hr;exact y33
open Go Go.AI
def zeroB:List UInt8:=[122,101,114,111]
def kI:List UInt8:=[115,117,99,99]
def aMo:Dc:=⟨3,aUw,0, .mk 2 0 [] [⟨0,[]⟩] [],zT,0,[⟨zeroB,natT⟩,⟨kI,aG8 natT natT⟩],0,natT,[natT,natT],[]⟩
def natE:List Dc:=[aMo]
theorem aTs:oC [] aMo=0:=aC
theorem iC:aP natE:=by
 refine⟨fun d hd=>?_,fun j d hj=>?_⟩
 ·simp[natE] at hd;subst hd;decide
 ·rcases Nat.eq_zero_or_pos j with e|e
  ·subst e;simp[natE] at hj;subst hj;exact aTs
  ·have:=(aYv.1 hj).1;simp[natE] at this;omega
theorem tZ:natT.good:=by simp[Tm.good,natT,Tm.size,Tm.sizes,Tm.fit,Tm.fits,Tm.lvs,Tm.lvss]
theorem aRm:aG8 natT natT= .mk 6 0 [] [] [natT,natT]:=aC
theorem iD:Env.good natE:=by
 refine⟨by simp[natE],fun d hd=>?_⟩;simp[natE] at hd;subst hd;refine⟨?_,?_,tZ,by simp[aMo],?_,by simp[aMo],?_,by simp[aMo],by simp[aMo]⟩
 ·simp[aMo,Tm.good,Tm.size,Tm.sizes,Tm.fit,Tm.fits,Tm.lvs,Tm.lvss]
 ·simp[aMo,zT,Tm.good,Tm.size,Tm.sizes,Tm.fit,Tm.fits,Tm.lvs,Tm.lvss]
 ·intro c hc;simp[aMo] at hc;rcases hc with rfl|rfl
  ·exact tZ
  ·rw[aRm];simp[natT,Tm.good,Tm.size,Tm.sizes,Tm.fit,Tm.fits,Tm.lvs,Tm.lvss]
 ·intro t ht;simp[aMo] at ht;rcases ht with rfl|rfl<;>exact tZ
theorem aC3 (h:Heap)(hh:WF h):AC 67 [] h (bW natE):=by
 have c0:=fun g hw=>aDu g hw natT natT (by simp[natT,aUw,Tm.ok,Tm.oks,Tm.okN]) aD
 rw[aRm] at c0
 have hwk:Weak (.agg [iA 3,iA 0, .p (sP aUw), .p (.prim (.slice none 0 0)), .p (.prim (.slice none 0 0))]) natT.av:=by
  simp only[natT,Tm.av,aH,List.map,aW,aL];exact y6q
 have c1:=fun g hw=>ACalls.weak (WeakL.cons hwk (WeakL.cons hwk WeakL.nil)) (c0 g hw)
 simp only[aUw,natT,Tm.av,aH,List.map,aW,aL] at c1;refine ACalls.of_run Tryz.func67 rfl ?_;simp only[Tryz.ntmps67,aZ2];refine rS ?_;refine ND.Run.drawP (pc:=[7]) [0,0,0,0,0,0,0,0,0,0,0,0,0,0,0,0,0,0] [0,0,0,0,0,0,0,0,0,0,0,0,0,0,0,0,0,0] [0,1,3,0,8,0,0,96,224,504,0,0,0,6144,15360,32767,65535,131071] [0,1,2,3,4,5,6,7,8,9,10,11,12,13,14,15,16,17] aC aC ?_;refine zm ?_;refine ND.DR.pcall rfl rfl rfl aA rfl rfl (fun g hg=>(c1) g ?_) ?_
 ·exact y2v
 refine zm ?_;refine y9 ?_;refine znx ?_;refine Fin.ret' (h0:=h) (y:=bW natE) aA rfl hh rfl aE rfl ?_ aA ⟨rfl,rfl⟩;show Weak (.p _) (.p _);refine WeakP.av ?_;simp only[natE,aMo,natT,aUw,zeroB,kI,zT,Dc.cells,Ct.cells,Lv.cells,aH,List.map,aW,aL,aYy,aZ3];exact y6k
theorem pL (h:Heap)(hh:WF h)(n:List UInt8)(qs:List Pt):ACalls Tryz.prog 68 [.p (sP n), .p (.sl 3 (cC qs))] h fun o h'=>o= .ret (Pt.mk 1 n qs).av/\h'=h:=by
 refine zE Tryz.func68 Tryz.ntmps68 ?_;refine aDl ?_;exact y2s
open Go Go.AI
def aF6 (a b:List Tm):Bool:=decide (a.length=b.length)&& lH a b
theorem mS (a b:List Tm)(hel:∀t∈a,t.size<=1099511627776/\t.lvs)(hll:a.length<=1048576)(_hb:b.length<=1048576)(h:Heap)(hh:WF h):AC 25 [.p (.sl 5 (aL a)), .p (.sl 5 (aL b))] h (bA (aF6 a b)):=by
 obtain⟨r,hr⟩:∃r,aF6 a b=r:=⟨_,rfl⟩;rw[hr];unfold aF6 at hr;rw[uV] at hr;refine zER Tryz.func25 Tryz.ntmps25 ?_
 by_cases hl:a.length=b.length
 rotate_left
 ·have hlb:((a.length:Int) !=(b.length:Int))=true:=by simp;omega
  rw[decide_eq_false hl] at hr;simp at hr;subst hr;refine gB hlb ?_;exact y3a
 rw[decide_eq_true hl,Bool.true_and] at hr;refine aDj hl ?_;refine Run.loopS [0,1] (fun j:Nat=>j<=a.length/\bB (qG a b) j=true) (fun j=>a.length-j) (fun j=>[(5,iA j)]) (fun _=>h) 0 (by simp[bB]) ?_ rfl ?_
 ·exact zS
 rintro j ⟨hj,hall⟩ IH;refine cI ?_
 by_cases hjl:j<a.length
 ·have hga:a[j]?=some a[j]:=aYu hjl;have hgb:b[j]?=some (b[j]'aB):=aYu aB;have hma:=aYx hjl;obtain⟨hs,hlvj⟩:=hel _ hma;generalize a[j]=x at hga hma hs hlvj;generalize b[j]=y at hgb;have c1:=fun g hw=>sD x.size x y g (aYw _) aB hlvj hw
  have hta:qG a b j=fQ x y:=by simp[qG,hga,hgb]
  generalize fQ x y=s at c1 hta;obtain⟨k,i,n,ls,ks⟩:=x;obtain⟨k2,i2,n2,ls2,ks2⟩:=y;simp only[Tm.av,aH,List.map] at c1;refine dF hjl ?_;refine ND.Run.drawP (pc:=[8]) [0,0,0,0,0,0,0,0,0,0] [0,0,0,0,0,0,0,0,0,0] [0,0,3,7,0,0,48,112,255,511] [0,1,2,3,4,5,6,7,8,9] aC aC ?_;refine zm2 hga hgb ?_;refine ND.DR.pcall rfl rfl rfl aA rfl rfl (fun g hg=>c1 g ?_) ?_
  ·simp at hg;subst hg;exact hh
  refine zm ?_;refine y9 ?_;refine nv ?_
  cases s with
  |false=>
   have:=aU hjl hta;rw[this] at hr;subst hr;refine lM ?_;exact y3a
  |true=>
   refine aAc ?_;refine IH (j+1) _ _ ⟨by omega,by rw[bK,hall,hta];rfl⟩ aB ?_ rfl;exact zS
 ·have hje:j=a.length:=aB;subst hje;rw[hall] at hr;subst hr;refine cY ?_;exact y3a
theorem zU (a b:List Tm)(hsz:Tm.sizes a<=1048576)(hlv:Tm.lvss a)(hb:b.length<=1048576)(h:Heap)(hh:WF h):AC 25 [.p (.sl 5 (aL a)), .p (.sl 5 (aL b))] h (bA (aF6 a b)):=
 mS a b (fun t ht=>⟨by obtain⟨j,hj,rfl⟩:=List.mem_iff_getElem.1 ht;have:=eL hj;omega,Tm.lvss_at hlv _ ht⟩) (by have:=aR a;omega) hb h hh
def aJt (t:Tm):Tm:=vN (.mk 3 0 kI [] []) t
def zroT:Tm:= .mk 3 0 zeroB [] []
theorem aI9 (h:Heap)(hh:WF h)(t:Tm):ACalls Tryz.prog 69 [t.av] h fun o h'=>o= .ret (aJt t).av/\h'=h:=by
 obtain⟨k,i,n,ls,ks⟩:=t;refine ACalls.of_run Tryz.func69 rfl ?_;simp only[Tryz.ntmps69,aZ1,aZ2,Tm.av,aH,List.map];refine aDl ?_;refine Fin.ret' (h0:=h) (y:=(aJt (.mk k i n ls ks)).av) aA rfl hh rfl aE rfl ?_ aA ⟨rfl,rfl⟩;simp only[aJt,vN,Tm.av,aH,List.map,aW,aL];refine Weak.agg (WeakL.cons (Weak.refl _) (WeakL.cons (Weak.refl _) (WeakL.cons (Weak.refl _) (WeakL.cons (Weak.nil _) (WeakL.cons (WeakP.av (WeakP.sl ?_)) WeakL.nil)))));exact y6k
def awG (t:Tm):Prop:=t=aJt (vr 3)\/t=aJt (vr 5)\/t=vr 3\/t=vr 5\/t=zroT
theorem aBj:(aK natE kI).1.k=4:=aC
theorem aLl:(aK natE zeroB).1.k=4:=aC
theorem sp3:aG (aJt (vr 3))=(.mk 3 0 kI [] [],[vr 3]):=aC
theorem sp5:aG (aJt (vr 5))=(.mk 3 0 kI [] [],[vr 5]):=aC
theorem sp3':aG (vr 3)=(vr 3,[]):=aC
theorem sp5':aG (vr 5)=(vr 5,[]):=aC
theorem spz:aG zroT=(zroT,[]):=aC
theorem aAl:∀t,awG t->aSc natE t:=by
 intro t ht;rcases ht with rfl|rfl|rfl|rfl|rfl
 ·exact⟨by decide,by rw[sp3];simp,by rw[sp3];exact⟨by decide,by decide,by decide,by decide,fun _=> .inr (.inr (.inr (.inr aBj)))⟩⟩
 ·exact⟨by decide,by rw[sp5];simp,by rw[sp5];exact⟨by decide,by decide,by decide,by decide,fun _=> .inr (.inr (.inr (.inr aBj)))⟩⟩
 ·exact y8f
 ·exact y8f
 ·exact⟨by decide,by decide,by decide,by decide,by decide,by decide,fun _=> .inr (.inr (.inr (.inr aLl)))⟩
theorem awW:WOk natE (fun t=>(t,0)) awG:=by
 refine⟨fun t ht h hh=>?_,fun t ht _=>?_,fun t ht _ a ha=>?_⟩
 ·refine vJ natE t t 20000 (fun H q hw hq=>?_) h hh;refine(aA5 natE iD iC.1 t (aAl t ht) q 20000 H hw hq).mono ?_;rintro o h' ⟨rfl,rfl⟩;refine⟨rfl,?_⟩;exact y4w
 ·have:=(aAl t ht).1;have:=lF t;simp only;omega
 ·simp only at ha;rcases ht with rfl|rfl|rfl|rfl|rfl
  ·rw[sp3] at ha;simp at ha;subst ha;exact .inr (.inr (.inl rfl))
  ·rw[sp5] at ha;simp at ha;subst ha;exact .inr (.inr (.inr (.inl rfl)))
  ·rw[sp3'] at ha;simp at ha
  ·rw[sp5'] at ha;simp at ha
  ·rw[spz] at ha;simp at ha
open Go Go.AI
def vPt:Pt:= .mk 0 [] []
def zPn:Pt:= .mk 1 zeroB []
def sPn:Pt:= .mk 1 kI [vPt]
def aOn:List Cl:=[⟨[zPn,vPt],zT⟩,⟨[sPn,zPn],zT⟩,⟨[sPn,sPn],zT⟩]
def yV:List Cl:=[⟨[zPn,vPt],zT⟩,⟨[sPn,sPn],zT⟩]
def awR:Tm->Tm×Int:=fun t=>(t,0)
theorem aXq:iV awR natE aOn [aJt (vr 3),aJt (vr 5)]=(2,[vr 3,vr 5],0):=aC
theorem aXr:iV awR natE aOn [vr 3,zroT]=(0,[],19):=aC
theorem aXm:nA natE aOn [vPt,vPt]=true:=aC
theorem aXn:nA natE yV [vPt,vPt]=false:=aC
theorem aXo:nA natE yV [zPn,vPt]=true:=aC
theorem aXp:nA natE yV [sPn,vPt]=false:=aC
theorem aVa:nN (.mk 1 kI [sPn])=[40,115,117,99,99,32,40,115,117,99,99,32,95,41,41]:=aC
theorem aXs:aF6 [vr 3,vr 5] [vr 3,vr 5]=true:=aC
abbrev aD8:List PV:=[iP 0,sP [], .prim (.slice none 0 0)]
theorem aVq (g:Heap)(hw:WF g):AC 68 [.p (sP zeroB), .p (.prim (.slice none 0 0))] g zPn.av:=
 ACalls.weak (args':=[.p (sP zeroB), .p (.sl 3 (cC []))]) (WeakL.cons (Weak.refl _) (WeakL.cons (Weak.nil _) WeakL.nil)) (pL g hw zeroB [])
theorem aO8:WeakPs [aD8] (cC [vPt]):=by
 simp only[vPt,cC,bC];exact WeakPs.cons (WeakPL.cons (WeakP.refl _) (WeakPL.cons (WeakP.refl _) (WeakPL.cons (WeakP.nil _) WeakPL.nil))) WeakPs.nil
theorem aVr (g:Heap)(hw:WF g):AC 68 [.p (sP kI), .p (.sl 3 [aD8])] g sPn.av:=
 ACalls.weak (args':=[.p (sP kI), .p (.sl 3 (cC [vPt]))]) (WeakL.cons (Weak.refl _) (WeakL.cons (WeakP.sl aO8).av WeakL.nil)) (pL g hw kI [vPt])
open Go Go.AI
abbrev aDo:List PV:=[iP 1,sP zeroB, .sl 3 []]
abbrev rQ:List PV:=[iP 1,sP kI, .sl 3 [[iP 0,sP [], .sl 3 []]]]
abbrev rc (a b:List PV):List PV:=[.sl 3 [a,b],iP 0,iP 0,sP [], .prim (.slice none 0 0), .prim (.slice none 0 0)]
abbrev rT (i:Int):List PV:=[iP 0,iP i,sP [], .prim (.slice none 0 0), .prim (.slice none 0 0)]
abbrev rZ:List PV:=[iP 3,iP 0,sP zeroB, .prim (.slice none 0 0), .prim (.slice none 0 0)]
theorem rF:WeakPL aD8 vPt.cells:=by simp only[vPt,bC,cC];exact WeakPL.cons (WeakP.refl _) (WeakPL.cons (WeakP.refl _) (WeakPL.cons (WeakP.nil _) WeakPL.nil))
theorem aEo:∀l:List PV,WeakPL l l
 |[]=>WeakPL.nil
 |x::l=>WeakPL.cons (WeakP.refl x) (aEo l)
theorem z_eq:aDo=zPn.cells:=by simp only[zPn,bC,cC]
theorem s_eq:rQ=sPn.cells:=by simp only[sPn,vPt,bC,cC]
theorem uM {a b:List PV} {p q:Pt} (h1:WeakPL a p.cells)(h2:WeakPL b q.cells):WeakPL (rc a b) (Cl.cells ⟨[p,q],zT⟩):=by
 simp only[Cl.cells,zT,aH,cC,aW,aL,List.map];exact WeakPL.cons (WeakP.sl (WeakPs.cons h1 (WeakPs.cons h2 WeakPs.nil))) (WeakPL.cons (WeakP.refl _) (WeakPL.cons (WeakP.refl _) (WeakPL.cons (WeakP.refl _) (WeakPL.cons (WeakP.nil _) (WeakPL.cons (WeakP.nil _) WeakPL.nil)))))
theorem zw:WeakPL aDo zPn.cells:=by rw[z_eq];exact aEo _
theorem sw:WeakPL rQ sPn.cells:=by rw[s_eq];exact aEo _
theorem aDp:WeakPs [rc aDo aD8,rc rQ aDo,rc rQ rQ] (aAy aOn):=by
 simp only[aAy,aOn,List.map];exact WeakPs.cons (uM zw rF) (WeakPs.cons (uM sw zw) (WeakPs.cons (uM sw sw) WeakPs.nil))
theorem aDq:WeakPs [rc aDo aD8,rc rQ rQ] (aAy yV):=by
 simp only[aAy,yV,List.map];exact WeakPs.cons (uM zw rF) (WeakPs.cons (uM sw sw) WeakPs.nil)
theorem aEq (i:Int):WeakPL (rT i) (vr i).cells:=by
 simp only[vr,aH,aW,aL,List.map];exact y6r
theorem aU6:WeakPL rZ zroT.cells:=by
 simp only[zroT,aH,aW,aL,List.map];exact y6r
theorem aQo (i:Int):Weak (.agg ((rT i).map .p)) (vr i).av:=by
 simp only[vr,Tm.av,aH,aW,aL,List.map];exact y6q
theorem smA1:PSmall aOn []:=⟨by decide,by decide,by decide⟩
theorem smA2 (v:List Pt)(h:Pt.sizes v<=1048576):PSmall aOn v:=⟨by decide,by decide,h⟩
theorem smL (v:List Pt)(h:Pt.sizes v<=1048576):PSmall yV v:=⟨by decide,by decide,h⟩
theorem aVv (g:Heap)(hw:WF g):AC 22 [.p (.sl 23 (natE.map Dc.cells)), .p (.sl 6 [rc aDo aD8,rc rQ aDo,rc rQ rQ]), .p (.sl 5 (aL [aJt (vr 3),aJt (vr 5)]))] g (mtA (2,[vr 3,vr 5],0)):=by
 rw[<-aXq];refine ACalls.weak (WeakL.cons (Weak.refl _) (WeakL.cons (WeakP.sl aDp).av (WeakL.cons (Weak.refl _) WeakL.nil))) (pX natE iC iD awR awG awW aOn _ smA1 ?_ aA g hw);intro a ha;simp at ha;rcases ha with rfl|rfl
 ·exact .inl rfl
 ·exact .inr (.inl rfl)
theorem aVw (g:Heap)(hw:WF g):AC 22 [.p (.sl 23 (natE.map Dc.cells)), .p (.sl 6 [rc aDo aD8,rc rQ aDo,rc rQ rQ]), .p (.sl 5 [rT 3,rZ])] g (mtA (0,[],19)):=by
 rw[<-aXr];have h1:WeakPs [rT 3,rZ] (aL [vr 3,zroT]):=WeakPs.cons (aEq 3) (WeakPs.cons aU6 WeakPs.nil);refine ACalls.weak (WeakL.cons (Weak.refl _) (WeakL.cons (WeakP.sl aDp).av (WeakL.cons (WeakP.sl h1).av WeakL.nil))) (pX natE iC iD awR awG awW aOn _ smA1 ?_ aA g hw);intro a ha;simp at ha;rcases ha with rfl|rfl
 ·exact .inr (.inr (.inl rfl))
 ·exact .inr (.inr (.inr (.inr rfl)))
theorem aWc (g:Heap)(hw:WF g):AC 26 [.p (.sl 23 (natE.map Dc.cells)), .p (.sl 6 [rc aDo aD8,rc rQ aDo,rc rQ rQ]), .p (.sl 3 [aD8,aD8])] g (bA true):=by
 rw[<-aXm];exact ACalls.weak (WeakL.cons (Weak.refl _) (WeakL.cons (WeakP.sl aDp).av (WeakL.cons (WeakP.sl (es':=cC [vPt,vPt]) (WeakPs.cons rF (WeakPs.cons rF WeakPs.nil))).av WeakL.nil))) (lU natE iC iD aOn [vPt,vPt] (smA2 _ aD) g hw)
theorem aWd (g:Heap)(hw:WF g):AC 26 [.p (.sl 23 (natE.map Dc.cells)), .p (.sl 6 [rc aDo aD8,rc rQ rQ]), .p (.sl 3 [aD8,aD8])] g (bA false):=by
 rw[<-aXn];exact ACalls.weak (WeakL.cons (Weak.refl _) (WeakL.cons (WeakP.sl aDq).av (WeakL.cons (WeakP.sl (es':=cC [vPt,vPt]) (WeakPs.cons rF (WeakPs.cons rF WeakPs.nil))).av WeakL.nil))) (lU natE iC iD yV [vPt,vPt] (smL _ aD) g hw)
theorem aWe (g:Heap)(hw:WF g):AC 26 [.p (.sl 23 (natE.map Dc.cells)), .p (.sl 6 [rc aDo aD8,rc rQ rQ]), .p (.sl 3 [aDo,aD8])] g (bA true):=by
 rw[<-aXo];exact ACalls.weak (WeakL.cons (Weak.refl _) (WeakL.cons (WeakP.sl aDq).av (WeakL.cons (WeakP.sl (es':=cC [zPn,vPt]) (WeakPs.cons zw (WeakPs.cons rF WeakPs.nil))).av WeakL.nil))) (lU natE iC iD yV [zPn,vPt] (smL _ aD) g hw)
theorem aWf (g:Heap)(hw:WF g):AC 26 [.p (.sl 23 (natE.map Dc.cells)), .p (.sl 6 [rc aDo aD8,rc rQ rQ]), .p (.sl 3 [rQ,aD8])] g (bA false):=by
 rw[<-aXp];exact ACalls.weak (WeakL.cons (Weak.refl _) (WeakL.cons (WeakP.sl aDq).av (WeakL.cons (WeakP.sl (es':=cC [sPn,vPt]) (WeakPs.cons sw (WeakPs.cons rF WeakPs.nil))).av WeakL.nil))) (lU natE iC iD yV [sPn,vPt] (smL _ aD) g hw)
theorem aNk (i:Int)(g:Heap)(hw:WF g):ACalls Tryz.prog 69 [.agg ((rT i).map .p)] g fun o h'=>o= .ret (aJt (vr i)).av/\h'=g:=
 ACalls.weak (WeakL.cons (aQo i) WeakL.nil) (aI9 g hw (vr i))
theorem aU5 (g:Heap)(hw:WF g):AC 25 [.p (.sl 5 (aL [vr 3,vr 5])), .p (.sl 5 [rT 3,rT 5])] g (bA true):=by
 rw[<-aXs];exact ACalls.weak (WeakL.cons (Weak.refl _) (WeakL.cons (WeakP.sl (es':=aL [vr 3,vr 5]) (WeakPs.cons (aEq 3) (WeakPs.cons (aEq 5) WeakPs.nil))).av WeakL.nil)) (zU [vr 3,vr 5] [vr 3,vr 5] aD (by simp[Tm.lvss,vr,Tm.lvs]) aA g hw)
theorem aT3 (g:Heap)(hw:WF g):ACalls Tryz.prog 68 [.p (sP kI), .p (.sl 3 [rQ])] g fun o h'=>o= .ret (Pt.mk 1 kI [sPn]).av/\h'=g:=by
 have:=pL g hw kI [sPn];simp only[cC,<-s_eq] at this;exact this
theorem aUg (g:Heap)(hw:WF g):AC 39 [(Pt.mk 1 kI [sPn]).av] g (.p (sP [40,115,117,99,99,32,40,115,117,99,99,32,95,41,41])):=by
 rw[<-aVa];exact aN2 _ _ (aYw _) aD (by rw[aVa];simp) g hw
open Go Go.AI
theorem aDv (h:Heap)(hh:WF h):AC 21 [] h (bA true):=by
 have n1:=fun g hw=>aC3 g hw
 have k1:=aVq;have k2:=aVr;simp only[zeroB,kI] at k1 k2;obtain⟨NE,hNE⟩:∃NE,natE.map Dc.cells=NE:=⟨_,rfl⟩;simp only[bW,hNE] at n1;have m1:=aVv;have m2:=aVw;have v1:=aWc;have v2:=aWd;have v3:=aWe;have v4:=aWf;have s3:=aNk 3;have s5:=aNk 5;have q1:=aU5;have c3:=aT3;have t1:=aUg;simp only[hNE,mtA,aDo,rQ,rc,rT,rZ,zeroB,kI,sPn,vPt,Pt.av,bC,cC,aJt,vN,vr,Tm.av,aL,aH,aW,List.map] at m1 m2 v1 v2 v3 v4 s3 s5 q1 c3 t1;refine ACalls.of_run Tryz.func21 rfl ?_;simp only[Tryz.ntmps21,aZ2];refine rS ?_;refine zL (n1 _ hh) ?_;refine zo ?_;refine ND.Run.draw2 (pc:=[0,3]) 4 5 [0,0,0,0,0,1,2,3] [0,0,0,0,0,1,2,3] [0,0,2,7,0,16,63,127] [4,5,0,1,2,3,6,7] [0,0,0,0,1,0,2,3] [0,0,0,0,1,0,2,3] [0,0,2,7,32,0,63,127] [5,4,0,1,2,3,6,7] aC aC aC aC ?_ ?_
 all_goals
  refine zm ?_;refine ND.DR.pcall rfl rfl rfl aA rfl rfl (fun g hg=>k1 g ?_) ?_
  ·simp at hg
   (first|(rcases hg with rfl|rfl|rfl|rfl)|(rcases hg with rfl|rfl|rfl)|(rcases hg with rfl|rfl)|subst hg)<;>exact hh.app aA
  refine zm ?_;refine ND.DR.pcall rfl rfl rfl aA rfl rfl (fun g hg=>k2 g ?_) ?_
  ·simp at hg
   (first|(rcases hg with rfl|rfl|rfl|rfl)|(rcases hg with rfl|rfl|rfl)|(rcases hg with rfl|rfl)|subst hg)<;>exact hh.app aA
  simp only[zPn,sPn,vPt,zeroB,kI,Pt.av,bC,cC,List.map];refine zm ?_;refine y9 ?_;refine iQ ?_;refine ND.Run.drawP (pc:=[4,7,9]) [0,0,0,0,0,0,0,0,0,0,0,0,0,0,0,0,0] [0,0,0,0,0,0,0,0,0,0,0,0,0,0,0,0,0] [0,0,0,0,12,0,0,124,252,511,1023,2047,2047,2047,4095,24575,65535] [0,1,2,3,4,5,6,7,8,9,10,11,12,13,14,15,16] aC aC ?_;refine zm ?_;refine ND.DR.pcall rfl rfl rfl aA rfl rfl (fun g hg=>s3 g ?_) ?_
  ·simp at hg
   (first|(rcases hg with rfl|rfl|rfl|rfl)|(rcases hg with rfl|rfl|rfl)|(rcases hg with rfl|rfl)|subst hg)<;>exact hh.app aA
  refine zm ?_;refine ND.DR.pcall rfl rfl rfl aA rfl rfl (fun g hg=>s5 g ?_) ?_
  ·simp at hg
   (first|(rcases hg with rfl|rfl|rfl|rfl)|(rcases hg with rfl|rfl|rfl)|(rcases hg with rfl|rfl)|subst hg)<;>exact hh.app aA
  refine zm ?_;refine ND.DR.pcall rfl rfl rfl aA rfl rfl (fun g hg=>m1 g ?_) ?_
  ·simp at hg
   (first|(rcases hg with rfl|rfl|rfl|rfl)|(rcases hg with rfl|rfl|rfl)|(rcases hg with rfl|rfl)|subst hg)<;>exact hh.app aA
  refine zm ?_;refine y9 ?_;refine znr ?_;refine zL (m2 _ (hh.app aA)) ?_;refine zo ?_;refine Run.draw [0,0,0,0,0,0,0,0] [0,0,0,0,0,0,0,0] [0,1,3,0,8,24,63,127] [0,1,2,3,4,5,6,7] aC aC ?_;refine zd ?_;refine y9 ?_;refine znr ?_;refine zL (q1 _ (hh.app aA)) ?_;refine zo ?_;refine zL (v1 _ (hh.app aA)) ?_;refine zo ?_;refine zL (v2 _ (hh.app aA)) ?_;refine zo ?_;refine zL (v3 _ (hh.app aA)) ?_;refine zo ?_;refine zL (v4 _ (hh.app aA)) ?_;refine zo ?_;refine zL (c3 _ (hh.app aA)) ?_;refine zo ?_;refine zL (t1 _ (hh.app aA)) ?_;refine zox ?_;refine zF1 hh ?_;exact⟨by simp,rfl⟩
end Go.Proofs.YtcfcolkbeelegaaGreat
namespace Go.AI.ND
open Go Go.AI
section
variable {pc:List Nat} {P:Program} {ops:Array Oper} {lo rk:List Nat} {D:List AD} {Q:AX->List AV->Heap->List AD->Prop}
theorem wS {rd:Option Nat} {nb:Nat} {k:List It} {pr:Nat->Nat->Bool} {x:Nat} :
  ∀(τ π:List Nat) (hist:List Heap) (T:List AV) (h:Heap),τ.Nodup->(∀j∈π,j∈τ)->x∈τ->x∉π->π.Nodup->(∀i∈τ,i∈π\/i=x\/pr x i=true)->τ.Pairwise (fun i j=>pr j i=false)->
   π.Pairwise (fun j i=>pr j i=true\/Loose pc ops lo rk j i)->(∀j∈π,pr j x=true\/∃oe oj,ops[x]?=some oe/\ops[j]?=some oj/\oj.apart ops oe=true/\eF pc j oj=false)->Ranked pc ops rk π hist.length->
   DR pc P ops lo (PanStep P ops Q D x) π hist T h->∀E w a,St E w a T h D->wpOpsIn (fen rd) 0 P ops (K P rd (Post nb Q E h w) k) τ a w
 |[],π,hist,T,h,_,_,hx,_,_,_,_,_,_,_,_,E,w,a,s=>by cases hx
 |i::τ,π,hist,T,h,hn,hm,hx,hxp,hpn,hc,hτ,hπp,hl,hrk,d,E,w,a,s=>by
  rw[List.pairwise_cons] at hτ;rw[bAc] at hn
  by_cases hix:i=x
  ·--the one that panics
   subst hix
   have ps:=pan_front (fun _ _ r=>r) π hist T h (fun j hj=>by
    rcases hl j hj with hp|hp
    ·have hjt:j∈τ:=by
      rcases aZg.1 (hm j hj) with e|e
      ·subst e;exact absurd hj hxp
      ·exact e
     have:=hτ.1 j hjt;rw[hp] at this;cases this
    ·exact hp) d
   obtain⟨o',c,f,args,v,h',e1,e2,e3,e4,e5,e6,e7⟩:=ps;rw[wpOpsIn_cons];exact y3c
  ·have hxt:x∈τ:=by
    rcases aZg.1 hx with e|e
    ·exact absurd e.symm hix
    ·exact e
   have hin:i∈π:=by
    rcases hc i aA with h1|h1|h1
    ·exact h1
    ·exact absurd h1 hix
    ·have:=hτ.1 x hxt;rw[h1] at this;cases this
   obtain⟨π1,π2,hπ⟩:=bAs hin;subst hπ
   have hni:i∉π1++π2:=by
    rw[List.nodup_append] at hpn;obtain⟨h1,h2,h3⟩:=hpn;rw[bAc] at h2;intro hmm;rcases aZn.1 hmm with hmm|hmm
    ·exact h3 i hmm i aA rfl
    ·exact h2.1 hmm
   have hsub:List.Sublist (π1++π2) (π1++i::π2):=List.Sublist.append (List.Sublist.refl _) (List.sublist_cons_self _ _)
   have hmt:∀j∈π1++π2,j∈τ:=fun j hj=>by
    rcases aZg.1 (hm j (hsub.subset hj)) with e|e
    ·subst e;exact absurd hj hni
    ·exact e
   have hloose:∀j∈π1,Loose pc ops lo rk j i:=by
    intro j hj;rw[List.pairwise_append] at hπp;rcases hπp.2.2 j hj i aA with hq|hq
    ·have:=hτ.1 j (hmt j (bAk _ hj));rw[hq] at this;cases this
    ·exact hq
   have d':=dr_front π1 π2 hist T h hloose hrk d;simp only[DR] at d';rw[wpOpsIn_cons];refine drStep_wp d' s ?_;rintro hist' T' h' E' w' a' ⟨t,rfl,ht⟩ dn s' hfr
   have hr':Ranked pc ops rk (π1++π2) (hist++t).length:=by
    exact y3z
   have:=wS (rd:=rd) (nb:=nb) (k:=k) τ (π1++π2) (hist++t) T' h' hn.2 hmt hxt (fun hq=>hxp (hsub.subset hq)) (hsub.nodup hpn) (fun j hj=>by
    rcases hc j (by simp[hj]) with h1|h1
    ·refine .inl ?_;rcases aZn.1 h1 with h1|h1
     ·exact bAk _ h1
     ·rcases aZg.1 h1 with h1|h1
      ·subst h1;exact absurd hj hn.1
      ·exact List.mem_append_right _ h1
    ·exact .inr h1) hτ.2 (hπp.sublist hsub) (fun j hj=>hl j (hsub.subset hj)) hr' dn E' w' a' s'
   exact y9e
end
def kY (pc:List Nat)(ops:Array Oper)(lo rk tbl:List Nat)(art:List (Nat×Nat))(x:Nat)(π:List Nat):Bool:=
 (π.all fun i=>decide (i<ops.size))&& ((List.range ops.size).all fun i=>π.contains i||(i==x||prB tbl ops.size x i))&& ((List.range ops.size).all fun i=>aTe ops (prB tbl ops.size) art i)&&
 pairB pc ops lo rk (prB tbl ops.size) π&& lastB pc ops (prB tbl ops.size) π (some x)&& rankB pc ops rk π 0
def aTu (ops:Array Oper)(π:List Nat):Bool:=(π.all fun i=>decide (i<ops.size))&& ((List.range ops.size).all fun i=>π.contains i)&& readyB ops [] π
section
variable {pc:List Nat} {P:Program} {rd:Option Nat} {nb:Nat} {ops:Array Oper} {D:List AD} {Q:AX->List AV->Heap->List AD->Prop} {k:List It} {T:List AV} {h:Heap}
theorem fW {lo rk tbl:List Nat} {art:List (Nat×Nat)} {x:Nat} {π τ:List Nat} (hok:kY pc ops lo rk tbl art x π=true)(L:Lin ops (Array.replicate ops.size false) τ)(hA:∀u v,(u,v)∈art->∀τ1 τ2,τ=τ1++v::τ2->u∈τ1)
  (d:DR pc P ops lo (PanStep P ops Q D x) π [] T h):∀E w a,St E w a T h D->wpOpsIn (fen rd) 0 P ops (K P rd (Post nb Q E h w) k) τ a w:=by
 simp only[kY,aZ7,aZf,aZh,bA5] at hok;obtain⟨⟨⟨⟨⟨h1,h2⟩,h3⟩,h4⟩,h5⟩,h6⟩:=hok;obtain⟨hnd,hpw⟩:=pairB_sound h4
 have hun:∀i,i∈τ↔i<ops.size:=fun i=>by
  exact y96
 have hR:∀τ1 i τ2,τ=τ1++i::τ2->∀o,ops[i]?=some o->∀e∈o.after,Region.binds .any e=true->e.on∈τ1:=by
  intro τ1 i τ2 hτ o ho e he hb;exact y7h
 have hE:∀i j,i<ops.size->prB tbl ops.size j i=true->(∃o e,ops[i]?=some o/\e∈o.after/\Region.binds .any e=true/\(e.on=j\/prB tbl ops.size j e.on=true))\/∃u,(u,i)∈art/\(u=j\/prB tbl ops.size j u=true):=by
  intro i j hi hp;exact y3k
 have hb:=fun τ1 i τ2 hτ=>aAm (fun i hi=>(hun i).1 hi) hE hR hA τ1.length τ1 i τ2 (aYw _) hτ
 simp only[lastB,aZ7,aZh,aZz,aZf,bAd] at h5;refine wS τ π [] T h L.nodup (fun j hj=>(hun j).2 (h1 j hj)) ((hun x).2 h5.1.1) (fun hm=>by have:=h5.1.2;rw[bBe.2 hm] at this;cases this) hnd (fun i hi=>?_) (iW L.nodup hb) hpw (fun j hj=>(h5.2 j hj).imp id ?_) (rankB_sound h6) d
 ·have:=h2 i ((hun i).1 hi);simp only[bAd,bBe,beq_iff_eq] at this;exact this
 ·intro hx;split at hx
  ·rename_i oe oj he hj';simp only[aZ7,aZz] at hx;exact⟨oe,oj,he,hj',hx.1,hx.2⟩
  ·cases hx
theorem aMr {π:List Nat} (hok:aTu ops π=true)(t:Nat):Lin ops (Array.replicate ops.size false) (Region.linearise.go .any ops ops.size t (Array.replicate ops.size false) []):=by
 simp only[aTu,aZ7,aZf,aZh,bA5] at hok;obtain⟨⟨h1,h2⟩,h5⟩:=hok;exact y4s
theorem Run.drawE3 {id:Nat} (x y z:Nat)(π0:List Nat)(lo1 rk1 tbl1 π1 lo2 rk2 tbl2 π2 lo3 rk3 tbl3 π3 lo4 rk4 tbl4 π4 lo5 rk5 tbl5 π5 lo6 rk6 tbl6 π6:List Nat)(hm:P.follows .mixedOrders=true)
  (hxy:(decide (x<ops.size)&& decide (y<ops.size)&& decide (z<ops.size)&& (x !=y)&& (x !=z)&& (y !=z)&& aTu ops π0)=true)
  (hok1:kY pc ops lo1 rk1 tbl1 [(x,y),(y,z)] x π1=true) (hok2:kY pc ops lo2 rk2 tbl2 [(x,z),(z,y)] x π2=true) (hok3:kY pc ops lo3 rk3 tbl3 [(y,x),(x,z)] x π3=true)
  (hok4:kY pc ops lo4 rk4 tbl4 [(y,z),(z,x)] x π4=true) (hok5:kY pc ops lo5 rk5 tbl5 [(z,x),(x,y)] x π5=true) (hok6:kY pc ops lo6 rk6 tbl6 [(z,y),(y,x)] x π6=true)
  (d1:DR pc P ops lo1 (PanStep P ops Q D x) π1 [] T h) (d2:DR pc P ops lo2 (PanStep P ops Q D x) π2 [] T h) (d3:DR pc P ops lo3 (PanStep P ops Q D x) π3 [] T h)
  (d4:DR pc P ops lo4 (PanStep P ops Q D x) π4 [] T h) (d5:DR pc P ops lo5 (PanStep P ops Q D x) π5 [] T h) (d6:DR pc P ops lo6 (PanStep P ops Q D x) π6 [] T h):Run P rd nb (.code (.region id ops true)::k) T h D Q:=by
 intro E w a s;refine wpIn_region_draw fun t=>?_
 simp only[Region.schedule,hm,bBr,if_true];obtain⟨s',hfr⟩:=s.drew;simp only[aZ7,aZh,bne_iff_ne,ne_eq] at hxy;obtain⟨⟨⟨⟨⟨⟨hx,hy⟩,hz⟩,hne1⟩,hne2⟩,hne3⟩,hall⟩:=hxy;have L:=aMr hall t;refine y1b ?_;generalize Region.linearise.go .any ops ops.size t (Array.replicate ops.size false) []=τ at L;have hmem:∀x,x<ops.size->x∈τ:=fun x hx=>(L.mem x).2 (iM.2 ⟨hx,by simp[hx]⟩)
 have fin:(∀E w a,St E w a T h D->wpOpsIn (fen rd) 0 P ops (K P rd (Post nb Q E h w) k) τ a w)->wpOpsIn (fen rd) 0 P ops (K P rd (Post nb Q E h w) k) τ a {w with drawn:=w.drawn+1} :=fun hall=>
  gA (dQ (P:=P) (rd:=rd) (Post.of_fr (Q:=Q) hfr) k) τ _ _ (hall E _ a s')
 have two:∀ {a b c d:Nat},Bef τ a b->Bef τ c d->∀u v,(u,v)∈[(a,b),(c,d)]->∀τ1 τ2,τ=τ1++v::τ2->u∈τ1:=by
  intro a b c d h1 h2 u v hp;exact y72
 rcases qP L.nodup (hmem x hx) (hmem y hy) hne1 with b1|b1<;>rcases qP L.nodup (hmem y hy) (hmem z hz) hne3 with b2|b2
 ·exact fin (fW hok1 L (two b1 b2) d1)
 ·rcases qP L.nodup (hmem x hx) (hmem z hz) hne2 with b3|b3
  ·exact fin (fW hok2 L (two b3 b2) d2)
  ·exact fin (fW hok5 L (two b3 b1) d5)
 ·rcases qP L.nodup (hmem x hx) (hmem z hz) hne2 with b3|b3
  ·exact fin (fW hok3 L (two b1 b3) d3)
  ·exact fin (fW hok4 L (two b2 b3) d4)
 ·exact fin (fW hok6 L (two b2 b1) d6)
end
end Go.AI.ND
