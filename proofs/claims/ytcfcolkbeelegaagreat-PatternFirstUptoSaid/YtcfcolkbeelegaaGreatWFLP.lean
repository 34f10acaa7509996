import Derived.Test.YtcfcolkbeelegaaGreatWA0
import Derived.Test.YtcfcolkbeelegaaGreatWFZ
import Derived.Test.YtcfcolkbeelegaaGreatWLB
import Derived.Test.YtcfcolkbeelegaaGreatWX4
import Derived.Test.YtcfcolkbeelegaaGreatWX13
import Derived.Test.YtcfcolkbeelegaaGreatWM2
import Derived.Test.YtcfcolkbeelegaaGreatWFR
import Derived.Test.YtcfcolkbeelegaaGreatWX2
import Derived.Test.YtcfcolkbeelegaaGreatWG1
import Derived.Test.YtcfcolkbeelegaaGreatWE1
import Derived.Test.YtcfcolkbeelegaaGreatWFL
set_option maxRecDepth 16000
set_option maxHeartbeats 16000000
namespace Go.Proofs.YtcfcolkbeelegaaGreat
open Go Go.AI
mutual
def nE:Pt->List UInt8
 | .mk k n qs=>if k=0 then [95] else if k=2 then [46,95] else if k=3 then [40,41] else if k=1 then(if qs=[] then n else 40::(n++zO qs++[41])) else []
def zO:List Pt->List UInt8
 |[]=>[]
 |p::ps=>32::(nE p++zO ps)
end
theorem aJg (n:List UInt8)(l:List Pt):Lib.join (n::l.map nE) [32]=n++zO l:=by
 rw[Lib.join_cons]
 congr 1
 induction l with
 |nil=>rfl
 |cons p l ih=>simp only[aYt,Lib.joinTail,aZq,zO] at ih⊢;rw[ih];simp
theorem aNi {l:List Pt} {p:Pt} (h:p∈l):(nE p).length<=(zO l).length:=by
 induction l with
 |nil=>simp at h
 |cons q l ih=>
  simp only[zO,aYi,aYl];exact y57
theorem aLj (h:Heap)(xs:List (List UInt8))(sep:List UInt8)(hN:xs.length<=140737488355328)(hlen:(Lib.join xs sep).length<=140737488355328):
  AC 87 [.p (.sl 1 (eH xs)), .p (sP sep)] h (.p (sP (Lib.join xs sep))):=aId aT7 aPm xs sep hN hlen
theorem aMi (N:Nat):∀(p:Pt),p.size<=N->p.size<=1048576->(nE p).length<=1099511627776->∀h,WF h->AC 39 [p.av] h (.p (sP (nE p))):=by
 induction N with
 |zero=>intro p hp;have:=p.size_pos;omega
 |succ N ih=>
 intro p hp hB hL h hh;obtain⟨k,n,qs⟩:=p;simp only[Pt.size] at hp hB;obtain⟨r,hr⟩:∃r,nE (.mk k n qs)=r:=⟨_,rfl⟩;rw[hr] at hL⊢;rw[nE] at hr;simp only[Pt.av,bC,List.map];have hql:=gJ qs;refine zE Tryz.func39 Tryz.ntmps39 ?_;refine iK ?_
 by_cases k0:k=0
 ·subst k0;rw[if_pos rfl] at hr;subst hr;refine lF ?_;exact y34
 have k0b:(k==(0:Int))=false:=by simpa using k0
 rw[if_neg k0] at hr;refine dI k0b ?_
 by_cases k2:k=2
 ·subst k2;rw[if_pos rfl] at hr;subst hr;refine lF ?_;exact y34
 have k2b:(k==(2:Int))=false:=by simpa using k2
 rw[if_neg k2] at hr;refine dI k2b ?_
 by_cases k3:k=3
 ·subst k3;rw[if_pos rfl] at hr;subst hr;refine lF ?_;exact y34
 have k3b:(k==(3:Int))=false:=by simpa using k3
 rw[if_neg k3] at hr;refine dI k3b ?_
 by_cases k1:k=1
 rotate_left
 ·have k1b:(k==(1:Int))=false:=by simpa using k1
  rw[if_neg k1] at hr;subst hr;refine xA k1b ?_;exact y34
 subst k1;rw[if_pos rfl] at hr;refine znt ?_;refine Run.regPre 2 fun K J=>?_
 refine yd ?_;simp;refine zi ?_;clear J;refine ya ?_;refine Run.buildV (sz:=1) (es:=[[sP n]]) rfl (by simp[aI]) aA aA ?_;refine zs ?_;refine zor ?_
 have hqb:qs≠[]->(zO qs).length+n.length+2<=1099511627776:=fun hne=>by
  rw[if_neg hne] at hr;rw[<-hr] at hL;simp at hL;omega
 refine Run.loopS [1,20,21] (fun j:Nat=>j<=qs.length) (fun j=>qs.length-j) (fun j=>[(3, .vec (h.length+1) (j+1)),(22,iA j)])
  (fun j=>h++[some (.cells [iA 1, .p (sP n), .p (.sl 3 (bX qs))]),some (.vec 1 (eH (n::(qs.take j).map nE)))]) 0 aA ?_ (by simp[eH]) ?_
 ·exact zS
 rintro j hj IH;refine cC ?_
 by_cases hjl:j<qs.length
 ·have hg:qs[j]?=some qs[j]:=aYb hjl;have hmem:=aYe hjl;have htk:qs.take (j+1)=qs.take j++[qs[j]]:=aYm hjl;have hmin:min j qs.length=j:=aZs hj;generalize qs[j]=q at hg hmem htk;have hsz:=Pt.size_at hmem;have hne:qs≠[]:=by intro e;subst e;simp at hjl
  have hqb:=hqb hne;have hml:=aNi hmem;have c1:=ih q aB aB aB;obtain⟨pk,pn,ps⟩:=q;simp only[Pt.av,bC,List.map] at c1;obtain⟨tx,htx⟩:∃tx,nE (Pt.mk pk pn ps)=tx:=⟨_,rfl⟩;rw[htx] at c1 hml;refine dD hjl ?_;refine aS4 hg ?_;refine zr ?_;refine zL (c1 _ (hh.app aA)) ?_;refine Run.opsPre 1 fun K J=>?_
  refine yd ?_;simp;refine zi ?_;clear J;refine ya ?_;refine Run.appendV (id:=h.length+1) (es:=eH (n::(qs.take j).map nE)) (ys:=[[sP tx]]) (sz:=1) (by_:=16) (e:=9) rfl (by simp[aI]) rfl rfl rfl rfl (by simp[hmin]) aA (jC _) aA aA aA (by simp;omega) (by simp;omega) ?_;simp[hmin];refine zo ?_;refine Run.keep [1,3,20,21,22] ?_;refine yf ?_;refine Run.cutAt 2 hh rfl aB aA aA aA rfl ?_;refine cC ?_;refine IH (j+1) _ _ aB aB ?_ ?_
  ·exact zS
  ·rw[htk];simp[eH,htx]
 ·have hje:j=qs.length:=aB;subst hje;have htl:List.take qs.length (qs.map nE)=qs.map nE:=aYn aA;rw[htl];refine dJ ?_;refine Run.keep [1,3] ?_;refine yf ?_;refine Run.freezeV 3 (id:=h.length+1) (n:=qs.length+1) (sz:=1) (es:=eH (n::qs.map nE)) aA aA (jC _) aA ?_;simp
  by_cases hq0:qs=[]
  ·subst hq0;rw[if_pos rfl] at hr;subst hr;refine rA ?_;exact y34
  ·have hqb:=hqb hq0;rw[if_neg hq0] at hr
   have hlb:((qs.length:Int)+1==1)=false:=by
    have:0<qs.length:=bAd.2 hq0;simp;omega
   have hjn:=aJg n qs;have c2:=aLj (h++[some (.cells [iA 1, .p (sP n), .p (.sl 3 (bX qs))]),none]) (n::qs.map nE) [32] (by simp;omega) (by rw[hjn];simp;omega);rw[hjn] at c2;have hb1:1+(n.length+(zO qs).length)<=9223372036854775807:=aB;refine aD6 hlb ?_;refine zL (c2) ?_;have hb2:n.length+(zO qs).length+1+1<=9223372036854775807:=aB;refine zo2 hb1 hb2 ?_;refine zx ?_;subst hr;exact y34
open Go Go.AI
def zeroB:List UInt8:=[122,101,114,111]
def jY:List UInt8:=[115,117,99,99]
def aM4:Dc:=⟨3,aUg,0, .mk 2 0 [] [⟨0,[]⟩] [],zT,0,[⟨zeroB,natT⟩,⟨jY,aFt natT natT⟩],0,natT,[natT,natT],[]⟩
def natE:List Dc:=[aM4]
theorem aTd:nT [] aM4=0:=aC
theorem hU:aQ natE:=by
 refine⟨fun d hd=>?_,fun j d hj=>?_⟩
 ·simp[natE] at hd;subst hd;decide
 ·rcases Nat.eq_zero_or_pos j with e|e
  ·subst e;simp[natE] at hj;subst hj;exact aTd
  ·have:=(aYc.1 hj).1;simp[natE] at this;omega
theorem tS:natT.good:=by simp[Tm.good,natT,Tm.size,Tm.sizes,Tm.fit,Tm.fits,Tm.lvs,Tm.lvss]
theorem aR4:aFt natT natT= .mk 6 0 [] [] [natT,natT]:=aC
theorem hY:Env.good natE:=by
 refine⟨by simp[natE],fun d hd=>?_⟩;simp[natE] at hd;subst hd;refine⟨?_,?_,tS,by simp[aM4],?_,by simp[aM4],?_,by simp[aM4],by simp[aM4]⟩
 ·simp[aM4,Tm.good,Tm.size,Tm.sizes,Tm.fit,Tm.fits,Tm.lvs,Tm.lvss]
 ·simp[aM4,zT,Tm.good,Tm.size,Tm.sizes,Tm.fit,Tm.fits,Tm.lvs,Tm.lvss]
 ·intro c hc;simp[aM4] at hc;rcases hc with rfl|rfl
  ·exact tS
  ·rw[aR4];simp[natT,Tm.good,Tm.size,Tm.sizes,Tm.fit,Tm.fits,Tm.lvs,Tm.lvss]
 ·intro t ht;simp[aM4] at ht;rcases ht with rfl|rfl<;>exact tS
theorem aBs (h:Heap)(hh:WF h):AC 67 [] h (bW natE):=by
 have c0:=fun g hw=>aDi g hw natT natT (by simp[natT,aUg,Tm.ok,Tm.oks,Tm.okN]) aD
 rw[aR4] at c0
 have hwk:Weak (.agg [iA 3,iA 0, .p (sP aUg), .p (.prim (.slice none 0 0)), .p (.prim (.slice none 0 0))]) natT.av:=by
  simp only[natT,Tm.av,aG,List.map,aW,aL];exact y6r
 have c1:=fun g hw=>ACalls.weak (WeakL.cons hwk (WeakL.cons hwk WeakL.nil)) (c0 g hw)
 simp only[aUg,natT,Tm.av,aG,List.map,aW,aL] at c1;refine ACalls.of_run Tryz.func67 rfl ?_;simp only[Tryz.ntmps67,aYj];refine rI ?_;refine ND.Run.drawP (pc:=[7]) [0,0,0,0,0,0,0,0,0,0,0,0,0,0,0,0,0,0] [0,0,0,0,0,0,0,0,0,0,0,0,0,0,0,0,0,0] [0,1,3,0,8,0,0,96,224,504,0,0,0,6144,15360,32767,65535,131071] [0,1,2,3,4,5,6,7,8,9,10,11,12,13,14,15,16,17] aC aC ?_;refine zm ?_;refine ND.DR.pcall rfl rfl rfl aA rfl rfl (fun g hg=>(c1) g ?_) ?_
 ·exact y2w
 refine zm ?_;refine y9 ?_;refine znx ?_;refine Fin.ret' (h0:=h) (y:=bW natE) aA rfl hh rfl aE rfl ?_ aA ⟨rfl,rfl⟩;show Weak (.p _) (.p _);refine WeakP.av ?_;simp only[natE,aM4,natT,aUg,zeroB,jY,zT,Dc.cells,Ct.cells,Lv.cells,aG,List.map,aW,aL,aYf,aYk];exact y6l
theorem pB (h:Heap)(hh:WF h)(n:List UInt8)(qs:List Pt):ACalls Tryz.prog 68 [.p (sP n), .p (.sl 3 (bX qs))] h fun o h'=>o= .ret (Pt.mk 1 n qs).av/\h'=h:=by
 refine zE Tryz.func68 Tryz.ntmps68 ?_;refine aD8 ?_;exact y2t
open Go Go.AI
def aEt (a b:List Tm):Bool:=decide (a.length=b.length)&& lA a b
theorem mJ (a b:List Tm)(hel:∀t∈a,t.size<=1099511627776/\t.lvs)(hll:a.length<=1048576)(_hb:b.length<=1048576)(h:Heap)(hh:WF h):AC 25 [.p (.sl 5 (aL a)), .p (.sl 5 (aL b))] h (bA (aEt a b)):=by
 obtain⟨r,hr⟩:∃r,aEt a b=r:=⟨_,rfl⟩;rw[hr];unfold aEt at hr;rw[uM] at hr;refine zER Tryz.func25 Tryz.ntmps25 ?_
 by_cases hl:a.length=b.length
 rotate_left
 ·have hlb:((a.length:Int) !=(b.length:Int))=true:=by simp;omega
  rw[decide_eq_false hl] at hr;simp at hr;subst hr;refine gA hlb ?_;exact y39
 rw[decide_eq_true hl,Bool.true_and] at hr;refine aD6 hl ?_;refine Run.loopS [0,1] (fun j:Nat=>j<=a.length/\bB (pZ a b) j=true) (fun j=>a.length-j) (fun j=>[(5,iA j)]) (fun _=>h) 0 (by simp[bB]) ?_ rfl ?_
 ·exact zS
 rintro j ⟨hj,hall⟩ IH;refine cC ?_
 by_cases hjl:j<a.length
 ·have hga:a[j]?=some a[j]:=aYb hjl;have hgb:b[j]?=some (b[j]'aB):=aYb aB;have hma:=aYe hjl;obtain⟨hs,hlvj⟩:=hel _ hma;generalize a[j]=x at hga hma hs hlvj;generalize b[j]=y at hgb;have c1:=fun g hw=>rR x.size x y g (aYd _) aB hlvj hw
  have hta:pZ a b j=fR x y:=by simp[pZ,hga,hgb]
  generalize fR x y=s at c1 hta;obtain⟨k,i,n,ls,ks⟩:=x;obtain⟨k2,i2,n2,ls2,ks2⟩:=y;simp only[Tm.av,aG,List.map] at c1;refine dD hjl ?_;refine ND.Run.drawP (pc:=[8]) [0,0,0,0,0,0,0,0,0,0] [0,0,0,0,0,0,0,0,0,0] [0,0,3,7,0,0,48,112,255,511] [0,1,2,3,4,5,6,7,8,9] aC aC ?_;refine zm2 hga hgb ?_;refine ND.DR.pcall rfl rfl rfl aA rfl rfl (fun g hg=>c1 g ?_) ?_
  ·simp at hg;subst hg;exact hh
  refine zm ?_;refine y9 ?_;refine nv ?_
  cases s with
  |false=>
   have:=aU hjl hta;rw[this] at hr;subst hr;refine lF ?_;exact y39
  |true=>
   refine aA2 ?_;refine IH (j+1) _ _ ⟨by omega,by rw[bJ,hall,hta];rfl⟩ aB ?_ rfl;exact zS
 ·have hje:j=a.length:=aB;subst hje;rw[hall] at hr;subst hr;refine cQ ?_;exact y39
theorem zG (a b:List Tm)(hsz:Tm.sizes a<=1048576)(hlv:Tm.lvss a)(hb:b.length<=1048576)(h:Heap)(hh:WF h):AC 25 [.p (.sl 5 (aL a)), .p (.sl 5 (aL b))] h (bA (aEt a b)):=
 mJ a b (fun t ht=>⟨by obtain⟨j,hj,rfl⟩:=List.mem_iff_getElem.1 ht;have:=eK hj;omega,Tm.lvss_at hlv _ ht⟩) (by have:=aR a;omega) hb h hh
def aJd (t:Tm):Tm:=vF (.mk 3 0 jY [] []) t
def zroT:Tm:= .mk 3 0 zeroB [] []
theorem aHs (h:Heap)(hh:WF h)(t:Tm):ACalls Tryz.prog 69 [t.av] h fun o h'=>o= .ret (aJd t).av/\h'=h:=by
 obtain⟨k,i,n,ls,ks⟩:=t;refine ACalls.of_run Tryz.func69 rfl ?_;simp only[Tryz.ntmps69,aYi,aYj,Tm.av,aG,List.map];refine aD8 ?_;refine Fin.ret' (h0:=h) (y:=(aJd (.mk k i n ls ks)).av) aA rfl hh rfl aE rfl ?_ aA ⟨rfl,rfl⟩;simp only[aJd,vF,Tm.av,aG,List.map,aW,aL];refine Weak.agg (WeakL.cons (Weak.refl _) (WeakL.cons (Weak.refl _) (WeakL.cons (Weak.refl _) (WeakL.cons (Weak.nil _) (WeakL.cons (WeakP.av (WeakP.sl ?_)) WeakL.nil)))));exact y6l
def awG (t:Tm):Prop:=t=aJd (vr 3)\/t=aJd (vr 5)\/t=vr 3\/t=vr 5\/t=zroT
theorem aB8:(aK natE jY).1.k=4:=aC
theorem aL3:(aK natE zeroB).1.k=4:=aC
theorem sp3:aH (aJd (vr 3))=(.mk 3 0 jY [] [],[vr 3]):=aC
theorem sp5:aH (aJd (vr 5))=(.mk 3 0 jY [] [],[vr 5]):=aC
theorem sp3':aH (vr 3)=(vr 3,[]):=aC
theorem sp5':aH (vr 5)=(vr 5,[]):=aC
theorem spz:aH zroT=(zroT,[]):=aC
theorem aAb:∀t,awG t->aRv natE t:=by
 intro t ht;rcases ht with rfl|rfl|rfl|rfl|rfl
 ·exact⟨by decide,by rw[sp3];simp,by rw[sp3];exact⟨by decide,by decide,by decide,by decide,fun _=> .inr (.inr (.inr (.inr aB8)))⟩⟩
 ·exact⟨by decide,by rw[sp5];simp,by rw[sp5];exact⟨by decide,by decide,by decide,by decide,fun _=> .inr (.inr (.inr (.inr aB8)))⟩⟩
 ·exact y8c
 ·exact y8c
 ·exact⟨by decide,by decide,by decide,by decide,by decide,by decide,fun _=> .inr (.inr (.inr (.inr aL3)))⟩
theorem awW:WOk natE (fun t=>(t,0)) awG:=by
 refine⟨fun t ht h hh=>?_,fun t ht _=>?_,fun t ht _ a ha=>?_⟩
 ·refine uY natE t t 20000 (fun H q hw hq=>?_) h hh;refine(zU natE hY hU.1 t (aAb t ht) q 20000 H hw hq).mono ?_;rintro o h' ⟨rfl,rfl⟩;refine⟨rfl,?_⟩;exact y4x
 ·have:=(aAb t ht).1;have:=kY t;simp only;omega
 ·simp only at ha;rcases ht with rfl|rfl|rfl|rfl|rfl
  ·rw[sp3] at ha;simp at ha;subst ha;exact .inr (.inr (.inl rfl))
  ·rw[sp5] at ha;simp at ha;subst ha;exact .inr (.inr (.inr (.inl rfl)))
  ·rw[sp3'] at ha;simp at ha
  ·rw[sp5'] at ha;simp at ha
  ·rw[spz] at ha;simp at ha
open Go Go.AI
def vPt:Pt:= .mk 0 [] []
def zPn:Pt:= .mk 1 zeroB []
def sPn:Pt:= .mk 1 jY [vPt]
def aO6:List Cl:=[⟨[zPn,vPt],zT⟩,⟨[sPn,zPn],zT⟩,⟨[sPn,sPn],zT⟩]
def yM:List Cl:=[⟨[zPn,vPt],zT⟩,⟨[sPn,sPn],zT⟩]
def awR:Tm->Tm×Int:=fun t=>(t,0)
theorem aX8:kD awR natE aO6 [aJd (vr 3),aJd (vr 5)]=(2,[vr 3,vr 5],0):=aC
theorem aX9:kD awR natE aO6 [vr 3,zroT]=(0,[],19):=aC
theorem aX4:mR natE aO6 [vPt,vPt]=true:=aC
theorem aX5:mR natE yM [vPt,vPt]=false:=aC
theorem aX6:mR natE yM [zPn,vPt]=true:=aC
theorem aX7:mR natE yM [sPn,vPt]=false:=aC
theorem aUt:nE (.mk 1 jY [sPn])=[40,115,117,99,99,32,40,115,117,99,99,32,95,41,41]:=aC
theorem aXa:aEt [vr 3,vr 5] [vr 3,vr 5]=true:=aC
abbrev aCw:List PV:=[iP 0,sP [], .prim (.slice none 0 0)]
theorem aV9 (g:Heap)(hw:WF g):AC 68 [.p (sP zeroB), .p (.prim (.slice none 0 0))] g zPn.av:=
 ACalls.weak (args':=[.p (sP zeroB), .p (.sl 3 (bX []))]) (WeakL.cons (Weak.refl _) (WeakL.cons (Weak.nil _) WeakL.nil)) (pB g hw zeroB [])
theorem aNq:WeakPs [aCw] (bX [vPt]):=by
 simp only[vPt,bX,bC];exact WeakPs.cons (WeakPL.cons (WeakP.refl _) (WeakPL.cons (WeakP.refl _) (WeakPL.cons (WeakP.nil _) WeakPL.nil))) WeakPs.nil
theorem aVa (g:Heap)(hw:WF g):AC 68 [.p (sP jY), .p (.sl 3 [aCw])] g sPn.av:=
 ACalls.weak (args':=[.p (sP jY), .p (.sl 3 (bX [vPt]))]) (WeakL.cons (Weak.refl _) (WeakL.cons (WeakP.sl aNq).av WeakL.nil)) (pB g hw jY [vPt])
open Go Go.AI
abbrev aDc:List PV:=[iP 1,sP zeroB, .sl 3 []]
abbrev rG:List PV:=[iP 1,sP jY, .sl 3 [[iP 0,sP [], .sl 3 []]]]
abbrev rc (a b:List PV):List PV:=[.sl 3 [a,b],iP 0,iP 0,sP [], .prim (.slice none 0 0), .prim (.slice none 0 0)]
abbrev rT (i:Int):List PV:=[iP 0,iP i,sP [], .prim (.slice none 0 0), .prim (.slice none 0 0)]
abbrev rZ:List PV:=[iP 3,iP 0,sP zeroB, .prim (.slice none 0 0), .prim (.slice none 0 0)]
theorem qX:WeakPL aCw vPt.cells:=by simp only[vPt,bC,bX];exact WeakPL.cons (WeakP.refl _) (WeakPL.cons (WeakP.refl _) (WeakPL.cons (WeakP.nil _) WeakPL.nil))
theorem aEc:∀l:List PV,WeakPL l l
 |[]=>WeakPL.nil
 |x::l=>WeakPL.cons (WeakP.refl x) (aEc l)
theorem z_eq:aDc=zPn.cells:=by simp only[zPn,bC,bX]
theorem s_eq:rG=sPn.cells:=by simp only[sPn,vPt,bC,bX]
theorem uF {a b:List PV} {p q:Pt} (h1:WeakPL a p.cells)(h2:WeakPL b q.cells):WeakPL (rc a b) (Cl.cells ⟨[p,q],zT⟩):=by
 simp only[Cl.cells,zT,aG,bX,aW,aL,List.map];exact WeakPL.cons (WeakP.sl (WeakPs.cons h1 (WeakPs.cons h2 WeakPs.nil))) (WeakPL.cons (WeakP.refl _) (WeakPL.cons (WeakP.refl _) (WeakPL.cons (WeakP.refl _) (WeakPL.cons (WeakP.nil _) (WeakPL.cons (WeakP.nil _) WeakPL.nil)))))
theorem zw:WeakPL aDc zPn.cells:=by rw[z_eq];exact aEc _
theorem sw:WeakPL rG sPn.cells:=by rw[s_eq];exact aEc _
theorem aDd:WeakPs [rc aDc aCw,rc rG aDc,rc rG rG] (vG aO6):=by
 simp only[vG,aO6,List.map];exact WeakPs.cons (uF zw qX) (WeakPs.cons (uF sw zw) (WeakPs.cons (uF sw sw) WeakPs.nil))
theorem aDe:WeakPs [rc aDc aCw,rc rG rG] (vG yM):=by
 simp only[vG,yM,List.map];exact WeakPs.cons (uF zw qX) (WeakPs.cons (uF sw sw) WeakPs.nil)
theorem aEe (i:Int):WeakPL (rT i) (vr i).cells:=by
 simp only[vr,aG,aW,aL,List.map];exact y6s
theorem aTr:WeakPL rZ zroT.cells:=by
 simp only[zroT,aG,aW,aL,List.map];exact y6s
theorem aQ6 (i:Int):Weak (.agg ((rT i).map .p)) (vr i).av:=by
 simp only[vr,Tm.av,aG,aW,aL,List.map];exact y6r
theorem smA1:PSmall aO6 []:=⟨by decide,by decide,by decide⟩
theorem smA2 (v:List Pt)(h:Pt.sizes v<=1048576):PSmall aO6 v:=⟨by decide,by decide,h⟩
theorem smL (v:List Pt)(h:Pt.sizes v<=1048576):PSmall yM v:=⟨by decide,by decide,h⟩
theorem aVe (g:Heap)(hw:WF g):AC 22 [.p (.sl 23 (natE.map Dc.cells)), .p (.sl 6 [rc aDc aCw,rc rG aDc,rc rG rG]), .p (.sl 5 (aL [aJd (vr 3),aJd (vr 5)]))] g (mtA (2,[vr 3,vr 5],0)):=by
 rw[<-aX8];refine ACalls.weak (WeakL.cons (Weak.refl _) (WeakL.cons (WeakP.sl aDd).av (WeakL.cons (Weak.refl _) WeakL.nil))) (pP natE hU hY awR awG awW aO6 _ smA1 ?_ aA g hw);intro a ha;simp at ha;rcases ha with rfl|rfl
 ·exact .inl rfl
 ·exact .inr (.inl rfl)
theorem aVf (g:Heap)(hw:WF g):AC 22 [.p (.sl 23 (natE.map Dc.cells)), .p (.sl 6 [rc aDc aCw,rc rG aDc,rc rG rG]), .p (.sl 5 [rT 3,rZ])] g (mtA (0,[],19)):=by
 rw[<-aX9];have h1:WeakPs [rT 3,rZ] (aL [vr 3,zroT]):=WeakPs.cons (aEe 3) (WeakPs.cons aTr WeakPs.nil);refine ACalls.weak (WeakL.cons (Weak.refl _) (WeakL.cons (WeakP.sl aDd).av (WeakL.cons (WeakP.sl h1).av WeakL.nil))) (pP natE hU hY awR awG awW aO6 _ smA1 ?_ aA g hw);intro a ha;simp at ha;rcases ha with rfl|rfl
 ·exact .inr (.inr (.inl rfl))
 ·exact .inr (.inr (.inr (.inr rfl)))
theorem aVt (g:Heap)(hw:WF g):AC 26 [.p (.sl 23 (natE.map Dc.cells)), .p (.sl 6 [rc aDc aCw,rc rG aDc,rc rG rG]), .p (.sl 3 [aCw,aCw])] g (bA true):=by
 rw[<-aX4];exact ACalls.weak (WeakL.cons (Weak.refl _) (WeakL.cons (WeakP.sl aDd).av (WeakL.cons (WeakP.sl (es':=bX [vPt,vPt]) (WeakPs.cons qX (WeakPs.cons qX WeakPs.nil))).av WeakL.nil))) (lO natE hU hY aO6 [vPt,vPt] (smA2 _ aD) g hw)
theorem aVu (g:Heap)(hw:WF g):AC 26 [.p (.sl 23 (natE.map Dc.cells)), .p (.sl 6 [rc aDc aCw,rc rG rG]), .p (.sl 3 [aCw,aCw])] g (bA false):=by
 rw[<-aX5];exact ACalls.weak (WeakL.cons (Weak.refl _) (WeakL.cons (WeakP.sl aDe).av (WeakL.cons (WeakP.sl (es':=bX [vPt,vPt]) (WeakPs.cons qX (WeakPs.cons qX WeakPs.nil))).av WeakL.nil))) (lO natE hU hY yM [vPt,vPt] (smL _ aD) g hw)
theorem aVv (g:Heap)(hw:WF g):AC 26 [.p (.sl 23 (natE.map Dc.cells)), .p (.sl 6 [rc aDc aCw,rc rG rG]), .p (.sl 3 [aDc,aCw])] g (bA true):=by
 rw[<-aX6];exact ACalls.weak (WeakL.cons (Weak.refl _) (WeakL.cons (WeakP.sl aDe).av (WeakL.cons (WeakP.sl (es':=bX [zPn,vPt]) (WeakPs.cons zw (WeakPs.cons qX WeakPs.nil))).av WeakL.nil))) (lO natE hU hY yM [zPn,vPt] (smL _ aD) g hw)
theorem aVw (g:Heap)(hw:WF g):AC 26 [.p (.sl 23 (natE.map Dc.cells)), .p (.sl 6 [rc aDc aCw,rc rG rG]), .p (.sl 3 [rG,aCw])] g (bA false):=by
 rw[<-aX7];exact ACalls.weak (WeakL.cons (Weak.refl _) (WeakL.cons (WeakP.sl aDe).av (WeakL.cons (WeakP.sl (es':=bX [sPn,vPt]) (WeakPs.cons sw (WeakPs.cons qX WeakPs.nil))).av WeakL.nil))) (lO natE hU hY yM [sPn,vPt] (smL _ aD) g hw)
theorem aN2 (i:Int)(g:Heap)(hw:WF g):ACalls Tryz.prog 69 [.agg ((rT i).map .p)] g fun o h'=>o= .ret (aJd (vr i)).av/\h'=g:=
 ACalls.weak (WeakL.cons (aQ6 i) WeakL.nil) (aHs g hw (vr i))
theorem aTq (g:Heap)(hw:WF g):AC 25 [.p (.sl 5 (aL [vr 3,vr 5])), .p (.sl 5 [rT 3,rT 5])] g (bA true):=by
 rw[<-aXa];exact ACalls.weak (WeakL.cons (Weak.refl _) (WeakL.cons (WeakP.sl (es':=aL [vr 3,vr 5]) (WeakPs.cons (aEe 3) (WeakPs.cons (aEe 5) WeakPs.nil))).av WeakL.nil)) (zG [vr 3,vr 5] [vr 3,vr 5] aD (by simp[Tm.lvss,vr,Tm.lvs]) aA g hw)
theorem aSm (g:Heap)(hw:WF g):ACalls Tryz.prog 68 [.p (sP jY), .p (.sl 3 [rG])] g fun o h'=>o= .ret (Pt.mk 1 jY [sPn]).av/\h'=g:=by
 have:=pB g hw jY [sPn];simp only[bX,<-s_eq] at this;exact this
theorem aU0 (g:Heap)(hw:WF g):AC 39 [(Pt.mk 1 jY [sPn]).av] g (.p (sP [40,115,117,99,99,32,40,115,117,99,99,32,95,41,41])):=by
 rw[<-aUt];exact aMi _ _ (aYd _) aD (by rw[aUt];simp) g hw
open Go Go.AI
theorem aDj (h:Heap)(hh:WF h):AC 21 [] h (bA true):=by
 have n1:=fun g hw=>aBs g hw
 have k1:=aV9;have k2:=aVa;simp only[zeroB,jY] at k1 k2;obtain⟨NE,hNE⟩:∃NE,natE.map Dc.cells=NE:=⟨_,rfl⟩;simp only[bW,hNE] at n1;have m1:=aVe;have m2:=aVf;have v1:=aVt;have v2:=aVu;have v3:=aVv;have v4:=aVw;have s3:=aN2 3;have s5:=aN2 5;have q1:=aTq;have c3:=aSm;have t1:=aU0;simp only[hNE,mtA,aDc,rG,rc,rT,rZ,zeroB,jY,sPn,vPt,Pt.av,bC,bX,aJd,vF,vr,Tm.av,aL,aG,aW,List.map] at m1 m2 v1 v2 v3 v4 s3 s5 q1 c3 t1;refine ACalls.of_run Tryz.func21 rfl ?_;simp only[Tryz.ntmps21,aYj];refine rI ?_;refine zL (n1 _ hh) ?_;refine zo ?_;refine ND.Run.draw2 (pc:=[0,3]) 4 5 [0,0,0,0,0,1,2,3] [0,0,0,0,0,1,2,3] [0,0,2,7,0,16,63,127] [4,5,0,1,2,3,6,7] [0,0,0,0,1,0,2,3] [0,0,0,0,1,0,2,3] [0,0,2,7,32,0,63,127] [5,4,0,1,2,3,6,7] aC aC aC aC ?_ ?_
 all_goals
  refine zm ?_;refine ND.DR.pcall rfl rfl rfl aA rfl rfl (fun g hg=>k1 g ?_) ?_
  ·simp at hg
   (first|(rcases hg with rfl|rfl|rfl|rfl)|(rcases hg with rfl|rfl|rfl)|(rcases hg with rfl|rfl)|subst hg)<;>exact hh.app aA
  refine zm ?_;refine ND.DR.pcall rfl rfl rfl aA rfl rfl (fun g hg=>k2 g ?_) ?_
  ·simp at hg
   (first|(rcases hg with rfl|rfl|rfl|rfl)|(rcases hg with rfl|rfl|rfl)|(rcases hg with rfl|rfl)|subst hg)<;>exact hh.app aA
  simp only[zPn,sPn,vPt,zeroB,jY,Pt.av,bC,bX,List.map];refine zm ?_;refine y9 ?_;refine iK ?_;refine ND.Run.drawP (pc:=[4,7,9]) [0,0,0,0,0,0,0,0,0,0,0,0,0,0,0,0,0] [0,0,0,0,0,0,0,0,0,0,0,0,0,0,0,0,0] [0,0,0,0,12,0,0,124,252,511,1023,2047,2047,2047,4095,24575,65535] [0,1,2,3,4,5,6,7,8,9,10,11,12,13,14,15,16] aC aC ?_;refine zm ?_;refine ND.DR.pcall rfl rfl rfl aA rfl rfl (fun g hg=>s3 g ?_) ?_
  ·simp at hg
   (first|(rcases hg with rfl|rfl|rfl|rfl)|(rcases hg with rfl|rfl|rfl)|(rcases hg with rfl|rfl)|subst hg)<;>exact hh.app aA
  refine zm ?_;refine ND.DR.pcall rfl rfl rfl aA rfl rfl (fun g hg=>s5 g ?_) ?_
  ·simp at hg
   (first|(rcases hg with rfl|rfl|rfl|rfl)|(rcases hg with rfl|rfl|rfl)|(rcases hg with rfl|rfl)|subst hg)<;>exact hh.app aA
  refine zm ?_;refine ND.DR.pcall rfl rfl rfl aA rfl rfl (fun g hg=>m1 g ?_) ?_
  ·simp at hg
   (first|(rcases hg with rfl|rfl|rfl|rfl)|(rcases hg with rfl|rfl|rfl)|(rcases hg with rfl|rfl)|subst hg)<;>exact hh.app aA
  refine zm ?_;refine y9 ?_;refine znr ?_;refine zL (m2 _ (hh.app aA)) ?_;refine zo ?_;refine Run.draw [0,0,0,0,0,0,0,0] [0,0,0,0,0,0,0,0] [0,1,3,0,8,24,63,127] [0,1,2,3,4,5,6,7] aC aC ?_;refine zd ?_;refine y9 ?_;refine znr ?_;refine zL (q1 _ (hh.app aA)) ?_;refine zo ?_;refine zL (v1 _ (hh.app aA)) ?_;refine zo ?_;refine zL (v2 _ (hh.app aA)) ?_;refine zo ?_;refine zL (v3 _ (hh.app aA)) ?_;refine zo ?_;refine zL (v4 _ (hh.app aA)) ?_;refine zo ?_;refine zL (c3 _ (hh.app aA)) ?_;refine zo ?_;refine zL (t1 _ (hh.app aA)) ?_;refine zox ?_;refine zF1 hh ?_;exact⟨by simp,rfl⟩
end Go.Proofs.YtcfcolkbeelegaaGreat
namespace Go.AI.ND
open Go Go.AI
section
variable {pc:List Nat} {P:Program} {ops:Array Oper} {lo rk:List Nat} {D:List AD} {Q:AX->List AV->Heap->List AD->Prop}
theorem wK {rd:Option Nat} {nb:Nat} {k:List It} {pr:Nat->Nat->Bool} {x:Nat} :
  ∀(τ π:List Nat) (hist:List Heap) (T:List AV) (h:Heap),τ.Nodup->(∀j∈π,j∈τ)->x∈τ->x∉π->π.Nodup->(∀i∈τ,i∈π\/i=x\/pr x i=true)->τ.Pairwise (fun i j=>pr j i=false)->
   π.Pairwise (fun j i=>pr j i=true\/Loose pc ops lo rk j i)->(∀j∈π,pr j x=true\/∃oe oj,ops[x]?=some oe/\ops[j]?=some oj/\oj.apart ops oe=true/\eF pc j oj=false)->Ranked pc ops rk π hist.length->
   DR pc P ops lo (PanStep P ops Q D x) π hist T h->∀E w a,St E w a T h D->wpOpsIn (fen rd) 0 P ops (K P rd (Post nb Q E h w) k) τ a w
 |[],π,hist,T,h,_,_,hx,_,_,_,_,_,_,_,_,E,w,a,s=>by cases hx
 |i::τ,π,hist,T,h,hn,hm,hx,hxp,hpn,hc,hτ,hπp,hl,hrk,d,E,w,a,s=>by
  rw[List.pairwise_cons] at hτ;rw[aZt] at hn
  by_cases hix:i=x
  ·--the one that panics
   subst hix
   have ps:=pan_front (fun _ _ r=>r) π hist T h (fun j hj=>by
    rcases hl j hj with hp|hp
    ·have hjt:j∈τ:=by
      rcases aYx.1 (hm j hj) with e|e
      ·subst e;exact absurd hj hxp
      ·exact e
     have:=hτ.1 j hjt;rw[hp] at this;cases this
    ·exact hp) d
   obtain⟨o',c,f,args,v,h',e1,e2,e3,e4,e5,e6,e7⟩:=ps;rw[wpOpsIn_cons];exact y3d
  ·have hxt:x∈τ:=by
    rcases aYx.1 hx with e|e
    ·exact absurd e.symm hix
    ·exact e
   have hin:i∈π:=by
    rcases hc i aA with h1|h1|h1
    ·exact h1
    ·exact absurd h1 hix
    ·have:=hτ.1 x hxt;rw[h1] at this;cases this
   obtain⟨π1,π2,hπ⟩:=bA9 hin;subst hπ
   have hni:i∉π1++π2:=by
    rw[List.nodup_append] at hpn;obtain⟨h1,h2,h3⟩:=hpn;rw[aZt] at h2;intro hmm;rcases aZ4.1 hmm with hmm|hmm
    ·exact h3 i hmm i aA rfl
    ·exact h2.1 hmm
   have hsub:List.Sublist (π1++π2) (π1++i::π2):=List.Sublist.append (List.Sublist.refl _) (List.sublist_cons_self _ _)
   have hmt:∀j∈π1++π2,j∈τ:=fun j hj=>by
    rcases aYx.1 (hm j (hsub.subset hj)) with e|e
    ·subst e;exact absurd hj hni
    ·exact e
   have hloose:∀j∈π1,Loose pc ops lo rk j i:=by
    intro j hj;rw[List.pairwise_append] at hπp;rcases hπp.2.2 j hj i aA with hq|hq
    ·have:=hτ.1 j (hmt j (bA1 _ hj));rw[hq] at this;cases this
    ·exact hq
   have d':=dr_front π1 π2 hist T h hloose hrk d;simp only[DR] at d';rw[wpOpsIn_cons];refine drStep_wp d' s ?_;rintro hist' T' h' E' w' a' ⟨t,rfl,ht⟩ dn s' hfr
   have hr':Ranked pc ops rk (π1++π2) (hist++t).length:=by
    exact y40
   have:=wK (rd:=rd) (nb:=nb) (k:=k) τ (π1++π2) (hist++t) T' h' hn.2 hmt hxt (fun hq=>hxp (hsub.subset hq)) (hsub.nodup hpn) (fun j hj=>by
    rcases hc j (by simp[hj]) with h1|h1
    ·refine .inl ?_;rcases aZ4.1 h1 with h1|h1
     ·exact bA1 _ h1
     ·rcases aYx.1 h1 with h1|h1
      ·subst h1;exact absurd hj hn.1
      ·exact List.mem_append_right _ h1
    ·exact .inr h1) hτ.2 (hπp.sublist hsub) (fun j hj=>hl j (hsub.subset hj)) hr' dn E' w' a' s'
   exact y9b
end
def kR (pc:List Nat)(ops:Array Oper)(lo rk tbl:List Nat)(art:List (Nat×Nat))(x:Nat)(π:List Nat):Bool:=
 (π.all fun i=>decide (i<ops.size))&& ((List.range ops.size).all fun i=>π.contains i||(i==x||prB tbl ops.size x i))&& ((List.range ops.size).all fun i=>aSy ops (prB tbl ops.size) art i)&&
 pairB pc ops lo rk (prB tbl ops.size) π&& lastB pc ops (prB tbl ops.size) π (some x)&& rankB pc ops rk π 0
def aTf (ops:Array Oper)(π:List Nat):Bool:=(π.all fun i=>decide (i<ops.size))&& ((List.range ops.size).all fun i=>π.contains i)&& readyB ops [] π
section
variable {pc:List Nat} {P:Program} {rd:Option Nat} {nb:Nat} {ops:Array Oper} {D:List AD} {Q:AX->List AV->Heap->List AD->Prop} {k:List It} {T:List AV} {h:Heap}
theorem fW {lo rk tbl:List Nat} {art:List (Nat×Nat)} {x:Nat} {π τ:List Nat} (hok:kR pc ops lo rk tbl art x π=true)(L:Lin ops (Array.replicate ops.size false) τ)(hA:∀u v,(u,v)∈art->∀τ1 τ2,τ=τ1++v::τ2->u∈τ1)
  (d:DR pc P ops lo (PanStep P ops Q D x) π [] T h):∀E w a,St E w a T h D->wpOpsIn (fen rd) 0 P ops (K P rd (Post nb Q E h w) k) τ a w:=by
 simp only[kR,aYo,aYw,aYy,aZm] at hok;obtain⟨⟨⟨⟨⟨h1,h2⟩,h3⟩,h4⟩,h5⟩,h6⟩:=hok;obtain⟨hnd,hpw⟩:=pairB_sound h4
 have hun:∀i,i∈τ↔i<ops.size:=fun i=>by
  exact y91
 have hR:∀τ1 i τ2,τ=τ1++i::τ2->∀o,ops[i]?=some o->∀e∈o.after,Region.binds .any e=true->e.on∈τ1:=by
  intro τ1 i τ2 hτ o ho e he hb;exact y7g
 have hE:∀i j,i<ops.size->prB tbl ops.size j i=true->(∃o e,ops[i]?=some o/\e∈o.after/\Region.binds .any e=true/\(e.on=j\/prB tbl ops.size j e.on=true))\/∃u,(u,i)∈art/\(u=j\/prB tbl ops.size j u=true):=by
  intro i j hi hp;exact y3l
 have hb:=fun τ1 i τ2 hτ=>aAc (fun i hi=>(hun i).1 hi) hE hR hA τ1.length τ1 i τ2 (aYd _) hτ
 simp only[lastB,aYo,aYy,aZg,aYw,aZu] at h5;refine wK τ π [] T h L.nodup (fun j hj=>(hun j).2 (h1 j hj)) ((hun x).2 h5.1.1) (fun hm=>by have:=h5.1.2;rw[bAv.2 hm] at this;cases this) hnd (fun i hi=>?_) (iQ L.nodup hb) hpw (fun j hj=>(h5.2 j hj).imp id ?_) (rankB_sound h6) d
 ·have:=h2 i ((hun i).1 hi);simp only[aZu,bAv,beq_iff_eq] at this;exact this
 ·intro hx;split at hx
  ·rename_i oe oj he hj';simp only[aYo,aZg] at hx;exact⟨oe,oj,he,hj',hx.1,hx.2⟩
  ·cases hx
theorem aM7 {π:List Nat} (hok:aTf ops π=true)(t:Nat):Lin ops (Array.replicate ops.size false) (Region.linearise.go .any ops ops.size t (Array.replicate ops.size false) []):=by
 simp only[aTf,aYo,aYw,aYy,aZm] at hok;obtain⟨⟨h1,h2⟩,h5⟩:=hok;exact y4t
theorem Run.drawE3 {id:Nat} (x y z:Nat)(π0:List Nat)(lo1 rk1 tbl1 π1 lo2 rk2 tbl2 π2 lo3 rk3 tbl3 π3 lo4 rk4 tbl4 π4 lo5 rk5 tbl5 π5 lo6 rk6 tbl6 π6:List Nat)(hm:P.follows .mixedOrders=true)
  (hxy:(decide (x<ops.size)&& decide (y<ops.size)&& decide (z<ops.size)&& (x !=y)&& (x !=z)&& (y !=z)&& aTf ops π0)=true)
  (hok1:kR pc ops lo1 rk1 tbl1 [(x,y),(y,z)] x π1=true) (hok2:kR pc ops lo2 rk2 tbl2 [(x,z),(z,y)] x π2=true) (hok3:kR pc ops lo3 rk3 tbl3 [(y,x),(x,z)] x π3=true)
  (hok4:kR pc ops lo4 rk4 tbl4 [(y,z),(z,x)] x π4=true) (hok5:kR pc ops lo5 rk5 tbl5 [(z,x),(x,y)] x π5=true) (hok6:kR pc ops lo6 rk6 tbl6 [(z,y),(y,x)] x π6=true)
  (d1:DR pc P ops lo1 (PanStep P ops Q D x) π1 [] T h) (d2:DR pc P ops lo2 (PanStep P ops Q D x) π2 [] T h) (d3:DR pc P ops lo3 (PanStep P ops Q D x) π3 [] T h)
  (d4:DR pc P ops lo4 (PanStep P ops Q D x) π4 [] T h) (d5:DR pc P ops lo5 (PanStep P ops Q D x) π5 [] T h) (d6:DR pc P ops lo6 (PanStep P ops Q D x) π6 [] T h):Run P rd nb (.code (.region id ops true)::k) T h D Q:=by
 intro E w a s;refine wpIn_region_draw fun t=>?_
 simp only[Region.schedule,hm,bB8,if_true];obtain⟨s',hfr⟩:=s.drew;simp only[aYo,aYy,bne_iff_ne,ne_eq] at hxy;obtain⟨⟨⟨⟨⟨⟨hx,hy⟩,hz⟩,hne1⟩,hne2⟩,hne3⟩,hall⟩:=hxy;have L:=aM7 hall t;refine y1b ?_;generalize Region.linearise.go .any ops ops.size t (Array.replicate ops.size false) []=τ at L;have hmem:∀x,x<ops.size->x∈τ:=fun x hx=>(L.mem x).2 (iI.2 ⟨hx,by simp[hx]⟩)
 have fin:(∀E w a,St E w a T h D->wpOpsIn (fen rd) 0 P ops (K P rd (Post nb Q E h w) k) τ a w)->wpOpsIn (fen rd) 0 P ops (K P rd (Post nb Q E h w) k) τ a {w with drawn:=w.drawn+1} :=fun hall=>
  fZ (dQ (P:=P) (rd:=rd) (Post.of_fr (Q:=Q) hfr) k) τ _ _ (hall E _ a s')
 have two:∀ {a b c d:Nat},Bef τ a b->Bef τ c d->∀u v,(u,v)∈[(a,b),(c,d)]->∀τ1 τ2,τ=τ1++v::τ2->u∈τ1:=by
  intro a b c d h1 h2 u v hp;exact y72
 rcases qI L.nodup (hmem x hx) (hmem y hy) hne1 with b1|b1<;>rcases qI L.nodup (hmem y hy) (hmem z hz) hne3 with b2|b2
 ·exact fin (fW hok1 L (two b1 b2) d1)
 ·rcases qI L.nodup (hmem x hx) (hmem z hz) hne2 with b3|b3
  ·exact fin (fW hok2 L (two b3 b2) d2)
  ·exact fin (fW hok5 L (two b3 b1) d5)
 ·rcases qI L.nodup (hmem x hx) (hmem z hz) hne2 with b3|b3
  ·exact fin (fW hok3 L (two b1 b3) d3)
  ·exact fin (fW hok4 L (two b2 b3) d4)
 ·exact fin (fW hok6 L (two b2 b1) d6)
end
end Go.AI.ND
