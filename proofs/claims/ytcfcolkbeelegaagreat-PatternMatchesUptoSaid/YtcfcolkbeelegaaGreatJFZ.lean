import Derived.Test.YtcfcolkbeelegaaGreatJA0
import Derived.Test.YtcfcolkbeelegaaGreatJT11
import Derived.Test.YtcfcolkbeelegaaGreatJX13
import Derived.Test.YtcfcolkbeelegaaGreatJLB
import Derived.Test.YtcfcolkbeelegaaGreatJFR
import Derived.Test.YtcfcolkbeelegaaGreatJX23
import Derived.Test.YtcfcolkbeelegaaGreatProg
import Derived.Shelf.Lays
import Derived.Shelf.Strings.BuilderX
import Derived.KernelRfl
import Derived.Shelf.Strings.OnBuilder
import Derived.Lib.Join
import Derived.Test.YtcfcolkbeelegaaGreatJLH
set_option maxRecDepth 8000
set_option maxHeartbeats 16000000
namespace Go.Proofs.YtcfcolkbeelegaaGreat
open Go Go.AI
inductive Oc where
 |mat (l:List Tm)
 |stuck
 |given (e:Int)
 |failed
def Oc.av:Oc->AV
 | .mat l=> .ifc 121 (.agg [.p (.sl 5 (aL l))])
 | .stuck=> .ifc 123 (.agg [])
 | .given e=> .ifc 125 (.agg [iA e])
 | .failed=> .ifc 234 (.agg [])
def Oc.join (l:List Tm):Oc->Oc
 | .mat m=> .mat (l++m)
 |o=>o
section
variable (W:Tm->Tm×Int) (env:List Dc)
def nF (n:List UInt8)(hd:Tm)(us:List Tm):Option Oc:=
 if hd.kind≠3 then some .stuck
 else if(aM env hd.name).2.2=false\/(us.length:Int)≠(aM env hd.name).1.fx+(aM env hd.name).2.1 then some .stuck
 else if hd.name≠n then some .failed else none
mutual
def qX:Pt->Tm->Oc
 | .mk k n qs,t=>
  if k=0 then .mat [t] else if k=2 then .mat [] else if k=3 then .failed
  else if(W t).2≠0 then .given (W t).2
  else match nF env n (aG (W t).1).1 (aG (W t).1).2 with
   |some o=>o
   |none=>iU qs ((aG (W t).1).2.drop (aM env n).1.fx.toNat)
def iU:List Pt->List Tm->Oc
 |[],_=> .mat []
 |_::_,[]=> .mat []
 |p::ps,a::l=>match qX p a with
  | .mat m=>(iU ps l).join m
  |o=>o
end
mutual
theorem aHi:∀(p:Pt)(t:Tm)(l:List Tm),qX W env p t= .mat l->l.length<=p.size
 | .mk k n qs,t,l,h=>by
  simp only[qX] at h;simp only[Pt.size];split at h
  ·simp at h;subst h;simp
  split at h
  ·simp at h;subst h;simp
  split at h
  ·cases h
  split at h
  ·cases h
  split at h
  ·rename_i o ho;subst h;simp only[nF] at ho;split at ho
   ·simp at ho
   split at ho
   ·simp at ho
   split at ho
   ·simp at ho
   ·cases ho
  ·have:=yZ qs _ l h;omega
theorem yZ:∀(ps:List Pt)(us:List Tm)(l:List Tm),iU W env ps us= .mat l->l.length<=Pt.sizes ps
 |[],us,l,h=>by simp[iU] at h;subst h;simp
 |p::ps,[],l,h=>by simp[iU] at h;subst h;simp
 |p::ps,a::us,l,h=>by
  simp only[iU] at h;simp only[Pt.sizes];split at h
  ·rename_i m hm;have h1:=aHi p a m hm
   cases hc:iU W env ps us with
   |mat m2=>
    have h2:=yZ ps us m2 hc;rw[hc] at h;simp[Oc.join] at h;subst h;simp;omega
   |_=>rw[hc] at h;simp[Oc.join] at h
  ·rename_i hno;exact absurd h (fun e=>hno l e)
end
end
structure WOk (env:List Dc) (W:Tm->Tm×Int) (G:Tm->Prop):Prop where
 run:∀t,G t->∀h,WF h->AC 173 [bW env,t.av] h (.tup [(W t).1.av,iA (W t).2])
 sz:∀t,G t->(W t).2=0->(aG (W t).1).2.length<=1048576
 args:∀t,G t->(W t).2=0->∀a∈(aG (W t).1).2,G a
theorem Weak.ifc {t:TypeId} {x y:AV} (h:Weak x y):Weak (.ifc t x) (.ifc t y):=fun E w v r=>by
 simp only[Rep] at r⊢;obtain⟨u,e,hu⟩:=r;exact⟨u,e,h E w u hu⟩
theorem aEl:Weak (.ifc 121 (.agg [.p (.prim (.slice none 0 0))])) (Oc.mat []).av:=Weak.ifc (Weak.agg (WeakL.cons (Weak.nil 5) WeakL.nil))
theorem aBg {env:List Dc} (hf:aP env)(hg:Env.good env) {n:List UInt8} (h:(aM env n).2.2=true):0<=(aM env n).1.fx/\(aM env n).1.fx<=1048576:=by
 unfold aM at h⊢;split
 ·rcases fF hf n with e|⟨d,a,e,hm,hk,hd,hj⟩
  ·rename_i hc;rw[e] at hc;simp at hc
  ·rw[e];have h1:=hd.fix hk;simp only[aIn,aZ7,aZh] at h1;have h2:=oK d.ty.size d.ty (aYw _);have h3:=(hg.2 d hm).ty.1;exact⟨hd.fx0,by simp only;omega⟩
 ·rename_i hc;rw[if_neg hc] at h;simp at h
theorem aLj (env:List Dc)(n:List UInt8):0<=(aM env n).2.1:=by
 unfold aM;split
 ·exact yM _ _
 ·simp
theorem rX {env:List Dc} {k:Int} {n:List UInt8} {qs:List Pt} (h0:¬k=0)(h1:¬k=1)(h2:¬k=2)(h3:¬k=3):jS env (.mk k n qs)=3:=by
 rw[jS,if_neg aB,if_neg h1]
theorem aTx (env:List Dc)(hf:aP env)(hg:Env.good env)(W:Tm->Tm×Int)(G:Tm->Prop)(hW:WOk env W G)(k:Int)(n:List UInt8)(qs:List Pt)(t:Tm)(hG:G t)(hc:jS env (.mk k n qs)=0)
  (ih:∀us,qs.length<=us.length->(∀a∈us,G a)->∀h,WF h->ACalls Tryz.prog 71 [bW env, .p (.sl 3 (cC qs)), .p (.sl 5 (aL us))] h fun o h'=>o= .ret (iU W env qs us).av/\h'=h) (h:Heap) (hh:WF h):
  ACalls Tryz.prog 124 [bW env,(Pt.mk k n qs).av,t.av] h fun o h'=>o= .ret (qX W env (.mk k n qs) t).av/\h'=h:=by
 have c1:=hW.run t hG;have hsz:=hW.sz t hG;have hGa:=hW.args t hG
 have hone:qX W env (.mk k n qs) t=if k=0 then .mat [t] else if k=2 then .mat [] else if k=3 then .failed
  else if(W t).2≠0 then .given (W t).2
  else match nF env n (aG (W t).1).1 (aG (W t).1).2 with
   |some o=>o
   |none=>iU W env qs ((aG (W t).1).2.drop (aM env n).1.fx.toNat):=by rw[qX]
 rw[hone];generalize W t=wt at c1 hsz hGa;obtain⟨⟨k2,i2,n2,l2,s2⟩,e⟩:=wt;obtain⟨k1,i1,n1,l1,s1⟩:=t;simp only[Tm.av,Pt.av,bC,aH,List.map] at c1⊢;simp only at hsz hGa;refine zE Tryz.func124 Tryz.ntmps124 ?_;refine iQ ?_
 by_cases k0:k=0
 ·subst k0;rw[if_pos rfl];refine lM ?_;exact y2s
 have k0b:(k==(0:Int))=false:=by simpa using k0
 rw[if_neg k0];refine dJ k0b ?_
 by_cases k2':k=2
 ·subst k2';rw[if_pos rfl];refine lM ?_;exact Fin.ret' (h0:=h) (xs:=[.ifc 121 (.agg [.p (.prim (.slice none 0 0))])]) aA rfl hh rfl aA rfl aEl (by simp[Oc.av]) ⟨rfl,rfl⟩
 have k2b:(k==(2:Int))=false:=by simpa using k2'
 rw[if_neg k2'];refine dJ k2b ?_
 by_cases k3:k=3
 ·subst k3;rw[if_pos rfl];refine lM ?_;exact y4a
 have k3b:(k==(3:Int))=false:=by simpa using k3
 rw[if_neg k3];refine dJ k3b ?_;refine zL (c1 _ (hh.app aA)) ?_;refine zor ?_
 by_cases he:e=0
 rotate_left
 ·have heb:(e !=(0:Int))=true:=by simpa using he
  rw[if_pos he];refine fT heb ?_;exact y2s
 subst he;rw[if_neg aA];have hsz:=hsz rfl;have hGa:=hGa rfl;have c2:=fun g hw=>zX g hw (.mk k2 i2 n2 l2 s2) hsz
 generalize aG (Tm.mk k2 i2 n2 l2 s2)=sp at c2 hGa⊢;obtain⟨⟨hk,hi,hn,hl,hs⟩,us⟩:=sp;simp only[Tm.av,aH,List.map] at c2;simp only at hGa⊢;refine aAc ?_;refine zL (c2 _ (hh.app aA)) ?_;refine zor ?_
 by_cases hk3:hk=3
 rotate_left
 ·have hk3b:(hk !=(3:Int))=true:=by simpa using hk3
  have ho:nF env n (.mk hk hi hn hl hs) us=some .stuck:=by simp[nF,Tm.kind,hk3]
  rw[ho];refine fT hk3b ?_;exact y4a
 subst hk3;have c3:=fun g hw=>jZ g hw env hn hg hf.1
 have hfx:(aM env hn).2.2=true->0<=(aM env hn).1.fx/\(aM env hn).1.fx<=1048576:=aBg hf hg;have hfl:=aRz hf hg hn;have hnn:=aLj env hn
 have hqf:n=hn->(qs.length:Int)=(aM env hn).2.1:=fun e=>by
  subst e
  by_cases k1':k=1
  ·subst k1';exact(eR hc).2.1
  ·rw[rX k0 k1' k2' k3] at hc;exact absurd hc aD
 have ho:nF env n (.mk 3 hi hn hl hs) us=if(aM env hn).2.2=false\/(us.length:Int)≠(aM env hn).1.fx+(aM env hn).2.1 then some .stuck else if hn≠n then some .failed else none:=by unfold nF;exact if_neg (fun h=>h rfl)
 rw[ho];have hdr:n=hn->(aM env n).1.fx.toNat=(aM env hn).1.fx.toNat:=fun e=>by rw[e]
 generalize (aM env n).1.fx.toNat=fxn at hdr⊢;generalize aM env hn=fz at c3 hfx hfl hnn hqf hdr⊢;obtain⟨d,m,ok⟩:=fz;simp only at c3 hfx hfl hnn hqf hdr⊢;obtain⟨dc,hdc,hdcl,hone',hdu,hd14,hd13⟩:=tC d;have hd13':∀q:13<dc.length,dc[13]=iA d.fx:=fun q=>by rw[aYu q] at hd13;exact bAf hd13
 have htd:List.take 23 dc=dc:=aZ6 aB
 have hpa:∀l:List AV,l.length=23->patch l 0 dc=dc:=fun l hl'=>by
  have:=dV dc l [] (by rw[hl',hdcl]);exact y61
 rw[hdc] at c3;refine aAc ?_;refine zL (c3 _ (hh.app aA)) ?_;refine zo3 hdcl hone' hpa ?_
 cases ok with
 |false=>
  rw[if_pos (.inl rfl)];refine rI ?_;exact y4a
 |true=>
 obtain⟨f0,f1⟩:=hfx rfl;have hw:IntKind.i64.wrap (d.fx+m)=d.fx+m:=aQ aB aB
 by_cases hlm:(us.length:Int)=d.fx+m
 rotate_left
 ·have hlb:((us.length:Int) !=d.fx+m)=true:=by simpa using hlm
  rw[if_pos (.inr hlm)];refine aFu hd13' hdcl hw hlb ?_;exact y4a
 have hlb:((us.length:Int) !=d.fx+m)=false:=by simpa using hlm
 rw[if_neg (by simp[hlm])];refine zn ?_;refine zr4 hd13' hdcl hw hlb ?_;refine yw ?_
 by_cases hnm:hn=n
 rotate_left
 ·have hnm':¬n=hn:=fun e=>hnm e.symm
  rw[if_pos hnm];refine fT hnm ?_;exact y4a
 subst hnm;rw[if_neg aA];refine znf ?_;have hfe:fxn=d.fx.toNat:=hdr rfl;subst hfe;have hql:=hqf rfl;have c4:=ih (us.drop d.fx.toNat) (by simp;omega) (fun a ha=>hGa a (bAp ha));have hlo:¬d.fx<0:=aB;have hhi:d.fx<=(us.length:Int):=aB;have hmd:(aL us).drop d.fx.toNat=aL (us.drop d.fx.toNat):=aA;generalize iU W env qs (us.drop d.fx.toNat)=r at c4⊢;refine nv ?_;refine ND.Run.drawP (pc:=[7]) [0,0,0,0,0,0,0,0,0] [0,0,0,0,0,0,0,0,0] [0,0,2,0,0,16,56,127,255] [0,1,2,3,4,5,6,7,8] aC aC ?_;refine zm5 hd13' hdcl f0 hhi hmd ?_;refine ND.DR.pcall rfl rfl rfl aA rfl rfl (fun g hg=>c4 g ?_) ?_
 ·simp at hg
  (first|(rcases hg with rfl|rfl|rfl|rfl)|(rcases hg with rfl|rfl|rfl)|(rcases hg with rfl|rfl)|subst hg)<;>exact hh.app (by simp[hdu])
 refine zm ?_;refine y9 ?_;refine znx ?_
 cases r<;>exact Fin.ret' (h0:=h) aA rfl hh rfl aE rfl (Weak.refl _) (by simp[Oc.av]) ⟨rfl,rfl⟩
open Go Go.AI
theorem aMh (W:Tm->Tm×Int)(env:List Dc)(p:Pt)(ps:List Pt)(a:Tm)(l acc m:List Tm)(h:qX W env p a= .mat m):(iU W env (p::ps) (a::l)).join acc=(iU W env ps l).join (acc++m):=by
 simp only[iU,h]
 cases iU W env ps l<;>simp[Oc.join]
theorem aMi (W:Tm->Tm×Int)(env:List Dc)(p:Pt)(ps:List Pt)(a:Tm)(l acc:List Tm) {o:Oc} (h:qX W env p a=o)(hn:∀m,o≠ .mat m):(iU W env (p::ps) (a::l)).join acc=o:=by
 simp only[iU,h]
 cases o with
 |mat m=>exact absurd rfl (hn m)
 |_=>rfl
theorem aMj (env:List Dc)(hf:aP env)(hg:Env.good env)(W:Tm->Tm×Int)(G:Tm->Prop)(hW:WOk env W G)(N:Nat):∀(ps:List Pt)(ts:List Tm),Pt.sizes ps<=N->Pt.sizes ps<=1048576->cD env ps=0->ps.length<=ts.length->(∀a∈ts,G a)->
  ∀h,WF h->ACalls Tryz.prog 71 [bW env, .p (.sl 3 (cC ps)), .p (.sl 5 (aL ts))] h fun o h'=>o= .ret (iU W env ps ts).av/\h'=h:=by
 have key:∀(ps:List Pt) (ts:List Tm),Pt.sizes ps<=1048576->ps.length<=ts.length->(∀p∈ps,∀a∈ts,∀g,WF g->ACalls Tryz.prog 124 [bW env,p.av,a.av] g fun o h'=>o= .ret (qX W env p a).av/\h'=g)->
   ∀h,WF h->ACalls Tryz.prog 71 [bW env, .p (.sl 3 (cC ps)), .p (.sl 5 (aL ts))] h fun o h'=>o= .ret (iU W env ps ts).av/\h'=h:=by
  intro ps ts hB hl ih h hh;have hll:=gK ps;obtain⟨r,hr⟩:∃r,iU W env ps ts=r:=⟨_,rfl⟩;rw[hr];refine zE Tryz.func71 Tryz.ntmps71 ?_;refine iQ ?_;refine Run.tok 7 5 aA ?_;simp
  refine Run.loopS (ι:=Nat×List Tm) [0,2,12,13] (fun p=>p.1<=ps.length/\p.2.length+Pt.sizes (ps.drop p.1)<=1048576/\r=(iU W env (ps.drop p.1) (ts.drop p.1)).join p.2) (fun p=>ps.length-p.1) (fun p=>[(7, .own h.length 5 (aL p.2)),(14,iA p.1)])
   (fun p=>h++[some (.tok p.2.length 5)]) (0,[]) (by simp[hB,hr];cases r<;>simp[Oc.join]) ?_ aA ?_
  ·simp[aL];exact zK
  rintro⟨j,acc⟩ ⟨hj,hsz,hrr⟩ IH;simp only at hj hsz hrr;refine cI ?_
  by_cases hjl:j<ps.length
  ·have hgj:ps[j]?=some ps[j]:=aYu hjl;have hga:ts[j]?=some (ts[j]'aB):=aYu aB;have hmp:=aYx hjl;have hma:=aYx (show j<ts.length by omega);rw[bD hgj] at hsz;rw[bD hgj,bD hga] at hrr;generalize ps[j]=p at hgj hmp hsz hrr;generalize ts[j]=a at hga hma hrr;have c1:=ih p hmp a hma;have hlen:=aHi W env p a;have hjn:=aMh W env p (ps.drop (j+1)) a (ts.drop (j+1)) acc;have hst:=fun o ho=>aMi W env p (ps.drop (j+1)) a (ts.drop (j+1)) acc (o:=o) ho
   rw[<-hrr] at hjn hst;simp only[Pt.sizes] at hsz;have hpp:=p.size_pos;obtain⟨pk,pn,qs⟩:=p;obtain⟨k1,i1,n1,l1,s1⟩:=a;simp only[Tm.av,Pt.av,bC,aH,List.map] at c1;generalize qX W env (Pt.mk pk pn qs) (Tm.mk k1 i1 n1 l1 s1)=o at c1 hlen hjn hst;refine dF hjl ?_;refine aV5 hgj ?_;refine ND.Run.drawP (pc:=[6]) [0,0,0,0,0,0,0] [0,0,0,0,0,0,0] [0,0,0,0,12,28,63] [0,1,2,3,4,5,6] aC aC ?_;refine zm1 hga ?_;refine ND.DR.pcall rfl rfl rfl aA rfl rfl (fun g hg=>(c1) g ?_) ?_
   ·exact y2v
   refine zm ?_;refine y9 ?_;refine nv ?_;refine Run.region ?_
   cases o with
   |mat m=>
    have hlen:=hlen m rfl;have hjn:=hjn m rfl;refine Run.assertHit rfl (by simp[aJ]) Tryz.underlying121 (by simp[Oc.av];rfl) ?_;refine aRj ?_;have hb3:(acc.length+m.length)*80<=140737488355328:=aB;have hb4:acc.length+m.length<=9223372036854775807:=aB;refine sH hb3 hb4 ?_;refine Run.keep [0,2,7,12,13,14] ?_;refine yf ?_;refine y15 ?_;refine cI ?_;refine IH (j+1,acc++m) _ _ ⟨by simp only;omega,by simp only[aZ4];have:=hlen;omega,hjn⟩ (by simp only;omega) ?_ ?_
    ·have hta:aL acc++aL m=aL (acc++m):=by simp[dA]
     rw[hta];exact zS
    ·simp
   |stuck=>
    rw[hst _ rfl aA];refine y1t ?_;exact y5n
   |given e=>
    rw[hst _ rfl aA];refine y1p ?_;exact y5n
   |failed=>
    rw[hst _ rfl aA];refine y1u ?_;exact y5n
  ·have hje:j=ps.length:=aB;subst hje;rw[bAn,iU] at hrr;simp only[Oc.join,aZ0] at hrr;subst hrr;refine cY ?_;exact Fin.ret' (h0:=h) (xs:=[.ifc 121 (.agg [.own h.length 5 (aL acc)])]) (y:=(Oc.mat acc).av) aA rfl hh rfl aA rfl (Weak.ifc (Weak.agg (WeakL.cons (Weak.own _ _ _) WeakL.nil))) (by simp[Oc.av]) ⟨rfl,rfl⟩
 induction N with
 |zero=>
  intro ps ts hl hB hc hlt hG
  cases ps with
  |nil=>exact key [] ts hB hlt aA
  |cons p l=>have:=p.size_pos;simp only[Pt.sizes] at hl;omega
 |succ N ih=>
  intro ps ts hl hB hc hlt hG;refine key ps ts hB hlt fun p hp a ha g hw=>?_
  have h2:=Pt.size_at hp;have hcp:=eS hc p hp;obtain⟨pk,pn,qs⟩:=p;simp only[Pt.size] at h2;refine aTx env hf hg W G hW pk pn qs a (hG a ha) hcp (fun us hu hus g2 hw2=>?_) g hw
  by_cases k1:pk=1
  ·subst k1;exact ih qs us aB aB (eR hcp).2.2 hu hus g2 hw2
  ·have hq:qs=[]:=by
    by_cases c:pk=0\/pk=2\/pk=3
    ·rw[jS,if_pos c] at hcp
     by_cases c2:pn=[]/\qs=[]
     ·exact c2.2
     ·rw[if_neg c2] at hcp;exact absurd hcp aD
    ·rw[rX aB k1 aB aB] at hcp;exact absurd hcp aD
   subst hq;exact ih [] us (by simp[Pt.sizes]) (by simp[Pt.sizes]) (by simp[cD]) hu hus g2 hw2
open Go Go.AI
def gQ (W:Tm->Tm×Int)(env:List Dc)(ts:List Tm):Nat->List Cl->Int×List Tm×Int
 |_,[]=>(0,[],9)
 |i,c::cs=>match iU W env c.ps ts with
  | .mat l=>(i,l,0)
  | .stuck=>(0,[],19)
  | .given e=>(0,[],e)
  | .failed=>gQ W env ts (i+1) cs
def iV (W:Tm->Tm×Int)(env:List Dc)(cls:List Cl)(ts:List Tm):Int×List Tm×Int:=
 if bB (yD env ts.length cls) cls.length=false then(0,[],6) else gQ W env ts 0 cls
def mtA (r:Int×List Tm×Int):AV:= .tup [iA r.1, .p (.sl 5 (aL r.2.1)),iA r.2.2]
theorem aEk {W:Tm->Tm×Int} {env:List Dc} {ts:List Tm} {cls:List Cl} {j:Nat} {r} (h:r=gQ W env ts j (cls.drop j)) {c:Cl} (hg:cls[j]?=some c):
  r=match iU W env c.ps ts with
  | .mat l=>((j:Int),l,0)
  | .stuck=>(0,[],19)
  | .given e=>(0,[],e)
  | .failed=>gQ W env ts (j+1) (cls.drop (j+1)):=by rw[h,bD hg,gQ]
theorem qW (a e:Int):Weak (.tup [iA a, .p (.prim (.slice none 0 0)),iA e]) (mtA (a,[],e)):=Weak.tup (WeakL.cons (Weak.refl _) (WeakL.cons (Weak.nil 5) (WeakL.refl _)))
theorem aY6:bZ Tryz.prog 123=some []:=aC
theorem pX (env:List Dc)(hf:aP env)(hg:Env.good env)(W:Tm->Tm×Int)(G:Tm->Prop)(hW:WOk env W G)(cls:List Cl)(ts:List Tm)(hs:PSmall cls [])(hG:∀a∈ts,G a)(_hts:ts.length<=1048576)(h:Heap)(hh:WF h):
  AC 22 [bW env, .p (.sl 6 (aAy cls)), .p (.sl 5 (aL ts))] h (mtA (iV W env cls ts)):=by
 have hcl:=hs.cl;obtain⟨r,hr⟩:∃r,iV W env cls ts=r:=⟨_,rfl⟩;rw[hr];unfold iV at hr;refine cW Tryz.func22 Tryz.ntmps22 ?_;refine Run.loopS [0,1,2,16,17] (fun j:Nat=>j<=cls.length/\bB (yD env ts.length cls) j=true) (fun j=>cls.length-j) (fun j=>[(18,iA j)]) (fun _=>h) 0 (by simp[bB]) ?_ rfl ?_
 ·exact zS
 rintro j ⟨hj,hall⟩ IH;refine cI ?_
 by_cases hjl:j<cls.length
 ·have hgj:cls[j]?=some cls[j]:=aYu hjl;have hmem:=aYx hjl;generalize cls[j]=c at hgj hmem;have hcz:=hs.cs c hmem;have hcln:=gK c.ps;have c1:=fun g hw=>pW env hg hf.1 _ c.ps (aYw _) hcz g hw
  have hok:=jT (env:=env) (n:=ts.length) hgj;unfold mF at hok;generalize cD env c.ps=e at c1 hok;obtain⟨ps,⟨k,i,nm,ls,ks⟩⟩:=c;simp only at c1 hcz hcln hok;refine dF hjl ?_;refine zrv8 hgj ?_
  by_cases hle:ps.length=ts.length
  ·refine nQ hle ?_;refine zL (c1 _ (hh.app aA)) ?_
   by_cases he:e=0
   ·subst he;refine rJ ?_;refine Run.keep [0,1,2,16,17,18] ?_;refine yh ?_;refine ye ?_;simp;exact y89
   ·have hf:=aU hjl (p:=yD env ts.length cls) (by rw[hok];simp[he]);rw[if_pos hf] at hr;subst hr;have heb:(e !=(0:Int))=true:=by simpa using he
    refine zo1 heb ?_;refine y2a ?_;exact y6t
  ·have hlb:((ps.length:Int) !=(ts.length:Int))=true:=by simp;omega
   have hf:=aU hjl (p:=yD env ts.length cls) (by rw[hok];simp[hle]);rw[if_pos hf] at hr;subst hr;refine gB hlb ?_;exact y6t
 have hje:j=cls.length:=aB;subst hje;rw[if_neg (by rw[hall];simp)] at hr;refine rH ?_;refine Run.loopS [0,2,36,37] (fun j:Nat=>j<=cls.length/\r=gQ W env ts j (cls.drop j)) (fun j=>cls.length-j) (fun j=>[(38,iA j)]) (fun _=>h) 0 (by simp[hr]) ?_ rfl ?_
 ·exact zS
 rintro j ⟨hj,hrr⟩ IH2;refine cI ?_
 by_cases hjl:j<cls.length
 ·have hgj:cls[j]?=some cls[j]:=aYu hjl;have hmem:=aYx hjl;have hokj:=jP hall hjl;rw[jT hgj] at hokj;generalize cls[j]=c at hgj hmem hokj;simp[mF] at hokj;have hcz:=hs.cs c hmem;have c1:=aMj env hf hg W G hW _ c.ps ts (aYw _) hcz hokj.2 aB hG;have hrr:=aEk hrr hgj;obtain⟨ps,⟨k,i,nm,ls,ks⟩⟩:=c;simp only at c1 hrr;generalize iU W env ps ts=o at c1 hrr;refine dF hjl ?_;refine zrv8 hgj ?_;refine zr ?_;refine zL (c1 _ (hh.app aA)) ?_;refine zo ?_;refine Run.region ?_
  cases o with
  |mat m=>
   simp only at hrr;subst hrr;refine Run.assertHit rfl (by simp[aJ]) Tryz.underlying121 (by simp[Oc.av];rfl) ?_;refine aRj ?_;refine Run.draw [0,0,0,0,0,0] [0,0,0,0,0,0] [0,0,2,1,15,31] [0,1,2,3,4,5] aC aC ?_;refine zd ?_;refine y9 ?_;refine znx ?_;exact y2s
  |stuck=>
   simp only at hrr;subst hrr;refine y1t ?_;refine aWy ?_;refine Run.region ?_;refine Run.assertHit rfl (by simp[aJ]) Tryz.underlying123 (by simp[Oc.av];rfl) ?_;refine zs ?_;refine zot ?_;refine zrv9 ?_;refine zrx ?_;exact Fin.ret' (h0:=h) (xs:=[iA 0, .p (.prim (.slice none 0 0)),iA 19]) aA rfl hh rfl aA rfl (qW 0 19) (by simp[mtA]) ⟨rfl,rfl⟩
  |given e=>
   simp only at hrr;subst hrr;refine y1p ?_;refine aWy ?_;refine Run.region ?_;refine Run.assertMiss (t0:=125) (y:= .agg [iA e]) (z:=[]) rfl (by simp[aJ]) Tryz.underlying123 (by simp[Oc.av]) aD Tryz.zeroValue123 rfl ?_;refine aWy ?_;refine Run.region ?_;refine Run.assertHit rfl (by simp[aJ]) Tryz.underlying125 (by simp[Oc.av];rfl) ?_;refine aRj ?_;refine Run.draw [0,0,0,0,0] [0,0,0,0,0] [0,1,0,4,15] [0,1,2,3,4] aC aC ?_;refine zd ?_;refine y9 ?_;refine znx ?_;exact Fin.ret' (h0:=h) (xs:=[iA 0, .p (.prim (.slice none 0 0)),iA e]) aA rfl hh rfl aA rfl (qW 0 e) (by simp[mtA]) ⟨rfl,rfl⟩
  |failed=>
   simp only at hrr;refine y1u ?_;refine aWy ?_;refine Run.region ?_;refine Run.assertMiss (t0:=234) (y:= .agg []) (z:=[]) rfl (by simp[aJ]) Tryz.underlying123 (by simp[Oc.av]) aD Tryz.zeroValue123 rfl ?_;refine aWy ?_;refine Run.region ?_;refine Run.assertMiss (t0:=234) (y:= .agg []) (z:=[.int .i64 0]) rfl (by simp[aJ]) Tryz.underlying125 (by simp[Oc.av]) aD Tryz.zeroValue125 rfl ?_;refine aUq ?_;refine Run.keep [0,2,36,37,38] ?_;refine yh ?_;refine ye ?_;simp;refine IH2 (j+1) _ _ ⟨by omega,hrr⟩ aB ?_ aA;exact zS
 ·have hje:j=cls.length:=aB;subst hje;rw[bAn,gQ] at hrr;subst hrr;refine cY ?_;exact Fin.ret' (h0:=h) (xs:=[iA 0, .p (.prim (.slice none 0 0)),iA 9]) aA rfl hh (aZ0 _).symm aA rfl (qW 0 9) (by simp[mtA]) ⟨rfl,rfl⟩
open Go.Shelf Go.Proofs
def tP:Go.Shelf.Ren:=⟨fun|156=>87|165=>138|166=>139|169=>140|240=>181|241=>182|276=>220|277=>221|n=>n,fun|31=>146|9=>9|3=>3|4=>4|0=>0|20=>20|72=>201|76=>204|70=>198|37=>199|75=>203|127=>246|164=>283|5=>5|80=>206|n=>n,fun|n=>n⟩
theorem aTm:Go.Proofs.Lays.n156 Tryz.prog tP:= {
 mixed:=aC
 f156:=Tryz.func87.trans (congrArg some aC)
 f165:=Tryz.func138.trans (congrArg some aC)
 f166:=Tryz.func139.trans (congrArg some aC)
 f169:=Tryz.func140.trans (congrArg some aC)
 f240:=Tryz.func181.trans (congrArg some aC)
 f241:=Tryz.func182.trans (congrArg some aC)
 f276:=Tryz.func220.trans (congrArg some aC)
 f277:=Tryz.func221.trans (congrArg some aC)
 t0:=Tryz.underlying0
 a0:=Tryz.isAgg0
 z0:=Tryz.sizeOf0
 v0:=Tryz.zeroValue0
 t3:=Tryz.underlying3
 a3:=Tryz.isAgg3
 z3:=Tryz.sizeOf3
 v3:=Tryz.zeroValue3
 t4:=Tryz.underlying4
 a4:=Tryz.isAgg4
 z4:=Tryz.sizeOf4
 v4:=Tryz.zeroValue4
 t9:=Tryz.underlying9
 a9:=Tryz.isAgg9
 z9:=Tryz.sizeOf9
 v9:=Tryz.zeroValue9
 t20:=Tryz.underlying20
 a20:=Tryz.isAgg20
 z20:=Tryz.sizeOf20
 v20:=Tryz.zeroValue20
 t31:=Tryz.underlying146
 a31:=Tryz.isAgg146
 z31:=Tryz.sizeOf146
 v31:=Tryz.zeroValue146
 t37:=Tryz.underlying199
 a37:=Tryz.isAgg199
 z37:=Tryz.sizeOf199
 v37:=Tryz.zeroValue199
 t70:=Tryz.underlying198
 a70:=Tryz.isAgg198
 z70:=Tryz.sizeOf198
 v70:=Tryz.zeroValue198
 t72:=Tryz.underlying201
 a72:=Tryz.isAgg201
 z72:=Tryz.sizeOf201
 v72:=Tryz.zeroValue201
 t75:=Tryz.underlying203
 a75:=Tryz.isAgg203
 z75:=Tryz.sizeOf203
 v75:=Tryz.zeroValue203
 t76:=Tryz.underlying204
 a76:=Tryz.isAgg204
 z76:=Tryz.sizeOf204
 v76:=Tryz.zeroValue204
 t127:=Tryz.underlying246
 a127:=Tryz.isAgg246
 z127:=Tryz.sizeOf246
 v127:=Tryz.zeroValue246
 t164:=Tryz.underlying283
 a164:=Tryz.isAgg283
 z164:=Tryz.sizeOf283
 v164:=Tryz.zeroValue283
}
theorem aQ4:Go.Proofs.Builder.Extra Tryz.prog tP:= {sizeBuilder:=by kernel_rfl,liesBuilder:=by kernel_rfl,t5:=Tryz.underlying5,a5:=Tryz.isAgg5,z5:=Tryz.sizeOf5,v5:=Tryz.zeroValue5,infoByte:=by kernel_rfl,cellsByte:=by kernel_rfl,sizeByte:=by kernel_rfl,neB5:=by decide}
end Go.Proofs.YtcfcolkbeelegaaGreat
namespace Go.AI
open Go Go.Shelf Go.Proofs
def vT (l:List (List UInt8)):List (List PV):=l.map fun s=>[.prim (.string ⟨s.toArray⟩)]
theorem wX {E w b} :∀ {l:List (List UInt8)} {off:Nat},RepEs E w b 1 off (vT l)->∀(j:Nat)(x:ByteArray),(l.map fun s=>(⟨s.toArray⟩:ByteArray))[j]?=some x->w.cell? ⟨b,off+j,none⟩=some (.string x)
 |[],_,_,j,x,hj=>by simp at hj
 |z::l,off,r,j,x,hj=>by
  simp only[vT,aZc,RepEs,RepAt,RepP] at r;obtain⟨_,⟨v,_,hv,⟨rfl,_⟩,_⟩,r⟩:=r
  cases j with
  |zero=>simp at hj;subst hj;simpa using hv
  |succ j=>
   have:=wX (l:=l) r j x (by simpa using hj);rw[show off+(j+1)=off+1+j by omega];exact this
theorem aIu {P:Program} {ρ:Ren} (L:Lays.n156 P ρ)(X:Builder.Extra P ρ) {h:Heap} (xs:List (List UInt8))(sep:List UInt8)(hN:xs.length<=140737488355328)(hlen:(Lib.join xs sep).length<=140737488355328):
  ACalls P (ρ.f 156) [.p (.sl 1 (vT xs)), .p (.prim (.string ⟨sep.toArray⟩))] h fun out h'=>out= .ret (.p (.prim (.string ⟨(Lib.join xs sep).toArray⟩)))/\h'=h:=by
 intro E w vs hrel hfresh hargs;simp only[RepL,Rep,RepP] at hargs;obtain⟨v,us,rfl,⟨a,cap,rfl,hcap,hr⟩,v2,us2,rfl,⟨rfl,_⟩,rfl⟩:=hargs;have hl:(vT xs).length=xs.length:=by simp[vT]
 have hmap:((xs.map fun s=>(⟨s.toArray⟩:ByteArray)).map (·.data.toList))=xs:=by simp[Function.comp_def]
 rcases hr with h0|⟨b,off,rfl,hr⟩
 ·have:xs=[]:=by simpa [vT] using h0
  subst this;refine Calls.mono (Any.strings_Join_none L X a cap ⟨sep.toArray⟩ w) ?_;rintro e w' ⟨rfl,rfl⟩;exact y7y
 ·by_cases hx:xs=[]
  ·subst hx;refine Calls.mono (Any.strings_Join_none L X _ cap ⟨sep.toArray⟩ w) ?_;rintro e w' ⟨rfl,rfl⟩;exact y7y
  ·have hb:b<w.heap.size:=by
    obtain⟨x,r,rfl⟩:=List.exists_cons_of_ne_nil hx;simp only[vT,aZc,RepEs,RepAt] at hr;obtain⟨_,⟨_,hro,_⟩,_⟩:=hr;exact hrel.lt b off hro
   have hc:=Any.strings_Join L X b off cap (xs.map fun s=>⟨s.toArray⟩) ⟨sep.toArray⟩ w (wX hr) hb (by simpa using hN) (by simpa [vT] using hcap) (by rw[hmap];exact hlen);rw[hmap] at hc;have e1:(xs.map fun s=>(⟨s.toArray⟩:ByteArray)).length=(vT xs).length:=by simp[vT]
   rw[e1] at hc;refine Calls.mono hc ?_;rintro e w' ⟨rfl,hB⟩;obtain⟨r2,f2⟩:=hrel.below hB;refine⟨_,_,_,⟨rfl,rfl⟩,r2,?_,⟨_,rfl,by simp[Rep,RepP,bH]⟩,f2⟩;exact fun i hi=>hfresh i hi
end Go.AI
