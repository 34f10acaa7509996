import Derived.Test.YtplomildbmcmfaaGreatZA0
import Derived.Test.YtplomildbmcmfaaGreatZX3
import Derived.Test.YtplomildbmcmfaaGreatZX5
set_option maxRecDepth 8000
set_option maxHeartbeats 16000000
namespace Go.Proofs.YtplomildbmcmfaaGreat
open Go Go.AI
def aZe:Tr->Bool
 | .mk k b v bs=>!((k !=0)||(v !=0)||!sameT b zT||((bs.length:Int) !=0))
theorem aI0 (h:Heap)(hh:WF h)(a:Tr)(hgd:a.good):ACalls Tryz.prog 14 [a.av, .agg [iA 0,iA 0,iA 0, .p (sP []), .p (.prim (.slice none 0 0)), .p (.prim (.slice none 0 0)),iA 0, .p (.prim (.slice none 0 0))]] h fun o h'=>o= .ret (bA (aZe a))/\h'=h:=by
 obtain⟨k,bo,v,bs⟩:=a;simp only[Tr.good] at hgd;obtain⟨hb,hbl,hbs⟩:=hgd;have c1:=fun g hw=>ACalls.weak (args:=[bo.av, .agg [iA 0,iA 0, .p (sP []), .p (.prim (.slice none 0 0)), .p (.prim (.slice none 0 0))]]) (WeakL.cons (Weak.refl _) (WeakL.cons Weak.zT WeakL.nil)) (kH bo.size bo zT g (bLx _) (by have:=hb.1;omega) hb.2.2 hw)
 obtain⟨r,hr⟩:∃r,r=aZe (.mk k bo v bs):=⟨_,rfl⟩;rw[<-hr];simp only[aZe] at hr;generalize sameT bo zT=sb at c1 hr;obtain⟨k1,i1,n1,l1,s1⟩:=bo;simp only[Tr.av,Tr.cells,Tm.av,cells_mk,List.map,bLz,bM4,brPs_eq] at c1⊢;refine zER Tryz.func14 Tryz.ntmps14 ?_
 have hcase:(k !=0)=true\/((k !=0)=false/\(v !=0)=true)\/((k !=0)=false/\(v !=0)=false):=by
  cases k !=0<;>cases v !=0<;>simp
 rcases hcase with e1|⟨e1,e2⟩|⟨e1,e2⟩
 ·rw[e1] at hr;refine aDg e1 ?_;exact y1y
 ·rw[e1,e2] at hr;refine zn ?_;refine zr2 e1 e2 ?_;refine zt ?_;exact y1y
 rw[e1,e2] at hr;refine zn ?_;refine zr2 e1 e2 ?_;refine zL (c1 _ (hh.app aA)) ?_
 cases sb with
 |false=>
  refine zot ?_;exact y1y
 |true=>
 by_cases hl:bs.length=0
 rotate_left
 ·have e3:((bs.length:Int) !=0)=true:=by simp;exact fun h=>hl (by rw[h];rfl)
  rw[e3] at hr;refine zo1 e3 ?_;refine zt ?_;exact y1y
 obtain rfl:bs=[]:=bNw hl;simp only[bM3] at hr;refine zofr ?_;refine Run.loopS [2,3] (fun j:Nat=>j=0) (fun j=>0) (fun j=>[(5,iA j)]) (fun _=>_) 0 rfl ?_ rfl ?_
 ·exact zS
 rintro j hj IH;subst hj;refine aOx ?_;exact y1y
end Go.Proofs.YtplomildbmcmfaaGreat
namespace Go.AI
open Go
theorem Run.joinC0 {P:Program} {rd:Option Nat} {nb:Nat} {k:List It} {T:List AV} {h:Heap} {D:List AD} {Q:AX->List AV->Heap->List AD->Prop} {c:Code} (C:Prop)(keep:List Nat)(sets:List (Nat×AV))(r:(∀T',WeakL T' (setMany (keepT keep T) sets)->C->Run P rd nb k T' h D Q)->Run P rd nb (.code c::k) T h D Q)
  (next:C->Run P rd nb k (setMany (keepT keep T) sets) h D Q):Run P rd nb (.code c::k) T h D Q:=r fun _ hw hc=>Run.weak hw (next hc)
end Go.AI
namespace Go.Proofs.YtplomildbmcmfaaGreat
open Go Go.AI
abbrev scE (env:List Dc)(own:List (List UInt8))(d:Dc):AV:= .agg (.p (.sl 23 (env.map Dc.cells)):: .p (.sl 1 (dR own))::d.cells.map .p)
def bAj (env:List Dc)(own:List (List UInt8))(d:Dc)(k:Int)(n:List UInt8)(ls:List Lv):Int:=
 if k=3 then(match dX n env 0 with
  |some x=>if(ls.length:Int)=x.ps then 0 else 15
  |none=>if n∈own then(if(ls.length:Int)=(wT d env.length n).ps then 0 else 15) else 9) else 0
mutual
def kL (env:List Dc)(own:List (List UInt8))(d:Dc):Tm->Int
 | .mk k _ n ls ks=>if bAj env own d k n ls=0 then aL (aE4 env own d ks) else bAj env own d k n ls
def aE4 (env:List Dc)(own:List (List UInt8))(d:Dc):List Tm->List Int
 |[]=>[]
 |t::ts=>kL env own d t::aE4 env own d ts
end
theorem xS (env:List Dc)(own:List (List UInt8))(d:Dc):∀l:List Tm,aE4 env own d l=l.map (kL env own d)
 |[]=>rfl
 |t::ts=>by simp only[aE4,bMd,xS env own d ts]
structure ScOk (env:List Dc) (own:List (List UInt8)) (d:Dc):Prop where
 hEnv:Env.good env
 hShort:Env.short env
 hOwn:own.length<=1099511627776
 hD:d.good
theorem vD (env:List Dc)(own:List (List UInt8))(d:Dc)(hs:ScOk env own d)(N:Nat):∀(t:Tm)(h:Heap),t.size<=N->t.size<=1048576->WF h->ACalls Tryz.prog 331 [scE env own d,t.av] h fun o h'=>o= .ret (iA (kL env own d t))/\h'=h:=by
 induction N with
 |zero=>intro t h hN;have:=t.size_pos;omega
 |succ N ih=>
 intro t h hN hsz hh;have hel:=hs.hEnv.1;obtain⟨k,i,n,ls,ks⟩:=t;simp only[Tm.size] at hN hsz;have hll:=aR ks;have c1:=fun g hw=>iI g hw env n hs.hEnv hs.hShort
 have c2:=fun g hw=>aC3 g hw own n hs.hOwn
 have c3:=fun g hw=>xY g hw d env.length n hs.hD.csl hs.hD.fsl
 have hrec:=fun(u:Tm) (h1:u.size<=Tm.sizes ks) (g:Heap) (hw:WF g)=>ih u g aB aB hw
 have hz:kL env own d (.mk k i n ls ks)=if bAj env own d k n ls=0 then aL (ks.map (kL env own d)) else bAj env own d k n ls:=by simp only[kL,xS]
 obtain⟨r,hr⟩:∃r,r=kL env own d (.mk k i n ls ks):=⟨_,rfl⟩;rw[<-hr];rw[hz] at hr;clear hz ih;obtain⟨CZ,hCZ⟩:∃C,C=kL env own d:=⟨_,rfl⟩;rw[<-hCZ] at hr hrec;clear hCZ;unfold bAj at hr;unfold bQ at c1;generalize dX n env 0=fz at c1 hr;generalize wT d env.length n=ez at c3 hr;have hown:n∈own\/n∉own:=Classical.em _;clear hs;obtain⟨dk,nm,ps,⟨k1,i1,n1,l1,s1⟩,⟨k2,i2,n2,l2,s2⟩,fx,cs,rp,⟨k3,i3,n3,l3,s3⟩,rr,fs⟩:=d;obtain⟨z1,z2,z3,z4,⟨z5,z6,z7,z8,z9⟩⟩:=ez;simp only[scE,Dc.av,Dc.cells,En.av,En.cells,Tm.av,cells_mk,List.map,bLz,bM4] at c1 c3 hrec hr⊢;refine dE Tryz.func331 Tryz.ntmps331 ?_
 refine Run.joinC0 ((if k=3 then(match fz with
  |some x=>if(ls.length:Int)=x.ps then(0:Int) else 15
  |none=>if n∈own then(if(ls.length:Int)=z4 then 0 else 15) else 9) else 0)=0) [2,3] [] (fun hJ=>?_) (fun hC=>?_)
 ·by_cases hk:k=3
  ·subst hk;rw[if_pos rfl] at hr hJ;refine bE7 ?_
   cases fz with
   |some x=>
    obtain⟨x1,x2,x3,x4,⟨x5,x6,x7,x8,x9⟩⟩:=x;simp only[cells_mk,List.map] at c1 hr hJ;refine zL (c1 _ (hh.app aA)) ?_;refine zorfr ?_
    by_cases hl:(ls.length:Int)=x4
    ·have hl':((ls.length:Int) !=x4)=false:=by simp[hl]
     exact y4o
    ·have hl':((ls.length:Int) !=x4)=true:=by simp[hl]
     rw[if_neg hl] at hr;refine znt1 hl' ?_;exact y1y
   |none=>
    simp only[zEn,zT,cells_mk,List.map] at c1 hr hJ;refine zL (c1 _ (hh.app aA)) ?_;refine zor ?_;refine zt ?_;refine zr ?_;refine zL (c2 _ (hh.app aA)) ?_
    by_cases ho:n∈own
    ·rw[if_pos ho] at hr hJ;refine aT2 ho ?_;refine zL (c3 _ (hh.app aA)) ?_;refine zor ?_
     by_cases hl:(ls.length:Int)=z4
     ·have hl':((ls.length:Int) !=z4)=false:=by simp[hl]
      exact y4o
     ·have hl':((ls.length:Int) !=z4)=true:=by simp[hl]
      rw[if_neg hl] at hr;refine znt1 hl' ?_;exact y1y
    ·rw[if_neg ho] at hr;refine zo1 ho ?_;refine zt ?_;exact y1y
  ·rw[if_neg hk] at hJ;have hk':(k==3)=false:=by simp[hk]
   refine nv ?_;refine cf (by simp[hk']) ?_
   repeat (first|refine Run.skip ?_|refine Run.opsNil ?_|refine Run.inBlock ?_)
   refine hJ _ ?_ rfl;exact zS
 rw[if_pos hC] at hr;clear hC c1 c2 c3;refine y17 ?_;refine cK ?_;refine Run.loopS [2,3] (fun j:Nat=>j<=ks.length/\aL ((ks.map CZ).take j)=0) (fun j=>ks.length-j) (fun j=>[(7,iA j)]) (fun _=>_) 0 (by simp[aL]) ?_ rfl ?_
 ·exact zS
 rintro j ⟨hj,hall⟩ IH;refine cK ?_
 by_cases hjl:j<ks.length
 ·have hg:ks[j]?=some ks[j]:=bLv hjl;have hsz:=dO hjl;have c4:=hrec ks[j] hsz
  have htk:(ks.map CZ).take (j+1)=(ks.map CZ).take j++[CZ ks[j]]:=by
   exact y7w
  generalize CZ ks[j]=e at c4 htk;generalize ks[j]=u at hg c4;obtain⟨y1,y2,y3,y4,y5⟩:=u;simp only[cells_mk,List.map] at c4;refine znt1 hjl ?_;refine Run.draw [0,0,0,0,0,0,0,1] [0,0,0,0,0,0,0,0] [0,0,2,0,14,30,63,127] [0,1,2,3,4,5,6,7] aC aC ?_;refine zd1 hg ?_;refine y1k ?_;refine zd ?_;refine y8 ?_;refine znr ?_
  by_cases he:e=0
  ·refine znf1r he ?_;refine IH (j+1) _ _ ⟨by omega,by rw[htk,aZ,hall,if_pos rfl,he]⟩ aB ?_ rfl;exact zS
  ·have hst:aL (ks.map CZ)=e:=by
    have e1:aL ((ks.map CZ).take (j+1))=e:=by rw[htk,aZ,hall,if_pos rfl]
    rw[dC (j:=j+1) (by rw[e1];exact he),e1]
   refine znt1 he ?_;refine zA ?_;refine zF2 hh ?_;exact⟨by rw[hr,hst];rfl,rfl⟩
 ·have hje:j=ks.length:=aB;exact y3j
def bU (env:List Dc)(own:List (List UInt8))(d:Dc)(t:Tm)(vars params:Int):Int:=if dK vars params 0 0 t=0 then kL env own d t else dK vars params 0 0 t
theorem gR (h:Heap)(hh:WF h)(env:List Dc)(own:List (List UInt8))(d:Dc)(hs:ScOk env own d)(t:Tm)(ht:t.good)(vars params:Int):
  ACalls Tryz.prog 271 [scE env own d,t.av,iA vars,iA params] h fun o h'=>o= .ret (iA (bU env own d t vars params))/\h'=h:=by
 have c1:=fun g hw=>lP g hw t vars params 0 0 (by have:=ht.1;omega) ht.2.1
 have c2:=fun g hw=>vD env own d hs t.size t g (bLx _) ht.1 hw
 unfold bU;generalize dK vars params 0 0 t=e at c1⊢;generalize kL env own d t=f at c2⊢;clear hs ht;obtain⟨dk,nm,ps,⟨k1,i1,n1,l1,s1⟩,⟨k2,i2,n2,l2,s2⟩,fx,cs,rp,⟨k3,i3,n3,l3,s3⟩,rr,fs⟩:=d;obtain⟨k,i,n,ls,ks⟩:=t;simp only[scE,Dc.cells,Tm.av,cells_mk,List.map,bLz,bM4] at c1 c2⊢;refine dE Tryz.func271 Tryz.ntmps271 ?_;refine zL (c1 _ (hh.app aA)) ?_;refine zor ?_
 by_cases he:e=0
 ·rw[if_pos he];refine znf1r he ?_;refine zL (c2 _ (hh.app aA)) ?_;refine zox ?_;exact y29
 ·rw[if_neg he];refine dV he ?_;exact y29
end Go.Proofs.YtplomildbmcmfaaGreat
