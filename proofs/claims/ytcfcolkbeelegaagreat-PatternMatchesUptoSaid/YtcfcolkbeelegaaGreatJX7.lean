import Derived.Test.YtcfcolkbeelegaaGreatJA0
import Derived.Test.YtcfcolkbeelegaaGreatJX4
import Derived.Test.YtcfcolkbeelegaaGreatJX2
set_option maxRecDepth 8000
set_option maxHeartbeats 16000000
namespace Go.Proofs.YtcfcolkbeelegaaGreat
open Go Go.AI
def aIn (d:Dc):Bool:=decide (d.fx<=dI d.ty)&& d.cs.all fun c=>decide (d.fx<=dI c.ty)
theorem aLn (h:Heap)(hh:WF h)(d:Dc)(hd:d.good):AC 228 [d.av] h (bA (aIn d)):=by
 have h1:=fun g hw=>tR g hw d.ty hd.ty.1
 have hcs:=hd.cs;have hcl:=hd.csl;obtain⟨r,hr⟩:∃r,r=aIn d:=⟨_,rfl⟩;rw[<-hr];unfold aIn at hr;generalize dI d.ty=n1 at h1 hr;obtain⟨k,nm,ps,⟨k1,i1,n1',l1,s1⟩,⟨k2,i2,n2,l2,s2⟩,fx,cs,rp,⟨k3,i3,n3,l3,s3⟩,rr,fs⟩:=d;clear hd;simp only at hcs hcl h1 hr;simp only[Dc.av,Dc.cells,Tm.av,aH,List.map,aYy,aZ3] at h1⊢;refine zER Tryz.func228 Tryz.ntmps228 ?_;refine Run.draw [0,0,0,0,0,1,1] [0,0,0,0,0,0,0] [0,1,3,0,8,31,63] [0,1,2,3,4,5,6] aC aC ?_;refine zd ?_;refine DR.call rfl rfl rfl aA rfl (h1 _ (hh.app aA)) ?_;refine zd ?_;refine y9 ?_;refine znr ?_;refine Run.loopS (ι:=Nat×Bool) [1] (fun p=>p.1<=cs.length/\p.2=(decide (fx<=(n1:Int))&& (cs.take p.1).all fun c=>decide (fx<=(dI c.ty:Int)))) (fun p=>cs.length-p.1) (fun p=>[(3,bA p.2),(4,iA p.1)]) (fun _=>_) (0,decide (fx<=(n1:Int))) aA ?_ rfl ?_
 ·exact zS
 rintro⟨j,b⟩ ⟨hj,hall⟩ IH;simp only at hj hall;refine cI ?_
 by_cases hjl:j<cs.length
 ·have hg:cs[j]?=some cs[j]:=aYu hjl;have htk:cs.take (j+1)=cs.take j++[cs[j]]:=aZ5 hjl;have hgd:=hcs _ (aYx hjl);have c1:=fun g hw=>tR g hw cs[j].ty hgd.1
  have hall2:(decide (fx<=(n1:Int))&& (cs.take (j+1)).all fun c=>decide (fx<=(dI c.ty:Int)))=(b&& decide (fx<=(dI cs[j].ty:Int))):=by
   rw[htk,bB8,hall,<-Bool.and_assoc];simp
  generalize dI cs[j].ty=m at c1 hall2;generalize cs[j]=c at hg htk hgd c1;obtain⟨x,⟨k4,i4,n4,l4,s4⟩⟩:=c;simp only[Tm.av,aH,List.map] at c1;refine dF hjl ?_;refine Run.draw [0,0,0,0,0,0,0,0,0,0,0,1,1,1] [0,0,0,0,0,0,0,0,0,0,0,0,0,0] [0,1,3,7,3,31,63,127,255,3,515,2047,4095,8191] [0,1,2,3,4,5,6,7,8,9,10,11,12,13] aC aC ?_
  cases b with
  |false=>
   refine zd ?_;refine y9 ?_;refine znr ?_;refine IH (j+1,false) _ _ ⟨by simp only;omega,by simp only;rw[hall2];rfl⟩ (by simp only;omega) ?_ rfl;exact zS
  |true=>
   refine aUl hg ?_;refine y2e ?_;refine zd ?_;refine y9 ?_;refine znr ?_;refine IH (j+1,decide (fx<=(m:Int))) _ _ ⟨by simp only;omega,by simp only;rw[hall2];simp⟩ (by simp only;omega) ?_ rfl;exact zS
 ·have hje:j=cs.length:=aB;subst hje;rw[aZl] at hall;rw[<-hall] at hr;refine cY ?_;exact y31
def arB (f:Fu):Bool:=decide (f.ar<1)||decide (16<f.ar)
def gH (d:Dc):Int:=
 if(decide (d.ps<0)||decide (8<d.ps)||decide (d.fx<0))=true then 2
 else if(decide (32<(d.cs.length:Int))||(d.k==4&& (decide ((d.fs.length:Int)<1)||decide (8<(d.fs.length:Int)))))=true then 6
 else if d.fs.any arB=true then 3
 else if d.k=3/\(((d.rp !=d.ps&& d.rp !=d.ps+1)=true)\/((d.rr.length:Int) !=d.cs.length)=true\/aIn d=false) then 3 else 0
theorem aIh (h:Heap)(hh:WF h)(d:Dc)(hd:d.good):AC 204 [d.av] h (iA (gH d)):=by
 have hf:=fun g hw=>aLn g hw d hd
 have hcl:=hd.csl;have hfl:=hd.fsl;have hrl:=hd.rrl;obtain⟨r,hr⟩:∃r,r=gH d:=⟨_,rfl⟩;rw[<-hr];unfold gH at hr;generalize aIn d=fb at hf hr;obtain⟨k,nm,ps,⟨k1,i1,n1',l1,s1⟩,⟨k2,i2,n2,l2,s2⟩,fx,cs,rp,⟨k3,i3,n3,l3,s3⟩,rr,fs⟩:=d;clear hd;simp only at hcl hfl hrl hr;simp only[Dc.av,Dc.cells,aH,List.map,aYy,aZ3] at hf⊢;refine zER Tryz.func204 Tryz.ntmps204 ?_;refine Run.regJ [1] 16 (decide (ps<0)||decide (8<ps)||decide (fx<0)) (fun K J=>?_) ?_
 ·simp;exact y2p
 refine y7 ?_;simp;refine Run.condB rfl (fun h1=>?_) (fun h1=>?_)
 ·rw[if_pos h1] at hr;exact y2r
 rw[if_neg (by rw[h1];simp)] at hr;have h1':0<=ps/\ps<=8/\0<=fx:=by simp at h1;omega
 obtain⟨b,hb⟩:∃b,b=(decide (32<(cs.length:Int))||(k==4&& (decide ((fs.length:Int)<1)||decide (8<(fs.length:Int))))):=⟨_,rfl⟩;refine nv ?_;refine Run.regJ [1] 37 (decide (32<(cs.length:Int))||(k==4&& (decide ((fs.length:Int)<1)||decide (8<(fs.length:Int))))) (fun K J=>?_) ?_
 ·simp;exact y2p
 refine y7 ?_;simp;rw[<-hb];rw[<-hb] at hr
 cases b with
 |true=>
  rw[if_pos rfl] at hr;refine znt ?_;exact y2r
 |false=>
 rw[if_neg aA] at hr;refine aAc ?_;refine Run.loopS [1] (fun j:Nat=>j<=fs.length/\(fs.take j).any arB=false) (fun j=>fs.length-j) (fun j=>[(3,iA j)]) (fun _=>_) 0 aA ?_ rfl ?_
 ·exact zS
 rintro j ⟨hj,hall⟩ IH;refine cI ?_
 by_cases hjl:j<fs.length
 ·have hg:fs[j]?=some fs[j]:=aYu hjl;have htk:fs.take (j+1)=fs.take j++[fs[j]]:=aZ5 hjl;have hmem:fs[j]∈fs:=aYx hjl;obtain⟨⟨x,⟨k4,i4,n4,l4,s4⟩,z,w⟩,hxy⟩:∃c,fs[j]=c:=⟨_,rfl⟩;rw[hxy] at hg htk hmem;refine dF hjl ?_;refine Run.regJ [1,3] 60 (decide (z<1)||decide (16<z)) (fun K J=>?_) ?_
  ·simp[hg,Fu.cells];exact y2p
  refine y7 ?_;simp;refine Run.condB rfl (fun h2=>?_) (fun h2=>?_)
  ·have:fs.any arB=true:=bBj.2 ⟨_,hmem,h2⟩;rw[if_pos this] at hr;exact y2r
  ·refine znr ?_;refine IH (j+1) _ _ ⟨by omega,?_⟩ aB ?_ rfl
   ·rw[htk,List.any_append,hall];simp only[List.any_cons,List.any_nil,arB];rw[h2];rfl
   ·exact zS
 ·have hje:j=fs.length:=aB;subst hje;rw[aZl] at hall;rw[if_neg (by rw[hall];simp)] at hr;have hw:IntKind.i64.wrap (ps+1)=ps+1:=aQ aB aB;refine dP ?_
  by_cases hk:k=3
  ·subst hk
   by_cases cA:rp=ps
   ·subst cA;have e0:(rp !=rp&& rp !=rp+1)=false:=aA;rw[e0] at hr
    by_cases c3:rr.length=cs.length
    ·have e3:((rr.length:Int) !=cs.length)=false:=by simp[c3]
     rw[e3] at hr;refine nQ e3 ?_;refine zL (hf _ (hh.app aA)) ?_
     cases fb with
     |false=>
      rw[if_pos aA] at hr;refine zot ?_;exact y2r
     |true=>
      rw[if_neg aA] at hr;refine zo ?_;refine zf ?_;exact y2r
    ·have e3:((rr.length:Int) !=cs.length)=true:=by simp;omega
     rw[e3] at hr;rw[if_pos aA] at hr;refine aDk e3 ?_;exact y2r
   by_cases cB:rp=ps+1
   ·subst cB;have e0:(ps+1 !=ps&& ps+1 !=ps+1)=false:=aA;have e1:(ps+1 !=ps)=true:=by simp;omega
    rw[e0] at hr
    by_cases c3:rr.length=cs.length
    ·have e3:((rr.length:Int) !=cs.length)=false:=by simp[c3]
     rw[e3] at hr;refine zn ?_;refine zr3 e1 hw e3 ?_;refine zL (hf _ (hh.app aA)) ?_
     cases fb with
     |false=>
      rw[if_pos aA] at hr;refine zot ?_;exact y2r
     |true=>
      rw[if_neg aA] at hr;refine zo ?_;refine zf ?_;exact y2r
    ·have e3:((rr.length:Int) !=cs.length)=true:=by simp;omega
     rw[e3] at hr;rw[if_pos aA] at hr;refine zn ?_;refine zr3 e1 hw e3 ?_;refine zt ?_;exact y2r
   ·have e1:(rp !=ps)=true:=by simp[cA]
    have e2:(rp !=ps+1)=true:=by simp[cB]
    rw[e1,e2] at hr;rw[if_pos aA] at hr;refine zn ?_;refine zr3 e1 e2 hw ?_;refine zt ?_;exact y2r
  ·have hk':(k==3)=false:=by simp[hk]
   rw[if_neg (by simp[hk])] at hr;refine nR hk' ?_;exact y2r
open Go Go.AI
def aUx:Tr->Bool
 | .mk k b v bs=>!((k !=0)||(v !=0)||!fQ b zT||((bs.length:Int) !=0))
theorem aJo (h:Heap)(hh:WF h)(a:Tr)(hgd:a.good):AC 258 [a.av, .agg [iA 0,iA 0,iA 0, .p (sP []), .p (.prim (.slice none 0 0)), .p (.prim (.slice none 0 0)),iA 0, .p (.prim (.slice none 0 0))]] h (bA (aUx a)):=by
 obtain⟨k,bo,v,bs⟩:=a;simp only[Tr.good] at hgd;obtain⟨hb,hbl,hbs⟩:=hgd;have c1:=fun g hw=>ACalls.weak (args:=[bo.av, .agg [iA 0,iA 0, .p (sP []), .p (.prim (.slice none 0 0)), .p (.prim (.slice none 0 0))]]) (WeakL.cons (Weak.refl _) (WeakL.cons Weak.zT WeakL.nil)) (sD bo.size bo zT g (aYw _) (by have:=hb.1;omega) hb.2.2 hw)
 obtain⟨r,hr⟩:∃r,r=aUx (.mk k bo v bs):=⟨_,rfl⟩;rw[<-hr];simp only[aUx] at hr;generalize fQ bo zT=sb at c1 hr;obtain⟨k1,i1,n1,l1,s1⟩:=bo;simp only[Tr.av,Tr.cells,Tm.av,aH,List.map,aYy,aZ3,dX] at c1⊢;refine zER Tryz.func258 Tryz.ntmps258 ?_
 have hcase:(k !=0)=true\/((k !=0)=false/\(v !=0)=true)\/((k !=0)=false/\(v !=0)=false):=by
  cases k !=0<;>cases v !=0<;>simp
 rcases hcase with e1|⟨e1,e2⟩|⟨e1,e2⟩
 ·rw[e1] at hr;refine aDk e1 ?_;exact y2r
 ·rw[e1,e2] at hr;refine sH e1 e2 ?_;refine zt ?_;exact y2r
 rw[e1,e2] at hr;refine sH e1 e2 ?_;refine zL (c1 _ (hh.app aA)) ?_
 cases sb with
 |false=>
  refine zot ?_;exact y2r
 |true=>
 by_cases hl:bs.length=0
 rotate_left
 ·have e3:((bs.length:Int) !=0)=true:=by simp;exact fun h=>hl (by rw[h];rfl)
  rw[e3] at hr;refine zo1 e3 ?_;refine zt ?_;exact y2r
 obtain rfl:bs=[]:=bAv hl;simp only[aZ2] at hr;refine rJ ?_;refine Run.loopS [2,3] (fun j:Nat=>j=0) (fun j=>0) (fun j=>[(5,iA j)]) (fun _=>_) 0 rfl ?_ rfl ?_
 ·exact zS
 rintro j hj IH;subst hj;refine aOm ?_;exact y2r
end Go.Proofs.YtcfcolkbeelegaaGreat
namespace Go.AI
open Go
theorem Run.joinC0 {P:Program} {rd:Option Nat} {nb:Nat} {k:List It} {T:List AV} {h:Heap} {D:List AD} {Q:AX->List AV->Heap->List AD->Prop} {c:Code} (C:Prop)(keep:List Nat)(sets:List (Nat×AV))(r:(∀T',WeakL T' (bQ (keepT keep T) sets)->C->Run P rd nb k T' h D Q)->Run P rd nb (.code c::k) T h D Q)
  (next:C->Run P rd nb k (bQ (keepT keep T) sets) h D Q):Run P rd nb (.code c::k) T h D Q:=r fun _ hw hc=>Run.weak hw (next hc)
end Go.AI
namespace Go.Proofs.YtcfcolkbeelegaaGreat
open Go Go.AI
abbrev scE (env:List Dc)(own:List (List UInt8))(d:Dc):AV:= .agg (.p (.sl 23 (env.map Dc.cells)):: .p (.sl 1 (eI own))::d.cells.map .p)
def aVh (env:List Dc)(own:List (List UInt8))(d:Dc)(k:Int)(n:List UInt8)(ls:List Lv):Int:=
 if k=3 then(match dH n env 0 with
  |some x=>if(ls.length:Int)=x.ps then 0 else 15
  |none=>if n∈own then(if(ls.length:Int)=(rL d env.length n).ps then 0 else 15) else 9) else 0
mutual
def mL (env:List Dc)(own:List (List UInt8))(d:Dc):Tm->Int
 | .mk k _ n ls ks=>if aVh env own d k n ls=0 then aT (aGp env own d ks) else aVh env own d k n ls
def aGp (env:List Dc)(own:List (List UInt8))(d:Dc):List Tm->List Int
 |[]=>[]
 |t::ts=>mL env own d t::aGp env own d ts
end
theorem aB4 (env:List Dc)(own:List (List UInt8))(d:Dc):∀l:List Tm,aGp env own d l=l.map (mL env own d)
 |[]=>rfl
 |t::ts=>by simp only[aGp,aZc,aB4 env own d ts]
structure ScOk (env:List Dc) (own:List (List UInt8)) (d:Dc):Prop where
 hEnv:Env.good env
 hShort:Env.short env
 hOwn:own.length<=1099511627776
 hD:d.good
theorem yE (env:List Dc)(own:List (List UInt8))(d:Dc)(hs:ScOk env own d)(N:Nat):∀(t:Tm)(h:Heap),t.size<=N->t.size<=1048576->WF h->AC 257 [scE env own d,t.av] h (iA (mL env own d t)):=by
 induction N with
 |zero=>intro t h hN;have:=t.size_pos;omega
 |succ N ih=>
 intro t h hN hsz hh;have hel:=hs.hEnv.1;obtain⟨k,i,n,ls,ks⟩:=t;simp only[Tm.size] at hN hsz;have hll:=aR ks;have c1:=fun g hw=>iG g hw env n hs.hEnv hs.hShort
 have c2:=fun g hw=>aE9 g hw own n hs.hOwn
 have c3:=fun g hw=>aBc g hw d env.length n hs.hD.csl hs.hD.fsl
 have hrec:=fun(u:Tm) (h1:u.size<=Tm.sizes ks) (g:Heap) (hw:WF g)=>ih u g aB aB hw
 have hz:mL env own d (.mk k i n ls ks)=if aVh env own d k n ls=0 then aT (ks.map (mL env own d)) else aVh env own d k n ls:=by simp only[mL,aB4]
 obtain⟨r,hr⟩:∃r,r=mL env own d (.mk k i n ls ks):=⟨_,rfl⟩;rw[<-hr];rw[hz] at hr;clear hz ih;obtain⟨CZ,hCZ⟩:∃C,C=mL env own d:=⟨_,rfl⟩;rw[<-hCZ] at hr hrec;clear hCZ;unfold aVh at hr;unfold aK at c1;generalize dH n env 0=fz at c1 hr;generalize rL d env.length n=ez at c3 hr;have hown:n∈own\/n∉own:=Classical.em _;clear hs;obtain⟨dk,nm,ps,⟨k1,i1,n1,l1,s1⟩,⟨k2,i2,n2,l2,s2⟩,fx,cs,rp,⟨k3,i3,n3,l3,s3⟩,rr,fs⟩:=d;obtain⟨z1,z2,z3,z4,⟨z5,z6,z7,z8,z9⟩⟩:=ez;simp only[scE,Dc.av,Dc.cells,En.av,En.cells,Tm.av,aH,List.map,aYy,aZ3] at c1 c3 hrec hr⊢;refine cW Tryz.func257 Tryz.ntmps257 ?_
 refine Run.joinC0 ((if k=3 then(match fz with
  |some x=>if(ls.length:Int)=x.ps then(0:Int) else 15
  |none=>if n∈own then(if(ls.length:Int)=z4 then 0 else 15) else 9) else 0)=0) [2,3] [] (fun hJ=>?_) (fun hC=>?_)
 ·by_cases hk:k=3
  ·subst hk;rw[if_pos rfl] at hr hJ;refine aWr ?_
   cases fz with
   |some x=>
    obtain⟨x1,x2,x3,x4,⟨x5,x6,x7,x8,x9⟩⟩:=x;simp only[aH,List.map] at c1 hr hJ;refine zL (c1 _ (hh.app aA)) ?_;refine aOi ?_
    by_cases hl:(ls.length:Int)=x4
    ·have hl':((ls.length:Int) !=x4)=false:=by simp[hl]
     exact y63
    ·have hl':((ls.length:Int) !=x4)=true:=by simp[hl]
     rw[if_neg hl] at hr;refine dF hl' ?_;exact y2r
   |none=>
    simp only[zEn,zT,aH,List.map] at c1 hr hJ;refine zL (c1 _ (hh.app aA)) ?_;refine zor ?_;refine y2g ?_;refine zL (c2 _ (hh.app aA)) ?_
    by_cases ho:n∈own
    ·rw[if_pos ho] at hr hJ;refine zo1 ho ?_;refine yw ?_;refine zL (c3 _ (hh.app aA)) ?_;refine zor ?_
     by_cases hl:(ls.length:Int)=z4
     ·have hl':((ls.length:Int) !=z4)=false:=by simp[hl]
      exact y63
     ·have hl':((ls.length:Int) !=z4)=true:=by simp[hl]
      rw[if_neg hl] at hr;refine dF hl' ?_;exact y2r
    ·rw[if_neg ho] at hr;refine zo1 ho ?_;refine zt ?_;exact y2r
  ·rw[if_neg hk] at hJ;have hk':(k==3)=false:=by simp[hk]
   refine nv ?_;refine cf (by simp[hk']) ?_
   repeat (first|refine Run.skip ?_|refine Run.opsNil ?_|refine Run.inBlock ?_)
   refine hJ _ ?_ rfl;exact zS
 rw[if_pos hC] at hr;clear hC c1 c2 c3;refine y18 ?_;refine cI ?_;refine Run.loopS [2,3] (fun j:Nat=>j<=ks.length/\aT ((ks.map CZ).take j)=0) (fun j=>ks.length-j) (fun j=>[(7,iA j)]) (fun _=>_) 0 (by simp[aT]) ?_ rfl ?_
 ·exact zS
 rintro j ⟨hj,hall⟩ IH;refine cI ?_
 by_cases hjl:j<ks.length
 ·have hg:ks[j]?=some ks[j]:=aYu hjl;have hsz:=eL hjl;have c4:=hrec ks[j] hsz
  have htk:(ks.map CZ).take (j+1)=(ks.map CZ).take j++[CZ ks[j]]:=by
   exact y97
  generalize CZ ks[j]=e at c4 htk;generalize ks[j]=u at hg c4;obtain⟨y1,y2,y3,y4,y5⟩:=u;simp only[aH,List.map] at c4;refine dF hjl ?_;refine Run.draw [0,0,0,0,0,0,0,1] [0,0,0,0,0,0,0,0] [0,0,2,0,14,30,63,127] [0,1,2,3,4,5,6,7] aC aC ?_;refine zd1 hg ?_;refine y2f ?_;refine zd ?_;refine y9 ?_;refine znr ?_
  by_cases he:e=0
  ·refine dJ he ?_;refine IH (j+1) _ _ ⟨by omega,by rw[htk,cG,hall,if_pos rfl,he]⟩ aB ?_ rfl;exact zS
  ·have hst:aT (ks.map CZ)=e:=by
    have e1:aT ((ks.map CZ).take (j+1))=e:=by rw[htk,cG,hall,if_pos rfl]
    rw[fU (j:=j+1) (by rw[e1];exact he),e1]
   refine dF he ?_;refine zA ?_;refine zF2 hh ?_;exact⟨by rw[hr,hst];rfl,rfl⟩
 ·have hje:j=ks.length:=aB;exact y4l
def bS (env:List Dc)(own:List (List UInt8))(d:Dc)(t:Tm)(vars params:Int):Int:=if eQ vars params 0 0 t=0 then mL env own d t else eQ vars params 0 0 t
theorem jG (h:Heap)(hh:WF h)(env:List Dc)(own:List (List UInt8))(d:Dc)(hs:ScOk env own d)(t:Tm)(ht:t.good)(vars params:Int):
  AC 229 [scE env own d,t.av,iA vars,iA params] h (iA (bS env own d t vars params)):=by
 have c1:=fun g hw=>sO g hw t vars params 0 0 (by have:=ht.1;omega) ht.2.1
 have c2:=fun g hw=>yE env own d hs t.size t g (aYw _) ht.1 hw
 unfold bS;generalize eQ vars params 0 0 t=e at c1⊢;generalize mL env own d t=f at c2⊢;clear hs ht;obtain⟨dk,nm,ps,⟨k1,i1,n1,l1,s1⟩,⟨k2,i2,n2,l2,s2⟩,fx,cs,rp,⟨k3,i3,n3,l3,s3⟩,rr,fs⟩:=d;obtain⟨k,i,n,ls,ks⟩:=t;simp only[scE,Dc.cells,Tm.av,aH,List.map,aYy,aZ3] at c1 c2⊢;refine cW Tryz.func229 Tryz.ntmps229 ?_;refine zL (c1 _ (hh.app aA)) ?_;refine zor ?_
 by_cases he:e=0
 ·rw[if_pos he];refine dJ he ?_;refine zL (c2 _ (hh.app aA)) ?_;refine zox ?_;exact y2s
 ·rw[if_neg he];refine fT he ?_;exact y2s
end Go.Proofs.YtcfcolkbeelegaaGreat
