import Derived.Test.YtplomildbmcmfaaGreatZA0
import Derived.Test.YtplomildbmcmfaaGreatZX3
set_option maxRecDepth 8000
set_option maxHeartbeats 16000000
namespace Go.Proofs.YtplomildbmcmfaaGreat
open Go Go.AI
theorem pU (d:Dc)(a:Int)(s:List UInt8):∀(l:List Ct)(i j:Nat),(∀c∈l.take j,c.nm≠s)->sM d a s l i=sM d a s (l.drop j) (i+j)
 |l,i,0,_=>by simp
 |[],i,j+1,_=>by simp[sM]
 |c::l,i,j+1,h=>by
  simp only[sM,bO5];rw[if_neg (h c aA),pU d a s l (i+1) j (fun x hx=>h x (by simp[hx]))]
  congr 1;omega
theorem qF (d:Dc)(a:Int)(s:List UInt8):∀(l:List Fu)(i j:Nat),(∀c∈l.take j,c.nm≠s)->sN d a s l i=sN d a s (l.drop j) (i+j)
 |l,i,0,_=>by simp
 |[],i,j+1,_=>by simp[sN]
 |c::l,i,j+1,h=>by
  simp only[sN,bO5];rw[if_neg (h c aA),qF d a s l (i+1) j (fun x hx=>h x (by simp[hx]))]
  congr 1;omega
theorem aPg {d:Dc} {a:Int} {s:List UInt8} {l:List Ct} {j:Nat} {c:Ct} (h:∀c∈l.take j,c.nm≠s)(hg:l[j]?=some c)(hc:c.nm=s):sM d a s l 0=some ⟨4,a,j,d.ps,c.ty⟩:=by
 obtain⟨hj,e⟩:=bLw.1 hg;rw[pU d a s l 0 j h,bNv hj,e,sM,if_pos hc];simp
theorem aQd {d:Dc} {a:Int} {s:List UInt8} {l:List Fu} {j:Nat} {c:Fu} (h:∀c∈l.take j,c.nm≠s)(hg:l[j]?=some c)(hc:c.nm=s):sN d a s l 0=some ⟨6,a,j,d.ps,c.ty⟩:=by
 obtain⟨hj,e⟩:=bLw.1 hg;rw[qF d a s l 0 j h,bNv hj,e,sN,if_pos hc];simp
theorem aJd {d:Dc} {a:Int} {s:List UInt8} {l:List Ct} (h:∀c∈l,c.nm≠s):sM d a s l 0=none:=by
 rw[pU d a s l 0 l.length (by simpa using h)];simp[sM]
theorem aLh {d:Dc} {a:Int} {s:List UInt8} {l:List Fu} (h:∀c∈l,c.nm≠s):sN d a s l 0=none:=by
 rw[qF d a s l 0 l.length (by simpa using h)];simp[sN]
theorem xY (h:Heap)(hh:WF h)(d:Dc)(a:Int)(s:List UInt8)(hc:d.cs.length<=1048576)(hf:d.fs.length<=1048576):ACalls Tryz.prog 252 [d.av,iA a, .p (sP s)] h fun o h'=>o= .ret (wT d a s).av/\h'=h:=by
 have hk:=aLy d.k;obtain⟨r,hr⟩:∃r,r=wT d a s:=⟨_,rfl⟩;rw[<-hr];unfold wT at hr;have hit:=fun(j:Nat) (c:Ct) h1 h2 h3=>aPg (d:=d) (a:=a) (s:=s) (l:=d.cs) (j:=j) (c:=c) h1 h2 h3
 have fit:=fun(j:Nat) (c:Fu) h1 h2 h3=>aQd (d:=d) (a:=a) (s:=s) (l:=d.fs) (j:=j) (c:=c) h1 h2 h3
 have mis:=fun h1=>aJd (d:=d) (a:=a) (s:=s) (l:=d.cs) h1
 have fis:=fun h1=>aLh (d:=d) (a:=a) (s:=s) (l:=d.fs) h1
 obtain⟨ce,hce⟩:∃ce,sM d a s d.cs 0=ce:=⟨_,rfl⟩;obtain⟨fe,hfe⟩:∃fe,sN d a s d.fs 0=fe:=⟨_,rfl⟩;rw[hce] at hr hit mis;rw[hfe] at hr fit fis;clear hce hfe;obtain⟨k,nm,ps,⟨k1,i1,n1,l1,s1⟩,⟨k2,i2,n2,l2,s2⟩,fx,cs,rp,⟨k3,i3,n3,l3,s3⟩,rr,fs⟩:=d;simp only at hc hf hr hk hit fit mis fis;simp only[Dc.av,Dc.cells,cells_mk,List.map,bLz,bM4];refine zE Tryz.func252 Tryz.ntmps252 ?_;refine sE ?_;rcases hk with rfl|rfl|rfl|rfl|hk
 ·rw[if_pos aB] at hr;refine aT1 ?_;refine yi ?_;exact y28
 ·rw[if_pos aB] at hr;refine znrfrt ?_;refine zr ?_;refine yi ?_;exact y28
 ·rw[if_pos aB] at hr;refine znrfrfrt ?_;refine zr ?_;refine yi ?_;exact y28
 ·rw[if_neg aB,if_pos rfl] at hr;refine lG ?_;refine zr ?_
  by_cases hs:s=nm
  ·rw[if_pos hs] at hr;refine dV hs ?_;exact y28
  rw[if_neg hs] at hr;refine znf1r hs ?_;refine Run.loopS [1,2,3,6] (fun j:Nat=>j<=cs.length/\∀c∈cs.take j,c.nm≠s) (fun j=>cs.length-j) (fun j=>[(8,iA j)]) (fun _=>_) 0 aA ?_ rfl ?_
  ·exact zS
  rintro j ⟨hj,hall⟩ IH;refine cK ?_
  by_cases hjl:j<cs.length
  ·have hg:cs[j]?=some cs[j]:=bLv hjl;have htk:cs.take (j+1)=cs.take j++[cs[j]]:=bM6 hjl;have hcx:=fun(h3:cs[j].nm=s)=>hit j cs[j] hall hg h3
   obtain⟨⟨x,⟨k4,i4,n4,l4,s4⟩⟩,hxy⟩:∃c,cs[j]=c:=⟨_,rfl⟩;rw[hxy] at hg htk hcx;refine znt1 hjl ?_;refine aXu hg ?_
   by_cases hx:x=s
   ·rw[hcx hx] at hr;refine znt1 hx ?_;refine yz ?_;refine aXs hg ?_;refine y8 ?_;refine znx ?_;exact y28
   ·exact y4s
  ·have hje:j=cs.length:=aB;subst hje;rw[bMm] at hall;rw[mis hall] at hr;refine znfenrx ?_;exact y28
 ·have hk':(k==0)=false/\(k==1)=false/\(k==2)=false/\(k==3)=false:=by
   rcases hk with rfl|h5
   ·decide
   ·exact⟨h5.1,h5.2.1,h5.2.2.1,h5.2.2.2.1⟩
  obtain⟨e0,e1,e2,e3⟩:=hk';rw[if_neg (by simp at e0 e1 e2;omega),if_neg (by simpa using e3)] at hr;refine cY e0 e1 e2 e3 ?_;refine zr ?_;refine Run.loopS [1,2,3,6,7] (fun j:Nat=>j<=fs.length/\∀c∈fs.take j,c.nm≠s) (fun j=>fs.length-j) (fun j=>[(9,iA j)]) (fun _=>_) 0 aA ?_ rfl ?_
  ·exact zS
  rintro j ⟨hj,hall⟩ IH;refine cK ?_
  by_cases hjl:j<fs.length
  ·have hg:fs[j]?=some fs[j]:=bLv hjl;have htk:fs.take (j+1)=fs.take j++[fs[j]]:=bM6 hjl;have hcx:=fun(h3:fs[j].nm=s)=>fit j fs[j] hall hg h3
   obtain⟨⟨x,⟨k4,i4,n4,l4,s4⟩,z,w⟩,hxy⟩:∃c,fs[j]=c:=⟨_,rfl⟩;rw[hxy] at hg htk hcx;refine znt1 hjl ?_;refine bLt hg ?_
   by_cases hx:x=s
   ·rw[hcx hx] at hr;refine znt1 hx ?_;refine yz ?_;refine bE6 hg ?_;refine y8 ?_;refine znx ?_;exact y28
   ·exact y4s
  ·have hje:j=fs.length:=aB;subst hje;rw[bMm] at hall;rw[fis hall] at hr;refine znfenrx ?_;exact y28
def bQ (env:List Dc)(s:List UInt8):En×Int:=match dX s env 0 with
 |some e=>(e,0)
 |none=>(zEn,9)
def Env.short (env:List Dc):Prop:=∀d∈env,d.nm.length<=200
theorem nC (s:List UInt8):∀(env:List Dc)(i j:Nat),(∀d∈env.take j,s∉aW d)->dX s env i=dX s (env.drop j) (i+j)
 |env,i,0,_=>by simp
 |[],i,j+1,_=>by simp[dX]
 |d::env,i,j+1,h=>by
  simp only[dX,bO5];rw[if_neg (h d aA),nC s env (i+1) j (fun x hx=>h x (by simp[hx]))]
  congr 1;omega
theorem aLa {s:List UInt8} {env:List Dc} {j:Nat} {d:Dc} (h:∀c∈env.take j,s∉aW c)(hg:env[j]?=some d)(hc:s∈aW d):dX s env 0=some (wT d j s):=by
 obtain⟨hj,e⟩:=bLw.1 hg;rw[nC s env 0 j h,bNv hj,e,dX,if_pos hc];simp
theorem aH3 {s:List UInt8} {env:List Dc} (h:∀c∈env,s∉aW c):dX s env 0=none:=by
 rw[nC s env 0 env.length (by simpa using h)];simp[dX]
theorem nJ (d:Dc)(hc:d.cs.length<=1048576)(hf:d.fs.length<=1048576):(aW d).length<=1048578:=by
 unfold aW;split
 ·simp
 ·split
  ·simp;omega
  ·split
   ·simp;omega
   ·simp
theorem aE7:Weak (.agg [iA 0,iA 0,iA 0,iA 0,iA 0,iA 0, .p (sP []), .p (.prim (.slice none 0 0)), .p (.prim (.slice none 0 0))]) zEn.av:=by
 simp only[zEn,En.av,En.cells,zT,cells_mk,List.map,lvPs,tmPs];exact y2y
theorem iI (h:Heap)(hh:WF h)(env:List Dc)(s:List UInt8)(hg:Env.good env)(hn:Env.short env):ACalls Tryz.prog 184 [eU env, .p (sP s)] h fun o h'=>o= .ret (.tup [(bQ env s).1.av,iA (bQ env s).2])/\h'=h:=by
 obtain⟨hl,hg⟩:=hg;obtain⟨r,hr⟩:∃r,r=bQ env s:=⟨_,rfl⟩;rw[<-hr];unfold bQ at hr;refine dE Tryz.func184 Tryz.ntmps184 ?_;refine Run.loopS [0,1,4] (fun j:Nat=>j<=env.length/\∀d∈env.take j,s∉aW d) (fun j=>env.length-j) (fun j=>[(6,iA j)]) (fun _=>_) 0 aA ?_ rfl ?_
 ·exact zS
 rintro j ⟨hj,hall⟩ IH;refine cK ?_
 by_cases hjl:j<env.length
 ·have hge:env[j]?=some env[j]:=bLv hjl;have hmem:env[j]∈env:=bLy hjl;have htk:env.take (j+1)=env.take j++[env[j]]:=bM6 hjl;have hhit:=fun(hc:s∈aW env[j])=>aLa hall hge hc
  have hd:=hg _ hmem;have hdn:=hn _ hmem;have hdl:=bB env[j];generalize env[j]=d at hge htk hhit hd hdn hdl;clear hmem;have hnl:=nJ d hd.csl hd.fsl;have c1:=fun g hw=>qR g hw d aB hd.csl hd.fsl
  have c2:=fun g hw=>aC3 g hw (aW d) s aB
  have c3:=fun g hw=>xY g hw d j s hd.csl hd.fsl
  have htd:List.take 23 (d.cells.map AV.p)=d.cells.map .p:=bM7 (by simp[hdl]);simp only[Dc.av] at c1 c3;refine znt1 hjl ?_;refine zr3 hge hdl htd ?_;refine zL (c1 _ (hh.app aA)) ?_;refine zo ?_;refine zL (c2 _ (hh.app aA)) ?_
  by_cases hs:s∈aW d
  ·rw[hhit hs] at hr;obtain⟨e,he⟩:∃e,e=wT d j s:=⟨_,rfl⟩;rw[<-he] at c3 hr;obtain⟨a1,a2,a3,a4,⟨k,i,n,ls,ks⟩⟩:=e;simp only[En.av,En.cells,cells_mk,List.map] at c3;refine zo1 hs ?_;refine zt ?_;refine zr3 hge hdl htd ?_;refine zL (c3 _ (hh.app aA)) ?_;refine zox ?_;refine Fin.ret' (h0:=h) aA rfl hh rfl aE rfl (Weak.refl _) aA ⟨by rw[hr];rfl,rfl⟩
  ·refine aT2 hs ?_;refine IH (j+1) _ _ ⟨by omega,?_⟩ aB ?_ rfl
   ·rw[htk];intro c hc';rcases bMo.1 hc' with h1|h1
    ·exact hall c h1
    ·simp at h1;rw[h1];exact hs
   ·exact zS
 ·have hje:j=env.length:=aB;subst hje;rw[bMm] at hall;rw[aH3 hall] at hr;refine znfenrx ?_;refine Fin.ret' (h0:=h) (xs:=[.agg [iA 0,iA 0,iA 0,iA 0,iA 0,iA 0, .p (sP []), .p (.prim (.slice none 0 0)), .p (.prim (.slice none 0 0))],iA 9]) aA rfl hh rfl aA rfl (Weak.tup (WeakL.cons aE7 (WeakL.refl _))) (by simp[zEn,En.av,En.cells,zT]) ⟨by rw[hr],rfl⟩
open Go Go.AI
def bCd (d:Dc):Bool:=decide (d.fx<=fP d.ty)&& d.cs.all fun c=>decide (d.fx<=fP c.ty)
theorem aLc (h:Heap)(hh:WF h)(d:Dc)(hd:d.good):ACalls Tryz.prog 270 [d.av] h fun o h'=>o= .ret (bA (bCd d))/\h'=h:=by
 have h1:=fun g hw=>qP g hw d.ty hd.ty.1
 have hcs:=hd.cs;have hcl:=hd.csl;obtain⟨r,hr⟩:∃r,r=bCd d:=⟨_,rfl⟩;rw[<-hr];unfold bCd at hr;generalize fP d.ty=n1 at h1 hr;obtain⟨k,nm,ps,⟨k1,i1,n1',l1,s1⟩,⟨k2,i2,n2,l2,s2⟩,fx,cs,rp,⟨k3,i3,n3,l3,s3⟩,rr,fs⟩:=d;clear hd;simp only at hcs hcl h1 hr;simp only[Dc.av,Dc.cells,Tm.av,cells_mk,List.map,bLz,bM4] at h1⊢;refine zER Tryz.func270 Tryz.ntmps270 ?_;refine Run.draw [0,0,0,0,0,1,1] [0,0,0,0,0,0,0] [0,1,3,0,8,31,63] [0,1,2,3,4,5,6] aC aC ?_;refine zd ?_;refine DR.call rfl rfl rfl aA rfl (h1 _ (hh.app aA)) ?_;refine zd ?_;refine y8 ?_;refine znr ?_;refine Run.loopS (ι:=Nat×Bool) [1] (fun p=>p.1<=cs.length/\p.2=(decide (fx<=(n1:Int))&& (cs.take p.1).all fun c=>decide (fx<=(fP c.ty:Int)))) (fun p=>cs.length-p.1) (fun p=>[(3,bA p.2),(4,iA p.1)]) (fun _=>_) (0,decide (fx<=(n1:Int))) aA ?_ rfl ?_
 ·exact zS
 rintro⟨j,b⟩ ⟨hj,hall⟩ IH;simp only at hj hall;refine cK ?_
 by_cases hjl:j<cs.length
 ·have hg:cs[j]?=some cs[j]:=bLv hjl;have htk:cs.take (j+1)=cs.take j++[cs[j]]:=bM6 hjl;have hgd:=hcs _ (bLy hjl);have c1:=fun g hw=>qP g hw cs[j].ty hgd.1
  have hall2:(decide (fx<=(n1:Int))&& (cs.take (j+1)).all fun c=>decide (fx<=(fP c.ty:Int)))=(b&& decide (fx<=(fP cs[j].ty:Int))):=by
   rw[htk,bO9,hall,<-Bool.and_assoc];simp
  generalize fP cs[j].ty=m at c1 hall2;generalize cs[j]=c at hg htk hgd c1;obtain⟨x,⟨k4,i4,n4,l4,s4⟩⟩:=c;simp only[Tm.av,cells_mk,List.map] at c1;refine znt1 hjl ?_;refine Run.draw [0,0,0,0,0,0,0,0,0,0,0,1,1,1] [0,0,0,0,0,0,0,0,0,0,0,0,0,0] [0,1,3,7,3,31,63,127,255,3,515,2047,4095,8191] [0,1,2,3,4,5,6,7,8,9,10,11,12,13] aC aC ?_
  cases b with
  |false=>
   refine zd ?_;refine y8 ?_;refine znr ?_;refine IH (j+1,false) _ _ ⟨by simp only;omega,by simp only;rw[hall2];rfl⟩ (by simp only;omega) ?_ rfl;exact zS
  |true=>
   refine aXs hg ?_;refine DR.call rfl rfl rfl aA rfl (c1 _ (hh.app aA)) ?_;refine zd ?_;refine y8 ?_;refine znr ?_;refine IH (j+1,decide (fx<=(m:Int))) _ _ ⟨by simp only;omega,by simp only;rw[hall2];simp⟩ (by simp only;omega) ?_ rfl;exact zS
 ·have hje:j=cs.length:=aB;subst hje;rw[bMm] at hall;rw[<-hall] at hr;refine znfenrx ?_;exact y28
def arB (f:Fu):Bool:=decide (f.ar<1)||decide (16<f.ar)
def mY (d:Dc):Int:=
 if(decide (d.ps<0)||decide (8<d.ps)||decide (d.fx<0))=true then 2
 else if(decide (32<(d.cs.length:Int))||(d.k==4&& (decide ((d.fs.length:Int)<1)||decide (8<(d.fs.length:Int)))))=true then 6
 else if d.fs.any arB=true then 3
 else if d.k=3/\(((d.rp !=d.ps&& d.rp !=d.ps+1)=true)\/((d.rr.length:Int) !=d.cs.length)=true\/bCd d=false) then 3 else 0
theorem aG1 (h:Heap)(hh:WF h)(d:Dc)(hd:d.good):ACalls Tryz.prog 218 [d.av] h fun o h'=>o= .ret (iA (mY d))/\h'=h:=by
 have hf:=fun g hw=>aLc g hw d hd
 have hcl:=hd.csl;have hfl:=hd.fsl;have hrl:=hd.rrl;obtain⟨r,hr⟩:∃r,r=mY d:=⟨_,rfl⟩;rw[<-hr];unfold mY at hr;generalize bCd d=fb at hf hr;obtain⟨k,nm,ps,⟨k1,i1,n1',l1,s1⟩,⟨k2,i2,n2,l2,s2⟩,fx,cs,rp,⟨k3,i3,n3,l3,s3⟩,rr,fs⟩:=d;clear hd;simp only at hcl hfl hrl hr;simp only[Dc.av,Dc.cells,cells_mk,List.map,bLz,bM4] at hf⊢;refine zER Tryz.func218 Tryz.ntmps218 ?_;refine Run.regJ [1] 16 (decide (ps<0)||decide (8<ps)||decide (fx<0)) (fun K J=>?_) ?_
 ·simp;exact y1x
 refine y6 ?_;simp;refine Run.condB rfl (fun h1=>?_) (fun h1=>?_)
 ·rw[if_pos h1] at hr;exact y1y
 rw[if_neg (by rw[h1];simp)] at hr;have h1':0<=ps/\ps<=8/\0<=fx:=by simp at h1;omega
 obtain⟨b,hb⟩:∃b,b=(decide (32<(cs.length:Int))||(k==4&& (decide ((fs.length:Int)<1)||decide (8<(fs.length:Int))))):=⟨_,rfl⟩;refine nv ?_;refine Run.regJ [1] 37 (decide (32<(cs.length:Int))||(k==4&& (decide ((fs.length:Int)<1)||decide (8<(fs.length:Int))))) (fun K J=>?_) ?_
 ·simp;exact y1x
 refine y6 ?_;simp;rw[<-hb];rw[<-hb] at hr
 cases b with
 |true=>
  rw[if_pos rfl] at hr;refine znt ?_;exact y1y
 |false=>
 rw[if_neg aA] at hr;refine aIr ?_;refine Run.loopS [1] (fun j:Nat=>j<=fs.length/\(fs.take j).any arB=false) (fun j=>fs.length-j) (fun j=>[(3,iA j)]) (fun _=>_) 0 aA ?_ rfl ?_
 ·exact zS
 rintro j ⟨hj,hall⟩ IH;refine cK ?_
 by_cases hjl:j<fs.length
 ·have hg:fs[j]?=some fs[j]:=bLv hjl;have htk:fs.take (j+1)=fs.take j++[fs[j]]:=bM6 hjl;have hmem:fs[j]∈fs:=bLy hjl;obtain⟨⟨x,⟨k4,i4,n4,l4,s4⟩,z,w⟩,hxy⟩:∃c,fs[j]=c:=⟨_,rfl⟩;rw[hxy] at hg htk hmem;refine znt1 hjl ?_;refine Run.regJ [1,3] 60 (decide (z<1)||decide (16<z)) (fun K J=>?_) ?_
  ·simp[hg,Fu.cells];exact y1x
  refine y6 ?_;simp;refine Run.condB rfl (fun h2=>?_) (fun h2=>?_)
  ·have:fs.any arB=true:=bOk.2 ⟨_,hmem,h2⟩;rw[if_pos this] at hr;exact y1y
  ·refine znr ?_;refine IH (j+1) _ _ ⟨by omega,?_⟩ aB ?_ rfl
   ·rw[htk,List.any_append,hall];simp only[List.any_cons,List.any_nil,arB];rw[h2];rfl
   ·exact zS
 ·have hje:j=fs.length:=aB;subst hje;rw[bMm] at hall;rw[if_neg (by rw[hall];simp)] at hr;have hw:IntKind.i64.wrap (ps+1)=ps+1:=wrap_id aB aB;refine znfen ?_
  by_cases hk:k=3
  ·subst hk
   by_cases cA:rp=ps
   ·subst cA;have e0:(rp !=rp&& rp !=rp+1)=false:=aA;rw[e0] at hr
    by_cases c3:rr.length=cs.length
    ·have e3:((rr.length:Int) !=cs.length)=false:=by simp[c3]
     rw[e3] at hr;refine sD e3 ?_;refine zL (hf _ (hh.app aA)) ?_
     cases fb with
     |false=>
      rw[if_pos aA] at hr;refine zot ?_;exact y1y
     |true=>
      rw[if_neg aA] at hr;refine zo ?_;refine zf ?_;exact y1y
    ·have e3:((rr.length:Int) !=cs.length)=true:=by simp;omega
     rw[e3] at hr;rw[if_pos aA] at hr;refine aDg e3 ?_;exact y1y
   by_cases cB:rp=ps+1
   ·subst cB;have e0:(ps+1 !=ps&& ps+1 !=ps+1)=false:=aA;have e1:(ps+1 !=ps)=true:=by simp;omega
    rw[e0] at hr
    by_cases c3:rr.length=cs.length
    ·have e3:((rr.length:Int) !=cs.length)=false:=by simp[c3]
     rw[e3] at hr;refine zn ?_;refine zr3 e1 hw e3 ?_;refine zL (hf _ (hh.app aA)) ?_
     cases fb with
     |false=>
      rw[if_pos aA] at hr;refine zot ?_;exact y1y
     |true=>
      rw[if_neg aA] at hr;refine zo ?_;refine zf ?_;exact y1y
    ·have e3:((rr.length:Int) !=cs.length)=true:=by simp;omega
     rw[e3] at hr;rw[if_pos aA] at hr;refine zn ?_;refine zr3 e1 hw e3 ?_;refine zt ?_;exact y1y
   ·have e1:(rp !=ps)=true:=by simp[cA]
    have e2:(rp !=ps+1)=true:=by simp[cB]
    rw[e1,e2] at hr;rw[if_pos aA] at hr;refine zn ?_;refine zr3 e1 e2 hw ?_;refine zt ?_;exact y1y
  ·have hk':(k==3)=false:=by simp[hk]
   rw[if_neg (by simp[hk])] at hr;refine znr1f hk' ?_;exact y1y
end Go.Proofs.YtplomildbmcmfaaGreat
