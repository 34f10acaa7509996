import Derived.Test.YtcfcolkbeelegaaGreatJA0
import Derived.Test.YtcfcolkbeelegaaGreatJX2
import Derived.Test.YtcfcolkbeelegaaGreatJM2
set_option maxRecDepth 8000
set_option maxHeartbeats 16000000
namespace Go.AI
open Go
@[simp] theorem aV1 (a b:List UInt8):(ByteArray.mk a.toArray++ByteArray.mk b.toArray)=ByteArray.mk (a++b).toArray:=by
 apply ByteArray.ext;simp
@[simp] theorem aXd (a:List UInt8):(ByteArray.mk a.toArray).size=a.length:=by simp[ByteArray.size]
end Go.AI
namespace Go.Proofs.YtcfcolkbeelegaaGreat
open Go Go.AI
theorem jM (l:List (List UInt8)):∀e∈eI l,e.length=1:=by
 intro e he;obtain⟨z,_,rfl⟩:=aZq.1 he
 rfl
theorem xC (l:List (List UInt8))(s:List UInt8):eI l++[[sP s]]=eI (l++[s]):=by simp[eI]
@[simp] theorem aTb (l:List Ct) (j:Nat):(l.map Ct.cells)[j]?=(l[j]?).map Ct.cells:=aA
theorem aM4 (k:Int):k=0\/k=1\/k=2\/k=3\/k=4\/((k==0)=false/\(k==1)=false/\(k==2)=false/\(k==3)=false/\(k==4)=false):=by simp;omega
theorem tY (h:Heap)(hh:WF h)(d:Dc)(hn:d.nm.length<=1099511627776)(hc:d.cs.length<=1048576)(hf:d.fs.length<=1048576):AC 218 [d.av] h (.p (.sl 1 (eI (bE d)))):=by
 have hk:=aM4 d.k;obtain⟨r,hr⟩:∃r,r=bE d:=⟨_,rfl⟩;rw[<-hr];unfold bE at hr;obtain⟨k,nm,ps,⟨k1,i1,n1,l1,s1⟩,⟨k2,i2,n2,l2,s2⟩,fx,cs,rp,⟨k3,i3,n3,l3,s3⟩,rr,fs⟩:=d;simp only at hn hc hf hr hk;refine y1a ?_;refine cW Tryz.func218 Tryz.ntmps218 ?_;rcases hk with rfl|rfl|rfl|rfl|rfl|⟨e0,e1,e2,e3,e4⟩
 ·rw[if_pos aB] at hr;refine aI3 ?_;refine y2a ?_;exact y31
 ·rw[if_pos aB] at hr;refine aFw ?_;refine zrx ?_;exact y31
 ·rw[if_pos aB] at hr;refine mE ?_;refine zrx ?_;exact y31
 ·rw[if_neg aB,if_pos rfl] at hr;refine xJ ?_;refine Run.regPre 2 fun K J=>?_
  refine yd ?_;simp;refine zi ?_;clear J;refine ya ?_;refine Run.buildV (sz:=1) (es:=[[sP nm]]) rfl (by simp[aJ]) aA aA ?_;refine zs ?_;refine zor ?_
  refine Run.loopS [1] (fun j:Nat=>j<=cs.length) (fun j=>cs.length-j) (fun j=>[(3, .vec (h.length+1) (j+1)),(4,iA j)])
   (fun j=>h++[some (.cells [iA 3, .p (sP nm),iA ps, .p (iP k1), .p (iP i1), .p (sP n1), .p (.sl 2 (aW l1)), .p (.sl 5 (aL s1)), .p (iP k2), .p (iP i2), .p (sP n2), .p (.sl 2 (aW l2)), .p (.sl 5 (aL s2)),iA fx, .p (.sl 6 (cs.map Ct.cells)),iA rp, .p (iP k3), .p (iP i3), .p (sP n3), .p (.sl 2 (aW l3)), .p (.sl 5 (aL s3)), .p (.sl 5 (aL rr)), .p (.sl 15 (fs.map Fu.cells))]),some (.vec 1 (eI (nm::(cs.take j).map Ct.nm)))]) 0 aA ?_ (by simp[eI]) ?_
  ·exact zS
  intro j hj IH;refine cI ?_
  by_cases hjl:j<cs.length
  ·have hg:cs[j]?=some cs[j]:=aYu hjl;have htk:cs.take (j+1)=cs.take j++[cs[j]]:=aZ5 hjl;have hmin:min j cs.length=j:=bAb hj;obtain⟨⟨x,y⟩,hxy⟩:∃c,cs[j]=c:=⟨_,rfl⟩;rw[hxy] at hg htk;refine dF hjl ?_;refine Run.regPre 8 fun K J=>?_
   refine yd ?_;simp[hg,Ct.cells];refine zi ?_;clear J;refine ya ?_;refine Run.appendV (id:=h.length+1) (es:=eI (nm::(cs.take j).map Ct.nm)) (ys:=[[sP x]]) (sz:=1) (by_:=16) (e:=9) rfl (by simp[aJ]) rfl rfl rfl rfl (by simp[hmin]) aA (jM _) aA aA aA (by simp;omega) (by simp;omega) ?_;simp[hmin];refine zor ?_;refine IH (j+1) _ _ aB aB ?_ ?_
   ·exact zS
   ·rw[htk];simp[eI]
  ·have hje:j=cs.length:=aB;subst hje;have hsz:nm.length+4<=9223372036854775807:=aB;have htl:List.take cs.length (cs.map Ct.nm)=cs.map Ct.nm:=aZ6 aA;rw[htl];refine dP ?_;refine Run.regPre 5 fun K J=>?_
   refine yd ?_;simp[hsz];refine zi ?_;clear J;refine ya ?_;refine Run.appendV (id:=h.length+1) (es:=eI (nm::cs.map Ct.nm)) (ys:=[[sP (nm++aJf)]]) (sz:=1) (by_:=16) (e:=9) rfl (by simp[aJ]) rfl rfl rfl rfl aA aA (jM _) (by simp[aJf]) aA aA (by simp;omega) (by simp;omega) ?_;refine zs ?_;refine zo ?_;refine Run.keep [2] ?_;simp;refine Run.freezeV 2 (id:=h.length+1) (n:=cs.length+1+1) (sz:=1) (es:=eI (nm::cs.map Ct.nm)++[[sP (nm++aJf)]]) aA aA (by rw[xC];exact jM _) aA ?_;simp;refine Run.ret ?_;refine zF1 hh ?_;exact⟨by rw[hr,xC];rfl,rfl⟩
 ·rw[if_neg aB,if_neg aB,if_pos rfl] at hr;refine mI ?_;refine yw ?_;refine yw ?_;refine yw ?_;refine y2g ?_;refine Run.tok 5 1 aA ?_;refine cI ?_
  refine Run.loopS [1] (fun j:Nat=>j<=fs.length) (fun j=>fs.length-j) (fun j=>[(5, .own (h.length+1) 1 (eI ((fs.take j).map Fu.nm))),(6,iA j)])
   (fun j=>h++[some (.cells [iA 4, .p (sP nm),iA ps, .p (iP k1), .p (iP i1), .p (sP n1), .p (.sl 2 (aW l1)), .p (.sl 5 (aL s1)), .p (iP k2), .p (iP i2), .p (sP n2), .p (.sl 2 (aW l2)), .p (.sl 5 (aL s2)),iA fx, .p (.sl 6 (cs.map Ct.cells)),iA rp, .p (iP k3), .p (iP i3), .p (sP n3), .p (.sl 2 (aW l3)), .p (.sl 5 (aL s3)), .p (.sl 5 (aL rr)), .p (.sl 15 (fs.map Fu.cells))]),some (.tok j 1)]) 0 aA ?_ aA ?_
  ·simp[eI];exact zK
  intro j hj IH;refine cI ?_
  by_cases hjl:j<fs.length
  ·have hg:fs[j]?=some fs[j]:=aYu hjl;have htk:fs.take (j+1)=fs.take j++[fs[j]]:=aZ5 hjl;have hmin:min j fs.length=j:=bAb hj;have hb1:(j+1)*16<=140737488355328:=aB;have hb2:j+1<=9223372036854775807:=aB;obtain⟨⟨x,y,z,w⟩,hxy⟩:∃c,fs[j]=c:=⟨_,rfl⟩;rw[hxy] at hg htk;refine dF hjl ?_;refine aYs hg hmin hb1 hb2 ?_;refine zr ?_;refine IH (j+1) _ _ aB aB ?_ ?_
   ·rw[htk];simp[eI];exact zK
   ·simp
  ·have hje:j=fs.length:=aB;subst hje;have htl:List.take fs.length (fs.map Fu.nm)=fs.map Fu.nm:=aZ6 aA;rw[htl];refine cY ?_;exact Fin.ret' (h0:=h) (xs:=[.own (h.length+1) 1 (eI (fs.map Fu.nm))]) aA rfl hh rfl aA rfl (Weak.own _ _ _) aA ⟨by rw[hr],rfl⟩
 ·rw[if_neg (by simp at e0 e1 e2;omega),if_neg (by simpa using e3),if_neg (by simpa using e4)] at hr;refine eZ e0 e1 e2 e3 ?_;refine zr1 e4 ?_;refine zf ?_;refine zrx ?_;exact Fin.ret' (h0:=h) (xs:=[.p (.prim (.slice none 0 0))]) aA rfl hh rfl aA rfl (Weak.nil 1) aA ⟨by rw[hr];rfl,rfl⟩
open Go Go.AI
theorem sZ (d:Dc)(a:Int)(s:List UInt8):∀(l:List Ct)(i j:Nat),(∀c∈l.take j,c.nm≠s)->nU d a s l i=nU d a s (l.drop j) (i+j)
 |l,i,0,_=>by simp
 |[],i,j+1,_=>by simp[nU]
 |c::l,i,j+1,h=>by
  simp only[nU,bB4];rw[if_neg (h c aA),sZ d a s l (i+1) j (fun x hx=>h x (by simp[hx]))]
  congr 1;omega
theorem tJ (d:Dc)(a:Int)(s:List UInt8):∀(l:List Fu)(i j:Nat),(∀c∈l.take j,c.nm≠s)->nV d a s l i=nV d a s (l.drop j) (i+j)
 |l,i,0,_=>by simp
 |[],i,j+1,_=>by simp[nV]
 |c::l,i,j+1,h=>by
  simp only[nV,bB4];rw[if_neg (h c aA),tJ d a s l (i+1) j (fun x hx=>h x (by simp[hx]))]
  congr 1;omega
theorem aPb {d:Dc} {a:Int} {s:List UInt8} {l:List Ct} {j:Nat} {c:Ct} (h:∀c∈l.take j,c.nm≠s)(hg:l[j]?=some c)(hc:c.nm=s):nU d a s l 0=some ⟨4,a,j,d.ps,c.ty⟩:=by
 obtain⟨hj,e⟩:=aYv.1 hg;rw[sZ d a s l 0 j h,bAu hj,e,nU,if_pos hc];simp
theorem aPq {d:Dc} {a:Int} {s:List UInt8} {l:List Fu} {j:Nat} {c:Fu} (h:∀c∈l.take j,c.nm≠s)(hg:l[j]?=some c)(hc:c.nm=s):nV d a s l 0=some ⟨6,a,j,d.ps,c.ty⟩:=by
 obtain⟨hj,e⟩:=aYv.1 hg;rw[tJ d a s l 0 j h,bAu hj,e,nV,if_pos hc];simp
theorem aL7 {d:Dc} {a:Int} {s:List UInt8} {l:List Ct} (h:∀c∈l,c.nm≠s):nU d a s l 0=none:=by
 rw[sZ d a s l 0 l.length (by simpa using h)];simp[nU]
theorem aLq {d:Dc} {a:Int} {s:List UInt8} {l:List Fu} (h:∀c∈l,c.nm≠s):nV d a s l 0=none:=by
 rw[tJ d a s l 0 l.length (by simpa using h)];simp[nV]
theorem aBc (h:Heap)(hh:WF h)(d:Dc)(a:Int)(s:List UInt8)(hc:d.cs.length<=1048576)(hf:d.fs.length<=1048576):ACalls Tryz.prog 219 [d.av,iA a, .p (sP s)] h fun o h'=>o= .ret (rL d a s).av/\h'=h:=by
 have hk:=aM4 d.k;obtain⟨r,hr⟩:∃r,r=rL d a s:=⟨_,rfl⟩;rw[<-hr];unfold rL at hr;have hit:=fun(j:Nat) (c:Ct) h1 h2 h3=>aPb (d:=d) (a:=a) (s:=s) (l:=d.cs) (j:=j) (c:=c) h1 h2 h3
 have fit:=fun(j:Nat) (c:Fu) h1 h2 h3=>aPq (d:=d) (a:=a) (s:=s) (l:=d.fs) (j:=j) (c:=c) h1 h2 h3
 have mis:=fun h1=>aL7 (d:=d) (a:=a) (s:=s) (l:=d.cs) h1
 have fis:=fun h1=>aLq (d:=d) (a:=a) (s:=s) (l:=d.fs) h1
 obtain⟨ce,hce⟩:∃ce,nU d a s d.cs 0=ce:=⟨_,rfl⟩;obtain⟨fe,hfe⟩:∃fe,nV d a s d.fs 0=fe:=⟨_,rfl⟩;rw[hce] at hr hit mis;rw[hfe] at hr fit fis;clear hce hfe;obtain⟨k,nm,ps,⟨k1,i1,n1,l1,s1⟩,⟨k2,i2,n2,l2,s2⟩,fx,cs,rp,⟨k3,i3,n3,l3,s3⟩,rr,fs⟩:=d;simp only at hc hf hr hk hit fit mis fis;refine y1a ?_;refine zE Tryz.func219 Tryz.ntmps219 ?_;refine iQ ?_;rcases hk with rfl|rfl|rfl|rfl|hk
 ·rw[if_pos aB] at hr;refine aRe ?_;refine zrx ?_;exact y31
 ·rw[if_pos aB] at hr;refine aOh ?_;refine zr ?_;refine zrx ?_;exact y31
 ·rw[if_pos aB] at hr;refine mE ?_;refine zr ?_;refine zrx ?_;exact y31
 ·rw[if_neg aB,if_pos rfl] at hr;refine nS ?_;refine zr ?_
  by_cases hs:s=nm
  ·rw[if_pos hs] at hr;refine fT hs ?_;exact y31
  rw[if_neg hs] at hr;refine dJ hs ?_;refine Run.loopS [1,2,3,6] (fun j:Nat=>j<=cs.length/\∀c∈cs.take j,c.nm≠s) (fun j=>cs.length-j) (fun j=>[(8,iA j)]) (fun _=>_) 0 aA ?_ rfl ?_
  ·exact zS
  rintro j ⟨hj,hall⟩ IH;refine cI ?_
  by_cases hjl:j<cs.length
  ·have hg:cs[j]?=some cs[j]:=aYu hjl;have htk:cs.take (j+1)=cs.take j++[cs[j]]:=aZ5 hjl;have hcx:=fun(h3:cs[j].nm=s)=>hit j cs[j] hall hg h3
   obtain⟨⟨x,⟨k4,i4,n4,l4,s4⟩⟩,hxy⟩:∃c,cs[j]=c:=⟨_,rfl⟩;rw[hxy] at hg htk hcx;refine dF hjl ?_;refine aOl hg ?_
   by_cases hx:x=s
   ·rw[hcx hx] at hr;refine dF hx ?_;refine y1d ?_;refine aUl hg ?_;refine y9 ?_;refine znx ?_;exact y31
   ·exact y65
  ·have hje:j=cs.length:=aB;subst hje;rw[aZl] at hall;rw[mis hall] at hr;refine cY ?_;exact y31
 ·have hk':(k==0)=false/\(k==1)=false/\(k==2)=false/\(k==3)=false:=by
   rcases hk with rfl|h5
   ·decide
   ·exact⟨h5.1,h5.2.1,h5.2.2.1,h5.2.2.2.1⟩
  obtain⟨e0,e1,e2,e3⟩:=hk';rw[if_neg (by simp at e0 e1 e2;omega),if_neg (by simpa using e3)] at hr;refine eZ e0 e1 e2 e3 ?_;refine zr ?_;refine Run.loopS [1,2,3,6,7] (fun j:Nat=>j<=fs.length/\∀c∈fs.take j,c.nm≠s) (fun j=>fs.length-j) (fun j=>[(9,iA j)]) (fun _=>_) 0 aA ?_ rfl ?_
  ·exact zS
  rintro j ⟨hj,hall⟩ IH;refine cI ?_
  by_cases hjl:j<fs.length
  ·have hg:fs[j]?=some fs[j]:=aYu hjl;have htk:fs.take (j+1)=fs.take j++[fs[j]]:=aZ5 hjl;have hcx:=fun(h3:fs[j].nm=s)=>fit j fs[j] hall hg h3
   obtain⟨⟨x,⟨k4,i4,n4,l4,s4⟩,z,w⟩,hxy⟩:∃c,fs[j]=c:=⟨_,rfl⟩;rw[hxy] at hg htk hcx;refine dF hjl ?_;refine aYt hg ?_
   by_cases hx:x=s
   ·rw[hcx hx] at hr;refine dF hx ?_;refine y1d ?_;refine aWo hg ?_;refine y9 ?_;refine znx ?_;exact y31
   ·exact y65
  ·have hje:j=fs.length:=aB;subst hje;rw[aZl] at hall;rw[fis hall] at hr;refine cY ?_;exact y31
def aK (env:List Dc)(s:List UInt8):En×Int:=match dH s env 0 with
 |some e=>(e,0)
 |none=>(zEn,9)
def Env.short (env:List Dc):Prop:=∀d∈env,d.nm.length<=200
theorem pP (s:List UInt8):∀(env:List Dc)(i j:Nat),(∀d∈env.take j,s∉bE d)->dH s env i=dH s (env.drop j) (i+j)
 |env,i,0,_=>by simp
 |[],i,j+1,_=>by simp[dH]
 |d::env,i,j+1,h=>by
  simp only[dH,bB4];rw[if_neg (h d aA),pP s env (i+1) j (fun x hx=>h x (by simp[hx]))]
  congr 1;omega
theorem aBh {s:List UInt8} {env:List Dc} {j:Nat} {d:Dc} (h:∀c∈env.take j,s∉bE c)(hg:env[j]?=some d)(hc:s∈bE d):dH s env 0=some (rL d j s):=by
 obtain⟨hj,e⟩:=aYv.1 hg;rw[pP s env 0 j h,bAu hj,e,dH,if_pos hc];simp
theorem aIm {s:List UInt8} {env:List Dc} (h:∀c∈env,s∉bE c):dH s env 0=none:=by
 rw[pP s env 0 env.length (by simpa using h)];simp[dH]
theorem pR (d:Dc)(hc:d.cs.length<=1048576)(hf:d.fs.length<=1048576):(bE d).length<=1048578:=by
 unfold bE;split
 ·simp
 ·split
  ·simp;omega
  ·split
   ·simp;omega
   ·simp
theorem aGs:Weak (.agg [iA 0,iA 0,iA 0,iA 0,iA 0,iA 0, .p (sP []), .p (.prim (.slice none 0 0)), .p (.prim (.slice none 0 0))]) zEn.av:=by
 simp only[zEn,En.av,En.cells,zT,aH,List.map,aW,aL];exact y3n
theorem iG (h:Heap)(hh:WF h)(env:List Dc)(s:List UInt8)(hg:Env.good env)(hn:Env.short env):AC 180 [bW env, .p (sP s)] h (.tup [(aK env s).1.av,iA (aK env s).2]):=by
 obtain⟨hl,hg⟩:=hg;obtain⟨r,hr⟩:∃r,r=aK env s:=⟨_,rfl⟩;rw[<-hr];unfold aK at hr;refine cW Tryz.func180 Tryz.ntmps180 ?_;refine Run.loopS [0,1,4] (fun j:Nat=>j<=env.length/\∀d∈env.take j,s∉bE d) (fun j=>env.length-j) (fun j=>[(6,iA j)]) (fun _=>_) 0 aA ?_ rfl ?_
 ·exact zS
 rintro j ⟨hj,hall⟩ IH;refine cI ?_
 by_cases hjl:j<env.length
 ·have hge:env[j]?=some env[j]:=aYu hjl;have hmem:env[j]∈env:=aYx hjl;have htk:env.take (j+1)=env.take j++[env[j]]:=aZ5 hjl;have hhit:=fun(hc:s∈bE env[j])=>aBh hall hge hc
  have hd:=hg _ hmem;have hdn:=hn _ hmem;have hdl:=aZ env[j];generalize env[j]=d at hge htk hhit hd hdn hdl;clear hmem;have hnl:=pR d hd.csl hd.fsl;have c1:=fun g hw=>tY g hw d aB hd.csl hd.fsl
  have c2:=fun g hw=>aE9 g hw (bE d) s aB
  have c3:=fun g hw=>aBc g hw d j s hd.csl hd.fsl
  have htd:List.take 23 (d.cells.map AV.p)=d.cells.map .p:=aZ6 (by simp[hdl]);simp only[Dc.av] at c1 c3;refine dF hjl ?_;refine zr3 hge hdl htd ?_;refine zL (c1 _ (hh.app aA)) ?_;refine zo ?_;refine zL (c2 _ (hh.app aA)) ?_
  by_cases hs:s∈bE d
  ·rw[hhit hs] at hr;obtain⟨e,he⟩:∃e,e=rL d j s:=⟨_,rfl⟩;rw[<-he] at c3 hr;obtain⟨a1,a2,a3,a4,⟨k,i,n,ls,ks⟩⟩:=e;simp only[En.av,En.cells,aH,List.map] at c3;refine zo1 hs ?_;refine zt ?_;refine zr3 hge hdl htd ?_;refine zL (c3 _ (hh.app aA)) ?_;refine zox ?_;refine Fin.ret' (h0:=h) aA rfl hh rfl aE rfl (Weak.refl _) aA ⟨by rw[hr];rfl,rfl⟩
  ·refine zo1 hs ?_;refine yw ?_;refine IH (j+1) _ _ ⟨by omega,?_⟩ aB ?_ rfl
   ·rw[htk];intro c hc';rcases aZn.1 hc' with h1|h1
    ·exact hall c h1
    ·simp at h1;rw[h1];exact hs
   ·exact zS
 ·have hje:j=env.length:=aB;subst hje;rw[aZl] at hall;rw[aIm hall] at hr;refine cY ?_;refine Fin.ret' (h0:=h) (xs:=[.agg [iA 0,iA 0,iA 0,iA 0,iA 0,iA 0, .p (sP []), .p (.prim (.slice none 0 0)), .p (.prim (.slice none 0 0))],iA 9]) aA rfl hh rfl aA rfl (Weak.tup (WeakL.cons aGs (WeakL.refl _))) (by simp[zEn,En.av,En.cells,zT]) ⟨by rw[hr],rfl⟩
end Go.Proofs.YtcfcolkbeelegaaGreat
