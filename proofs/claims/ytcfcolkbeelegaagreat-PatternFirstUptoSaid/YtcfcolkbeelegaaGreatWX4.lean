import Derived.Test.YtcfcolkbeelegaaGreatWA0
import Derived.Test.YtcfcolkbeelegaaGreatWX2
import Derived.Test.YtcfcolkbeelegaaGreatWM2
set_option maxRecDepth 8000
set_option maxHeartbeats 16000000
namespace Go.AI
open Go
@[simp] theorem aUl (a b:List UInt8):(ByteArray.mk a.toArray++ByteArray.mk b.toArray)=ByteArray.mk (a++b).toArray:=by
 apply ByteArray.ext;simp
@[simp] theorem aWv (a:List UInt8):(ByteArray.mk a.toArray).size=a.length:=by simp[ByteArray.size]
end Go.AI
namespace Go.Proofs.YtcfcolkbeelegaaGreat
open Go Go.AI
theorem jC (l:List (List UInt8)):∀e∈eH l,e.length=1:=by
 intro e he;obtain⟨z,_,rfl⟩:=aZ7.1 he
 rfl
theorem wU (l:List (List UInt8))(s:List UInt8):eH l++[[sP s]]=eH (l++[s]):=by simp[eH]
@[simp] theorem aSv (l:List Ct) (j:Nat):(l.map Ct.cells)[j]?=(l[j]?).map Ct.cells:=aA
theorem aLk (k:Int):k=0\/k=1\/k=2\/k=3\/k=4\/((k==0)=false/\(k==1)=false/\(k==2)=false/\(k==3)=false/\(k==4)=false):=by simp;omega
theorem tR (h:Heap)(hh:WF h)(d:Dc)(hn:d.nm.length<=1099511627776)(hc:d.cs.length<=1048576)(hf:d.fs.length<=1048576):AC 218 [d.av] h (.p (.sl 1 (eH (bE d)))):=by
 have hk:=aLk d.k;obtain⟨r,hr⟩:∃r,r=bE d:=⟨_,rfl⟩;rw[<-hr];unfold bE at hr;obtain⟨k,nm,ps,⟨k1,i1,n1,l1,s1⟩,⟨k2,i2,n2,l2,s2⟩,fx,cs,rp,⟨k3,i3,n3,l3,s3⟩,rr,fs⟩:=d;simp only at hn hc hf hr hk;refine y1a ?_;refine cR Tryz.func218 Tryz.ntmps218 ?_;rcases hk with rfl|rfl|rfl|rfl|rfl|⟨e0,e1,e2,e3,e4⟩
 ·rw[if_pos aB] at hr;refine aHm ?_;refine y2a ?_;exact y32
 ·rw[if_pos aB] at hr;refine aFh ?_;refine zrx ?_;exact y32
 ·rw[if_pos aB] at hr;refine lW ?_;refine zrx ?_;exact y32
 ·rw[if_neg aB,if_pos rfl] at hr;refine xB ?_;refine Run.regPre 2 fun K J=>?_
  refine yd ?_;simp;refine zi ?_;clear J;refine ya ?_;refine Run.buildV (sz:=1) (es:=[[sP nm]]) rfl (by simp[aI]) aA aA ?_;refine zs ?_;refine zor ?_
  refine Run.loopS [1] (fun j:Nat=>j<=cs.length) (fun j=>cs.length-j) (fun j=>[(3, .vec (h.length+1) (j+1)),(4,iA j)])
   (fun j=>h++[some (.cells [iA 3, .p (sP nm),iA ps, .p (iP k1), .p (iP i1), .p (sP n1), .p (.sl 2 (aW l1)), .p (.sl 5 (aL s1)), .p (iP k2), .p (iP i2), .p (sP n2), .p (.sl 2 (aW l2)), .p (.sl 5 (aL s2)),iA fx, .p (.sl 6 (cs.map Ct.cells)),iA rp, .p (iP k3), .p (iP i3), .p (sP n3), .p (.sl 2 (aW l3)), .p (.sl 5 (aL s3)), .p (.sl 5 (aL rr)), .p (.sl 15 (fs.map Fu.cells))]),some (.vec 1 (eH (nm::(cs.take j).map Ct.nm)))]) 0 aA ?_ (by simp[eH]) ?_
  ·exact zS
  intro j hj IH;refine cC ?_
  by_cases hjl:j<cs.length
  ·have hg:cs[j]?=some cs[j]:=aYb hjl;have htk:cs.take (j+1)=cs.take j++[cs[j]]:=aYm hjl;have hmin:min j cs.length=j:=aZs hj;obtain⟨⟨x,y⟩,hxy⟩:∃c,cs[j]=c:=⟨_,rfl⟩;rw[hxy] at hg htk;refine dD hjl ?_;refine Run.regPre 8 fun K J=>?_
   refine yd ?_;simp[hg,Ct.cells];refine zi ?_;clear J;refine ya ?_;refine Run.appendV (id:=h.length+1) (es:=eH (nm::(cs.take j).map Ct.nm)) (ys:=[[sP x]]) (sz:=1) (by_:=16) (e:=9) rfl (by simp[aI]) rfl rfl rfl rfl (by simp[hmin]) aA (jC _) aA aA aA (by simp;omega) (by simp;omega) ?_;simp[hmin];refine zor ?_;refine IH (j+1) _ _ aB aB ?_ ?_
   ·exact zS
   ·rw[htk];simp[eH]
  ·have hje:j=cs.length:=aB;subst hje;have hsz:nm.length+4<=9223372036854775807:=aB;have htl:List.take cs.length (cs.map Ct.nm)=cs.map Ct.nm:=aYn aA;rw[htl];refine dJ ?_;refine Run.regPre 5 fun K J=>?_
   refine yd ?_;simp[hsz];refine zi ?_;clear J;refine ya ?_;refine Run.appendV (id:=h.length+1) (es:=eH (nm::cs.map Ct.nm)) (ys:=[[sP (nm++aIy)]]) (sz:=1) (by_:=16) (e:=9) rfl (by simp[aI]) rfl rfl rfl rfl aA aA (jC _) (by simp[aIy]) aA aA (by simp;omega) (by simp;omega) ?_;refine zs ?_;refine zo ?_;refine Run.keep [2] ?_;simp;refine Run.freezeV 2 (id:=h.length+1) (n:=cs.length+1+1) (sz:=1) (es:=eH (nm::cs.map Ct.nm)++[[sP (nm++aIy)]]) aA aA (by rw[wU];exact jC _) aA ?_;simp;refine Run.ret ?_;refine zF1 hh ?_;exact⟨by rw[hr,wU];rfl,rfl⟩
 ·rw[if_neg aB,if_neg aB,if_pos rfl] at hr;refine nJ ?_;refine yw ?_;refine yw ?_;refine yw ?_;refine y2g ?_;refine Run.tok 5 1 aA ?_;refine cC ?_
  refine Run.loopS [1] (fun j:Nat=>j<=fs.length) (fun j=>fs.length-j) (fun j=>[(5, .own (h.length+1) 1 (eH ((fs.take j).map Fu.nm))),(6,iA j)])
   (fun j=>h++[some (.cells [iA 4, .p (sP nm),iA ps, .p (iP k1), .p (iP i1), .p (sP n1), .p (.sl 2 (aW l1)), .p (.sl 5 (aL s1)), .p (iP k2), .p (iP i2), .p (sP n2), .p (.sl 2 (aW l2)), .p (.sl 5 (aL s2)),iA fx, .p (.sl 6 (cs.map Ct.cells)),iA rp, .p (iP k3), .p (iP i3), .p (sP n3), .p (.sl 2 (aW l3)), .p (.sl 5 (aL s3)), .p (.sl 5 (aL rr)), .p (.sl 15 (fs.map Fu.cells))]),some (.tok j 1)]) 0 aA ?_ aA ?_
  ·simp[eH];exact zK
  intro j hj IH;refine cC ?_
  by_cases hjl:j<fs.length
  ·have hg:fs[j]?=some fs[j]:=aYb hjl;have htk:fs.take (j+1)=fs.take j++[fs[j]]:=aYm hjl;have hmin:min j fs.length=j:=aZs hj;have hb1:(j+1)*16<=140737488355328:=aB;have hb2:j+1<=9223372036854775807:=aB;obtain⟨⟨x,y,z,w⟩,hxy⟩:∃c,fs[j]=c:=⟨_,rfl⟩;rw[hxy] at hg htk;refine dD hjl ?_;refine aY9 hg hmin hb1 hb2 ?_;refine zr ?_;refine IH (j+1) _ _ aB aB ?_ ?_
   ·rw[htk];simp[eH];exact zK
   ·simp
  ·have hje:j=fs.length:=aB;subst hje;have htl:List.take fs.length (fs.map Fu.nm)=fs.map Fu.nm:=aYn aA;rw[htl];refine cQ ?_;exact Fin.ret' (h0:=h) (xs:=[.own (h.length+1) 1 (eH (fs.map Fu.nm))]) aA rfl hh rfl aA rfl (Weak.own _ _ _) aA ⟨by rw[hr],rfl⟩
 ·rw[if_neg (by simp at e0 e1 e2;omega),if_neg (by simpa using e3),if_neg (by simpa using e4)] at hr;refine eX e0 e1 e2 e3 ?_;refine zr1 e4 ?_;refine zf ?_;refine zrx ?_;exact Fin.ret' (h0:=h) (xs:=[.p (.prim (.slice none 0 0))]) aA rfl hh rfl aA rfl (Weak.nil 1) aA ⟨by rw[hr];rfl,rfl⟩
open Go Go.AI
theorem sQ (d:Dc)(a:Int)(s:List UInt8):∀(l:List Ct)(i j:Nat),(∀c∈l.take j,c.nm≠s)->nR d a s l i=nR d a s (l.drop j) (i+j)
 |l,i,0,_=>by simp
 |[],i,j+1,_=>by simp[nR]
 |c::l,i,j+1,h=>by
  simp only[nR,bAl];rw[if_neg (h c aA),sQ d a s l (i+1) j (fun x hx=>h x (by simp[hx]))]
  congr 1;omega
theorem tB (d:Dc)(a:Int)(s:List UInt8):∀(l:List Fu)(i j:Nat),(∀c∈l.take j,c.nm≠s)->nX d a s l i=nX d a s (l.drop j) (i+j)
 |l,i,0,_=>by simp
 |[],i,j+1,_=>by simp[nX]
 |c::l,i,j+1,h=>by
  simp only[nX,bAl];rw[if_neg (h c aA),tB d a s l (i+1) j (fun x hx=>h x (by simp[hx]))]
  congr 1;omega
theorem aOt {d:Dc} {a:Int} {s:List UInt8} {l:List Ct} {j:Nat} {c:Ct} (h:∀c∈l.take j,c.nm≠s)(hg:l[j]?=some c)(hc:c.nm=s):nR d a s l 0=some ⟨4,a,j,d.ps,c.ty⟩:=by
 obtain⟨hj,e⟩:=aYc.1 hg;rw[sQ d a s l 0 j h,bAb hj,e,nR,if_pos hc];simp
theorem aP9 {d:Dc} {a:Int} {s:List UInt8} {l:List Fu} {j:Nat} {c:Fu} (h:∀c∈l.take j,c.nm≠s)(hg:l[j]?=some c)(hc:c.nm=s):nX d a s l 0=some ⟨6,a,j,d.ps,c.ty⟩:=by
 obtain⟨hj,e⟩:=aYc.1 hg;rw[tB d a s l 0 j h,bAb hj,e,nX,if_pos hc];simp
theorem aKq {d:Dc} {a:Int} {s:List UInt8} {l:List Ct} (h:∀c∈l,c.nm≠s):nR d a s l 0=none:=by
 rw[sQ d a s l 0 l.length (by simpa using h)];simp[nR]
theorem aL8 {d:Dc} {a:Int} {s:List UInt8} {l:List Fu} (h:∀c∈l,c.nm≠s):nX d a s l 0=none:=by
 rw[tB d a s l 0 l.length (by simpa using h)];simp[nX]
theorem aB1 (h:Heap)(hh:WF h)(d:Dc)(a:Int)(s:List UInt8)(hc:d.cs.length<=1048576)(hf:d.fs.length<=1048576):ACalls Tryz.prog 219 [d.av,iA a, .p (sP s)] h fun o h'=>o= .ret (rM d a s).av/\h'=h:=by
 have hk:=aLk d.k;obtain⟨r,hr⟩:∃r,r=rM d a s:=⟨_,rfl⟩;rw[<-hr];unfold rM at hr;have hit:=fun(j:Nat) (c:Ct) h1 h2 h3=>aOt (d:=d) (a:=a) (s:=s) (l:=d.cs) (j:=j) (c:=c) h1 h2 h3
 have fit:=fun(j:Nat) (c:Fu) h1 h2 h3=>aP9 (d:=d) (a:=a) (s:=s) (l:=d.fs) (j:=j) (c:=c) h1 h2 h3
 have mis:=fun h1=>aKq (d:=d) (a:=a) (s:=s) (l:=d.cs) h1
 have fis:=fun h1=>aL8 (d:=d) (a:=a) (s:=s) (l:=d.fs) h1
 obtain⟨ce,hce⟩:∃ce,nR d a s d.cs 0=ce:=⟨_,rfl⟩;obtain⟨fe,hfe⟩:∃fe,nX d a s d.fs 0=fe:=⟨_,rfl⟩;rw[hce] at hr hit mis;rw[hfe] at hr fit fis;clear hce hfe;obtain⟨k,nm,ps,⟨k1,i1,n1,l1,s1⟩,⟨k2,i2,n2,l2,s2⟩,fx,cs,rp,⟨k3,i3,n3,l3,s3⟩,rr,fs⟩:=d;simp only at hc hf hr hk hit fit mis fis;refine y1a ?_;refine zE Tryz.func219 Tryz.ntmps219 ?_;refine iK ?_;rcases hk with rfl|rfl|rfl|rfl|hk
 ·rw[if_pos aB] at hr;refine aQw ?_;refine zrx ?_;exact y32
 ·rw[if_pos aB] at hr;refine aO0 ?_;refine zr ?_;refine zrx ?_;exact y32
 ·rw[if_pos aB] at hr;refine lW ?_;refine zr ?_;refine zrx ?_;exact y32
 ·rw[if_neg aB,if_pos rfl] at hr;refine nK ?_;refine zr ?_
  by_cases hs:s=nm
  ·rw[if_pos hs] at hr;refine fT hs ?_;exact y32
  rw[if_neg hs] at hr;refine dI hs ?_;refine Run.loopS [1,2,3,6] (fun j:Nat=>j<=cs.length/\∀c∈cs.take j,c.nm≠s) (fun j=>cs.length-j) (fun j=>[(8,iA j)]) (fun _=>_) 0 aA ?_ rfl ?_
  ·exact zS
  rintro j ⟨hj,hall⟩ IH;refine cC ?_
  by_cases hjl:j<cs.length
  ·have hg:cs[j]?=some cs[j]:=aYb hjl;have htk:cs.take (j+1)=cs.take j++[cs[j]]:=aYm hjl;have hcx:=fun(h3:cs[j].nm=s)=>hit j cs[j] hall hg h3
   obtain⟨⟨x,⟨k4,i4,n4,l4,s4⟩⟩,hxy⟩:∃c,cs[j]=c:=⟨_,rfl⟩;rw[hxy] at hg htk hcx;refine dD hjl ?_;refine aO3 hg ?_
   by_cases hx:x=s
   ·rw[hcx hx] at hr;refine dD hx ?_;refine y1d ?_;refine aU4 hg ?_;refine y9 ?_;refine znx ?_;exact y32
   ·exact y66
  ·have hje:j=cs.length:=aB;subst hje;rw[aZ2] at hall;rw[mis hall] at hr;refine cQ ?_;exact y32
 ·have hk':(k==0)=false/\(k==1)=false/\(k==2)=false/\(k==3)=false:=by
   rcases hk with rfl|h5
   ·decide
   ·exact⟨h5.1,h5.2.1,h5.2.2.1,h5.2.2.2.1⟩
  obtain⟨e0,e1,e2,e3⟩:=hk';rw[if_neg (by simp at e0 e1 e2;omega),if_neg (by simpa using e3)] at hr;refine eX e0 e1 e2 e3 ?_;refine zr ?_;refine Run.loopS [1,2,3,6,7] (fun j:Nat=>j<=fs.length/\∀c∈fs.take j,c.nm≠s) (fun j=>fs.length-j) (fun j=>[(9,iA j)]) (fun _=>_) 0 aA ?_ rfl ?_
  ·exact zS
  rintro j ⟨hj,hall⟩ IH;refine cC ?_
  by_cases hjl:j<fs.length
  ·have hg:fs[j]?=some fs[j]:=aYb hjl;have htk:fs.take (j+1)=fs.take j++[fs[j]]:=aYm hjl;have hcx:=fun(h3:fs[j].nm=s)=>fit j fs[j] hall hg h3
   obtain⟨⟨x,⟨k4,i4,n4,l4,s4⟩,z,w⟩,hxy⟩:∃c,fs[j]=c:=⟨_,rfl⟩;rw[hxy] at hg htk hcx;refine dD hjl ?_;refine aYa hg ?_
   by_cases hx:x=s
   ·rw[hcx hx] at hr;refine dD hx ?_;refine y1d ?_;refine aW6 hg ?_;refine y9 ?_;refine znx ?_;exact y32
   ·exact y66
  ·have hje:j=fs.length:=aB;subst hje;rw[aZ2] at hall;rw[fis hall] at hr;refine cQ ?_;exact y32
def aK (env:List Dc)(s:List UInt8):En×Int:=match dG s env 0 with
 |some e=>(e,0)
 |none=>(zEn,9)
def Env.short (env:List Dc):Prop:=∀d∈env,d.nm.length<=200
theorem pG (s:List UInt8):∀(env:List Dc)(i j:Nat),(∀d∈env.take j,s∉bE d)->dG s env i=dG s (env.drop j) (i+j)
 |env,i,0,_=>by simp
 |[],i,j+1,_=>by simp[dG]
 |d::env,i,j+1,h=>by
  simp only[dG,bAl];rw[if_neg (h d aA),pG s env (i+1) j (fun x hx=>h x (by simp[hx]))]
  congr 1;omega
theorem aB6 {s:List UInt8} {env:List Dc} {j:Nat} {d:Dc} (h:∀c∈env.take j,s∉bE c)(hg:env[j]?=some d)(hc:s∈bE d):dG s env 0=some (rM d j s):=by
 obtain⟨hj,e⟩:=aYc.1 hg;rw[pG s env 0 j h,bAb hj,e,dG,if_pos hc];simp
theorem aI6 {s:List UInt8} {env:List Dc} (h:∀c∈env,s∉bE c):dG s env 0=none:=by
 rw[pG s env 0 env.length (by simpa using h)];simp[dG]
theorem pJ (d:Dc)(hc:d.cs.length<=1048576)(hf:d.fs.length<=1048576):(bE d).length<=1048578:=by
 unfold bE;split
 ·simp
 ·split
  ·simp;omega
  ·split
   ·simp;omega
   ·simp
theorem aGd:Weak (.agg [iA 0,iA 0,iA 0,iA 0,iA 0,iA 0, .p (sP []), .p (.prim (.slice none 0 0)), .p (.prim (.slice none 0 0))]) zEn.av:=by
 simp only[zEn,En.av,En.cells,zT,aG,List.map,aW,aL];exact y3o
theorem iD (h:Heap)(hh:WF h)(env:List Dc)(s:List UInt8)(hg:Env.good env)(hn:Env.short env):AC 180 [bW env, .p (sP s)] h (.tup [(aK env s).1.av,iA (aK env s).2]):=by
 obtain⟨hl,hg⟩:=hg;obtain⟨r,hr⟩:∃r,r=aK env s:=⟨_,rfl⟩;rw[<-hr];unfold aK at hr;refine cR Tryz.func180 Tryz.ntmps180 ?_;refine Run.loopS [0,1,4] (fun j:Nat=>j<=env.length/\∀d∈env.take j,s∉bE d) (fun j=>env.length-j) (fun j=>[(6,iA j)]) (fun _=>_) 0 aA ?_ rfl ?_
 ·exact zS
 rintro j ⟨hj,hall⟩ IH;refine cC ?_
 by_cases hjl:j<env.length
 ·have hge:env[j]?=some env[j]:=aYb hjl;have hmem:env[j]∈env:=aYe hjl;have htk:env.take (j+1)=env.take j++[env[j]]:=aYm hjl;have hhit:=fun(hc:s∈bE env[j])=>aB6 hall hge hc
  have hd:=hg _ hmem;have hdn:=hn _ hmem;have hdl:=aZ env[j];generalize env[j]=d at hge htk hhit hd hdn hdl;clear hmem;have hnl:=pJ d hd.csl hd.fsl;have c1:=fun g hw=>tR g hw d aB hd.csl hd.fsl
  have c2:=fun g hw=>aDx g hw (bE d) s aB
  have c3:=fun g hw=>aB1 g hw d j s hd.csl hd.fsl
  have htd:List.take 23 (d.cells.map AV.p)=d.cells.map .p:=aYn (by simp[hdl]);simp only[Dc.av] at c1 c3;refine dD hjl ?_;refine zr3 hge hdl htd ?_;refine zL (c1 _ (hh.app aA)) ?_;refine zo ?_;refine zL (c2 _ (hh.app aA)) ?_
  by_cases hs:s∈bE d
  ·rw[hhit hs] at hr;obtain⟨e,he⟩:∃e,e=rM d j s:=⟨_,rfl⟩;rw[<-he] at c3 hr;obtain⟨a1,a2,a3,a4,⟨k,i,n,ls,ks⟩⟩:=e;simp only[En.av,En.cells,aG,List.map] at c3;refine zo1 hs ?_;refine zt ?_;refine zr3 hge hdl htd ?_;refine zL (c3 _ (hh.app aA)) ?_;refine zox ?_;refine Fin.ret' (h0:=h) aA rfl hh rfl aE rfl (Weak.refl _) aA ⟨by rw[hr];rfl,rfl⟩
  ·refine zo1 hs ?_;refine yw ?_;refine IH (j+1) _ _ ⟨by omega,?_⟩ aB ?_ rfl
   ·rw[htk];intro c hc';rcases aZ4.1 hc' with h1|h1
    ·exact hall c h1
    ·simp at h1;rw[h1];exact hs
   ·exact zS
 ·have hje:j=env.length:=aB;subst hje;rw[aZ2] at hall;rw[aI6 hall] at hr;refine cQ ?_;refine Fin.ret' (h0:=h) (xs:=[.agg [iA 0,iA 0,iA 0,iA 0,iA 0,iA 0, .p (sP []), .p (.prim (.slice none 0 0)), .p (.prim (.slice none 0 0))],iA 9]) aA rfl hh rfl aA rfl (Weak.tup (WeakL.cons aGd (WeakL.refl _))) (by simp[zEn,En.av,En.cells,zT]) ⟨by rw[hr],rfl⟩
end Go.Proofs.YtcfcolkbeelegaaGreat
