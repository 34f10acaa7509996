import Derived.Test.YtcfcolkbeelegaaGreatWA0
import Derived.Test.YtcfcolkbeelegaaGreatWWM
import Derived.Test.YtcfcolkbeelegaaGreatWFR
import Derived.Test.YtcfcolkbeelegaaGreatWFLP
import Derived.Test.YtcfcolkbeelegaaGreatWG1
namespace Go.Proofs.YtcfcolkbeelegaaGreat
open Go Go.AI
theorem aLt (h:Heap)(hh:WF h):ACalls Tryz.prog 23 [] h fun o h'=>o= .ret (.ptr h.length 0)/\h'=h++[ktB ⟨0,0,0,1000,false⟩]:=by
 refine ACalls.of_run Tryz.func23 rfl ?_;simp only[Tryz.ntmps23,aYj];refine aD8 ?_;exact Fin.retM (h0:=h++[ktB ⟨0,0,0,1000,false⟩]) (l:=[]) aA aA (hh.app aA) (aYh _).symm aE rfl (Weak.refl _) aA ⟨rfl,rfl⟩
theorem aPh:K2 ⟨0,0,0,1000,false⟩:=⟨⟨rfl,fun _=>by decide⟩,fun _=>by decide⟩
set_option maxRecDepth 8000 in
set_option maxHeartbeats 16000000 in
theorem rF (h:Heap)(hh:WF h)(env:List Dc)(hg:Env.good env)(cls:List Cl)(hs:PSmall cls [])(ts:List Tm)(hsz:Tm.sizes ts<=1048576)(hlv:Tm.lvss ts)(hft:Tm.fits ts)(hgt:∀t∈ts,t.good):
  AC 6 [bW env, .p (.sl 6 (vG cls)), .p (.sl 5 (aL ts))] h (bA true):=by
 have c1:∀(g:Heap) (hw:WF g),ACalls Tryz.prog 19 [bW env, .p (.sl 6 (vG cls)), .p (.prim (.slice none 0 0))] g fun o h'=>aJr (fun b=>b=true->aQ env) o/\h'=g:=fun g hw=>
  ACalls.weak (args':=[bW env, .p (.sl 6 (vG cls)), .p (.sl 3 (bX []))]) (WeakL.cons (Weak.refl _) (WeakL.cons (Weak.refl _) (WeakL.cons (Weak.nil _) WeakL.nil))) (aL0 env hg cls [] hs g hw)
 have c2:=fun g hw=>aDj g hw
 have c3:=fun g hw=>aCh g hw env ts hg hsz hlv hft hgt
 have hcl:=hs.cl;have htl:=aR ts;refine cR Tryz.func6 Tryz.ntmps6 ?_;refine zB (c1 _ hh) fun b hb=>?_
 cases b with
 |false=>
  refine aO1 ?_;exact y54
 |true=>
 have hf:=hb rfl;clear hb
 by_cases h4:ts.length<=4
 rotate_left
 ·have h4b:decide ((4:Int)<(ts.length:Int))=true:=by simp;omega
  refine zo1 h4b ?_;refine y2g ?_;exact y54
 have h4b:decide ((4:Int)<(ts.length:Int))=false:=by simp;omega
 refine zo1 h4b ?_;refine zB (c3 _ hh) fun b hb=>?_
 cases b with
 |false=>
  refine aO1 ?_;exact y54
 |true=>
 have hat:=aVd hlv (hb rfl).2.2;clear hb;refine zo ?_;refine zf ?_;have cL:=fun g hw=>aLt g hw
 have cM:=fun(h:Heap) (hh:WF h) q hq=>(aJ0 hg hf cls ts hs hat aB ⟨0,0,0,1000,false⟩ aPh q h hh hq).mono fun o h' e=>(⟨e.1,e.2.1⟩:_/\_)
 have c4:=fun(cls:List Cl) (hs:PSmall cls []) (g:Heap) (hw:WF g)=>pP env hf hg (vB env) Gin (whW hg hf) cls ts hs (fun t ht=>Gin.of_at (hat t ht)) aB g hw
 have hfi:=aP5 hg hf (W:=vB env) (fun t ht h a ha=>(uZ hg hf (Gin.of_at ht) h).args a ha) cls ts hat;generalize pT env cls ts ⟨0,0,0,1000,false⟩=rr at cM;obtain⟨⟨r1,r2,r3⟩,c⟩:=rr;have c5:=c4 cls hs;generalize kD (vB env) env cls ts=M at c5 hfi;obtain⟨m1,m2,m3⟩:=M;simp only[mtA] at cM c5;simp only at hfi;refine znr ?_;refine zL (cL _ hh) ?_;refine zor ?_;obtain⟨st,nd,fo,lm,ov⟩:=c;refine zL (cM _ (hh.app aA) h.length aA) ?_;refine zor ?_;refine zL (c5 _ (hh.app aA)) ?_;refine zo ?_
 cases ov with
 |true=>
  refine aQw ?_;exact y5a
 |false=>
 rcases hfi with ⟨j,cc,l,e1,⟨rfl,rfl,rfl⟩,e3,e4,e5,e6,e7⟩|⟨e1,e2⟩
 rotate_left
 ·change m2=[] at e1;change m3≠0 at e2;subst e1;have e2b:(m3 !=(0:Int))=true:=by simpa using e2
  refine aNz e2b ?_;exact y5a
 have hjl:=(aYc.1 e1).1;have hmem:=aYq e1;have hone:∀c∈cls,PSmall [c] []:=fun c hc=>⟨by simp,fun x hx=>by simp at hx;subst hx;exact hs.cs _ hc,by simp[Pt.sizes]⟩
 have hsl:∀(k:Nat) (c:Cl),cls[k]?=some c->List.drop k (List.take (k+1) (vG cls))=vG [c]:=fun k c hk=>by
  have e:vG cls=cls.map Cl.cells:=by simp[vG]
  have hk2:=(aYc.1 hk).1;rw[e,<-List.map_take,<-List.map_drop,aYm hk2,List.drop_append_of_le_length (by rw[aZ3];omega),List.drop_eq_nil_of_le (by rw[aZ3];omega)];rw[aYb hk2] at hk;rw[aZw hk];simp[vG]
 have c6:=c4 [cc] (hone cc hmem);rw[e6] at c6;simp only[mtA] at c6;have cV:=fun g hw=>aN1 g hw cc (hs.cs cc hmem)
 have hll:m2.length<=1048576:=by have:=hs.cs cc hmem;omega
 have cS:=fun g hw=>mJ m2 m2 (fun v hv=>⟨by have:=(e5 v hv).2;omega,aNu v (e5 v hv).1⟩) hll hll g hw
 rw[show aEt m2 m2=true by simp[aEt,nD]] at cS;rw[<-e3] at cV;clear e3 e4 e5 e6;have hsj:=hsl j cc e1;obtain⟨ps,⟨u0,u1,u2,u3,u4⟩⟩:=cc;simp only[Cl.av,Cl.cells,aG,List.map] at cV;have hgj:∀z:j<cls.length,cls[j]'z=⟨ps, .mk u0 u1 u2 u3 u4⟩:=fun z=>by rw[aYb z] at e1;exact aZw e1
 refine aU5 ?_;have hjl':¬cls.length<=j:=aB;refine zn ?_;refine aY4 hjl hjl' hgj ?_;refine zL (cV _ (hh.app aA)) ?_;refine qF ?_;refine Run.loopS [0,1,2,8,9] (fun k:Nat=>k<=j) (fun k=>j-k) (fun k=>[(11,iA k)]) (fun _=>h++[ktB ⟨st,nd,fo,lm,false⟩]) 0 aA ?_ rfl ?_
 ·exact zS
 intro k hk IH;refine cC ?_
 by_cases hkj:k<j
 ·obtain⟨c',f1,f2⟩:=e7 k hkj;have c7:=c4 [c'] (hone c' (aYq f1));rw[f2] at c7;simp only[mtA] at c7;have hsk:=hsl k c' f1;refine dD hkj ?_;have b1:(k:Int)<=(k:Int)+1:=aB;have b2:(k:Int)+1<=(cls.length:Int):=aB;have hw:IntKind.i64.wrap ((k:Int)+1)=(k:Int)+1:=aP aB aB;refine zn ?_;refine zr4 hsk b1 b2 hw ?_;refine zL (c7 _ (hh.app aA)) ?_;refine aJp ?_;refine IH (k+1) _ _ aB aB ?_ rfl;exact zS
 ·have hke:k=j:=aB;subst hke;refine dJ ?_;have b1:(k:Int)<=(k:Int)+1:=aB;have b2:(k:Int)+1<=(cls.length:Int):=aB;have hw:IntKind.i64.wrap ((k:Int)+1)=(k:Int)+1:=aP aB aB;refine zn ?_;refine zr4 hsj b1 b2 hw ?_;refine zL (c6 _ (hh.app aA)) ?_;refine zor ?_;refine zL (cS _ (hh.app aA)) ?_;refine zo ?_;exact y5a
end Go.Proofs.YtcfcolkbeelegaaGreat
