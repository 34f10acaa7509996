import Derived.Test.YtplomildbmcmfaaGreatZA0
import Derived.Test.YtplomildbmcmfaaGreatZX9
import Derived.Test.YtplomildbmcmfaaGreatZR2
set_option maxRecDepth 8000
set_option maxHeartbeats 64000000
namespace Go.Proofs.YtplomildbmcmfaaGreat
open Go Go.AI
def aA2 (env:List Dc)(d:Dc):Int:=
 if d.k≠4/\bU env [] d d.ty 0 d.ps≠0 then bU env [] d d.ty 0 d.ps
 else if d.k=1\/d.k=2 then bU env [] d d.va 0 d.ps
 else if d.k=3 then
  (if aL (d.cs.map fun c=>bU env [d.nm] d c.ty 0 d.ps)≠0 then aL (d.cs.map fun c=>bU env [d.nm] d c.ty 0 d.ps)
   else if bU env ((aW d).take ((aW d).length-1)) d d.rt 0 d.rp≠0 then bU env ((aW d).take ((aW d).length-1)) d d.rt 0 d.rp
   else aL (d.rr.map fun t=>bU env (aW d) d t 0 d.rp))
 else if d.k=4 then
  (if aL (d.fs.map fun f=>bU env [] d f.ty 0 d.ps)≠0 then aL (d.fs.map fun f=>bU env [] d f.ty 0 d.ps)
   else aL (d.fs.map fun f=>wK env (aW d) d f.tr f.ar 0))
 else 0
theorem dM {α:Type} {f:α->Int} {l:List α} {j:Nat} {x:α} (hg:l[j]?=some x)(hall:aL ((l.map f).take j)=0)(hx:f x≠0):aL (l.map f)=f x:=by
 have htk:(l.map f).take (j+1)=(l.map f).take j++[f x]:=by rw[bNh,bO4,hg];rfl
 have e1:aL ((l.map f).take (j+1))=f x:=by rw[htk,aZ,hall,if_pos rfl]
 rw[dC (j:=j+1) (by rw[e1];exact hx),e1]
theorem fF {α:Type} {f:α->Int} {l:List α} {j:Nat} {x:α} (hg:l[j]?=some x)(hall:aL ((l.map f).take j)=0)(hx:f x=0):aL ((l.map f).take (j+1))=0:=by
 have htk:(l.map f).take (j+1)=(l.map f).take j++[f x]:=by rw[bNh,bO4,hg];rfl
 rw[htk,aZ,hall,if_pos rfl,hx]
theorem aO1 (h:Heap)(hh:WF h)(env:List Dc)(d:Dc)(hd:d.good)(hn:d.nm.length<=1099511627776)(hg:Env.good env)(hs:Env.short env):ACalls Tryz.prog 220 [eU env,d.av] h fun o h'=>o= .ret (iA (aA2 env d))/\h'=h:=by
 have hnl:=nJ d hd.csl hd.fsl;have hsc:∀own:List (List UInt8),own.length<=1099511627776->ScOk env own d:=fun own ho=>⟨hg,hs,ho,hd⟩
 have c0:=fun g hw=>qR g hw d hn hd.csl hd.fsl
 have c1:=fun(t:Tm) (ht:t.good) (g:Heap) (hw:WF g)=>gR g hw env [] d (hsc [] aA) t ht 0 d.ps
 have c2:=fun(t:Tm) (ht:t.good) (g:Heap) (hw:WF g)=>gR g hw env [d.nm] d (hsc _ aA) t ht 0 d.ps
 have c3:=fun(t:Tm) (ht:t.good) (g:Heap) (hw:WF g)=>gR g hw env ((aW d).take ((aW d).length-1)) d (hsc _ (by simp;omega)) t ht 0 d.rp
 have c4:=fun(t:Tm) (ht:t.good) (g:Heap) (hw:WF g)=>gR g hw env (aW d) d (hsc _ aB) t ht 0 d.rp
 have c5:=fun(t:Tr) (ht:t.good) (v:Int) (g:Heap) (hw:WF g)=>aHd env (aW d) d (hsc _ aB) t.size t v 0 g (bLx _) ht hw
 have c1t:=c1 d.ty hd.ty;have c1v:=c1 d.va hd.va;have c3r:=c3 d.rt hd.rt;have hcs:=hd.cs;have hrr:=hd.rr;have hfs:=hd.fs;have hcl:=hd.csl;have hrl:=hd.rrl;have hfl:=hd.fsl;have hk:=aLy d.k;have hl3:d.k=3->0<(aW d).length:=fun h3=>by unfold aW;rw[if_neg aB,if_pos h3];simp
 obtain⟨r,hr⟩:∃r,r=aA2 env d:=⟨_,rfl⟩;rw[<-hr];unfold aA2 at hr;obtain⟨O1,hO1⟩:∃O,O=fun t=>bU env [] d t 0 d.ps:=⟨_,rfl⟩
 obtain⟨O2,hO2⟩:∃O,O=fun t=>bU env [d.nm] d t 0 d.ps:=⟨_,rfl⟩
 obtain⟨O4,hO4⟩:∃O,O=fun t=>bU env (aW d) d t 0 d.rp:=⟨_,rfl⟩
 obtain⟨O5,hO5⟩:∃O,O=fun(f:Fu)=>wK env (aW d) d f.tr f.ar 0:=⟨_,rfl⟩
 have k1:∀t,bU env [] d t 0 d.ps=O1 t:=fun t=>by rw[hO1]
 have k2:∀t,bU env [d.nm] d t 0 d.ps=O2 t:=fun t=>by rw[hO2]
 have k4:∀t,bU env (aW d) d t 0 d.rp=O4 t:=fun t=>by rw[hO4]
 have k5:∀(f:Fu),wK env (aW d) d f.tr f.ar 0=O5 f:=fun f=>by rw[hO5]
 have c5:∀(f:Fu),f.good->∀g:Heap,WF g->ACalls Tryz.prog 272 [scE env (aW d) d,f.tr.av,iA f.ar,iA 0] g fun o h'=>o= .ret (iA (O5 f))/\h'=g:=fun f hf g hw=>by rw[<-k5];exact c5 f.tr hf.2 f.ar g hw
 simp only[k1,k2,k4,k5] at c1 c1t c1v c2 c4 hr;generalize bU env ((aW d).take ((aW d).length-1)) d d.rt 0 d.rp=e3 at c3r hr;generalize hN:aW d=NN at c0 c3r c4 c5 hnl hl3;clear hO1 hO2 hO4 hO5 k1 k2 k4 k5 c3 hsc hN;generalize he1:O1 d.ty=e1 at c1t hr;generalize he2:O1 d.va=e2 at c1v hr;clear he1 he2;obtain⟨k,nm,ps,⟨k1,i1,n1,l1,s1⟩,⟨k2,i2,n2,l2,s2⟩,fx,cs,rp,⟨k3,i3,n3,l3,s3⟩,rr,fs⟩:=d;clear hd hg hs;simp only at hn hcs hrr hfs hcl hrl hfl hk hl3 hr;simp only[scE,Dc.av,Dc.cells,Tm.av,cells_mk,List.map,bLz,bM4,show dR []=[] from rfl] at c0 c1 c1t c1v c2 c3r c4 c5⊢;refine zER Tryz.func220 Tryz.ntmps220 ?_;refine Run.regPre 3 fun K J=>?_
 refine yd ?_;simp;refine zi ?_;clear J;refine yb ?_;refine Run.weakAt 19 (.agg [.p (.sl 23 (env.map Dc.cells)), .p (.sl 1 []),iA k, .p (sP nm),iA ps, .p (iP k1), .p (iP i1), .p (sP n1), .p (.sl 2 (lvPs l1)), .p (.sl 5 (tmPs s1)), .p (iP k2), .p (iP i2), .p (sP n2), .p (.sl 2 (lvPs l2)), .p (.sl 5 (tmPs s2)),iA fx, .p (.sl 6 (cs.map Ct.cells)),iA rp, .p (iP k3), .p (iP i3), .p (sP n3), .p (.sl 2 (lvPs l3)), .p (.sl 5 (tmPs s3)), .p (.sl 5 (tmPs rr)), .p (.sl 15 (fs.map Fu.cells))]) ?_ ?_
 ·simp;exact y2y
 simp;refine Run.ops fun K J=>?_
 simp;refine zi ?_;clear J
 repeat (first|refine Run.skip ?_|refine Run.opsNil ?_|refine Run.inBlock ?_)
 refine znq ?_
 repeat (first|refine Run.skip ?_|refine Run.opsNil ?_|refine Run.inBlock ?_)
 refine Run.joinC0 (¬(k≠4/\e1≠0)) [0,3,5] [] (fun hJ=>?_) (fun hC=>?_)
 ·by_cases h4:k=4
  ·have h4':(k !=4)=false:=by simp[h4]
   refine nv ?_;refine cf (by simp[h4']) ?_
   repeat (first|refine Run.skip ?_|refine Run.opsNil ?_|refine Run.inBlock ?_)
   refine hJ _ ?_ (by simp[h4]);exact zS
  ·have h4':(k !=4)=true:=by simp[h4]
   refine lH h4' ?_;refine zL (c1t _ (hh.app aA)) ?_;refine zor ?_
   by_cases he:e1=0
   ·refine nv ?_;refine cf (by simp[he]) ?_
    repeat (first|refine Run.skip ?_|refine Run.opsNil ?_|refine Run.inBlock ?_)
    refine hJ _ ?_ (by simp[he]);exact zS
   ·rw[if_pos ⟨h4,he⟩] at hr;refine znt1 he ?_;exact y1y
 rw[if_neg hC] at hr;clear hC c1t;refine y17 ?_;refine cK ?_;have hlast:∀(hr0:r=0),True:=fun _=>trivial
 rcases hk with rfl|rfl|rfl|hk
 ·rw[if_neg aB,if_neg aB,if_neg aB] at hr;refine aAi ?_;refine yl ?_;refine yl ?_;refine zf ?_;exact y1y
 ·rw[if_pos aB] at hr;refine znrt ?_;refine zt ?_;refine zr ?_;refine zL (c1v _ (hh.app aA)) ?_;refine zox ?_;exact y28
 ·rw[if_pos aB] at hr;refine znrfrt ?_;refine zr ?_;refine zL (c1v _ (hh.app aA)) ?_;refine zox ?_;exact y28
 rcases hk with rfl|hk
 ·rw[if_neg aB,if_pos rfl] at hr;have hl3:=hl3 rfl;clear c1 c5 c1v;simp only[show dR [nm]=[[sP nm]] from rfl] at c2;refine znrfrfrt ?_;refine zr ?_;refine zr ?_;refine Run.loopS [0,3,5] (fun j:Nat=>j<=cs.length/\aL ((cs.map fun c=>O2 c.ty).take j)=0) (fun j=>cs.length-j) (fun j=>[(7,iA j)]) (fun _=>_) 0 (by simp[aL]) ?_ rfl ?_
  ·exact zS
  rintro j ⟨hj,hall⟩ IH;refine cK ?_
  by_cases hjl:j<cs.length
  ·have hg:cs[j]?=some cs[j]:=bLv hjl;have c2:=c2 _ (hcs _ (bLy hjl));have hstop:=dM (f:=fun c:Ct=>O2 c.ty) hg hall;have hgo:=fF (f:=fun c:Ct=>O2 c.ty) hg hall;generalize O2 cs[j].ty=e at c2 hstop hgo;generalize cs[j]=c at hg c2;obtain⟨x,⟨k4,i4,n4,l4,s4⟩⟩:=c;simp only[cells_mk,List.map] at c2;refine znt1 hjl ?_;refine y14 ?_;refine aXs hg ?_;refine DR.call rfl rfl rfl aA rfl (c2 _ (hh.app aA)) ?_;refine zd ?_;refine y8 ?_;refine znr ?_
   by_cases he:e=0
   ·exact y48
   ·rw[hstop he,if_pos he] at hr;refine znt1 he ?_;exact y1y
  have hje:j=cs.length:=aB;subst hje;rw[bM7 aA] at hall;rw[hall,if_neg aA] at hr;clear c2;have hw:IntKind.i64.wrap ((NN.length:Int)-1)=(NN.length:Int)-1:=wrap_id aB aB;have hnn:¬((NN.length:Int)-1<0):=aB;have hle:(NN.length:Int)-1<=NN.length:=aB;have hone:1<=(NN.length:Int):=aB;have htn:((NN.length:Int)-1).toNat=NN.length-1:=aB;have hstp:(dR NN).take (NN.length-1)=dR (NN.take (NN.length-1)):=by simp[dR]
  refine oR ?_;refine zL (c0 _ (hh.app aA)) ?_;refine zo ?_;refine zr5 hw hle htn hstp hone ?_;refine zr ?_;refine zL (c3r _ (hh.app aA)) ?_;refine zor ?_
  by_cases he3:e3=0
  rotate_left
  ·rw[if_pos he3] at hr;refine znt1 he3 ?_;exact y1y
  rw[if_neg (by simp[he3])] at hr;clear c3r c0;refine znf1r he3 ?_;refine zr ?_;refine Run.loopS [0,3,5] (fun j:Nat=>j<=rr.length/\aL ((rr.map O4).take j)=0) (fun j=>rr.length-j) (fun j=>[(11,iA j)]) (fun _=>_) 0 (by simp[aL]) ?_ rfl ?_
  ·exact zS
  rintro j ⟨hj,hall⟩ IH;refine cK ?_
  by_cases hjl:j<rr.length
  ·have hg:rr[j]?=some rr[j]:=bLv hjl;have c4:=c4 _ (hrr _ (bLy hjl));have hstop:=dM (f:=O4) hg hall;have hgo:=fF (f:=O4) hg hall;generalize O4 rr[j]=e at c4 hstop hgo;generalize rr[j]=c at hg c4;obtain⟨k4,i4,n4,l4,s4⟩:=c;simp only[cells_mk,List.map] at c4;refine znt1 hjl ?_;refine Run.draw [0,0,0,0,0,0,0,0,0,0,0,1] [0,0,0,0,0,0,0,0,0,0,0,0] [0,0,2,6,0,30,62,0,128,384,1023,2047] [0,1,2,3,4,5,6,7,8,9,10,11] aC aC ?_;refine zd1 hg ?_;refine y1k ?_;refine zd ?_;refine y8 ?_;refine znr ?_
   by_cases he:e=0
   ·exact y48
   ·rw[hstop he] at hr;refine znt1 he ?_;exact y1y
  have hje:j=rr.length:=aB;subst hje;rw[bM7 aA] at hall;rw[hall] at hr;refine znfen ?_;exact y1y
 rcases hk with rfl|hk
 ·rw[if_neg aB,if_neg aB,if_pos rfl] at hr;clear c1v c2 c3r c4;refine lG ?_;refine Run.loopS [0,3,5] (fun j:Nat=>j<=fs.length/\aL ((fs.map fun c=>O1 c.ty).take j)=0) (fun j=>fs.length-j) (fun j=>[(13,iA j)]) (fun _=>_) 0 (by simp[aL]) ?_ rfl ?_
  ·exact zS
  rintro j ⟨hj,hall⟩ IH;refine cK ?_
  by_cases hjl:j<fs.length
  ·have hg:fs[j]?=some fs[j]:=bLv hjl;have c1:=c1 _ (hfs _ (bLy hjl)).1;have hstop:=dM (f:=fun c:Fu=>O1 c.ty) hg hall;have hgo:=fF (f:=fun c:Fu=>O1 c.ty) hg hall;generalize O1 fs[j].ty=e at c1 hstop hgo;generalize fs[j]=c at hg c1;obtain⟨x,⟨k4,i4,n4,l4,s4⟩,z,w⟩:=c;simp only[cells_mk,List.map] at c1;refine znt1 hjl ?_;refine y14 ?_;refine bE6 hg ?_;refine DR.call rfl rfl rfl aA rfl (c1 _ (hh.app aA)) ?_;refine zd ?_;refine y8 ?_;refine znr ?_
   by_cases he:e=0
   ·exact y48
   ·rw[hstop he,if_pos he] at hr;refine znt1 he ?_;exact y1y
  have hje:j=fs.length:=aB;subst hje;rw[bM7 aA] at hall;rw[hall,if_neg aA] at hr;clear c1;refine oR ?_;refine zL (c0 _ (hh.app aA)) ?_;refine zor ?_;refine Run.loopS [0,3,5] (fun j:Nat=>j<=fs.length/\aL ((fs.map O5).take j)=0) (fun j=>fs.length-j) (fun j=>[(15,iA j)]) (fun _=>_) 0 (by simp[aL]) ?_ rfl ?_
  ·exact zS
  rintro j ⟨hj,hall⟩ IH;refine cK ?_
  by_cases hjl:j<fs.length
  ·have hg:fs[j]?=some fs[j]:=bLv hjl;have c5:=c5 _ (hfs _ (bLy hjl));have hstop:=dM (f:=O5) hg hall;have hgo:=fF (f:=O5) hg hall;generalize O5 fs[j]=e at c5 hstop hgo;generalize fs[j]=c at hg c5;obtain⟨x,⟨k4,i4,n4,l4,s4⟩,z,⟨w1,⟨w2,w3,w4,w5,w6⟩,w7,w8⟩⟩:=c;simp only[Tr.av,Tr.cells,cells_mk,List.map,bLz,bM4,brPs_eq] at c5;refine znt1 hjl ?_;refine Run.draw [0,0,0,0,0,0,0,0,0,0,0,0,0,0,1] [0,0,0,0,0,0,0,0,0,0,0,0,0,0,0] [0,0,2,0,14,30,62,0,128,0,896,1920,3968,8191,16383] [0,1,2,3,4,5,6,7,8,9,10,11,12,13,14] aC aC ?_;refine bLi hg ?_;refine DR.call rfl rfl rfl aA rfl (c5 _ (hh.app aA)) ?_;refine zd ?_;refine y8 ?_;refine znr ?_
   by_cases he:e=0
   ·exact y48
   ·rw[hstop he] at hr;refine znt1 he ?_;exact y1y
  have hje:j=fs.length:=aB;subst hje;rw[bM7 aA] at hall;rw[hall] at hr;refine znfen ?_;exact y1y
 obtain⟨z0,z1,z2,z3,z4⟩:=hk;rw[if_neg (by simp at z1 z2;omega),if_neg (by simpa using z3),if_neg (by simpa using z4)] at hr;refine cY z1 z2 z3 z4 ?_;exact y1y
open Go Go.AI
def xW (env:List Dc)(d:Dc):Int:=
 if(decide (d.k<0)||decide (4<d.k))=true then 1
 else if rT d=false then 3
 else if mY d≠0 then mY d
 else if dnZ env d≠0 then dnZ env d
 else aA2 env d
theorem aPj (h:Heap)(hh:WF h)(env:List Dc)(d:Dc)(hd:d.good)(hn:d.nm.length<=1099511627776)(hg:Env.good env)(hs:Env.short env):ACalls Tryz.prog 149 [eU env,d.av] h fun o h'=>o= .ret (iA (xW env d))/\h'=h:=by
 have c1:=fun g hw=>aIc g hw d hd
 have c2:=fun g hw=>aG1 g hw d hd
 have c3:=fun g hw=>vE g hw env d hd hn hg hs
 have c4:=fun g hw=>aO1 g hw env d hd hn hg hs
 obtain⟨r,hr⟩:∃r,r=xW env d:=⟨_,rfl⟩;rw[<-hr];unfold xW at hr;generalize rT d=b1 at c1 hr;generalize mY d=e2 at c2 hr;generalize dnZ env d=e3 at c3 hr;generalize aA2 env d=e4 at c4 hr;clear hd hg hs hn;obtain⟨k,nm,ps,⟨k1,i1,n1,l1,s1⟩,⟨k2,i2,n2,l2,s2⟩,fx,cs,rp,⟨k3,i3,n3,l3,s3⟩,rr,fs⟩:=d;simp only at hr;simp only[Dc.av,Dc.cells,cells_mk,List.map,bLz,bM4] at c1 c2 c3 c4⊢;refine zER Tryz.func149 Tryz.ntmps149 ?_;refine Run.regJ [0,3] 14 (decide (k<0)||decide (4<k)) (fun K J=>?_) ?_
 ·simp;exact y1x
 refine y6 ?_;simp;refine Run.condB rfl (fun h1=>?_) (fun h1=>?_)
 ·rw[if_pos h1] at hr;exact y1y
 rw[if_neg (by rw[h1];simp)] at hr;refine znr ?_;refine zL (c1 _ (hh.app aA)) ?_
 cases b1 with
 |false=>
  rw[if_pos rfl] at hr;refine zot ?_;exact y1y
 |true=>
 rw[if_neg aA] at hr;refine zofr ?_;refine zL (c2 _ (hh.app aA)) ?_;refine zor ?_
 by_cases h2:e2=0
 rotate_left
 ·rw[if_pos h2] at hr;refine znt1 h2 ?_;exact y1y
 rw[if_neg (by simp[h2])] at hr;refine znf1r h2 ?_;refine zL (c3 _ (hh.app aA)) ?_;refine zor ?_
 by_cases h3:e3=0
 rotate_left
 ·rw[if_pos h3] at hr;refine znt1 h3 ?_;exact y1y
 rw[if_neg (by simp[h3])] at hr;refine znf1r h3 ?_;refine zL (c4 _ (hh.app aA)) ?_;refine zox ?_;exact y28
def bAb (env:List Dc):Prop:=∀(j:Nat)(d:Dc),env[j]?=some d->xW (env.take j) d=0
def bGj (P:Int->Int->Prop)(o:AOut):Prop:=∃a b,o= .ret (.tup [iA a,iA b])/\P a b
theorem xO (h:Heap)(hh:WF h)(env:List Dc)(hg:Env.good env)(hs:Env.short env):ACalls Tryz.prog 88 [eU env] h fun o h'=>bGj (fun _ e=>e=0->bAb env) o/\h'=h:=by
 obtain⟨hl,hgd⟩:=hg;refine dE Tryz.func88 Tryz.ntmps88 ?_
 by_cases h1:1000<(env.length:Int)
 ·refine dV h1 ?_;refine zF4 hh ?_;exact⟨⟨_,_,rfl,fun h=>by cases h⟩,rfl⟩
 refine znf1r h1 ?_;refine Run.loopS [0] (fun j:Nat=>j<=env.length/\∀(i:Nat) (d:Dc),i<j->env[i]?=some d->xW (env.take i) d=0) (fun j=>env.length-j) (fun j=>[(4,iA j)]) (fun _=>_) 0 aA ?_ rfl ?_
 ·exact zS
 rintro j ⟨hj,hall⟩ IH;refine cK ?_
 by_cases hjl:j<env.length
 ·have hge:env[j]?=some env[j]:=bLv hjl;have hmem:env[j]∈env:=bLy hjl;have hd:=hgd _ hmem;have hdn:=hs _ hmem;have hdl:=bB env[j];have c1:=fun g hw=>aPj g hw (env.take j) env[j] hd aB ⟨by simp;omega,fun d hd=>hgd d (bN4 hd)⟩ (fun d hd=>hs d (bN4 hd))
  have hal2:∀(i:Nat) (d:Dc),xW (env.take j) env[j]=0->i<j+1->env[i]?=some d->xW (env.take i) d=0:=fun i d h0 hi hgi=>by
   rcases bNi i j with h|h
   ·exact hall i d h hgi
   ·obtain rfl:i=j:=aB;rw[hge] at hgi;cases hgi;exact h0
  generalize xW (env.take j) env[j]=e at c1 hal2;generalize env[j]=d at hge hd hdn hdl c1;clear hmem;have htd:List.take 23 (d.cells.map AV.p)=d.cells.map .p:=bM7 (by simp[hdl]);have hnj:¬((j:Int)<0):=aB;simp only[Dc.av] at c1;refine znt1 hjl ?_;refine Run.draw [0,0,0,0,0,0,0,0,1] [0,0,0,0,0,0,0,0,0] [0,0,3,0,0,24,56,127,255] [0,1,2,3,4,5,6,7,8] aC aC ?_;refine zd5 hge hdl htd hnj hj ?_;refine DR.call rfl rfl rfl aA rfl (c1 _ hh) ?_;refine zd ?_;refine y8 ?_;refine znr ?_
  by_cases he:e=0
  ·refine znf1r he ?_;refine IH (j+1) _ _ ⟨by omega,fun i d=>hal2 i d he⟩ aB ?_ rfl;exact zS
  ·refine dV he ?_;refine zF4 hh ?_;exact⟨⟨_,_,rfl,fun h=>absurd h he⟩,rfl⟩
 ·have hje:j=env.length:=aB;subst hje;refine znfenrx ?_;refine zF4 hh ?_;exact⟨⟨_,_,rfl,fun _ i d hgi=>hall i d (bLw.1 hgi).1 hgi⟩,rfl⟩
end Go.Proofs.YtplomildbmcmfaaGreat
