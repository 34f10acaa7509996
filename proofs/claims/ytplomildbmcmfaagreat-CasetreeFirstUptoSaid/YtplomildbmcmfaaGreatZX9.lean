import Derived.Test.YtplomildbmcmfaaGreatZA0
import Derived.Test.YtplomildbmcmfaaGreatZX7
import Derived.Test.YtplomildbmcmfaaGreatZT7
import Derived.Test.YtplomildbmcmfaaGreatZX5
set_option maxRecDepth 8000
set_option maxHeartbeats 32000000
namespace Go.Proofs.YtplomildbmcmfaaGreat
open Go Go.AI
def bF0 (fx:Int)(t:Tm):Int:=if 0<IntKind.i64.wrap (((iV t).1.length:Int)-fx) then IntKind.i64.wrap (((iV t).1.length:Int)-fx) else 0
def aQ7 (d:Dc)(j:Nat):Int:=match d.cs[j]? with|some c=>bF0 d.fx c.ty|none=>0
theorem tJ (h:Heap)(hh:WF h)(d:Dc)(hd:d.good)(j:Nat)(hj:j<d.cs.length):ACalls Tryz.prog 126 [d.av,iA j] h fun o h'=>o= .ret (iA (aQ7 d j))/\h'=h:=by
 have hg:d.cs[j]?=some d.cs[j]:=bLv hj;have hgd:=hd.cs _ (bLy hj);have c1:=fun g hw=>aIz g hw d.cs[j].ty hgd.1
 obtain⟨r,hr⟩:∃r,r=aQ7 d j:=⟨_,rfl⟩;rw[<-hr];unfold aQ7 at hr;rw[hg] at hr;simp only[bF0] at hr;generalize d.cs[j]=c at hg c1 hr;generalize iV c.ty=q at c1 hr;obtain⟨qs,⟨u1,u2,u3,u4,u5⟩⟩:=q;obtain⟨k,nm,ps,⟨k1,i1,n1,l1,s1⟩,⟨k2,i2,n2,l2,s2⟩,fx,cs,rp,⟨k3,i3,n3,l3,s3⟩,rr,fs⟩:=d;obtain⟨x,⟨k4,i4,n4,l4,s4⟩⟩:=c;simp only at hg hr;clear hd hgd hj;simp only[Dc.av,Dc.cells,Tm.av,cells_mk,List.map,bLz,bM4] at c1⊢;have hcz:(j:Int)<0->False:=aB;refine zER Tryz.func126 Tryz.ntmps126 ?_;refine aXu hg ?_;refine zL (c1 _ (hh.app aA)) ?_;refine zorx ?_;exact y28
def bF1 (env:List Dc)(x:En):Int:=match env[x.at_.toNat]? with|some d=>aQ7 d x.it.toNat|none=>0
mutual
def wK (env:List Dc)(own:List (List UInt8))(d:Dc):Tr->Int->Int->Int
 | .mk k b v bs,vars,depth=>
  if 200<=depth then 7
  else if k=0 then(if v≠0\/0<(bs.length:Int) then 3 else bU env own d b vars d.ps)
  else if k=1 then(if sameT b zT=false then 3 else if v<0\/vars<=v then 24 else if 32<(bs.length:Int) then 6 else aL (brL env own d bs vars depth))
  else 3
def brE (env:List Dc)(own:List (List UInt8))(d:Dc):Br->Int->Int->Int
 | .mk c a t,vars,depth=>match dX c env 0 with
  |none=>9
  |some x=>if x.k=4 then(if a=true then(if aZe t=true then 0 else 3) else wK env own d t (IntKind.i64.wrap (vars+bF1 env x)) (IntKind.i64.wrap (depth+1))) else 9
def brL (env:List Dc)(own:List (List UInt8))(d:Dc):List Br->Int->Int->List Int
 |[],_,_=>[]
 |b::bs,vars,depth=>brE env own d b vars depth::brL env own d bs vars depth
end
theorem aTb (env:List Dc)(own:List (List UInt8))(d:Dc)(vars depth:Int):∀l:List Br,brL env own d l vars depth=l.map fun b=>brE env own d b vars depth
 |[]=>rfl
 |t::ts=>by simp only[brL,bMd,aTb env own d vars depth ts]
theorem aHd (env:List Dc)(own:List (List UInt8))(d:Dc)(hs:ScOk env own d)(N:Nat):∀(t:Tr)(vars depth:Int)(h:Heap),t.size<=N->t.good->WF h->ACalls Tryz.prog 272 [scE env own d,t.av,iA vars,iA depth] h fun o h'=>o= .ret (iA (wK env own d t vars depth))/\h'=h:=by
 induction N with
 |zero=>intro t _ _ h hN;cases t;simp[Tr.size] at hN
 |succ N ih=>
 intro t vars depth h hN hgd hh;have hel:=hs.hEnv.1;obtain⟨k,b,v,bs⟩:=t;simp only[Tr.size] at hN;simp only[Tr.good] at hgd;obtain⟨hb,hbl,hbs⟩:=hgd;have c1:=fun g hw=>gR g hw env own d hs b hb vars d.ps
 have c2:=fun g hw=>pI g hw b hb
 have c3:=fun(n:List UInt8) (g:Heap) (hw:WF g)=>iI g hw env n hs.hEnv hs.hShort
 have hfok:=fun(n:List UInt8) (e:En) (he:dX n env 0=some e)=>lV n env 0 e he
 have hdg:=hs.hEnv.2;have hrec:=fun(t:Tr) (h1:t.size<=Br.sizes bs) (h2:t.good) (vars depth:Int) (g:Heap) (hw:WF g)=>ih t vars depth g aB h2 hw
 obtain⟨r,hr⟩:∃r,r=wK env own d (.mk k b v bs) vars depth:=⟨_,rfl⟩;rw[<-hr];simp only[wK,aTb] at hr;clear ih;obtain⟨BE,hBE⟩:∃B,B=fun b=>brE env own d b vars depth:=⟨_,rfl⟩
 rw[<-hBE] at hr
 have hbe:∀c a t,BE (.mk c a t)=match dX c env 0 with
  |none=>9
  |some x=>if x.k=4 then(if a=true then(if aZe t=true then 0 else 3) else wK env own d t (IntKind.i64.wrap (vars+bF1 env x)) (IntKind.i64.wrap (depth+1))) else 9:=fun c a t=>by rw[hBE];simp only[brE]
 clear hBE;generalize bU env own d b vars d.ps=e1 at c1 hr;generalize sameT b zT=e2 at c2 hr;obtain⟨TZ,hTZ⟩:∃T,T=wK env own d:=⟨_,rfl⟩;rw[<-hTZ] at hbe hrec;clear hTZ hs;obtain⟨dk,nm,ps,⟨k1,i1,n1,l1,s1⟩,⟨k2,i2,n2,l2,s2⟩,fx,cs,rp,⟨k3,i3,n3,l3,s3⟩,rr,fs⟩:=d;obtain⟨m1,m2,m3,m4,m5⟩:=b;simp only at c1;simp only[scE,Dc.cells,Tr.av,Tr.cells,Tm.av,cells_mk,List.map,bLz,bM4,brPs_eq] at c1 c2 hrec⊢;refine zER Tryz.func272 Tryz.ntmps272 ?_
 by_cases h200:200<=depth
 ·rw[if_pos h200] at hr;refine aDg h200 ?_;exact y1y
 rw[if_neg h200] at hr;refine znr1f h200 ?_;refine zq ?_
 repeat (first|refine Run.skip ?_|refine Run.opsNil ?_|refine Run.inBlock ?_)
 refine Run.joinC0 (k=1/\e2=true) [2,3,4,5] [] (fun hJ=>?_) (fun hC=>?_)
 ·refine znr ?_
  by_cases h0:k=0
  ·rw[if_pos h0] at hr;refine znt1 h0 ?_;refine Run.regJ [2,4,5] 28 ((v !=0)||decide (0<(bs.length:Int))) (fun K J=>?_) ?_
   ·simp;exact y1x
   refine y6 ?_;simp;refine Run.condB rfl (fun h6=>?_) (fun h6=>?_)
   ·have hv:v≠0\/0<(bs.length:Int):=by simpa using h6
    rw[if_pos hv] at hr;exact y1y
   ·have hv:¬(v≠0\/0<(bs.length:Int)):=by simpa using h6
    rw[if_neg hv] at hr;refine znr ?_;refine zL (c1 _ (hh.app aA)) ?_;refine zox ?_;exact y28
  rw[if_neg h0] at hr;have h0':(k==0)=false:=by simp[h0]
  refine znf1r h0' ?_
  by_cases h1:k=1
  ·rw[if_pos h1] at hr;refine lH h1 ?_;refine zL (c2 _ (hh.app aA)) ?_
   cases e2 with
   |false=>
    rw[if_pos rfl] at hr;refine zot ?_;exact y1y
   |true=>
    refine Run.ops fun K J=>?_
    simp;refine zi ?_;clear J
    repeat (first|refine Run.skip ?_|refine Run.opsNil ?_|refine Run.inBlock ?_)
    refine nv ?_;refine cf aA ?_
    repeat (first|refine Run.skip ?_|refine Run.opsNil ?_|refine Run.inBlock ?_)
    refine hJ _ ?_ ⟨h1,rfl⟩;exact zS
  ·rw[if_neg h1] at hr;have h1':(k==1)=false:=by simp[h1]
   refine aFh h1' ?_;exact y1y
 obtain⟨rfl,rfl⟩:=hC;rw[if_neg aB,if_pos rfl,if_neg aA] at hr;clear c1 c2;refine y17 ?_;refine zsn ?_;refine Run.regJ [2,3,4,5] 51 (decide (v<0)||decide (vars<=v)) (fun K J=>?_) ?_
 ·simp;exact y1x
 refine y6 ?_;simp;refine Run.condB rfl (fun h3=>?_) (fun h3=>?_)
 ·rw[if_pos (by simpa using h3)] at hr;exact y1y
 rw[if_neg (by simpa using h3)] at hr;refine znr ?_
 by_cases h4:32<(bs.length:Int)
 ·rw[if_pos h4] at hr;refine znt1 h4 ?_;exact y1y
 rw[if_neg h4] at hr;refine znf1r h4 ?_;refine Run.loopS [2,3,4,5] (fun j:Nat=>j<=bs.length/\aL ((bs.map BE).take j)=0) (fun j=>bs.length-j) (fun j=>[(9,iA j)]) (fun _=>_) 0 (by simp[aL]) ?_ rfl ?_
 ·exact zS
 rintro j ⟨hj,hall⟩ IH;refine cK ?_
 by_cases hjl:j<bs.length
 rotate_left
 ·have hje:j=bs.length:=aB;exact y3j
 have hg:bs[j]?=some bs[j]:=bLv hjl;have hgd:=Br.goods_at hbs _ (bLy hjl);have hsz:=tC (bLy hjl)
 have htk:(bs.map BE).take (j+1)=(bs.map BE).take j++[BE bs[j]]:=by
  exact y7w
 generalize bs[j]=x at hg hgd hsz htk;obtain⟨c,a,tr⟩:=x;rw[hbe] at htk;simp only[Br.good] at hgd;simp only[Br.size] at hsz;have c4:=c3 c;have hfk:=hfok c;have c5:=fun g hw=>aI0 g hw tr hgd
 have c6:=fun(vars depth:Int) (g:Heap) (hw:WF g)=>hrec tr aB hgd vars depth g hw
 clear c3 hfok hrec hbe;unfold bQ at c4
 have hstop:∀e:Int,(bs.map BE).take (j+1)=(bs.map BE).take j++[e]->e≠0->r=e:=fun e h1 h2=>by
  have e1:aL ((bs.map BE).take (j+1))=e:=by rw[h1,aZ,hall,if_pos rfl]
  rw[hr,dC (j:=j+1) (by rw[e1];exact h2),e1]
 have hgo:∀e:Int,(bs.map BE).take (j+1)=(bs.map BE).take j++[e]->e=0->aL ((bs.map BE).take (j+1))=0:=fun e h1 h2=>by rw[h1,aZ,hall,if_pos rfl,h2]
 generalize aZe tr=nt at c5 htk;obtain⟨WV,hWV⟩:∃W:Tr->Int->Int->Int,W=TZ:=⟨_,rfl⟩;rw[<-hWV] at c6 htk;obtain⟨p1,⟨p2,p3,p4,p5,p6⟩,p7,p8⟩:=tr;simp only[Tr.av,Tr.cells,cells_mk,List.map,bLz,bM4,brPs_eq] at c5 c6;refine znt1 hjl ?_;refine bEb hg ?_;refine zr ?_
 cases hfz:dX c env 0 with
 |none=>
  rw[hfz] at c4 htk;simp only at htk;simp only[zEn,zT,En.av,En.cells,cells_mk,List.map] at c4;have:=hstop 9 htk aB;refine zL (c4 _ (hh.app aA)) ?_;refine zor ?_;refine zt ?_;exact y2r
 |some e=>
 rw[hfz] at c4 htk;obtain⟨q,dd,f1,f2,f3,f4,f5⟩:=hfk e hfz;simp only at htk;have hfl:bF1 env e=aQ7 dd e.it.toNat:=by unfold bF1;rw[f1];simp only[bMw,bMk];rw[f2]
 rw[hfl] at htk;obtain⟨x1,x2,x3,x4,⟨x5,x6,x7,x8,x9⟩⟩:=e;simp only at f1 f3 f4 f5 htk;simp only[En.av,En.cells,cells_mk,List.map] at c4;subst f1;refine zL (c4 _ (hh.app aA)) ?_;refine zo ?_
 by_cases hx:x1=4
 rotate_left
 ·rw[if_neg hx] at htk;have:=hstop 9 htk aB;have hx':(x1 !=4)=true:=by simp[hx]
  refine aDg hx' ?_;exact y2r
 rw[if_pos hx] at htk;have f4:=f4 hx;subst hx;refine aAi ?_
 cases a with
 |true=>
  simp only[if_true] at htk;refine bE7 ?_;refine zL (c5 _ (hh.app aA)) ?_
  cases nt with
  |false=>
   have:=hstop 3 (by simpa using htk) aB;refine zot ?_;exact y2r
  |true=>
   have hgo:=hgo 0 (by simpa using htk) rfl;refine zo ?_;refine zf ?_;refine ze ?_;refine znr ?_;refine Run.keep [2,3,4,5,9] ?_;simp;refine yh ?_;exact y67
 |false=>
  simp only[bMe,if_false] at htk;obtain⟨m,hm⟩:∃m:Nat,x3=m:=⟨x3.toNat,by omega⟩;subst hm;rw[bMk] at htk;have hdd:=hdg dd (bMa f2);have c7:=fun g hw=>tJ g hw dd hdd m aB
  have hdl:=bB dd;have htd:List.take 23 (dd.cells.map AV.p)=dd.cells.map .p:=bM7 (by simp[hdl]);have hmn:¬((m:Int)<0):=aB;simp only[Dc.av] at c7;generalize aQ7 dd m=fl at c7 htk;have c6:=c6 (IntKind.i64.wrap (vars+fl)) (IntKind.i64.wrap (depth+1));generalize WV _ _ _=e at c6 htk;refine znf ?_;refine Run.draw [0,0,0,0,0,0,0,0,0,0,0,0,0,1,0,0,1,2] [0,0,0,0,0,0,0,0,0,0,0,0,0,0,0,0,1,0] [0,0,2,0,0,16,0,64,240,496,0,1024,4080,8184,0,16384,65535,131071] [4,5,6,7,8,9,10,11,12,0,1,2,3,13,14,15,16,17] aC aC ?_;refine zd3 f2 hdl htd ?_;refine DR.call rfl rfl rfl aA rfl (c7 _ (hh.app aA)) ?_;refine zd ?_;refine DR.call rfl rfl rfl aA rfl (c6 _ (hh.app aA)) ?_;refine zd ?_;refine y8 ?_;refine znr ?_
  by_cases he:e=0
  ·have hgo:=hgo e htk he;refine znf1r he ?_;refine Run.keep [2,3,4,5,9] ?_;simp;refine yh ?_;exact y67
  ·have:=hstop e htk he;refine znt1 he ?_;exact y2r
open Go Go.AI
def bDs (d:Dc):Bool:=d.rp==0&& sameT d.rt zT&& (d.rr.length:Int)==0
def aQ1 (d:Dc):Bool:=d.fx==0&& (d.cs.length:Int)==0&& bDs d
def rT (d:Dc):Bool:=
 if d.k=0 then sameT d.va zT&& aQ1 d&& (d.fs.length:Int)==0
 else if d.k=1\/d.k=2 then aQ1 d&& (d.fs.length:Int)==0
 else if d.k=3 then sameT d.va zT&& (d.fs.length:Int)==0
 else decide (d.nm=[])&& sameT d.ty zT&& sameT d.va zT&& aQ1 d
theorem aIc (h:Heap)(hh:WF h)(d:Dc)(hd:d.good):ACalls Tryz.prog 217 [d.av] h fun o h'=>o= .ret (bA (rT d))/\h'=h:=by
 have c1:=fun g hw=>pI g hw d.ty hd.ty
 have c2:=fun g hw=>pI g hw d.va hd.va
 have c3:=fun g hw=>pI g hw d.rt hd.rt
 obtain⟨r,hr⟩:∃r,r=rT d:=⟨_,rfl⟩;rw[<-hr];unfold rT aQ1 bDs at hr;have hk:=aLy d.k;generalize sameT d.ty zT=b1 at c1 hr;generalize sameT d.va zT=b2 at c2 hr;generalize sameT d.rt zT=b3 at c3 hr;obtain⟨k,nm,ps,⟨k1,i1,n1,l1,s1⟩,⟨k2,i2,n2,l2,s2⟩,fx,cs,rp,⟨k3,i3,n3,l3,s3⟩,rr,fs⟩:=d;clear hd;simp only at hr hk;simp only[Dc.av,Dc.cells,Tm.av,cells_mk,List.map,bLz,bM4] at c1 c2 c3⊢;obtain⟨rb,hrb⟩:∃rb,rb=(rp==0&& b3&& (rr.length:Int)==0):=⟨_,rfl⟩;rw[<-hrb] at hr;obtain⟨fb,hfb⟩:∃fb,fb=(fx==0&& (cs.length:Int)==0&& rb):=⟨_,rfl⟩;rw[<-hfb] at hr;refine zE Tryz.func217 Tryz.ntmps217 ?_;refine znq ?_
 repeat (first|refine Run.skip ?_|refine Run.opsNil ?_|refine Run.inBlock ?_)
 refine Run.seq ?_;refine Run.joinA [1] [(3,bA rb)] (fun hJ=>?_) ?_
 ·by_cases h1:rp=0
  ·subst h1;refine znr ?_;refine zL (c3 _ (hh.app aA)) ?_
   cases b3 with
   |false=>
    have hrb:rb=false:=by rw[hrb];rfl
    refine Run.ops fun K J=>?_
    simp;refine zi ?_;clear J;exact y4l
   |true=>
    have hrb:rb=((rr.length:Int)==0):=by rw[hrb];simp
    refine Run.ops fun K J=>?_
    simp;refine zi ?_;clear J;exact y4l
  ·have h1':(rp==0)=false:=by simp[h1]
   have hrb:rb=false:=by rw[hrb,h1'];rfl
   refine zn ?_;refine zq1 h1' ?_;exact y4l
 refine y6 ?_;refine zsn ?_;refine Run.regJ [1,3] 4 (fx==0&& (cs.length:Int)==0&& rb) (fun K J=>?_) ?_
 ·simp;exact y1x
 refine y6 ?_;simp;rw[<-hfb];refine znr ?_;clear hrb hfb c3;rcases hk with rfl|hk
 ·rw[if_pos rfl] at hr;refine aT1 ?_;exact y4u
 rcases hk with rfl|hk
 ·rw[if_neg aB,if_pos aB] at hr;refine znrfrt ?_;refine zt ?_;exact y5u
 rcases hk with rfl|hk
 ·rw[if_neg aB,if_pos aB] at hr;refine znrfrfrt ?_;exact y5u
 rcases hk with rfl|hk
 ·rw[if_neg aB,if_neg aB,if_pos rfl] at hr;refine lG ?_;refine zL (c2 _ (hh.app aA)) ?_
  cases b2<;>(
   refine zox ?_;refine zF1 hh ?_;exact⟨by rw[hr];simp,rfl⟩)
 have hk':(k==0)=false/\(k==1)=false/\(k==2)=false/\(k==3)=false:=by
  rcases hk with rfl|h5
  ·decide
  ·exact⟨h5.1,h5.2.1,h5.2.2.1,h5.2.2.2.1⟩
 obtain⟨e0,e1,e2,e3⟩:=hk';rw[if_neg (by simpa using e0),if_neg (by simp at e1 e2;omega),if_neg (by simpa using e3)] at hr;refine cY e0 e1 e2 e3 ?_
 by_cases hn:nm=[]
 ·subst hn;refine znr ?_;refine zL (c1 _ (hh.app aA)) ?_
  cases b1 with
  |false=>
   refine zox ?_;refine zF1 hh ?_;exact⟨by rw[hr];simp,rfl⟩
  |true=>
   refine zo ?_;exact y4u
 ·have hn1:nm.isEmpty=false:=by simp[hn]
  have hn2:(nm==[])=false:=by simp[hn]
  refine aOv hn2 ?_;refine zF1 hh ?_;exact⟨by rw[hr];simp[hn],rfl⟩
def dnE (env:List Dc)(l:List (List UInt8))(j:Nat):Int:=match l[j]? with
 |some s=>if nameB s=false then 29 else if(dX s env 0).isSome=true\/s∈l.take j then 8 else 0
 |none=>0
def dnZ (env:List Dc)(d:Dc):Int:=aL ((List.range (aW d).length).map (dnE env (aW d)))
theorem vE (h:Heap)(hh:WF h)(env:List Dc)(d:Dc)(hd:d.good)(hn:d.nm.length<=1099511627776)(hg:Env.good env)(hs:Env.short env):ACalls Tryz.prog 219 [eU env,d.av] h fun o h'=>o= .ret (iA (dnZ env d))/\h'=h:=by
 have c1:=fun g hw=>qR g hw d hn hd.csl hd.fsl
 have c2:=fun(s:List UInt8) (g:Heap) (hw:WF g)=>iI g hw env s hg hs
 have hnl:=nJ d hd.csl hd.fsl;obtain⟨r,hr⟩:∃r,r=dnZ env d:=⟨_,rfl⟩;rw[<-hr];unfold dnZ at hr;generalize aW d=l at c1 hr hnl
 have hat:∀j,j<l.length->((List.range l.length).map (dnE env l)).take (j+1)=((List.range l.length).map (dnE env l)).take j++[dnE env l j]:=fun j hj=>by
  rw[bNh];simp[hj]
 obtain⟨k,nm,ps,⟨k1,i1,n1,l1,s1⟩,⟨k2,i2,n2,l2,s2⟩,fx,cs,rp,⟨k3,i3,n3,l3,s3⟩,rr,fs⟩:=d;clear hd;simp only[Dc.av,Dc.cells,cells_mk,List.map,bLz,bM4] at c1⊢;refine dE Tryz.func219 Tryz.ntmps219 ?_;refine zL (c1 _ (hh.app aA)) ?_;refine zor ?_;refine Run.loopS [0,3,5] (fun j:Nat=>j<=l.length/\aL (((List.range l.length).map (dnE env l)).take j)=0) (fun j=>l.length-j) (fun j=>[(6,iA j)]) (fun _=>_) 0 (by simp[aL]) ?_ rfl ?_
 ·exact zS
 rintro j ⟨hj,hall⟩ IH;refine cK ?_
 by_cases hjl:j<l.length
 ·have hge:l[j]?=some l[j]:=bLv hjl;have hat:=hat j hjl
  have hee:dnE env l j=if nameB l[j]=false then 29 else if(dX l[j] env 0).isSome=true\/l[j]∈l.take j then 8 else 0:=by
   simp only[dnE,hge]
  rw[hee] at hat;generalize l[j]=s at hge hat;clear hee;have c2:=c2 s;have c3:=fun g hw=>aEt g hw s
  have c4:=fun g hw=>aC3 g hw (l.take j) s (by simp;omega)
  unfold bQ at c2
  have hstop:∀e:Int,((List.range l.length).map (dnE env l)).take (j+1)=((List.range l.length).map (dnE env l)).take j++[e]->e≠0->r=e:=fun e h1 h2=>by
   have e1:aL (((List.range l.length).map (dnE env l)).take (j+1))=e:=by rw[h1,aZ,hall,if_pos rfl]
   rw[hr,dC (j:=j+1) (by rw[e1];exact h2),e1]
  have hgo:∀e:Int,((List.range l.length).map (dnE env l)).take (j+1)=((List.range l.length).map (dnE env l)).take j++[e]->e=0->aL (((List.range l.length).map (dnE env l)).take (j+1))=0:=fun e h1 h2=>by rw[h1,aZ,hall,if_pos rfl,h2]
  have htp:(dR l).take j=dR (l.take j):=by simp[dR]
  have hnj:¬((j:Int)<0):=aB;refine iY hjl hge ?_;refine zL (c3 _ (hh.app aA)) ?_
  cases hnb:nameB s with
  |false=>
   rw[hnb,if_pos rfl] at hat;have:=hstop _ hat aB;refine zot ?_;exact y2r
  |true=>
  rw[hnb,if_neg aA] at hat;refine zo ?_;refine zf ?_;refine zr1 hge ?_
  cases hfz:dX s env 0 with
  |some e=>
   rw[hfz] at c2 hat;rw[if_pos aA] at hat;have:=hstop _ hat aB;obtain⟨x1,x2,x3,x4,⟨x5,x6,x7,x8,x9⟩⟩:=e;simp only[En.av,En.cells,cells_mk,List.map] at c2;refine zL (c2 _ (hh.app aA)) ?_;refine yw ?_;refine zd ?_;refine y8 ?_;refine znt ?_;exact y2r
  |none=>
   rw[hfz] at c2 hat;simp only[zEn,zT,En.av,En.cells,cells_mk,List.map] at c2;refine zL (c2 _ (hh.app aA)) ?_;refine yw ?_;refine zd4 hge htp hnj hj ?_;refine y1k ?_
   by_cases hm:s∈l.take j
   ·rw[if_pos (by simp[hm])] at hat;have:=hstop _ hat aB;refine zd1 hm ?_;refine y8 ?_;refine znt ?_;exact y2r
   ·rw[if_neg (by simp[hm])] at hat;have hgo:=hgo _ hat rfl;refine zd1 hm ?_;refine y8 ?_;refine aIr ?_;refine Run.keep [0,3,5,6] ?_;simp;refine yq ?_;exact y67
 ·have hje:j=l.length:=aB;exact y3j
end Go.Proofs.YtplomildbmcmfaaGreat
