import Derived.Test.YtplomildbmcmfaaGreatZA0
import Derived.Test.YtplomildbmcmfaaGreatZG1
import Derived.Test.YtplomildbmcmfaaGreatZFG
import Derived.Test.YtplomildbmcmfaaGreatZR2
import Derived.Test.YtplomildbmcmfaaGreatZE13
import Derived.Test.YtplomildbmcmfaaGreatZM1
set_option maxRecDepth 8000
set_option maxHeartbeats 8000000
namespace Go.Proofs.YtplomildbmcmfaaGreat
open Go Go.AI
theorem tmPs_len5 (l:List Tm):∀e∈tmPs l,e.length=5:=by
 intro e he;rw[tmPs_eq] at he;obtain⟨t,_,rfl⟩:=bMr.1 he;simp
abbrev row (l:List Tm)(m:Nat):Option AO:=some (.cells (buf 5 (tmPs l) m))
theorem aNg {l:List Tm} {m k:Nat} (hk:k<l.length):((buf 5 (tmPs l) m).drop (k*5)).take 5=(l[k]).cells.map .p:=by
 rw[aUe (tmPs_len5 l) (by simpa using hk)];simp[tmPs_eq]
theorem aNi {l:List Tm} {m k:Nat} (t:Tm)(hk:k<l.length):patch (buf 5 (tmPs l) m) (k*5) (t.cells.map .p)=buf 5 (tmPs (l.set k t)) m:=by
 rw[buf_set (tmPs_len5 l) (by simpa using hk) aA];simp[tmPs_eq,List.map_set]
theorem aCn (l:List Tm)(m:Nat):(buf 5 (tmPs l) m).length=(l.length+m)*5:=by rw[aB1 (tmPs_len5 l)];simp
theorem row_under (n:Nat)(l:List Tm)(m:Nat):AO.under n (row l m)=true:=lO n 5 (tmPs l) m
def wY (ts l:List Tm)(i:Nat):Prop:=l.length=ts.length/\∀k,k<ts.length->l[k]?=if k<i\/ts.length<=k+i then ts[ts.length-1-k]? else ts[k]?
theorem aD3 (ts:List Tm):wY ts ts 0:=⟨rfl,fun k hk=>by rw[if_neg aB]⟩
theorem aD1 {ts l:List Tm} {i:Nat} (h:wY ts l i)(hi:ts.length<=2*i+1):l=ts.reverse:=by
 apply bNj;intro k;rcases bNi k ts.length with hk|hk
 ·rw[h.2 k hk,List.getElem?_reverse hk]
  by_cases hc:k<i\/ts.length<=k+i
  ·rw[if_pos hc]
  ·rw[if_neg hc]
   congr 1;omega
 ·rw[bNz (by rw[h.1];exact hk),bNz (by simpa using hk)]
theorem aD2 {ts l:List Tm} {i:Nat} (h:wY ts l i)(hi:2*i+1<ts.length)(x y:Tm)(hx:l[i]?=some x)(hy:l[ts.length-1-i]?=some y):wY ts ((l.set i y).set (ts.length-1-i) x) (i+1):=by
 refine⟨by simp[h.1],fun k hk=>?_⟩;have h1:=h.2 i aB;have h2:=h.2 (ts.length-1-i) aB;rw[if_neg aB] at h1 h2;rw[hx] at h1;rw[hy] at h2;rw[List.getElem?_set,List.getElem?_set]
 by_cases e1:ts.length-1-i=k
 ·rw[if_pos e1,if_pos (by simp[h.1];omega),if_pos aB];rw[show ts.length-1-k=i by omega];exact h1
 ·rw[if_neg e1]
  by_cases e2:i=k
  ·rw[if_pos e2,if_pos (by rw[h.1];omega),if_pos aB,<-e2];exact h2
  ·rw[if_neg e2,h.2 k hk]
   by_cases hc:k<i\/ts.length<=k+i
   ·rw[if_pos hc,if_pos aB]
   ·rw[if_neg hc,if_neg aB]
theorem reverse_any (h:Heap)(hh:WF h)(ts:List Tm)(id cap m:Nat)(hl:ts.length<=1048576)(hid:h[id]?=some (row ts m)):
  ACalls Tryz.prog 138 [.sm id 0 ts.length cap 5] h fun o h'=>o= .ret (.tup [])/\h'=h.set id (row ts.reverse m):=by
 obtain⟨g1,g2,g3,g4,g5,hlt⟩:=idf hid;refine zER Tryz.func138 Tryz.ntmps138 ?_;refine Run.loopS (ι:=Nat×List Tm) [0] (fun p=>2*p.1<=ts.length+1/\wY ts p.2 p.1) (fun p=>ts.length-p.1) (fun p=>[(2,iA p.1),(3,iA ((ts.length:Int)-1-p.1))]) (fun p=>h.set id (row p.2 m)) (0,ts) ⟨by simp,aD3 ts⟩ ?_ (by simp[iM hid]) ?_
 ·exact zS
 rintro⟨i,l⟩ ⟨hi,ht⟩ IH;simp only at hi ht;simp;have hll:=ht.1
 by_cases hc:2*i+1<ts.length
 ·obtain⟨j,hj⟩:∃j:Nat,j=ts.length-1-i:=⟨_,rfl⟩;have hje:(ts.length:Int)-1-i=(j:Int):=aB;rw[hje];have hc2:i<j:=aB;have hil:i<l.length:=aB;have hjl:j<l.length:=aB;obtain⟨x,hx⟩:∃x,l[i]=x:=⟨_,rfl⟩;obtain⟨y,hy⟩:∃y,l[j]=y:=⟨_,rfl⟩;have hstep:=aD2 ht hc x y (by rw[bLv hil,hx]) (by rw[<-hj,bLv hjl,hy]);rw[<-hj] at hstep;have gx:((buf 5 (tmPs l) m).drop (i*5)).take 5=x.cells.map .p:=by rw[aNg hil,hx]
  have gy:((buf 5 (tmPs l) m).drop (j*5)).take 5=y.cells.map .p:=by rw[aNg hjl,hy]
  have p1:patch (buf 5 (tmPs l) m) (i*5) (y.cells.map .p)=buf 5 (tmPs (l.set i y)) m:=aNi y hil;have p2:patch (buf 5 (tmPs (l.set i y)) m) (j*5) (x.cells.map .p)=buf 5 (tmPs ((l.set i y).set j x)) m:=aNi x (by simpa using hjl);have l1:i*5+5<=(buf 5 (tmPs l) m).length:=by rw[aCn];omega
  have l2:j*5+5<=(buf 5 (tmPs l) m).length:=by rw[aCn];omega
  have l3:j*5+5<=(buf 5 (tmPs (l.set i y)) m).length:=by rw[aCn];simp;omega
  have hi2:i<ts.length:=aB;have hj2:j<ts.length:=aB;refine znr ?_;refine zt1 hc2 ?_;refine Run.draw [0,0,0,0,0,0,0,0,0,0,0,0,0,0,1,1] [0,0,0,0,0,0,0,0,0,0,0,0,0,0,0,1] [0,0,0,0,0,0,48,112,0,0,768,1792,4083,8179,16383,32767] [0,1,4,5,6,7,8,9,10,11,12,13,2,3,14,15] aC aC ?_;refine zd10 hi2 hj2 l1 l2 l3 gx gy p1 p2 g3 ?_;refine y8 ?_;refine znr ?_;refine IH (i+1,(l.set i y).set j x) _ _ ⟨by simp only;omega,hstep⟩ (by simp only;omega) ?_ ?_
  ·simp;exact y6t
  ·simp
 ·have hc2:¬(i:Int)<(ts.length:Int)-1-i:=aB;have hd:=aD1 ht aB;subst hd;refine znr ?_;refine zf1 hc2 ?_;refine ze ?_;refine zn ?_;refine Run.nil ?_;exact Fin.ret' (h0:=h.set id (row ts.reverse m)) aA aA (hh.set (row_under _ _ _)) (bM1 _).symm rfl rfl (Weak.refl _) rfl ⟨rfl,rfl⟩
theorem reverse_nil (h:Heap)(hh:WF h):ACalls Tryz.prog 138 [.p (.sl 5 [])] h fun o h'=>o= .ret (.tup [])/\h'=h:=by
 refine zER Tryz.func138 Tryz.ntmps138 ?_;refine Run.loopS [] (fun _:Unit=>True) (fun _=>0) (fun _=>[(2,iA 0),(3,iA (-1))]) (fun _=>h) () trivial ?_ rfl ?_
 ·exact zS
 rintro _ _ IH;refine aOx ?_;refine Run.nil ?_;exact y2j
open Go Go.AI
def aP0 (n:List UInt8):Tm:= .mk 3 0 n [] []
def aHx (xs ys:List Tm):Bool:=!((xs.length:Int) !=ys.length)&& bH (tmsAt xs ys) xs.length
theorem aHy (l:List Tm):aHx l l=true:=by
 simp only[aHx,bne_self_eq_false,bO8,Bool.true_and];rw[dJ];intro j hj;simp[tmsAt,hj,kG]
theorem aNn (h:Heap)(hh:WF h)(xs ys:List Tm)(hb:xs.length<=1099511627776)(hx:∀u∈xs,u.lvs/\u.size<=1099511627776):
  ACalls Tryz.prog 278 [.p (.sl 5 (tmPs xs)), .p (.sl 5 (tmPs ys))] h fun o h'=>o= .ret (bA (aHx xs ys))/\h'=h:=by
 refine dE Tryz.func278 Tryz.ntmps278 ?_
 by_cases hl:xs.length=ys.length
 ·have h0:((xs.length:Int) !=ys.length)=false:=by simp[hl]
  refine znf1r hl ?_;refine Run.loopS [0,1] (fun j:Nat=>j<=xs.length/\bH (tmsAt xs ys) j=true) (fun j=>xs.length-j) (fun j=>[(5,iA j)]) (fun _=>_) 0 (by simp[bH]) ?_ rfl ?_
  ·exact zS
  ·rintro j ⟨hj,hall⟩ IH;refine cK ?_
   by_cases hjl:j<xs.length
   ·have hg:xs[j]?=some xs[j]:=bLv hjl;have hg':ys[j]?=some ys[j]:=bLv aB;have hm:=hx _ (bLy hjl);generalize xs[j]=u at hg hm;generalize ys[j]'aB=v at hg';have hs:=fun(g:Heap) (hg:WF g)=>kH u.size u v g (bLx _) hm.2 hm.1 hg
    refine znt1 hjl ?_;refine y18 ?_;refine zd2 hg hg' ?_;refine DR.call (args:=[u.av,v.av]) rfl rfl rfl aA rfl (hs _ hh) ?_;refine zd ?_;refine y8 ?_;refine nv ?_;refine Run.condB rfl (fun h1=>?_) (fun h1=>?_)
    ·refine zA ?_;have h2:sameT u v=false:=by simpa using h1
     have:=aT (p:=tmsAt xs ys) hjl (by simp only[tmsAt,hg,hg',h2]);refine zF3 hh ?_;exact⟨by simp only[aHx,this];simp,rfl⟩
    ·exact y52
   ·have hje:j=xs.length:=aB;subst hje;refine znfen ?_;refine zA ?_;refine zF3 hh ?_;exact⟨by simp only[aHx,h0,hall];simp,rfl⟩
 ·have h0:((xs.length:Int) !=ys.length)=true:=by simp;omega
  have hl':¬(xs.length:Int)=ys.length:=aB;refine znt1 hl' ?_;refine zA ?_;refine zF3 hh ?_;exact⟨by simp[aHx,h0],rfl⟩
def aQ2 (vars:Int)(t:Tm):Bool:=decide ((t.size:Int)<=120)&& decide ((t.depth:Int)<=100)&& dK vars 8 100 100 t==0
theorem aQ3 (h:Heap)(hh:WF h)(t:Tm)(vars:Int)(hsz:t.size<=1099511627776)(hf:t.fit):ACalls Tryz.prog 40 [t.av,iA vars] h fun o h'=>o= .ret (bA (aQ2 vars t))/\h'=h:=by
 have h1:=fun(g:Heap) (hg:WF g)=>mK t.size t g (bLx _) hsz hg
 have h2:=fun(g:Heap) (hg:WF g)=>lS t.size t g (bLx _) hsz hg
 have h3:=fun(g:Heap) (hg:WF g)=>lP g hg t vars 8 100 100 hsz hf
 obtain⟨r,hr⟩:∃r,r=aQ2 vars t:=⟨_,rfl⟩;rw[<-hr];unfold aQ2 at hr;generalize dK vars 8 100 100 t=c at h3 hr;generalize t.depth=dp at h2 hr;generalize t.size=sz at h1 hr;obtain⟨k,i,n,ls,ks⟩:=t
 by_cases c1:(sz:Int)<=120
 ·by_cases c2:(dp:Int)<=100
  ·refine ACalls.of_run Tryz.func40 rfl ?_;refine ye ?_;refine zo1 c1 ?_;refine y1q ?_;refine zo1 c2 ?_;refine rl (args:=[(Tm.mk k i n ls ks).av,iA vars,iA 8,iA 100,iA 100]) rfl aF aA rfl (h3 _ (hh.app aA)) ?_;refine zox ?_;exact y6j
  ·refine ACalls.of_run Tryz.func40 rfl ?_;refine ye ?_;refine zo1 c1 ?_;refine y1q ?_;refine zo1 c2 ?_;refine zx ?_;exact y6j
 ·refine ACalls.of_run Tryz.func40 rfl ?_;refine ye ?_;refine zo1 c1 ?_;refine zx ?_;refine Fin.ret' (h0:=h) aA rfl hh rfl aE rfl (Weak.refl _) aA ⟨by rw[hr];simp[c1],rfl⟩
def aXa (ctx:List Tm)(i:Int):Tm×Int:=
 if i<0\/(ctx.length:Int)<=i then(zT,24) else match ctx[((ctx.length:Int)-1-i).toNat]? with
  |some t=>iJ (i+1) 0 t
  |none=>(zT,24)
open Go Go.AI
def isB (k:Int):Tm->Option (Tm×Tm)
 | .mk k' _ _ _ [a,b]=>if k'=k then some (a,b) else none
 |_=>none
def gS:Nat->List Tm->Tm->List Tm×Tm×Int
 |0,acc,t=>(acc,t,0)
 |n+1,acc,t=>match isB 6 t with
  |some (a,b)=>gS n (acc++[a]) b
  |none=>([],zT,13)
def aU (t:Tm)(n:Int):List Tm×Tm×Int:=if n<0 then([],zT,2) else gS n.toNat [] t
theorem aHf (h:Heap)(hh:WF h)(t:Tm)(n:Int)(hsz:t.size<=1048576)(hn:n<=9223372036854775807):
  ACalls Tryz.prog 162 [t.av,iA n] h fun o h'=>o= .ret (.tup [.p (.sl 5 (tmPs (aU t n).1)),(aU t n).2.1.av,iA (aU t n).2.2])/\h'=h:=by
 obtain⟨r,hr⟩:∃r,r=aU t n:=⟨_,rfl⟩;rw[<-hr];unfold aU at hr
 by_cases c0:n<0
 ·rw[if_pos c0] at hr;subst hr;obtain⟨k,i,nm,ls,ks⟩:=t;refine ACalls.of_run Tryz.func162 rfl ?_;simp only[Tryz.ntmps162,bM2,bM3,Tm.av,cells_mk,List.map];refine wR c0 ?_;refine Fin.ret' (h0:=h) (xs:=[.p (.prim (.slice none 0 0)), .agg zTm,iA 2]) aA rfl hh rfl aA rfl (Weak.tup (WeakL.cons (Weak.nil 5) (WeakL.cons Weak.zT (WeakL.refl _)))) aA ⟨rfl,rfl⟩
 rw[if_neg c0] at hr;obtain⟨N,hN⟩:∃N:Nat,n=N:=⟨n.toNat,by omega⟩;subst hN;rw[bMk] at hr;obtain⟨tc,htc⟩:∃tc,tc=t.cells.map AV.p:=⟨_,rfl⟩;simp only[Tm.av];rw[<-htc];have htl:tc.length=5:=by rw[htc];simp
 have htu:∀n,AV.underL n tc=true:=fun n=>by rw[htc];exact underL_p _ _
 refine dE Tryz.func162 Tryz.ntmps162 ?_;refine yl ?_;refine Run.tok 7 5 aA ?_;simp;rw[htc]
 refine Run.loopS (ι:=List Tm×Tm) [1,2,5] (fun p=>p.1.length+p.2.size<=t.size/\p.1.length<=N/\r=gS (N-p.1.length) p.1 p.2) (fun p=>p.2.size) (fun p=>[(7, .own (h.length+2) 5 (tmPs p.1))])
  (fun p=>h++[some (.cells (p.2.cells.map .p)),some (.cells zTm),some (.tok p.1.length 5)]) ([],t) ⟨by simp,by simp,by simpa using hr⟩ ?_ aA ?_
 ·simp[tmPs];exact zK
 rintro⟨acc,cur⟩ ⟨hs,hle,hra⟩ IH;simp only at hs hle hra;simp
 by_cases hlt:acc.length<N
 ·refine aDg hlt ?_;obtain⟨m,hm⟩:∃m,N-acc.length=m+1:=⟨N-acc.length-1,by omega⟩;rw[hm] at hra;simp only[gS] at hra;obtain⟨k,i,nm,ls,ks⟩:=cur
  by_cases hk:k=6
  ·subst hk
   by_cases hks:ks.length=2
   ·obtain⟨a,b,rfl⟩:∃a b,ks=[a,b]:=by
     match ks,hks with
     |[a,b],_=>exact⟨a,b,rfl⟩
    simp only[isB,if_true] at hra;simp only[Tm.size,Tm.sizes] at hs;have hb1:(acc.length+1)*80<=140737488355328:=by have:=t.size_pos;omega
    have hb2:acc.length+1<=9223372036854775807:=aB;refine znr ?_;refine zf ?_;refine zrv15 hb1 hb2 ?_;refine zr ?_;refine IH (acc++[a],b) _ _ ⟨by simp only[bM5,bNy];have:=a.size_pos;omega,by simp;omega,?_⟩ (by simp only[Tm.size,Tm.sizes];have:=a.size_pos;omega) ?_ ?_
    ·rw[hra]
     congr 1
     simp;omega
    ·simp[tmPs_snoc];exact zK
    ·simp
   ·have hk2:((ks.length:Int) !=2)=true:=by simp;omega
    have hib:isB 6 (Tm.mk 6 i nm ls ks)=none:=by
     match ks,hks with
     |[],_=>rfl
     |[_],_=>rfl
     |_::_::_::_,_=>rfl
    rw[hib] at hra;simp only at hra;subst hra;refine nU hk2 ?_;exact y4p
  ·have hkb:(k !=6)=true:=by simpa using hk
   have hib:isB 6 (Tm.mk k i nm ls ks)=none:=by
    match ks with
    |[]=>rfl
    |[_]=>rfl
    |[_,_]=>simp[isB,hk]
    |_::_::_::_=>rfl
   rw[hib] at hra;simp only at hra;subst hra;refine nU hkb ?_;exact y4p
 ·have he:N-acc.length=0:=aB;rw[he] at hra;simp only[gS] at hra;subst hra;obtain⟨k,i,nm,ls,ks⟩:=cur;refine znr1fen hlt ?_;refine Run.draw [0,0,0,0,1] [0,0,0,0,0] [0,0,1,7,15] [0,1,2,3,4] aC aC ?_;refine zd ?_;refine y8 ?_;refine znx ?_;refine Fin.ret' (h0:=h) (xs:=[.own (h.length+2) 5 (tmPs acc),(Tm.mk k i nm ls ks).av,iA 0]) aA rfl hh rfl aA rfl (Weak.tup (WeakL.cons (Weak.own _ _ _) (WeakL.refl _))) aA ⟨rfl,rfl⟩
open Go Go.AI
theorem rS (t:Tm)(vs:List Tm)(dp:Int)(hok:t.ok 65536)(hsz:t.size<=4096)(hvl:vs.length<=1048576)(hvo:∀v∈vs,v.ok 65536/\v.size<=4096)(h1:dp<=9223372036854775807)(h:Heap)(hh:WF h):
  ACalls Tryz.prog 263 [t.av, .p (.sl 5 (tmPs vs)),iA dp] h (fun o h'=>o= .ret (.tup [(aM t vs dp).1.av,iA (aM t vs dp).2])/\h'=h)/\
  ACalls Tryz.prog 75 [t.av, .p (.sl 5 (tmPs vs)),iA dp] h (fun o h'=>o= .ret (.tup [(aM t vs dp).1.av,iA (aM t vs dp).2])/\h'=h):=by
 have hr:=aNe t vs dp hok aB aB (fun v hv=>(hvo v hv).1) (fun v hv=>by have:=(hvo v hv).2;omega) h1;have hvd:∀v∈vs,Dom 65536 v 0:=fun v hv=>⟨by simpa using(hvo v hv).1,by omega,by have:=(hvo v hv).2;omega⟩
 have hok':=fun(h0:0<=dp)=>aNz vs (fun v hv=>(hvo v hv).1) t (cT dp) (65536+cT dp) (nL t _ _ hok (by unfold cT;split<;>omega)) (by unfold cT;split<;>omega) aB
 constructor
 ·rw[<-hr];refine aOc h hh t vs dp ⟨⟨by simpa using hok,by omega,by omega⟩,by omega⟩ h1 aB hvd (fun v hv=>by have:=(hvo v hv).2;omega) ?_;intro h0 t' s' u s2 hc hs;have hc':=aAy vs aB (fun v hv=>by have:=(hvo v hv).2;omega) dp h0 h1 t 0 0 (by simpa using hok) aB aB aB aB;have hs':=aAz vs aB (fun v hv=>(hvo v hv).1) dp h0 h1 t 0 0 (by simpa using hok) aB aB;simp only[Int.add_zero,Int.zero_add] at hc' hs'
  by_cases h5:4096<(cR vs (cT dp) t:Int)
  ·obtain⟨s3,e3⟩:=hc'.2 h5;rw[e3] at hc;cases hc
  ·rw[hs] at hs'
   by_cases hb:fE vs (cT dp) t=true
   ·rw[if_pos hb] at hs';cases hs'
   ·rw[if_neg hb] at hs'
    injection hs' with e1 e2
    have:=(hok' h0 (by simpa using hb)).2;rw[e1,this];omega
 ·refine zG h hh t vs dp aB (fun v hv=>⟨by have:=(hvo v hv).2;omega,aMj v 65536 (hvo v hv).1 (by have:=(hvo v hv).2;omega)⟩) aB (aMj t 65536 hok aB) ?_;intro h07
  by_cases h0:dp<0
  ·rw[aM,if_pos h0] at h07;simp at h07
  ·rw[jS t vs dp aB,zM] at h07;have hl:=vZ vs t 0 0 (cT dp)
   by_cases h5:4096<(cR vs (cT dp) t:Int)
   ·rw[if_pos h5] at h07;simp at h07
   ·rw[if_neg h5] at h07
    by_cases hb:fE vs (cT dp) t=true
    ·rw[if_pos hb] at h07;simp at h07
    ·rw[hl.1 aB];have:=(hok' aB (by simpa using hb)).2;simp only;rw[this];omega
theorem aCx (t:Tm)(vs:List Tm)(hok:t.ok 65536)(hsz:t.size<=4096)(hvl:vs.length<=1048576)(hvo:∀v∈vs,v.ok 65536/\v.size<=4096)(h:Heap)(hh:WF h):
  ACalls Tryz.prog 205 [t.av, .p (.sl 5 (tmPs vs))] h (fun o h'=>o= .ret (.tup [(aM t vs 0).1.av,iA (aM t vs 0).2])/\h'=h)/\
  ACalls Tryz.prog 34 [t.av, .p (.sl 5 (tmPs vs))] h (fun o h'=>o= .ret (.tup [(aM t vs 0).1.av,iA (aM t vs 0).2])/\h'=h):=
 ⟨aO0 h hh t vs _ fun g hg=>(rS t vs 0 hok hsz hvl hvo aB g hg).1,zF h hh t vs _ fun g hg=>(rS t vs 0 hok hsz hvl hvo aB g hg).2⟩
abbrev vc (x:Int):List PV:=[iP 0,iP x,sP [], .prim (.slice none 0 0), .prim (.slice none 0 0)]
theorem aTu (l:List Int):∀e∈l.map vc,e.length=5:=by
 intro e he;obtain⟨x,_,rfl⟩:=bMr.1 he
 rfl
theorem aOi:∀l:List Int,WeakPs (l.map vc) (tmPs (l.map vr))
 |[]=>WeakPs.nil
 |x::l=>by
  simp only[bMd,tmPs,vr,cells_mk];refine WeakPs.cons ?_ (aOi l)
  repeat' (first|exact WeakPL.nil|apply WeakPL.cons)
  all_goals first|exact WeakP.refl _|exact WeakP.nil _
def bGf (n fr:Int):List Int:=if n<1\/4096<n\/fr<0 then [] else(List.range n.toNat).map fun j:Nat=>fr+n-1-j
def bE1 (n fr:Int):List Tm:=(bGf n fr).map vr
def gD (fr:Int)(N j:Nat):List (List PV):=((List.range j).map fun j:Nat=>fr+N-1-j).map vc++List.replicate (N-j) z5
theorem rY (fr:Int)(N j:Nat):∀e∈gD fr N j,e.length=5:=by
 intro e he;rcases bMo.1 he with h|h
 ·exact aTu _ e h
 ·rw[(bOp.1 h).2];rfl
theorem mO (fr:Int)(N j:Nat)(hj:j<=N):(gD fr N j).length=N:=by simp[gD];omega
theorem aIf (fr:Int)(N j:Nat)(hj:j<N):(gD fr N j).set j (vc (fr+N-1-j))=gD fr N (j+1):=by
 unfold gD;rw[bNf _ _ aA,show N-j=N-(j+1)+1 by omega,bN3];simp only[bMp,List.length_range,Nat.sub_self,bO1,List.range_succ,bMy,bMd,bNb,bMj,bLz,bM4]
theorem aD8 (fr:Int)(N:Nat):(List.replicate N [iA 0,iA 0,AV.p (sP []),AV.p (.prim (.slice none 0 0)),AV.p (.prim (.slice none 0 0))]).flatten=buf 5 (gD fr N 0) 0:=by
 rw[mE];simp[cE,buf,gD,tmPs]
theorem aIg (h:Heap)(hh:WF h)(n fr:Int)(hn:-9223372036854775808<=n)(hn2:n<=9223372036854775807)(hf:fr<=1099511627776):ACalls Tryz.prog 101 [iA n,iA fr] h fun o h'=>o= .ret (.p (.sl 5 (tmPs (bE1 n fr))))/\h'=h:=by
 obtain⟨r,hr⟩:∃r,r=bGf n fr:=⟨_,rfl⟩;unfold bE1;rw[<-hr];unfold bGf at hr
 by_cases c1:n<1
 ·rw[if_pos (.inl c1)] at hr;subst hr;refine ACalls.of_run Tryz.func101 rfl ?_;refine y1i ?_;refine wQ c1 ?_;exact y3m
 by_cases c2:4096<n
 ·rw[if_pos (.inr (.inl c2))] at hr;subst hr;refine ACalls.of_run Tryz.func101 rfl ?_;refine y1i ?_;refine znr ?_;refine zr2 c1 c2 ?_;exact y3m
 by_cases c3:fr<0
 ·rw[if_pos (.inr (.inr c3))] at hr;subst hr;refine ACalls.of_run Tryz.func101 rfl ?_;refine y1i ?_;refine znr ?_;refine zr3 c1 c2 c3 ?_;exact y3m
 rw[if_neg aB] at hr;obtain⟨N,hN⟩:∃N:Nat,n=N:=⟨n.toNat,by omega⟩;subst hN;rw[bMk] at hr;have hm1:N*80<=140737488355328:=aB;have hm2:N<=1099511627776:=aB;refine zER Tryz.func101 Tryz.ntmps101 ?_;refine zr3 c1 c2 c3 ?_;refine zf ?_;refine zr2 hm1 hm2 ?_;rw[aD8 fr N];refine znr ?_;refine Run.loopS [0,1,5,20] (fun j:Nat=>j<=N) (fun j=>N-j) (fun j=>[(21,iA j)]) (fun j=>h++[some (.cells (buf 5 (gD fr N j) 0))]) 0 aA ?_ aA ?_
 ·exact zS
 intro j hj IH;refine cK ?_
 by_cases hjl:j<N
 ·have hl:=mO fr N j hj;have hw1:IntKind.i64.wrap (fr+N)=fr+N:=wrap_id aB aB;have hw2:IntKind.i64.wrap (fr+N-1)=fr+N-1:=wrap_id aB aB;have hw3:IntKind.i64.wrap (fr+N-1-j)=fr+N-1-j:=wrap_id aB aB
  have hput:patch (buf 5 (gD fr N j) 0) (j*5) [iA 0,iA (fr+N-1-j), .p (sP []), .p (.prim (.slice none 0 0)), .p (.prim (.slice none 0 0))]=buf 5 (gD fr N (j+1)) 0:=by
   have:=buf_set (m:=0) (k:=j) (e:=vc (fr+N-1-j)) (rY fr N j) aB rfl;rw[aIf fr N j hjl] at this;exact this
  have hlen:j*5+5<=(buf 5 (gD fr N j) 0).length:=by rw[aB1 (rY fr N j),hl];omega
  refine lH hjl ?_;refine zr5 hjl hw1 hw2 hw3 hlen ?_;refine zr ?_;refine IH (j+1) _ _ aB aB ?_ ?_
  ·exact zS
  ·exact congrArg (fun c=>h++[some (AO.cells c)]) hput
 ·have hje:j=N:=aB;subst hje;refine oR ?_;have hfin:gD fr j j=r.map vc:=by rw[hr];simp[gD]
  rw[hfin];refine Run.freezeS 4 (id:=h.length) (n:=j) (cap:=j) (sz:=5) (m:=0) (es:=r.map vc) aA aA (aTu r) (by rw[<-hfin,mO _ _ _ (bLx _)]) (bLx _) ?_;simp;refine Run.ret ?_;exact Fin.ret' (h0:=h) (xs:=[.p (.sl 5 (r.map vc))]) aA rfl hh rfl aA rfl (WeakP.sl (aOi r)).av rfl ⟨rfl,rfl⟩
open Go Go.AI
def aX9 (ctx:List Tm)(t:Tm)(args:List Tm):Tm×Int:=if args.length≠ctx.length then(zT,6) else aM t args.reverse 0
open Go Go.AI
def bGk (k:Int)(ctx:List Tm)(t:Tm):Tm:=ctx.foldr (fun a t=> .mk k 0 [] [] [a,t]) t
open Go Go.AI
def allF (k:Int):Nat->List Tm->Tm->List Tm×Tm
 |0,acc,t=>(acc,t)
 |n+1,acc,t=>match isB k t with
  |some (a,b)=>allF k n (acc++[a]) b
  |none=>(acc,t)
def iV (t:Tm):List Tm×Tm:=allF 6 t.size [] t
theorem aIy (h:Heap)(hh:WF h)(t:Tm)(hsz:t.size<=1048576):
  ACalls Tryz.prog 179 [t.av] h fun o h'=>o= .ret (.tup [.p (.sl 5 (tmPs (iV t).1)),(iV t).2.av])/\h'=h:=by
 obtain⟨r,hr⟩:∃r,r=iV t:=⟨_,rfl⟩;rw[<-hr];unfold iV at hr;obtain⟨tc,htc⟩:∃tc,tc=t.cells.map AV.p:=⟨_,rfl⟩;simp only[Tm.av];rw[<-htc];have htl:tc.length=5:=by rw[htc];simp
 refine dE Tryz.func179 Tryz.ntmps179 ?_;exact y21
theorem aIz (h:Heap)(hh:WF h)(t:Tm)(hsz:t.size<=1048576):
  ACalls Tryz.prog 194 [t.av] h fun o h'=>o= .ret (.tup [.p (.sl 5 (tmPs (iV t).1)),(iV t).2.av])/\h'=h:=by
 obtain⟨r,hr⟩:∃r,r=iV t:=⟨_,rfl⟩;rw[<-hr];unfold iV at hr;obtain⟨tc,htc⟩:∃tc,tc=t.cells.map AV.p:=⟨_,rfl⟩;simp only[Tm.av];rw[<-htc];have htl:tc.length=5:=by rw[htc];simp
 refine dE Tryz.func194 Tryz.ntmps194 ?_;exact y21
end Go.Proofs.YtplomildbmcmfaaGreat
