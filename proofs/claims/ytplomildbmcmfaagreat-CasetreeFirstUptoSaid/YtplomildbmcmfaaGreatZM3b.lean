import Derived.Test.YtplomildbmcmfaaGreatZA0
import Derived.Test.YtplomildbmcmfaaGreatZFLB
import Derived.Test.YtplomildbmcmfaaGreatZM1
import Derived.Test.YtplomildbmcmfaaGreatZEVc
set_option maxRecDepth 8000
set_option maxHeartbeats 4000000
namespace Go.Proofs.YtplomildbmcmfaaGreat
open Go Go.AI
def aCf (c:Int)(vs:List (Int×Int))(j:Nat):Bool:=match vs[j]? with|some v=>!decide (c<=v.2)|none=>true
def nY (c:Int)(vs:List (Int×Int)):Bool:=!bH (aCf c vs) vs.length
theorem aPf (h:Heap)(hh:WF h)(q:Nat)(c x y:Int)(vs0:List (Int×Int))(hq:h[q]?=some (some (.cells [iA c, .p (.sl 2 (jC vs0))]))):
  ACalls Tryz.prog 402 [.agg [iA x,iA y], .ptr q 0] h fun o h'=>o= .ret (bA (decide (c<=y)))/\h'=h:=by
 have hql:=(bLw.1 hq).1;have hq':∀l:List (Option AO),(h++l)[q]?=some (some (.cells [iA c, .p (.sl 2 (jC vs0))])):=fun l=>by rw[bM9 hql];exact hq
 refine zE Tryz.func402 Tryz.ntmps402 ?_;refine wQ hq' ?_;refine zx ?_;exact y29
theorem aJc (h:Heap)(hh:WF h)(q:Nat)(c:Int)(vs0 vs:List (Int×Int))(hb:vs.length<=1048576)(hq:h[q]?=some (some (.cells [iA c, .p (.sl 2 (jC vs0))]))):
  ACalls Tryz.prog 420 [.p (.sl 2 (jC vs)), .fn (.func 402) [] [.ptr q 0]] h fun o h'=>∃r:Int,o= .ret (iA r)/\h'=h/\decide (0<=r)=nY c vs:=by
 refine dE Tryz.func420 Tryz.ntmps420 ?_;refine Run.loopS [0,1,7] (fun j:Nat=>j<=vs.length/\bH (aCf c vs) j=true) (fun j=>vs.length-j) (fun j=>[(8,iA j)]) (fun _=>_) 0 (by simp[bH]) ?_ rfl ?_
 ·exact zS
 ·rintro j ⟨hj,hall⟩ IH;refine cK ?_
  by_cases hjl:j<vs.length
  ·have hg:vs[j]?=some vs[j]:=bLv hjl;obtain⟨⟨x,y⟩,hxy⟩:∃p,vs[j]=p:=⟨_,rfl⟩;rw[hxy] at hg;refine lH hjl ?_;refine zr1 hg ?_;refine zL (aPf h hh q c x y vs0 hq) ?_;refine zo ?_
   by_cases h1:c<=y
   ·refine znt1 h1 ?_;refine zA ?_;have:=aT (p:=aCf c vs) hjl (by simp only[aCf,hg];simp[h1]);refine zF3 hh ?_;exact⟨j,rfl,rfl,by simp[nY,this]⟩
   ·refine znf1r h1 ?_;refine IH (j+1) _ _ ⟨by omega,by rw[allTo_succ,hall];simp only[aCf,hg];simp[h1]⟩ aB ?_ rfl;exact zS
  ·have hje:j=vs.length:=aB;subst hje;refine znfen ?_;refine zA ?_;refine zF3 hh ?_;exact⟨-1,rfl,rfl,by simp[nY,hall]⟩
theorem pT (h:Heap)(hh:WF h)(q:Nat)(c:Int)(vs0 vs:List (Int×Int))(hb:vs.length<=1048576)(hq:h[q]?=some (some (.cells [iA c, .p (.sl 2 (jC vs0))]))):
  ACalls Tryz.prog 401 [.p (.sl 2 (jC vs)), .fn (.func 402) [] [.ptr q 0]] h fun o h'=>o= .ret (bA (nY c vs))/\h'=h:=by
 refine dE Tryz.func401 Tryz.ntmps401 ?_;refine Run.call rfl rfl aA rfl (aJc h hh q c vs0 vs hb hq) ?_ ?_
 ·rintro v h' ⟨r,hv,rfl,hr⟩;exact y5h
 ·rintro v h' ⟨r,hv,_⟩;cases hv
theorem aB7 (h:Heap)(hh:WF h)(c:Int)(vs:List (Int×Int))(hb:vs.length<=1048576):
  ACalls Tryz.prog 365 [.agg [iA c, .p (.sl 2 (jC vs))]] h fun o h'=>o= .ret (bA (nY c vs))/\h'=h:=by
 have hc:=pT (h++[some (.cells [iA c, .p (.sl 2 (jC vs))])]) (hh.app aA) h.length c vs vs hb aA;refine dE Tryz.func365 Tryz.ntmps365 ?_;refine zL (hc) ?_;refine zox ?_;exact y29
theorem aD7 (c:Int)(vs:List (Int×Int)):gY ⟨c,vs⟩=(!(decide (c<0)||(decide (100<c)||(decide (0<c)&& nY c vs)))&& bH (gZ (-1) vs) vs.length):=by
 unfold gY nY
 by_cases h1:c<0
 ·simp[h1]
 ·by_cases h2:100<c
  ·simp[h1,h2]
  ·by_cases h3:0<c
   ·simp only[h1,h2,h3,decide_false,decide_true,Bool.or_self,bO8,Bool.true_and,bO6,Bool.not_not];rw[bMt,bM8,dJ,dJ,dJ];constructor
    ·intro h;refine⟨fun j hj=>?_,fun j hj=>?_⟩
     ·have:=h j hj;rw[gZ,bLv hj] at this;simp only[aCf,bLv hj];simp at this⊢;omega
     ·have:=h j hj;rw[gZ,bLv hj] at this⊢;simp at this⊢;exact⟨this.1.1,this.1.2⟩
    ·rintro⟨ha,hb⟩ j hj;have h4:=ha j hj;have h5:=hb j hj;rw[gZ,bLv hj] at h5⊢;simp only[aCf,bLv hj] at h4;simp at h4 h5⊢;exact⟨⟨h5.1,h5.2⟩, .inr aB⟩
   ·have e:gZ c vs=gZ (-1) vs:=by
     funext j
     unfold gZ
     cases vs[j]? with
     |none=>rfl
     |some v=>simp[h3]
    simp[h1,h2,h3,e]
theorem aIa (h:Heap)(hh:WF h)(l:Lv)(hb:l.vars.length<=1048576):ACalls Tryz.prog 336 [l.av] h fun o h'=>o= .ret (bA (gY l))/\h'=h:=by
 obtain⟨c,vs⟩:=l;simp only at hb;simp only[Lv.av,Lv.cells,List.map];have hcv:=aB7 (h++[some (.cells [iA c, .p (.sl 2 (jC vs))])]) (hh.app aA) c vs hb;rw[aD7];generalize nY c vs=cv at hcv;obtain⟨r,hr⟩:∃r,r=(!(decide (c<0)||(decide (100<c)||(decide (0<c)&& cv)))&& bH (gZ (-1) vs) vs.length):=⟨_,rfl⟩;rw[<-hr];have hcase:(decide (c<0)||(decide (100<c)||(decide (0<c)&& cv)))=true\/(decide (c<0)||(decide (100<c)||(decide (0<c)&& cv)))=false:=by cases (decide (c<0)||(decide (100<c)||(decide (0<c)&& cv)))<;>simp
 refine zER Tryz.func336 Tryz.ntmps336 ?_;refine Run.joinA [0,1] [(21,bA (decide (c<0)||(decide (100<c)||(decide (0<c)&& cv))))] (fun hJ=>?_) ?_
 ·by_cases c1:c<0
  ·refine zn ?_;refine zq1 c1 ?_
   repeat (first|refine Run.skip ?_|refine Run.opsNil ?_|refine Run.inBlock ?_)
   refine hJ _ ?_;simp[c1];exact zK
  ·by_cases c2:100<c
   ·refine zn ?_;refine zq2 c1 c2 ?_
    repeat (first|refine Run.skip ?_|refine Run.opsNil ?_|refine Run.inBlock ?_)
    refine hJ _ ?_;simp[c1,c2];exact zK
   ·by_cases c3:0<c
    ·refine zn ?_;refine zq3 c1 c2 c3 ?_
     repeat (first|refine Run.skip ?_|refine Run.opsNil ?_|refine Run.inBlock ?_)
     refine zL (hcv) ?_;refine Run.ops fun K J=>?_
     simp;refine zi ?_;clear J;exact y6n
    ·refine zn ?_;refine zq3 c1 c2 c3 ?_;exact y6n
 refine y6 ?_;simp;rcases hcase with hc|hc
 ·rw[hc];refine zA ?_;refine zF2 hh ?_;exact⟨by rw[hr,hc];rfl,rfl⟩
 rw[hc];rw[hc] at hr;refine aIr ?_;refine Run.loopS [1,23,24] (fun j:Nat=>j<=vs.length/\bH (gZ (-1) vs) j=true) (fun j=>vs.length-j) (fun j=>[(25,iA j)]) (fun _=>_) 0 (by simp[bH]) ?_ rfl ?_
 ·exact zS
 rintro j ⟨hj,hall⟩ IH;refine cK ?_
 by_cases hjl:j<vs.length
 ·have hg:vs[j]?=some vs[j]:=bLv hjl;obtain⟨⟨x,y⟩,hxy⟩:∃p,vs[j]=p:=⟨_,rfl⟩;rw[hxy] at hg;refine iY hjl hg ?_;obtain⟨b2,hb2⟩:∃b,b=(decide (0<j)&& (match vs[j-1]? with|some u=>decide (x<=u.1)|none=>false)):=⟨_,rfl⟩
  have hvk:gZ (-1) vs j=!(decide (x< -65536)||(decide (7<x)||(decide (y<0)||(decide (100<y)||b2)))):=by
   have x2e:decide (8<=x)=decide (7<x):=by rw[decide_eq_decide];omega
   rw[hb2];simp only[gZ,hg,x2e]
   cases vs[j-1]?<;>simp[Bool.and_assoc]
  have hjj:(∃u,0<j/\vs[j-1]?=some u)\/j=0:=by
   exact y68
  refine Run.joinA [1,23,24,25] [(63,bA (decide (x< -65536)||(decide (7<x)||(decide (y<0)||(decide (100<y)||b2)))))] (fun hJ=>?_) ?_
  ·refine nv ?_;refine Run.drawPlain [0,0,0,0,0,0,0,0,0,0,0,0,0,0,0,0,0,0,0,0,0,0,0,0,0,0,0,0,0,0,0,0,0,0] [0,0,0,0,0,0,0,0,0,0,0,0,0,0,0,0,0,0,0,0,0,0,0,0,0,0,0,0,0,0,0,0,0,0] [0,1,3,7,15,31,63,127,255,511,1023,2047,4095,8191,16383,32767,65535,131071,262143,524287,1048575,2097151,4194303,8388607,4194303,20971519,67108863,134217727,268435455,4194303,541065215,2147483647,4294967295,8589934591] aC aC rfl (fun K J=>?_)
   by_cases x1:x< -65536
   ·simp (maxSteps:=1000000) [x1];refine J _ (hJ _ ?_);simp[x1];exact zK
   by_cases x2:7<x
   ·simp (maxSteps:=1000000) [x1,x2];refine J _ (hJ _ ?_);simp[x1,x2];exact zK
   by_cases x3:y<0
   ·simp (maxSteps:=1000000) [x1,x2,x3];refine J _ (hJ _ ?_);simp[x1,x2,x3];exact zK
   by_cases x4:100<y
   ·exact y7j
   rcases hjj with ⟨u,hj0,hu⟩|hj0
   ·have hw:IntKind.i64.wrap ((j:Int)-1)=(j:Int)-1:=wrap_id aB aB;have hn:¬((j:Int)-1<0):=aB;have ht:((j:Int)-1).toNat=j-1:=aB;have hb3:b2=decide (x<=u.1):=by rw[hb2,hu];simp[hj0]
    rw[hb3] at hJ;clear hb3 hb2 hvk;simp (maxSteps:=1000000) [hw,hn,ht,hu,hj0,x1,x2,x3,x4];refine J _ (hJ _ ?_);simp[x1,x2,x3,x4];exact zK
   ·subst hj0;have hb3:b2=false:=by rw[hb2];simp
    rw[hb3] at hJ;exact y7j
  refine y6 ?_;simp;refine Run.condB rfl (fun h2=>?_) (fun h2=>?_)
  ·refine zA ?_;refine Fin.ret' (h0:=h) aA rfl hh rfl rfl rfl (Weak.refl _) rfl ⟨?_,rfl⟩;rw[hr,aT hjl (by rw[hvk,h2];rfl)];simp
  ·refine znr ?_;refine yq ?_;refine IH (j+1) _ _ ⟨by omega,?_⟩ aB ?_ ?_
   ·rw[allTo_succ,hall,hvk,h2];rfl
   ·exact zS
   ·simp
 ·have hje:j=vs.length:=aB;subst hje;refine znfen ?_;refine zA ?_;refine Fin.ret' (h0:=h) aA rfl hh rfl rfl rfl (Weak.refl _) rfl ⟨by rw[hr,hall];rfl,rfl⟩
open Go Go.AI
def bCx (p:Int)(vs:List (Int×Int))(j:Nat):Bool:=match vs[j]? with|some v=>!(decide (0<=v.1)&& decide (p<=v.1))|none=>true
def bCw (l:Int)(vs:List (Int×Int))(j:Nat):Bool:=match vs[j]? with|some v=>!(decide (v.1<0)&& decide (l<=-1-v.1))|none=>true
theorem aM8 (p l c:Int)(vs:List (Int×Int)):bO p l ⟨c,vs⟩=if gY ⟨c,vs⟩=false then 3 else if bH (bCx p vs) vs.length=false then 15 else if bH (bCw l vs) vs.length=false then 23 else 0:=rfl
theorem aI8 (h:Heap)(hh:WF h)(l:Lv)(v p m k:Int)(h0:0<=p)(hb:l.vars.length<=1048576)(hr:∀v∈l.vars,-9223372036854775808<=v.1):
  ACalls Tryz.prog 290 [.agg [iA v,iA p,iA m,iA k],l.av] h fun o h'=>o= .ret (iA (bO p k l))/\h'=h:=by
 have hval:=aIa (h++[some (.cells [iA v,iA p,iA m,iA k]),some (.cells (l.cells.map .p))]) (hh.app aA) l hb;obtain⟨c,vs⟩:=l;simp only at hb hr;simp only[Lv.av,Lv.cells,List.map] at hval⊢;obtain⟨r,hrr⟩:∃r,r=bO p k ⟨c,vs⟩:=⟨_,rfl⟩;rw[<-hrr];rw[aM8] at hrr;refine dE Tryz.func290 Tryz.ntmps290 ?_;refine zL (hval) ?_
 cases hvb:gY ⟨c,vs⟩ with
 |false=>
  rw[hvb] at hrr;refine zot ?_;exact y6z
 |true=>
  rw[hvb] at hrr;refine zofr ?_;refine Run.loopS [2,3,13,14] (fun j:Nat=>j<=vs.length/\bH (bCx p vs) j=true) (fun j=>vs.length-j) (fun j=>[(15,iA j)]) (fun _=>_) 0 (by simp[bH]) ?_ rfl ?_
  ·exact zS
  rintro j ⟨hj,hall⟩ IH;refine cK ?_
  by_cases hjl:j<vs.length
  ·have hg:vs[j]?=some vs[j]:=bLv hjl;obtain⟨⟨x,y⟩,hxy⟩:∃p,vs[j]=p:=⟨_,rfl⟩;rw[hxy] at hg;refine aDi hjl hg ?_
   by_cases h1:p<=x
   ·have hx0:0<=x:=aB;refine znt1 h1 ?_;refine zA ?_;refine Fin.ret' (h0:=h) aA rfl hh rfl rfl rfl (Weak.refl _) rfl ⟨?_,rfl⟩;rw[hrr,aT (p:=bCx p vs) hjl (by simp only[bCx,hg];rw[decide_eq_true h1,decide_eq_true hx0];rfl)]
    rfl
   ·refine znf1r h1 ?_;refine Run.keep [2,3,13,14,15] ?_;simp;refine yh ?_;refine IH (j+1) _ _ ⟨by omega,?_⟩ aB ?_ ?_
    ·rw[allTo_succ,hall];simp only[bCx,hg];rw[decide_eq_false h1];simp
    ·exact zS
    ·simp
  ·have hje:j=vs.length:=aB;subst hje;rw[hall] at hrr;refine oR ?_;refine Run.loopS [2,3,26,27] (fun j:Nat=>j<=vs.length/\bH (bCw k vs) j=true) (fun j=>vs.length-j) (fun j=>[(28,iA j)]) (fun _=>_) 0 (by simp[bH]) ?_ rfl ?_
   ·exact zS
   rintro i ⟨hi,hall2⟩ IH2;refine cK ?_
   by_cases hil:i<vs.length
   ·have hg:vs[i]?=some vs[i]:=bLv hil;have hr2:=hr _ (bLy hil);obtain⟨⟨x,y⟩,hxy⟩:∃p,vs[i]=p:=⟨_,rfl⟩;rw[hxy] at hg hr2;simp only at hr2;refine iY hil hg ?_;refine Run.regJ [2,3,26,27,28] 42 (decide (x<0)&& decide (k<=-1-x)) (fun K J=>?_) ?_
    ·by_cases hx:x<0
     ·have hw:IntKind.i64.wrap (-1-x)=-1-x:=wrap_id aB aB;simp[hx,hw]
      repeat' (first|apply And.intro|intro _)
      all_goals
       refine y7 ?_
       repeat' first|exact wn|apply wc
       all_goals first|exact Weak.junk _|(refine Weak.bool ?_;clear J;rw[bMt];simp[hx];done)|(refine Weak.bool ?_;clear J;rw[bMt];simp[hx,hw];omega)|(refine Weak.bool ?_;clear J;simp_all;done)|(refine Weak.bool ?_;clear J;simp[*];done)|(refine Weak.bool ?_;clear J;rw[bMt];simp[*];omega)|exact Weak.refl _
     ·simp[hx]
      repeat' (first|apply And.intro|intro _)
      all_goals
       refine y7 ?_
       repeat' first|exact wn|apply wc
       all_goals first|exact Weak.junk _|(refine Weak.bool ?_;clear J;rw[bMt];simp[hx];done)|(refine Weak.bool ?_;clear J;rw[bMt];simp[hx];omega)|(refine Weak.bool ?_;clear J;simp_all;done)|(refine Weak.bool ?_;clear J;simp[*];done)|(refine Weak.bool ?_;clear J;rw[bMt];simp[*];omega)|exact Weak.refl _
    refine y6 ?_;simp;refine Run.condB rfl (fun h1=>?_) (fun h1=>?_)
    ·refine zA ?_;refine Fin.ret' (h0:=h) aA rfl hh rfl rfl rfl (Weak.refl _) rfl ⟨?_,rfl⟩;rw[hrr,aT (p:=bCw k vs) hil (by simp only[bCw,hg,h1];rfl)]
     rfl
    ·refine znr ?_;refine yh ?_;refine IH2 (i+1) _ _ ⟨by omega,?_⟩ aB ?_ ?_
     ·rw[allTo_succ,hall2];simp only[bCw,hg,h1];rfl
     ·exact zS
     ·simp
   ·have hie:i=vs.length:=aB;subst hie;rw[hall2] at hrr;refine znfen ?_;exact y6z
open Go Go.AI
def lvZ (k:Int):Int:=if k=2 then 1 else if k=3 then-1 else 0
theorem aOd (k:Int)(h0:0<=k)(h1:k<13):(usesL.drop (k.toNat*5)).take 5=[bA (k==0||k==12),bA (k==3),iA (lvZ k),iA (qN k),iA (belowK k)]:=by
 exact y49
theorem aQ5 (k i:Int)(n:List UInt8)(a b:Int)(h0:¬k<0)(h1:¬13<=k):nD k i n a b=(((k==0||k==12)||i==0)&& ((k==3||decide (n=[]))&& ((decide (lvZ k<0)||a==lvZ k)&& b==qN k))):=by
 unfold nD lvZ
 by_cases k2:k=2
 ·subst k2;rw[bMt];simp;constructor<;>(intro h;simp_all)
 ·by_cases k3:k=3
  ·subst k3;rw[bMt];simp;constructor<;>(intro h;simp_all)
  ·rw[bMt];simp[k2,k3,h0,h1];constructor
   ·rintro⟨⟨⟨q1,q2⟩,q3⟩,q4⟩;refine⟨?_,q3,q4,q1⟩;rcases q2 with q|q
    ·exact .inr q
    ·left;omega
   ·rintro⟨q1,q2,q3,q4⟩;refine⟨⟨⟨q4,?_⟩,q2⟩,q3⟩;omega
theorem aQ6 (h:Heap)(hh:WF h)(t:Tm):ACalls Tryz.prog 288 [t.av] h fun o h'=>o= .ret (bA (fM t))/\h'=h:=by
 obtain⟨k,i,n,ls,ks⟩:=t;refine ACalls.of_run Tryz.func288 rfl ?_;simp only[Tryz.ntmps288,bM2,bM3,Tm.av,cells_mk,List.map];refine znr ?_;refine Run.regJ [1] 11 (decide (k<0)||decide (13<=k)) (fun K J=>?_) ?_
 ·simp;exact y1x
 refine y6 ?_;simp;refine Run.condB rfl (fun h1=>?_) (fun h1=>?_)
 ·refine zA ?_;refine zF2 hh ?_;exact⟨by simp[fM,nD,h1],rfl⟩
 have h0:¬k<0:=by simp at h1;omega
 have h13:¬13<=k:=by simp at h1;omega
 have hrow:=aOd k aB aB;have hff:=aQ5 k i n ls.length ks.length h0 h13;refine nv ?_;refine NB.Run.drawP (pc:=[0]) [0,0,0,0,0,1] [0,0,0,0,0,1] [0,0,2,7,0,31] [4,0,1,2,3,5] aC aC ?_;refine zp ?_;refine NB.DR.pcall (args:=[]) rfl rfl rfl aA rfl rfl (fun g hg=>(wL) g ?_) ?_
 ·exact y2o
 refine NB.DR.go fun K J=>?_
 simp[h0,hrow,show k<13 by omega];refine zh ?_;clear J;refine y8 ?_;refine nv ?_;rw[show fM (.mk k i n ls ks)=_ from hff];clear hff hrow h1 h0 h13;generalize (k==0||k==12)=ui;generalize (k==3)=un;generalize lvZ k=lv;generalize qN k=kd;obtain⟨ne,hne⟩:∃ne,ne=decide (n=[]):=⟨_,rfl⟩;have hne2:n.isEmpty=ne:=by rw[hne,bMt];simp
 rw[<-hne];refine nv ?_;refine Run.regPreJ 8 [1,3] 23 (ui||i==0) (fun K J=>?_) ?_
 ·refine yd ?_;simp;exact y1x
 refine yo ?_;generalize (ui||i==0)=a1;refine Run.opsPreJ 9 [1,3] 32 (a1&& (un||ne)) (fun K J=>?_) ?_
 ·refine yd ?_;simp[hne2];exact y1x
 refine yo ?_;rw[<-Bool.and_assoc];generalize (a1&& (un||ne))=a2;refine Run.opsPreJ 13 [1,3] 45 (a2&& (decide (lv<0)||(ls.length:Int)==lv)) (fun K J=>?_) ?_
 ·refine yd ?_;simp;exact y1x
 refine yo ?_;rw[<-Bool.and_assoc];generalize (a2&& (decide (lv<0)||(ls.length:Int)==lv))=a3;refine Run.opsJ [] 2 (a3&& (ks.length:Int)==kd) (fun K J=>?_) ?_
 ·simp;exact y1x
 refine ym ?_;exact y29
end Go.Proofs.YtplomildbmcmfaaGreat
