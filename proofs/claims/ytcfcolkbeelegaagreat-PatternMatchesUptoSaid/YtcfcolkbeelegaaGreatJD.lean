import Derived.Test.YtcfcolkbeelegaaGreatJA0
import Derived.Laws.Strings
import Derived.Test.YtcfcolkbeelegaaGreatJC
import Derived.Test.YtcfcolkbeelegaaGreatJFD
set_option maxRecDepth 8000
set_option maxHeartbeats 8000000
namespace Go.Proofs.YtcfcolkbeelegaaGreat
open Go Go.AI
mutual
theorem aHh:∀(t:Tm)(m:Int),t.ok m->m+t.size<=1099511627776->t.idx
 | .mk k i n ls ks,m,h,hm=>by
  simp only[Tm.ok,Tm.okN] at h;simp only[Tm.size] at hm;simp only[Tm.idx];exact⟨fun hk=>by have:=h.1.1 hk;omega,aMs ks m k 0 h.2 aB⟩
theorem aMs:∀(l:List Tm)(m k:Int)(idx:Nat),Tm.oks m k idx l->m+1+Tm.sizes l<=1099511627776->Tm.idxs l
 |[],_,_,_,_,_=>trivial
 |t::ts,m,k,idx,h,hm=>by
  simp only[Tm.oks] at h;simp only[Tm.sizes] at hm;have:=cE k idx;exact⟨aHh t _ h.1 aB,aMs ts m k (idx+1) h.2 aB⟩
end
def cV (by_ fr:Int)(t:Tm):Tm×Int:=
 if fr<0\/by_< -65536\/65536<by_ then(zT,2)
 else if bX by_ (if 65536<fr then 65536 else fr) 0 t=true then(zT,24) else(eV by_ (if 65536<fr then 65536 else fr) 0 t,0)
theorem aCe (h:Heap)(hh:WF h)(t:Tm)(by_ fr:Int)(hb1:-9223372036854775808<=by_)(hb2:by_<=9223372036854775807)(hsz:t.size<=1048576)(hix:t.idx):
  AC 170 [t.av,iA by_,iA fr] h (.tup [(cV by_ fr t).1.av,iA (cV by_ fr t).2]):=by
 have hcase:((fr<0)/\cV by_ fr t=(zT,2))\/(¬fr<0/\by_< -65536/\cV by_ fr t=(zT,2))\/(¬fr<0/\¬by_< -65536/\65536<by_/\cV by_ fr t=(zT,2))\/
   (¬fr<0/\¬by_< -65536/\¬65536<by_/\cV by_ fr t=if bX by_ (if 65536<fr then 65536 else fr) 0 t=true then(zT,24) else(eV by_ (if 65536<fr then 65536 else fr) 0 t,0)):=by
  unfold cV
  by_cases c1:fr<0
  ·simp[c1]
  ·by_cases c2:by_< -65536
   ·simp[c1,c2]
   ·by_cases c3:65536<by_
    ·simp[c1,c2,c3]
    ·simp[c1,c2,c3]
 obtain⟨f0,hf0⟩:∃f0:Int,f0=if 65536<fr then 65536 else fr:=⟨_,rfl⟩
 rw[<-hf0] at hcase;have hs:=fun(hb1:-1099511627776<=by_) (hb2:by_<=1099511627776) (h1:0<=f0)=>xH by_ f0 hb1 hb2 h1 (by rw[hf0];split<;>omega) 0 t.size t 0 0 (h++[some (.cells (t.cells.map .p)),some (.cells zTm),some (.cells [iA 0,iA 0])]) (h.length+2) (aYw _) hsz hix aB aB (hh.app aA) aA
 have hmin:∀x:Int,(if 65536<x then(65536:Int) else x)=if 65536<x then 65536 else x:=fun _=>rfl
 generalize cV by_ fr t=r at hcase⊢;generalize hB:bX by_ f0 0 t=bad at hcase hs;obtain⟨T,hT⟩:∃T,eV by_ f0 0 t=T:=⟨_,rfl⟩;rw[hT] at hcase hs;obtain⟨k',i',nm',ls',ks'⟩:=T;obtain⟨k,i,nm,ls,ks⟩:=t;refine ACalls.of_run Tryz.func170 rfl ?_;simp only[Tryz.ntmps170,aZ1,aZ2,Tm.av,aH,List.map];refine znr ?_;rcases hcase with ⟨c1,rfl⟩|⟨c1,c2,rfl⟩|⟨c1,c2,c3,rfl⟩|⟨c1,c2,c3,rfl⟩
 ·refine gB c1 ?_;exact y3o
 ·refine aFt c1 c2 ?_;exact y3o
 ·refine zn ?_;refine zr3 c1 c2 c3 ?_;refine y2a ?_;exact y3o
 ·refine zn ?_;refine zr3 c1 c2 c3 ?_;refine yw ?_;refine zr ?_;rw[<-hf0];have hs:=hs aB aB (by rw[hf0];split<;>omega);refine Run.call (args:=[.ptr (h.length+2) 0,(Tm.mk k i nm ls ks).av,iA by_,iA f0,iA 0]) rfl rfl aA rfl hs ?_ ?_
  ·rintro v h' ⟨hv,rfl⟩;simp only[AOut.ret.injEq] at hv;subst hv;refine zor ?_
   cases bad with
   |true=>
    refine zn ?_;refine ztv3 ?_;refine y14 ?_;refine zdv3 ?_;refine y9 ?_;refine znx ?_;refine Fin.ret' (h0:=h) (xs:=[.agg zTm,iA 24]) aA rfl hh rfl aA rfl (Weak.tup (WeakL.cons Weak.zT (WeakL.refl _))) aA ⟨rfl,rfl⟩
   |false=>
    refine zn ?_;refine zfv4 ?_;refine zrv4 ?_;refine zx ?_;exact y3f
  ·rintro v h' ⟨hv,_⟩;cases hv
open Go Go.AI
@[simp] theorem aY0:aJ8 Tryz.prog 152=true:=aC
def bB (p:Nat->Bool)(n:Nat):Bool:=(List.range n).all p
theorem bK (p:Nat->Bool)(n:Nat):bB p (n+1)=(bB p n&& p n):=by simp[bB,List.range_succ]
theorem aU {p:Nat->Bool} {n j:Nat} (hj:j<n)(h:p j=false):bB p n=false:=by
 rw[bB,List.all_eq_false];exact⟨j,bA5.2 hj,by simp[h]⟩
theorem jP {p:Nat->Bool} {n:Nat} (h:bB p n=true) {j:Nat} (hj:j<n):p j=true:=by
 rw[bB,aZf] at h;exact h j (bA5.2 hj)
theorem cJ {p:Nat->Bool} {n:Nat} :bB p n=true↔∀j,j<n->p j=true:=
 ⟨fun h _ hj=>jP h hj,fun h=>by rw[bB,aZf];exact fun j hj=>h j (bA5.1 hj)⟩
def jA (c:Int):Bool:=(decide (97<=c)&& decide (c<=122))||((decide (65<=c)&& decide (c<=90))||c==95)
theorem wN (h:Heap)(hh:WF h)(c:Int):AC 191 [.p (.prim (.int .u8 c))] h (bA (jA c)):=by
 refine zER Tryz.func191 Tryz.ntmps191 ?_;refine Run.regJ [] 2 (jA c) (fun K J=>?_) ?_
 ·simp
  repeat' (first|apply And.intro|intro _)
  all_goals
   refine yb ?_
   repeat' first|exact wn|apply wc
   all_goals first|exact Weak.junk _|(refine Weak.bool ?_;clear J;rw[aZs];simp[jA];done)|(refine Weak.bool ?_;clear J;rw[aZs];simp[jA];omega)|(refine Weak.bool ?_;clear J;simp_all;done)|(refine Weak.bool ?_;clear J;simp[*];done)|(refine Weak.bool ?_;clear J;rw[aZs];simp[*];omega)|exact Weak.refl _
 simp only[bQ,keepT,keepT.go,bBb,bB0];simp;refine Run.ret ?_;exact y3a
def yS (k:Int):Int:=if k=4\/k=5\/k=6\/k=7 then 2 else if k=8\/k=11 then 3 else if k=9\/k=10 then 1 else 0
open Go Go.AI
theorem aQ2 (h:Heap)(hh:WF h)(k:Int):AC 190 [iA k] h (iA (yS k)):=by
 have hcase:k=4\/k=5\/k=6\/k=7\/k=8\/k=11\/k=9\/k=10\/((k==4)=false/\(k==5)=false/\(k==6)=false/\(k==7)=false/\(k==8)=false/\(k==11)=false/\(k==9)=false/\(k==10)=false):=by simp;omega
 refine zE Tryz.func190 Tryz.ntmps190 ?_;refine nv ?_;rcases hcase with rfl|rfl|rfl|rfl|rfl|rfl|rfl|rfl|⟨e1,e2,e3,e4,e5,e6,e7,e8⟩
 case inr.inr.inr.inr.inr.inr.inr.inr=>
  repeat (first|refine nw ?_|(refine Run.reg fun K J=>?_;simp[e1,e2,e3,e4,e5,e6,e7,e8];(try (simp (disch:=omega) only[aQ]));refine J _ _ _ ?_;clear J)|refine ct rfl ?_|refine cf rfl ?_|refine Run.exit rfl ?_|refine Run.ret ?_)
  simp only[beq_eq_false_iff_ne,ne_eq] at*;refine zF3 hh ?_;exact⟨by simp[yS, *],rfl⟩
 all_goals
  refine zA ?_;refine zF3 hh ?_;exact⟨by simp[yS],rfl⟩
def iN (c:Int)(vs:List (Int×Int))(j:Nat):Bool:=
 match vs[j]? with
 | some v=>!(decide (v.1< -65536)||decide (8<=v.1)||decide (v.2<0)||decide (100<v.2))&&
   !(decide (0<j)&& (match vs[j-1]? with|some u=>decide (v.1<=u.1)|none=>false))&& !(decide (0<c)&& decide (c<=v.2))
 |none=>true
def aY (l:Lv):Bool:=!(decide (l.c<0)||decide (100<l.c))&& bB (iN l.c l.vars) l.vars.length
theorem jN (h:Heap)(hh:WF h)(l:Lv)(hb:l.vars.length<=1048576):AC 48 [l.av] h (bA (aY l)):=by
 obtain⟨c,vs⟩:=l;simp only at hb;refine y12 ?_;refine zER Tryz.func48 Tryz.ntmps48 ?_;refine Run.regJ [0,1,2] 12 (decide (c<0)||decide (100<c)) (fun K J=>?_) ?_
 ·simp;exact y2p
 refine y7 ?_;simp;refine Run.condB rfl (fun hc=>?_) (fun hc=>?_)
 ·refine zA ?_;refine zF2 hh ?_;exact⟨by simp[aY,hc],rfl⟩
 ·refine znr ?_;refine Run.loopS [1] (fun j:Nat=>j<=vs.length/\bB (iN c vs) j=true) (fun j=>vs.length-j) (fun j=>[(3,iA j)]) (fun _=>_) 0 (by simp[bB]) ?_ rfl ?_
  ·exact zS
  ·rintro j ⟨hj,hall⟩ IH;refine cI ?_
   by_cases hjl:j<vs.length
   ·have hg:vs[j]?=some vs[j]:=aYu hjl;obtain⟨⟨x,y⟩,hxy⟩:∃p,vs[j]=p:=⟨_,rfl⟩;rw[hxy] at hg;refine jO hjl hg ?_;refine Run.regJ [1,3,4] 42 (decide (x< -65536)||decide (8<=x)||decide (y<0)||decide (100<y)) (fun K J=>?_) ?_
    ·simp;exact y2p
    refine y7 ?_;simp;refine Run.condB rfl (fun h1=>?_) (fun h1=>?_)
    ·refine zA ?_;refine Fin.ret' aA rfl hh rfl rfl rfl (Weak.refl _) rfl ⟨?_,rfl⟩;have:iN c vs j=false:=by simp only[iN,hg,h1];simp
     simp[aY,aU hjl this]
    ·obtain⟨b2,hb2⟩:∃b,b=(decide (0<j)&& (match vs[j-1]? with|some u=>decide (x<=u.1)|none=>false)):=⟨_,rfl⟩
     have hjj:(∃u,0<j/\vs[j-1]?=some u)\/j=0:=by
      exact y79
     refine nv ?_;refine Run.draw [0,0,0,0,0,0,0,0,0,0,0,0,0,0] [0,0,0,0,0,0,0,0,0,0,0,0,0,0] [0,1,3,7,15,7,39,127,255,511,7,1031,4095,8191] [0,1,2,3,4,5,6,7,8,9,10,11,12,13] aC aC ?_;refine DR.goJ [1,3,4] 56 b2 (fun K J=>?_) ?_
     ·subst hb2;rcases hjj with ⟨u,hj0,hu⟩|hj0
      ·have hw:IntKind.i64.wrap ((j:Int)-1)=(j:Int)-1:=aQ aB aB;have hn:¬((j:Int)-1<0):=aB;have ht:((j:Int)-1).toNat=j-1:=aB;simp[hw,hn,ht,hu,hj0]
       repeat' (first|apply And.intro|intro _)
       all_goals
        try (simp (disch:=omega) only[aQ])
        refine J _ _ ?_;simp
        repeat' first|exact wn|apply wc
        all_goals first|exact Weak.junk _|(refine Weak.bool ?_;clear J;rw[aZs];simp[hu,hj0];done)|(refine Weak.bool ?_;clear J;rw[aZs];simp[hw,hn,ht,hu,hj0];omega)|(refine Weak.bool ?_;clear J;simp_all;done)|(refine Weak.bool ?_;clear J;simp[*];done)|(refine Weak.bool ?_;clear J;rw[aZs];simp[*];omega)|exact Weak.refl _
      ·subst hj0;simp
       repeat' (first|apply And.intro|intro _)
       all_goals
        try (simp (disch:=omega) only[aQ])
        refine J _ _ ?_;simp
        repeat' first|exact wn|apply wc
        all_goals first|exact Weak.junk _|(refine Weak.bool ?_;clear J;rw[aZs];simp;done)|(refine Weak.bool ?_;clear J;rw[aZs];simp;omega)|(refine Weak.bool ?_;clear J;simp_all;done)|(refine Weak.bool ?_;clear J;simp[*];done)|(refine Weak.bool ?_;clear J;rw[aZs];simp[*];omega)|exact Weak.refl _
     refine y7 ?_;simp;refine Run.condB rfl (fun h2=>?_) (fun h2=>?_)
     ·refine zA ?_;refine Fin.ret' aA rfl hh rfl rfl rfl (Weak.refl _) rfl ⟨?_,rfl⟩;have:iN c vs j=false:=by simp only[iN,hg,h1,<-hb2,h2];simp
      simp[aY,aU hjl this]
     ·refine nv ?_;refine Run.regJ [1,3] 66 (decide (0<c)&& decide (c<=y)) (fun K J=>?_) ?_
      ·simp;exact y2p
      refine y7 ?_;simp;refine Run.condB rfl (fun h3=>?_) (fun h3=>?_)
      ·refine zA ?_;refine Fin.ret' aA rfl hh rfl rfl rfl (Weak.refl _) rfl ⟨?_,rfl⟩;have:iN c vs j=false:=by simp only[iN,hg,h1,<-hb2,h2,h3];simp
       simp[aY,aU hjl this]
      ·refine znr ?_;refine y15 ?_;refine IH (j+1) _ _ ⟨by omega,?_⟩ aB ?_ ?_
       ·rw[bK,hall];simp only[iN,hg,h1,<-hb2,h2,h3];simp
       ·exact zS
       ·simp
   ·have hje:j=vs.length:=aB;subst hje;refine dP ?_;refine zA ?_;refine Fin.ret' aA rfl hh rfl rfl rfl (Weak.refl _) rfl ⟨by simp[aY,hc,hall],rfl⟩
open Go Go.AI
def gP (params levels:Int)(l:Lv):Int:=
 if aY l=false then 3
 else if bB (fun j=>match l.vars[j]? with|some v=>!(decide (0<=v.1)&& decide (params<=v.1))|none=>true) l.vars.length=false then 15
 else if bB (fun j=>match l.vars[j]? with|some v=>!(decide (v.1<0)&& decide (levels<=-1-v.1))|none=>true) l.vars.length=false then 23 else 0
theorem aMc (h:Heap)(hh:WF h)(l:Lv)(params levels:Int)(hb:l.vars.length<=1048576)(hr:∀v∈l.vars,-9223372036854775808<=v.1):
  AC 149 [l.av,iA params,iA levels] h (iA (gP params levels l)):=by
 have hval:=jN (h++[some (.cells (l.cells.map .p))]) (hh.app aA) l hb;obtain⟨c,vs⟩:=l;simp only at hb hr;simp only[Lv.av,Lv.cells,List.map] at hval⊢;refine cW Tryz.func149 Tryz.ntmps149 ?_;refine Run.call rfl rfl aA rfl hval ?_ ?_
 ·rintro v h' ⟨hv,rfl⟩;simp only[AOut.ret.injEq] at hv;subst hv
  cases hvb:aY ⟨c,vs⟩ with
  |false=>
   refine zo ?_;refine zA ?_;refine zF2 hh ?_;exact⟨by simp[gP,hvb],rfl⟩
  |true=>
   refine rJ ?_;refine Run.loopS [1,2,3] (fun j:Nat=>j<=vs.length/\bB (fun j=>match vs[j]? with|some v=>!(decide (0<=v.1)&& decide (params<=v.1))|none=>true) j=true) (fun j=>vs.length-j) (fun j=>[(7,iA j)]) (fun _=>_) 0 (by simp[bB]) ?_ rfl ?_
   ·exact zS
   ·rintro j ⟨hj,hall⟩ IH;refine cI ?_
    by_cases hjl:j<vs.length
    ·have hg:vs[j]?=some vs[j]:=aYu hjl;obtain⟨⟨x,y⟩,hxy⟩:∃p,vs[j]=p:=⟨_,rfl⟩;rw[hxy] at hg;refine dF hjl ?_;refine Run.regJ [1,2,3,7] 35 (decide (0<=x)&& decide (params<=x)) (fun K J=>?_) ?_
     ·simp[hg];exact y2p
     refine y7 ?_;simp;refine Run.condB rfl (fun h1=>?_) (fun h1=>?_)
     ·refine zA ?_;refine Fin.ret' aA rfl hh rfl rfl rfl (Weak.refl _) rfl ⟨?_,rfl⟩;have:=aU (p:=fun j=>match vs[j]? with|some v=>!(decide (0<=v.1)&& decide (params<=v.1))|none=>true) hjl (by simp only[hg,h1];rfl);simp only[gP,hvb,this,if_true];rfl
     ·refine znr ?_;refine IH (j+1) _ _ ⟨by omega,?_⟩ aB ?_ rfl
      ·rw[bK,hall];simp only[hg,h1];rfl
      ·exact zS
    ·have hje:j=vs.length:=aB;subst hje;refine rH ?_;refine Run.loopS [1,2,3] (fun j:Nat=>j<=vs.length/\bB (fun j=>match vs[j]? with|some v=>!(decide (v.1<0)&& decide (levels<=-1-v.1))|none=>true) j=true) (fun j=>vs.length-j) (fun j=>[(8,iA j)]) (fun _=>_) 0 (by simp[bB]) ?_ rfl ?_
     ·exact zS
     ·rintro i ⟨hi,hall2⟩ IH2;refine cI ?_
      by_cases hil:i<vs.length
      ·have hg:vs[i]?=some vs[i]:=aYu hil;have hr2:=hr _ (aYx hil);obtain⟨⟨x,y⟩,hxy⟩:∃p,vs[i]=p:=⟨_,rfl⟩;rw[hxy] at hg hr2;simp only at hr2;refine dF hil ?_;refine Run.regJ [1,2,3,8] 60 (decide (x<0)&& decide (levels<=-1-x)) (fun K J=>?_) ?_
       ·by_cases hx:x<0
        ·have hw:IntKind.i64.wrap (-1-x)=-1-x:=aQ aB aB;simp[hg,hx,hw]
         repeat' (first|apply And.intro|intro _)
         all_goals
          refine yb ?_
          repeat' first|exact wn|apply wc
          all_goals first|exact Weak.junk _|(refine Weak.bool ?_;clear J;rw[aZs];simp[hx];done)|(refine Weak.bool ?_;clear J;rw[aZs];simp[hg,hx,hw];omega)|(refine Weak.bool ?_;clear J;simp_all;done)|(refine Weak.bool ?_;clear J;simp[*];done)|(refine Weak.bool ?_;clear J;rw[aZs];simp[*];omega)|exact Weak.refl _
        ·simp[hg,hx]
         repeat' (first|apply And.intro|intro _)
         all_goals
          refine yb ?_
          repeat' first|exact wn|apply wc
          all_goals first|exact Weak.junk _|(refine Weak.bool ?_;clear J;rw[aZs];simp[hx];done)|(refine Weak.bool ?_;clear J;rw[aZs];simp[hg,hx];omega)|(refine Weak.bool ?_;clear J;simp_all;done)|(refine Weak.bool ?_;clear J;simp[*];done)|(refine Weak.bool ?_;clear J;rw[aZs];simp[*];omega)|exact Weak.refl _
       refine y7 ?_;simp;refine Run.condB rfl (fun h1=>?_) (fun h1=>?_)
       ·refine zA ?_;refine Fin.ret' aA rfl hh rfl rfl rfl (Weak.refl _) rfl ⟨?_,rfl⟩;have:=aU (p:=fun j=>match vs[j]? with|some v=>!(decide (v.1<0)&& decide (levels<=-1-v.1))|none=>true) hil (by simp only[hg,h1];rfl);simp only[gP,hvb,hall,this,if_true];rfl
       ·refine znr ?_;refine IH2 (i+1) _ _ ⟨by omega,?_⟩ aB ?_ rfl
        ·rw[bK,hall2];simp only[hg,h1];rfl
        ·exact zS
      ·have hie:i=vs.length:=aB;subst hie;refine dP ?_;refine zA ?_;refine Fin.ret' aA rfl hh rfl rfl rfl (Weak.refl _) rfl ⟨?_,rfl⟩;simp only[gP,hvb,hall,hall2];rfl
 ·rintro v h' ⟨hv,_⟩;cases hv
open Go Go.AI
attribute [simp] ByteArray.toList_eq
def aC5:Option Bool->UInt8->Option Bool
 |none,_=>none
 |some true,c=>if jA c.toNat then some false else none
 |some false,c=>if(c.toNat:Int)==46 then some true else if jA c.toNat||(c.toNat:Int)==39||(decide (48<=(c.toNat:Int))&& decide ((c.toNat:Int)<=57)) then some false else none
def mR (l:List UInt8):Option Bool:=l.foldl aC5 (some true)
def zF (n:List UInt8):Bool:=!(decide (n=[])||decide (64<(n.length:Int)))&& mR n==some false
theorem aQe (l:List UInt8):l.foldl aC5 none=none:=by
 induction l with
 |nil=>rfl
 |cons c l ih=>exact ih
theorem aQf {n:List UInt8} {j:Nat} {c:UInt8} (h:n[j]?=some c):mR (n.take (j+1))=aC5 (mR (n.take j)) c:=by
 have:n.take (j+1)=n.take j++[c]:=by
  obtain⟨hj,rfl⟩:=aYv.1 h;exact aZ5 hj
 rw[this,mR,bBg];rfl
theorem aQd {n:List UInt8} {j:Nat} (h:mR (n.take j)=none):mR n=none:=by
 have e:n=n.take j++n.drop j:=(bA4 j n).symm;rw[e,mR,bBg];rw[mR] at h;rw[h];exact aQe _
theorem aHd (h:Heap)(hh:WF h)(n:List UInt8):AC 148 [.p (sP n)] h (bA (zF n)):=by
 refine zER Tryz.func148 Tryz.ntmps148 ?_;refine Run.regJ [0,2] 12 (decide (n=[])||decide (64<(n.length:Int))) (fun K J=>?_) ?_
 ·simp[ByteArray.size];exact y2p
 refine y7 ?_;simp;refine Run.condB rfl (fun hc=>?_) (fun hc=>?_)
 ·refine zA ?_;refine zF3 hh ?_;exact⟨by simp[zF,hc],rfl⟩
 ·have hn64:n.length<=64:=by simp at hc;omega
  refine rS ?_;refine Run.loopS (ι:=Nat×Bool) [0,2] (fun p=>p.1<=n.length/\mR (n.take p.1)=some p.2) (fun p=>n.length-p.1) (fun p=>[(3,bA p.2),(4,iA p.1)]) (fun _=>_) (0,true) (by simp[mR]) ?_ rfl ?_
  ·exact zS
  ·rintro⟨j,fst⟩ ⟨hj,hst⟩ IH;simp only at hj hst;refine zsn ?_;refine Run.reg fun K J=>?_
   simp[ByteArray.size];refine zj ?_;clear J
   by_cases hjl:j<n.length
   ·have hg:n[j]?=some n[j]:=aYu hjl;obtain⟨c,hcj⟩:∃c,n[j]=c:=⟨_,rfl⟩;rw[hcj] at hg;have hsn:=aQf hg;rw[hst] at hsn;refine nT hjl hg ?_
    cases fst with
    |true=>
     refine aWr ?_;refine Run.call rfl rfl aA rfl (wN _ hh c.toNat) ?_ ?_
     ·rintro v h' ⟨hv,rfl⟩;simp only[AOut.ret.injEq] at hv;subst hv
      cases hlb:jA c.toNat with
      |false=>
       refine zo ?_;refine zA ?_;simp only[aC5,hlb] at hsn;exact y7w
      |true=>
       refine rJ ?_;refine ze ?_;refine znr ?_;simp only[aC5,hlb,if_true] at hsn;exact y8r
     ·rintro v h' ⟨hv,_⟩;cases hv
    |false=>
     refine aAc ?_
     by_cases h46:(c.toNat:Int)=46
     ·refine kL h46 ?_;refine ze ?_;refine znr ?_;refine IH (j+1,true) _ _ ⟨by simp only;omega,by rw[hsn];simp[aC5,h46]⟩ (by simp only;omega) ?_ rfl;exact zS
     ·refine dJ h46 ?_;refine Run.call rfl rfl aA rfl (wN _ hh c.toNat) ?_ ?_
      ·rintro v h' ⟨hv,rfl⟩;simp only[AOut.ret.injEq] at hv;subst hv
       have fin:∀b:Bool,b=(!jA c.toNat&& ((c.toNat:Int) !=39&& (decide ((c.toNat:Int)<48)||decide (57<(c.toNat:Int)))))->aC5 (some false) c=if b then none else some false:=by
        intro b hb;subst hb;simp only[aC5,beq_iff_eq,h46,if_false]
        cases jA c.toNat<;>simp
        by_cases q1:(c.toNat:Int)=39<;>simp[q1]
        by_cases q2:48<=(c.toNat:Int)<;>by_cases q3:(c.toNat:Int)<=57<;>simp[q2,q3]<;>omega
       obtain⟨lb,hlb⟩:∃lb,jA c.toNat=lb:=⟨_,rfl⟩;obtain⟨z,hz⟩:∃z:Int,(c.toNat:Int)=z:=⟨_,rfl⟩;rw[hz] at hlb h46 fin;rw[hlb] at fin;rw[hz,hlb];refine Run.opsJ [0,2,3,4,5] 42 (!lb&& (z !=39&& (decide (z<48)||decide (57<z)))) (fun K J=>?_) ?_
       ·simp;exact y2p
       simp only[bQ,keepT];simp;refine Run.condB rfl (fun h1=>?_) (fun h1=>?_)
       ·refine zA ?_;have hf:=fin _ h1.symm;simp only[if_true] at hf;rw[hf] at hsn;exact y7w
       ·refine znr ?_;have hf:=fin _ h1.symm;simp only[aZd,if_false] at hf;rw[hf] at hsn;exact y8r
      ·rintro v h' ⟨hv,_⟩;cases hv
   ·have hje:j=n.length:=aB;subst hje;refine dP ?_;refine zA ?_;rw[aZl] at hst;refine Fin.ret' aA rfl hh (aZ0 _).symm rfl rfl (Weak.refl _) rfl ⟨?_,rfl⟩;simp only[zF,hst,hc]
    cases fst<;>rfl
open Go Go.AI
def yN (k i:Int)(n:List UInt8)(lsl ksl:Int):Bool:=
 !(decide (k<0)||decide (13<=k)||ksl !=yS k)&& !(i !=0&& (k !=0&& k !=12))&& !(!decide (n=[])&& k !=3)&& (if k=2 then lsl==1 else(lsl==0||k==3))
def nE:Tm->Bool
 | .mk k i n ls ks=>yN k i n ls.length ks.length
theorem aPp (h:Heap)(hh:WF h)(t:Tm):AC 147 [t.av] h (bA (nE t)):=by
 obtain⟨k,i,n,ls,ks⟩:=t;have hk:=aQ2 (h++[some (.cells [iA k,iA i, .p (sP n), .p (.sl 2 (aW ls)), .p (.sl 5 (aL ks))])]) (hh.app aA) k;refine ACalls.of_run Tryz.func147 rfl ?_;simp only[Tryz.ntmps147,aZ1,aZ2,Tm.av,aH,List.map];refine znr ?_;have hcase:(k<0)\/(¬k<0/\13<=k)\/(¬k<0/\¬13<=k):=aB;rcases hcase with c1|⟨c1,c2⟩|⟨c1,c2⟩
 ·refine ym ?_;refine zd1 c1 ?_;refine y9 ?_;refine nv ?_;refine zA ?_;refine zF2 hh ?_;exact⟨by simp[nE,yN,c1],rfl⟩
 ·refine ym ?_;refine zd2 c1 c2 ?_;refine y9 ?_;refine nv ?_;refine zA ?_;refine zF2 hh ?_;exact⟨by simp[nE,yN,c1,c2],rfl⟩
 ·refine ym ?_;refine zd2 c1 c2 ?_;refine DR.call (args:=[iA k]) rfl rfl aA aA rfl hk ?_;refine zd ?_;refine y9 ?_;refine nv ?_;refine Run.condB rfl (fun h1=>?_) (fun h1=>?_)
  ·refine zA ?_;refine zF2 hh ?_;exact⟨by simp only[nE,yN,h1];simp,rfl⟩
  ·refine nv ?_;refine Run.regJ [1] 32 (i !=0&& (k !=0&& k !=12)) (fun K J=>?_) ?_
   ·simp;exact y2p
   refine y7 ?_;simp;refine Run.condB rfl (fun h2=>?_) (fun h2=>?_)
   ·refine zA ?_;refine zF2 hh ?_;exact⟨by simp only[nE,yN,h2];simp,rfl⟩
   ·refine nv ?_;refine Run.regJ [1] 40 (!decide (n=[])&& k !=3) (fun K J=>?_) ?_
    ·simp;exact y2p
    refine y7 ?_;simp;refine Run.condB rfl (fun h3=>?_) (fun h3=>?_)
    ·refine zA ?_;refine zF2 hh ?_;exact⟨by simp only[nE,yN,h3];simp,rfl⟩
    ·refine znr ?_
     have h1':(decide (k<0)||decide (13<=k)||(ks.length:Int) !=yS k)=false:=by
      simp[c1,c2];simpa using h1
     by_cases c4:k=2
     ·refine fT c4 ?_;refine Fin.ret' aA rfl hh rfl rfl rfl (Weak.refl _) rfl ⟨?_,rfl⟩;have e:nE (.mk k i n ls ks)=((ls.length:Int)==1):=by simp only[nE,yN,h1',h2,h3];rw[if_pos c4];rfl
      rw[e];rfl
     ·refine vL c4 ?_;refine Run.regJ [1] 2 ((ls.length:Int)==0||k==3) (fun K J=>?_) ?_
      ·simp;exact y2p
      refine y7 ?_;simp;refine Run.ret ?_;refine Fin.ret' aA rfl hh rfl rfl rfl (Weak.refl _) rfl ⟨?_,rfl⟩;have e:nE (.mk k i n ls ks)=((ls.length:Int)==0||k==3):=by simp only[nE,yN,h1',h2,h3];rw[if_neg c4];rfl
      rw[e];rfl
open Go Go.AI
mutual
def Tm.depth:Tm->Nat
 | .mk _ _ _ _ ks=>Tm.depths ks+1
def Tm.depths:List Tm->Nat
 |[]=>0
 |t::ts=>max t.depth (Tm.depths ts)
end
theorem aE4 (l:List Tm)(t:Tm):Tm.depths (l++[t])=max (Tm.depths l) t.depth:=by
 induction l with
 |nil=>simp[Tm.depths]
 |cons x l ih=>simp only[aYy,Tm.depths,ih];omega
mutual
theorem jU:∀t:Tm,t.depth<=t.size
 | .mk _ _ _ _ ks=>by simp only[Tm.depth,Tm.size];have:=fJ ks;omega
theorem fJ:∀l:List Tm,Tm.depths l<=Tm.sizes l
 |[]=>by simp[Tm.depths,Tm.sizes]
 |t::ts=>by simp only[Tm.depths,Tm.sizes];have:=jU t;have:=fJ ts;omega
end
theorem mM (l:List Tm)(i:Nat):Tm.depths (l.take i)<=Tm.sizes l:=bAr (fJ _) (cQ l i)
theorem oD (N:Nat):∀(t:Tm)(h:Heap),t.size<=N->t.size<=1099511627776->WF h->AC 93 [t.av] h (iA t.depth):=by
 induction N with
 |zero=>intro t h hN;cases t;simp[Tm.size] at hN
 |succ N ih=>
 intro t h hN hsz hh;obtain⟨k,i,n,ls,ks⟩:=t;simp only[Tm.size] at hN hsz;refine ACalls.of_run Tryz.func93 rfl ?_;simp only[Tryz.ntmps93,aZ1,aZ2,Tm.av,aH,List.map];refine iQ ?_;refine Run.loopS [1] (fun j:Nat=>j<=ks.length) (fun j=>ks.length-j) (fun j=>[(3,iA (Tm.depths (ks.take j):Nat)),(4,iA j)]) (fun _=>_) 0 aA ?_ rfl ?_
 ·simp[Tm.depths];exact zK
 ·intro j hj IH;refine cI ?_
  by_cases hjl:j<ks.length
  ·have hg:ks[j]?=some ks[j]:=aYu hjl;have hs:=eL hjl;have htk:ks.take (j+1)=ks.take j++[ks[j]]:=aZ5 hjl;have hd1:=jU ks[j];have hll:=aR ks;have hd2:=mM ks j;refine jO hjl hg ?_;refine Run.call (args:=[ks[j].av]) rfl rfl aA rfl (ih ks[j] _ aB aB (hh.app aA)) ?_ ?_
   ·rintro v h' ⟨hv,rfl⟩;simp only[AOut.ret.injEq] at hv;subst hv;refine zor ?_;refine IH (j+1) _ _ aB aB ?_ rfl;exact y6e
   ·rintro v h' ⟨hv,_⟩;cases hv
  ·exact y5x
def aT (l:List Int):Int:=match l with
 |[]=>0
 |e::l=>if e=0 then aT l else e
theorem cG (l:List Int)(e:Int):aT (l++[e])=if aT l=0 then e else aT l:=by
 induction l with
 |nil=>simp only[aZ3,aT];split<;>simp_all
 |cons x l ih=>simp only[aYy,aT,ih];split<;>simp_all
theorem fU {l:List Int} {j:Nat} (h:aT (l.take j)≠0):aT l=aT (l.take j):=by
 induction l generalizing j with
 |nil=>simp
 |cons x l ih=>
  cases j with
  |zero=>simp[aT] at h
  |succ j=>
   simp only[aZu,aT] at h⊢;split
   ·rename_i hx;simp only[hx,if_true] at h;exact ih h
   ·rfl
def yP (depth vars params metas levels:Int)(k i:Int)(n:List UInt8)(ls:List Lv):Int:=
 if k=3/\zF n=false then 29
 else if 8<ls.length then 6
 else if aT (ls.map (gP params levels))≠0 then aT (ls.map (gP params levels))
 else if k=0/\(i<0\/vars<=i-depth) then 24
 else if k=12/\(i<0\/metas<=i) then 23 else 0
mutual
def chk (vars params metas levels:Int)(depth:Int):Tm->Int
 | .mk k i n ls ks=>if nE (.mk k i n ls ks)=false then 3 else
   if yP depth vars params metas levels k i n ls≠0 then yP depth vars params metas levels k i n ls else aT (yA vars params metas levels k depth 0 ks)
def yA (vars params metas levels:Int)(k depth:Int)(idx:Nat):List Tm->List Int
 |[]=>[]
 |t::ts=>chk vars params metas levels (depth+aO k idx) t::yA vars params metas levels k depth (idx+1) ts
end
theorem nY (v p m l k d:Int):∀(ks:List Tm)(idx j:Nat),(yA v p m l k d idx ks).take j=yA v p m l k d idx (ks.take j)
 |[],_,_=>by simp[yA]
 |t::ts,idx,0=>by simp[yA]
 |t::ts,idx,j+1=>by simp only[yA,aZu,nY v p m l k d ts (idx+1) j]
theorem aAx (v p m l k d:Int):∀(ks:List Tm)(idx:Nat)(t:Tm),yA v p m l k d idx (ks++[t])=yA v p m l k d idx ks++[chk v p m l (d+aO k (idx+ks.length:Nat)) t]
 |[],idx,t=>by simp[yA]
 |x::ks,idx,t=>by simp only[aYy,yA,aAx v p m l k d ks (idx+1) t];simp[bAz,bBm 1]
open Go Go.AI
mutual
def Tm.fit:Tm->Prop
 | .mk _ i _ ls ks=>ls.length<=1048576/\(∀l∈ls,l.vars.length<=1048576/\∀v∈l.vars,-9223372036854775808<=v.1)/\-9223372036854775808<=i/\i<=9223372036854775807/\Tm.fits ks
def Tm.fits:List Tm->Prop
 |[]=>True
 |t::ts=>t.fit/\Tm.fits ts
end
theorem Tm.fits_at {l:List Tm} (h:Tm.fits l):∀t∈l,t.fit:=by
 induction l with
 |nil=>intro t ht;cases ht
 |cons x l ih=>
  simp only[Tm.fits] at h;intro t ht
  cases aZg.1 ht with
  |inl e=>subst e;exact h.1
  |inr e=>exact ih h.2 t e
theorem aT5 (vars params metas levels:Int)(N:Nat):∀(t:Tm)(depth:Int)(h:Heap),t.size<=N->t.fit->0<=depth->depth+t.size<=1099511627776->WF h->
  AC 92 [t.av,iA depth,iA vars,iA params,iA metas,iA levels] h (iA (chk vars params metas levels depth t)):=by
 induction N with
 |zero=>intro t _ h hN;cases t;simp[Tm.size] at hN
 |succ N ih=>
 intro t depth h hN hfit hd0 hd1 hh;have hform:=aPp (h++[some (.cells (t.cells.map .p))]) (hh.app aA) t;obtain⟨k,i,n,ls,ks⟩:=t;have hname:=aHd (h++[some (.cells [iA k,iA i, .p (sP n), .p (.sl 2 (aW ls)), .p (.sl 5 (aL ks))])]) (hh.app aA) n;simp only[Tm.size] at hN hd1;simp only[Tm.fit] at hfit;obtain⟨hf1,hf2,hf3,hf4,hf5⟩:=hfit;refine ACalls.of_run Tryz.func92 rfl ?_;simp only[Tryz.ntmps92,aZ1,aZ2,Tm.av,aH,List.map];refine rS ?_;refine rl rfl rfl aA rfl hform ?_;refine zo ?_;refine Run.condB rfl (fun h1=>?_) (fun h1=>?_)
 ·refine zA ?_;have h1':nE (.mk k i n ls ks)=false:=by simpa using h1
  refine zF2 hh ?_;exact⟨by simp only[chk,h1',if_true];rfl,rfl⟩
 have h1':nE (.mk k i n ls ks)=true:=by simpa using h1
 have hchk:chk vars params metas levels depth (.mk k i n ls ks)=if yP depth vars params metas levels k i n ls≠0 then yP depth vars params metas levels k i n ls else aT (yA vars params metas levels k depth 0 ks):=by
  simp only[chk,h1',Bool.true_eq_false,if_false]
 rw[hchk];clear hchk h1 h1' hform;have hll:=aR ks;obtain⟨hz,hH⟩:∃e,yP depth vars params metas levels k i n ls=e:=⟨_,rfl⟩;rw[hH];unfold yP at hH;refine nv ?_;refine Run.join [1,2,3,4,5,6] 28 (k==3&& !zF n) (fun hJ=>?_) ?_
 ·by_cases hk3:k=3
  ·subst hk3;refine znr ?_;refine Run.call rfl aA aA rfl hname ?_ ?_
   ·rintro v h' ⟨hv,rfl⟩;simp only[AOut.ret.injEq] at hv;subst hv;refine zo ?_;exact y5p
   ·rintro v h' ⟨hv,_⟩;cases hv
  ·have hk4:(k==3)=false:=by simpa using hk3
   refine nQ hk4 ?_;refine hJ _ ?_;simp[hk4];exact zK
 refine y7 ?_;simp;refine Run.condB rfl (fun h2=>?_) (fun h2=>?_)
 ·refine zA ?_;rw[if_pos (by simpa using h2)] at hH;exact y5g
 rw[if_neg (by simpa using h2)] at hH;refine znr ?_
 by_cases h3:8<ls.length
 ·have h3':8<(ls.length:Int):=aB;refine dF h3' ?_;refine zA ?_;rw[if_pos h3] at hH;exact y5g
 rw[if_neg h3] at hH;have h3':¬8<(ls.length:Int):=aB;refine dJ h3' ?_;refine Run.loopS [1,2,3,4,5,6] (fun j:Nat=>j<=ls.length/\aT ((ls.map (gP params levels)).take j)=0) (fun j=>ls.length-j) (fun j=>[(13,iA j)]) (fun _=>_) 0 (by simp[aT]) ?_ rfl ?_
 ·exact zS
 rintro j ⟨hj,hall⟩ IH;refine cI ?_
 by_cases hjl:j<ls.length
 ·have hg:ls[j]?=some ls[j]:=aYu hjl;have hl:=hf2 _ (aYx hjl);generalize ls[j]=u at hg hl
  have htk:(ls.map (gP params levels)).take (j+1)=(ls.map (gP params levels)).take j++[gP params levels u]:=by
   exact y97
  refine jO hjl hg ?_;refine Run.call (args:=[u.av,iA params,iA levels]) rfl rfl aA rfl (aMc _ (hh.app aA) u params levels hl.1 hl.2) ?_ ?_
  ·rintro v h' ⟨hv,rfl⟩;simp only[AOut.ret.injEq] at hv;subst hv;refine zor ?_
   by_cases h4:gP params levels u=0
   ·refine dJ h4 ?_;refine IH (j+1) _ _ ⟨by omega,by rw[htk,cG,hall,if_pos rfl,h4]⟩ aB ?_ rfl;exact zS
   ·refine dF h4 ?_;refine zA ?_
    have hst:aT (ls.map (gP params levels))=gP params levels u:=by
     have e:aT ((ls.map (gP params levels)).take (j+1))=gP params levels u:=by rw[htk,cG,hall,if_pos rfl]
     rw[fU (j:=j+1) (by rw[e];exact h4),e]
    rw[if_pos (by rw[hst];exact h4),hst] at hH;refine zF2 hh ?_;exact⟨by simp[<-hH,h4],rfl⟩
  ·rintro v h' ⟨hv,_⟩;cases hv
 have hje:j=ls.length:=aB;subst hje;rw[aZ6 aA] at hall;rw[if_neg (by simp[hall])] at hH;refine dP ?_;refine Run.regJ [1,2,3,4,5,6] 66 (k==0&& (decide (i<0)||decide (vars<=i-depth))) (fun K J=>?_) ?_
 ·by_cases hi:i<0
  ·simp[hi];exact y43
  ·have hw:IntKind.i64.wrap (i-depth)=i-depth:=aQ aB aB;simp[hi,hw];exact y43
 refine y7 ?_;simp;refine Run.condB rfl (fun h4=>?_) (fun h4=>?_)
 ·refine zA ?_;rw[if_pos (by simpa using h4)] at hH;exact y5g
 rw[if_neg (by simpa using h4)] at hH;refine nv ?_;refine Run.regJ [1,2,3,4,5,6] 80 (k==12&& (decide (i<0)||decide (metas<=i))) (fun K J=>?_) ?_
 ·simp;exact y2p
 refine y7 ?_;simp;refine Run.condB rfl (fun h5=>?_) (fun h5=>?_)
 ·refine zA ?_;rw[if_pos (by simpa using h5)] at hH;exact y5g
 rw[if_neg (by simpa using h5)] at hH;subst hH;refine znr ?_;refine Run.loopS [1,2,3,4,5,6] (fun j:Nat=>j<=ks.length/\aT ((yA vars params metas levels k depth 0 ks).take j)=0) (fun j=>ks.length-j) (fun j=>[(15,iA j)]) (fun _=>_) 0 (by simp[aT]) ?_ rfl ?_
 ·exact zS
 rintro j ⟨hj,hall⟩ IH2;refine cI ?_
 by_cases hjl:j<ks.length
 ·have hg:ks[j]?=some ks[j]:=aYu hjl;have hs:=eL hjl;have hfj:=Tm.fits_at hf5 _ (aYx hjl);have hbz:=cE k j;have htk:ks.take (j+1)=ks.take j++[ks[j]]:=aZ5 hjl;generalize ks[j]=u at hg hs hfj htk
  have hck:(yA vars params metas levels k depth 0 ks).take (j+1)=(yA vars params metas levels k depth 0 ks).take j++[chk vars params metas levels (depth+aO k j) u]:=by
   rw[nY,nY,htk,aAx,aZm,aZv,bAb hj]
  obtain⟨e,he⟩:∃e,chk vars params metas levels (depth+aO k j) u=e:=⟨_,rfl⟩;have hrec:=ih u (depth+aO k j) (h++[some (.cells [iA k,iA i, .p (sP n), .p (.sl 2 (aW ls)), .p (.sl 5 (aL ks))])]) aB hfj aB aB (hh.app aA);rw[he] at hck hrec;refine dF hjl ?_;refine Run.draw [0,0,0,0,0,0,0,0,0,0,1,0,0,0,0,1,2] [0,0,0,0,0,0,0,0,0,0,0,0,0,0,0,1,0] [0,1,0,7,15,0,0,64,0,448,992,0,0,0,0,32767,65535] [6,7,8,9,0,1,2,3,4,5,10,11,12,13,14,15,16] aC aC ?_;refine zd ?_;refine DR.call (args:=[iA k,iA j]) rfl rfl rfl aA rfl (aAo _ (hh.app aA) k j) ?_;refine zd1 hg ?_;refine DR.call (args:=[u.av,iA (depth+aO k j),iA vars,iA params,iA metas,iA levels]) rfl rfl rfl aA rfl hrec ?_;refine zd ?_;refine y9 ?_;refine znr ?_
  by_cases h6:e=0
  ·refine dJ h6 ?_;refine IH2 (j+1) _ _ ⟨by omega,by rw[hck,cG,hall,if_pos rfl,h6]⟩ aB ?_ rfl;exact zS
  ·refine dF h6 ?_;refine zA ?_
   have hst:aT (yA vars params metas levels k depth 0 ks)=e:=by
    have e1:aT ((yA vars params metas levels k depth 0 ks).take (j+1))=e:=by rw[hck,cG,hall,if_pos rfl]
    rw[fU (j:=j+1) (by rw[e1];exact h6),e1]
   refine zF2 hh ?_;exact⟨by simp[hst],rfl⟩
 have hje:j=ks.length:=aB;subst hje;rw[nY,aZl] at hall;refine dP ?_;refine zA ?_;refine zF2 hh ?_;exact⟨by simp[hall],rfl⟩
end Go.Proofs.YtcfcolkbeelegaaGreat
