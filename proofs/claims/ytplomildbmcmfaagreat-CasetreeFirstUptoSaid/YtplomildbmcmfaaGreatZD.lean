import Derived.Test.YtplomildbmcmfaaGreatZA0
import Derived.Laws.Strings
import Derived.Test.YtplomildbmcmfaaGreatZC
import Derived.Test.YtplomildbmcmfaaGreatZFD
set_option maxRecDepth 8000
set_option maxHeartbeats 8000000
namespace Go.Proofs.YtplomildbmcmfaaGreat
open Go Go.AI
mutual
theorem aMj:∀(t:Tm)(m:Int),t.ok m->m+t.size<=1099511627776->t.idx
 | .mk k i n ls ks,m,h,hm=>by
  simp only[Tm.ok,Tm.okN] at h;simp only[Tm.size] at hm;simp only[Tm.idx];exact⟨fun hk=>by have:=h.1.1 hk;omega,aMk ks m k 0 h.2 aB⟩
theorem aMk:∀(l:List Tm)(m k:Int)(idx:Nat),Tm.oks m k idx l->m+1+Tm.sizes l<=1099511627776->Tm.idxs l
 |[],_,_,_,_,_=>trivial
 |t::ts,m,k,idx,h,hm=>by
  simp only[Tm.oks] at h;simp only[Tm.sizes] at hm;have:=bL k idx;exact⟨aMj t _ h.1 aB,aMk ts m k (idx+1) h.2 aB⟩
end
def iJ (by_ fr:Int)(t:Tm):Tm×Int:=
 if fr<0\/by_< -65536\/65536<by_ then(zT,2)
 else if bE by_ (if 65536<fr then 65536 else fr) 0 t=true then(zT,24) else(dQ by_ (if 65536<fr then 65536 else fr) 0 t,0)
open Go Go.AI
@[simp] theorem bKy:aHg Tryz.prog 124=true:=aC
def bH (p:Nat->Bool)(n:Nat):Bool:=(List.range n).all p
theorem allTo_succ (p:Nat->Bool)(n:Nat):bH p (n+1)=(bH p n&& p n):=by simp[bH,List.range_succ]
theorem aT {p:Nat->Bool} {n j:Nat} (hj:j<n)(h:p j=false):bH p n=false:=by
 rw[bH,List.all_eq_false];exact⟨j,bN6.2 hj,by simp[h]⟩
theorem aP8 {p:Nat->Bool} {n:Nat} (h:bH p n=true) {j:Nat} (hj:j<n):p j=true:=by
 rw[bH,bMg] at h;exact h j (bN6.2 hj)
theorem dJ {p:Nat->Bool} {n:Nat} :bH p n=true↔∀j,j<n->p j=true:=
 ⟨fun h _ hj=>aP8 h hj,fun h=>by rw[bH,bMg];exact fun j hj=>h j (bN6.1 hj)⟩
def letterB (c:Int):Bool:=(decide (97<=c)&& decide (c<=122))||((decide (65<=c)&& decide (c<=90))||c==95)
theorem tV (h:Heap)(hh:WF h)(c:Int):ACalls Tryz.prog 198 [.p (.prim (.int .u8 c))] h fun o h'=>o= .ret (bA (letterB c))/\h'=h:=by
 refine zER Tryz.func198 Tryz.ntmps198 ?_;refine Run.regJ [] 2 (letterB c) (fun K J=>?_) ?_
 ·exact y32
 refine ym ?_;exact y2j
def qN (k:Int):Int:=if k=4\/k=5\/k=6\/k=7 then 2 else if k=8\/k=11 then 3 else if k=9\/k=10 then 1 else 0
open Go Go.AI
theorem aQn (h:Heap)(hh:WF h)(k:Int):ACalls Tryz.prog 197 [iA k] h fun o h'=>o= .ret (iA (qN k))/\h'=h:=by
 have hcase:k=4\/k=5\/k=6\/k=7\/k=8\/k=11\/k=9\/k=10\/((k==4)=false/\(k==5)=false/\(k==6)=false/\(k==7)=false/\(k==8)=false/\(k==11)=false/\(k==9)=false/\(k==10)=false):=by simp;omega
 refine zE Tryz.func197 Tryz.ntmps197 ?_;refine nv ?_;rcases hcase with rfl|rfl|rfl|rfl|rfl|rfl|rfl|rfl|⟨e1,e2,e3,e4,e5,e6,e7,e8⟩
 case inr.inr.inr.inr.inr.inr.inr.inr=>
  repeat (first|refine nw ?_|(refine Run.reg fun K J=>?_;simp[e1,e2,e3,e4,e5,e6,e7,e8];(try (simp (disch:=omega) only[wrap_id]));refine J _ _ _ ?_;clear J)|refine ct rfl ?_|refine cf rfl ?_|refine Run.exit rfl ?_|refine Run.ret ?_)
  simp only[beq_eq_false_iff_ne,ne_eq] at*;refine zF3 hh ?_;exact⟨by simp[qN, *],rfl⟩
 all_goals
  refine zA ?_;refine zF3 hh ?_;exact⟨by simp[qN],rfl⟩
def gZ (c:Int)(vs:List (Int×Int))(j:Nat):Bool:=
 match vs[j]? with
 | some v=>!(decide (v.1< -65536)||decide (8<=v.1)||decide (v.2<0)||decide (100<v.2))&&
   !(decide (0<j)&& (match vs[j-1]? with|some u=>decide (v.1<=u.1)|none=>false))&& !(decide (0<c)&& decide (c<=v.2))
 |none=>true
def gY (l:Lv):Bool:=!(decide (l.c<0)||decide (100<l.c))&& bH (gZ l.c l.vars) l.vars.length
theorem aOe (h:Heap)(hh:WF h)(l:Lv)(hb:l.vars.length<=1048576):ACalls Tryz.prog 183 [l.av] h fun o h'=>o= .ret (bA (gY l))/\h'=h:=by
 obtain⟨c,vs⟩:=l;simp only at hb;simp only[Lv.av,Lv.cells,List.map];refine zER Tryz.func183 Tryz.ntmps183 ?_;refine Run.regJ [0,1,2] 12 (decide (c<0)||decide (100<c)) (fun K J=>?_) ?_
 ·simp;exact y1x
 refine y6 ?_;simp;refine Run.condB rfl (fun hc=>?_) (fun hc=>?_)
 ·refine zA ?_;refine zF2 hh ?_;exact⟨by simp[gY,hc],rfl⟩
 ·refine znr ?_;refine Run.loopS [1] (fun j:Nat=>j<=vs.length/\bH (gZ c vs) j=true) (fun j=>vs.length-j) (fun j=>[(3,iA j)]) (fun _=>_) 0 (by simp[bH]) ?_ rfl ?_
  ·exact zS
  ·rintro j ⟨hj,hall⟩ IH;refine cK ?_
   by_cases hjl:j<vs.length
   ·have hg:vs[j]?=some vs[j]:=bLv hjl;obtain⟨⟨x,y⟩,hxy⟩:∃p,vs[j]=p:=⟨_,rfl⟩;rw[hxy] at hg;refine iY hjl hg ?_;refine Run.regJ [1,3,4] 42 (decide (x< -65536)||decide (8<=x)||decide (y<0)||decide (100<y)) (fun K J=>?_) ?_
    ·simp;exact y1x
    refine y6 ?_;simp;refine Run.condB rfl (fun h1=>?_) (fun h1=>?_)
    ·refine zA ?_;refine Fin.ret' aA rfl hh rfl rfl rfl (Weak.refl _) rfl ⟨?_,rfl⟩;have:gZ c vs j=false:=by simp only[gZ,hg,h1];simp
     simp[gY,aT hjl this]
    ·obtain⟨b2,hb2⟩:∃b,b=(decide (0<j)&& (match vs[j-1]? with|some u=>decide (x<=u.1)|none=>false)):=⟨_,rfl⟩
     have hjj:(∃u,0<j/\vs[j-1]?=some u)\/j=0:=by
      exact y68
     refine nv ?_;refine Run.draw [0,0,0,0,0,0,0,0,0,0,0,0,0,0] [0,0,0,0,0,0,0,0,0,0,0,0,0,0] [0,1,3,7,15,7,39,127,255,511,7,1031,4095,8191] [0,1,2,3,4,5,6,7,8,9,10,11,12,13] aC aC ?_;refine DR.goJ [1,3,4] 56 b2 (fun K J=>?_) ?_
     ·subst hb2;rcases hjj with ⟨u,hj0,hu⟩|hj0
      ·have hw:IntKind.i64.wrap ((j:Int)-1)=(j:Int)-1:=wrap_id aB aB;have hn:¬((j:Int)-1<0):=aB;have ht:((j:Int)-1).toNat=j-1:=aB;simp[hw,hn,ht,hu,hj0]
       repeat' (first|apply And.intro|intro _)
       all_goals
        try (simp (disch:=omega) only[wrap_id])
        refine J _ _ ?_;simp
        repeat' first|exact wn|apply wc
        all_goals first|exact Weak.junk _|(refine Weak.bool ?_;clear J;rw[bMt];simp[hu,hj0];done)|(refine Weak.bool ?_;clear J;rw[bMt];simp[hw,hn,ht,hu,hj0];omega)|(refine Weak.bool ?_;clear J;simp_all;done)|(refine Weak.bool ?_;clear J;simp[*];done)|(refine Weak.bool ?_;clear J;rw[bMt];simp[*];omega)|exact Weak.refl _
      ·subst hj0;simp
       repeat' (first|apply And.intro|intro _)
       all_goals
        try (simp (disch:=omega) only[wrap_id])
        refine J _ _ ?_;simp
        repeat' first|exact wn|apply wc
        all_goals first|exact Weak.junk _|(refine Weak.bool ?_;clear J;rw[bMt];simp;done)|(refine Weak.bool ?_;clear J;rw[bMt];simp;omega)|(refine Weak.bool ?_;clear J;simp_all;done)|(refine Weak.bool ?_;clear J;simp[*];done)|(refine Weak.bool ?_;clear J;rw[bMt];simp[*];omega)|exact Weak.refl _
     refine y6 ?_;simp;refine Run.condB rfl (fun h2=>?_) (fun h2=>?_)
     ·refine zA ?_;refine Fin.ret' aA rfl hh rfl rfl rfl (Weak.refl _) rfl ⟨?_,rfl⟩;have:gZ c vs j=false:=by simp only[gZ,hg,h1,<-hb2,h2];simp
      simp[gY,aT hjl this]
     ·refine nv ?_;refine Run.regJ [1,3] 66 (decide (0<c)&& decide (c<=y)) (fun K J=>?_) ?_
      ·simp;exact y1x
      refine y6 ?_;simp;refine Run.condB rfl (fun h3=>?_) (fun h3=>?_)
      ·refine zA ?_;refine Fin.ret' aA rfl hh rfl rfl rfl (Weak.refl _) rfl ⟨?_,rfl⟩;have:gZ c vs j=false:=by simp only[gZ,hg,h1,<-hb2,h2,h3];simp
       simp[gY,aT hjl this]
      ·refine znr ?_;refine yq ?_;refine IH (j+1) _ _ ⟨by omega,?_⟩ aB ?_ ?_
       ·rw[allTo_succ,hall];simp only[gZ,hg,h1,<-hb2,h2,h3];simp
       ·exact zS
       ·simp
   ·have hje:j=vs.length:=aB;subst hje;refine znfen ?_;refine zA ?_;refine Fin.ret' aA rfl hh rfl rfl rfl (Weak.refl _) rfl ⟨by simp[gY,hc,hall],rfl⟩
open Go Go.AI
def bO (params levels:Int)(l:Lv):Int:=
 if gY l=false then 3
 else if bH (fun j=>match l.vars[j]? with|some v=>!(decide (0<=v.1)&& decide (params<=v.1))|none=>true) l.vars.length=false then 15
 else if bH (fun j=>match l.vars[j]? with|some v=>!(decide (v.1<0)&& decide (levels<=-1-v.1))|none=>true) l.vars.length=false then 23 else 0
theorem aM9 (h:Heap)(hh:WF h)(l:Lv)(params levels:Int)(hb:l.vars.length<=1048576)(hr:∀v∈l.vars,-9223372036854775808<=v.1):
  ACalls Tryz.prog 131 [l.av,iA params,iA levels] h fun o h'=>o= .ret (iA (bO params levels l))/\h'=h:=by
 have hval:=aOe (h++[some (.cells (l.cells.map .p))]) (hh.app aA) l hb;obtain⟨c,vs⟩:=l;simp only at hb hr;simp only[Lv.av,Lv.cells,List.map] at hval⊢;refine dE Tryz.func131 Tryz.ntmps131 ?_;refine Run.call rfl rfl aA rfl hval ?_ ?_
 ·rintro v h' ⟨hv,rfl⟩;simp only[AOut.ret.injEq] at hv;subst hv
  cases hvb:gY ⟨c,vs⟩ with
  |false=>
   refine zo ?_;refine zA ?_;refine zF2 hh ?_;exact⟨by simp[bO,hvb],rfl⟩
  |true=>
   refine zofr ?_;refine Run.loopS [1,2,3] (fun j:Nat=>j<=vs.length/\bH (fun j=>match vs[j]? with|some v=>!(decide (0<=v.1)&& decide (params<=v.1))|none=>true) j=true) (fun j=>vs.length-j) (fun j=>[(7,iA j)]) (fun _=>_) 0 (by simp[bH]) ?_ rfl ?_
   ·exact zS
   ·rintro j ⟨hj,hall⟩ IH;refine cK ?_
    by_cases hjl:j<vs.length
    ·have hg:vs[j]?=some vs[j]:=bLv hjl;obtain⟨⟨x,y⟩,hxy⟩:∃p,vs[j]=p:=⟨_,rfl⟩;rw[hxy] at hg;refine znt1 hjl ?_;refine Run.regJ [1,2,3,7] 35 (decide (0<=x)&& decide (params<=x)) (fun K J=>?_) ?_
     ·simp[hg];exact y1x
     refine y6 ?_;simp;refine Run.condB rfl (fun h1=>?_) (fun h1=>?_)
     ·refine zA ?_;refine Fin.ret' aA rfl hh rfl rfl rfl (Weak.refl _) rfl ⟨?_,rfl⟩;have:=aT (p:=fun j=>match vs[j]? with|some v=>!(decide (0<=v.1)&& decide (params<=v.1))|none=>true) hjl (by simp only[hg,h1];rfl);simp only[bO,hvb,this,if_true];rfl
     ·refine znr ?_;refine IH (j+1) _ _ ⟨by omega,?_⟩ aB ?_ rfl
      ·rw[allTo_succ,hall];simp only[hg,h1];rfl
      ·exact zS
    ·have hje:j=vs.length:=aB;subst hje;refine oR ?_;refine Run.loopS [1,2,3] (fun j:Nat=>j<=vs.length/\bH (fun j=>match vs[j]? with|some v=>!(decide (v.1<0)&& decide (levels<=-1-v.1))|none=>true) j=true) (fun j=>vs.length-j) (fun j=>[(8,iA j)]) (fun _=>_) 0 (by simp[bH]) ?_ rfl ?_
     ·exact zS
     ·rintro i ⟨hi,hall2⟩ IH2;refine cK ?_
      by_cases hil:i<vs.length
      ·have hg:vs[i]?=some vs[i]:=bLv hil;have hr2:=hr _ (bLy hil);obtain⟨⟨x,y⟩,hxy⟩:∃p,vs[i]=p:=⟨_,rfl⟩;rw[hxy] at hg hr2;simp only at hr2;refine znt1 hil ?_;refine Run.regJ [1,2,3,8] 60 (decide (x<0)&& decide (levels<=-1-x)) (fun K J=>?_) ?_
       ·by_cases hx:x<0
        ·have hw:IntKind.i64.wrap (-1-x)=-1-x:=wrap_id aB aB;simp[hg,hx,hw]
         repeat' (first|apply And.intro|intro _)
         all_goals
          refine y7 ?_
          repeat' first|exact wn|apply wc
          all_goals first|exact Weak.junk _|(refine Weak.bool ?_;clear J;rw[bMt];simp[hx];done)|(refine Weak.bool ?_;clear J;rw[bMt];simp[hg,hx,hw];omega)|(refine Weak.bool ?_;clear J;simp_all;done)|(refine Weak.bool ?_;clear J;simp[*];done)|(refine Weak.bool ?_;clear J;rw[bMt];simp[*];omega)|exact Weak.refl _
        ·simp[hg,hx]
         repeat' (first|apply And.intro|intro _)
         all_goals
          refine y7 ?_
          repeat' first|exact wn|apply wc
          all_goals first|exact Weak.junk _|(refine Weak.bool ?_;clear J;rw[bMt];simp[hx];done)|(refine Weak.bool ?_;clear J;rw[bMt];simp[hg,hx];omega)|(refine Weak.bool ?_;clear J;simp_all;done)|(refine Weak.bool ?_;clear J;simp[*];done)|(refine Weak.bool ?_;clear J;rw[bMt];simp[*];omega)|exact Weak.refl _
       refine y6 ?_;simp;refine Run.condB rfl (fun h1=>?_) (fun h1=>?_)
       ·refine zA ?_;refine Fin.ret' aA rfl hh rfl rfl rfl (Weak.refl _) rfl ⟨?_,rfl⟩;have:=aT (p:=fun j=>match vs[j]? with|some v=>!(decide (v.1<0)&& decide (levels<=-1-v.1))|none=>true) hil (by simp only[hg,h1];rfl);simp only[bO,hvb,hall,this,if_true];rfl
       ·refine znr ?_;refine IH2 (i+1) _ _ ⟨by omega,?_⟩ aB ?_ rfl
        ·rw[allTo_succ,hall2];simp only[hg,h1];rfl
        ·exact zS
      ·have hie:i=vs.length:=aB;subst hie;refine znfen ?_;refine zA ?_;refine Fin.ret' aA rfl hh rfl rfl rfl (Weak.refl _) rfl ⟨?_,rfl⟩;simp only[bO,hvb,hall,hall2];rfl
 ·rintro v h' ⟨hv,_⟩;cases hv
open Go Go.AI
attribute [simp] ByteArray.toList_eq
def qT:Option Bool->UInt8->Option Bool
 |none,_=>none
 |some true,c=>if letterB c.toNat then some false else none
 |some false,c=>if(c.toNat:Int)==46 then some true else if letterB c.toNat||(c.toNat:Int)==39||(decide (48<=(c.toNat:Int))&& decide ((c.toNat:Int)<=57)) then some false else none
def fZ (l:List UInt8):Option Bool:=l.foldl qT (some true)
def nameB (n:List UInt8):Bool:=!(decide (n=[])||decide (64<(n.length:Int)))&& fZ n==some false
theorem aR1 (l:List UInt8):l.foldl qT none=none:=by
 induction l with
 |nil=>rfl
 |cons c l ih=>exact ih
theorem aEu {n:List UInt8} {j:Nat} {c:UInt8} (h:n[j]?=some c):fZ (n.take (j+1))=qT (fZ (n.take j)) c:=by
 have:n.take (j+1)=n.take j++[c]:=by
  obtain⟨hj,rfl⟩:=bLw.1 h;exact bM6 hj
 rw[this,fZ,bOh];rfl
theorem nst_dead {n:List UInt8} {j:Nat} (h:fZ (n.take j)=none):fZ n=none:=by
 have e:n=n.take j++n.drop j:=(bN5 j n).symm;rw[e,fZ,bOh];rw[fZ] at h;rw[h];exact aR1 _
theorem aEt (h:Heap)(hh:WF h)(n:List UInt8):ACalls Tryz.prog 130 [.p (sP n)] h fun o h'=>o= .ret (bA (nameB n))/\h'=h:=by
 refine zER Tryz.func130 Tryz.ntmps130 ?_;refine Run.regJ [0,2] 12 (decide (n=[])||decide (64<(n.length:Int))) (fun K J=>?_) ?_
 ·simp[ByteArray.size];exact y1x
 refine y6 ?_;simp;refine Run.condB rfl (fun hc=>?_) (fun hc=>?_)
 ·refine zA ?_;refine zF3 hh ?_;exact⟨by simp[nameB,hc],rfl⟩
 ·have hn64:n.length<=64:=by simp at hc;omega
  refine znrr ?_;refine Run.loopS (ι:=Nat×Bool) [0,2] (fun p=>p.1<=n.length/\fZ (n.take p.1)=some p.2) (fun p=>n.length-p.1) (fun p=>[(3,bA p.2),(4,iA p.1)]) (fun _=>_) (0,true) (by simp[fZ]) ?_ rfl ?_
  ·exact zS
  ·rintro⟨j,fst⟩ ⟨hj,hst⟩ IH;simp only at hj hst;refine zsn ?_;refine Run.reg fun K J=>?_
   simp[ByteArray.size];refine zj ?_;clear J
   by_cases hjl:j<n.length
   ·have hg:n[j]?=some n[j]:=bLv hjl;obtain⟨c,hcj⟩:∃c,n[j]=c:=⟨_,rfl⟩;rw[hcj] at hg;have hsn:=aEu hg;rw[hst] at hsn;refine aDi hjl hg ?_
    cases fst with
    |true=>
     refine bE7 ?_;refine Run.call rfl rfl aA rfl (tV _ hh c.toNat) ?_ ?_
     ·rintro v h' ⟨hv,rfl⟩;simp only[AOut.ret.injEq] at hv;subst hv
      cases hlb:letterB c.toNat with
      |false=>
       refine zo ?_;refine zA ?_;simp only[qT,hlb] at hsn;exact y6q
      |true=>
       refine zofr ?_;refine ze ?_;refine znr ?_;simp only[qT,hlb,if_true] at hsn;exact y3l
     ·rintro v h' ⟨hv,_⟩;cases hv
    |false=>
     refine aIr ?_
     by_cases h46:(c.toNat:Int)=46
     ·refine lH h46 ?_;refine ze ?_;refine znr ?_;refine IH (j+1,true) _ _ ⟨by simp only;omega,by rw[hsn];simp[qT,h46]⟩ (by simp only;omega) ?_ rfl;exact zS
     ·refine znf1r h46 ?_;refine Run.call rfl rfl aA rfl (tV _ hh c.toNat) ?_ ?_
      ·rintro v h' ⟨hv,rfl⟩;simp only[AOut.ret.injEq] at hv;subst hv
       have fin:∀b:Bool,b=(!letterB c.toNat&& ((c.toNat:Int) !=39&& (decide ((c.toNat:Int)<48)||decide (57<(c.toNat:Int)))))->qT (some false) c=if b then none else some false:=by
        intro b hb;subst hb;simp only[qT,beq_iff_eq,h46,if_false]
        cases letterB c.toNat<;>simp
        by_cases q1:(c.toNat:Int)=39<;>simp[q1]
        by_cases q2:48<=(c.toNat:Int)<;>by_cases q3:(c.toNat:Int)<=57<;>simp[q2,q3]<;>omega
       obtain⟨lb,hlb⟩:∃lb,letterB c.toNat=lb:=⟨_,rfl⟩;obtain⟨z,hz⟩:∃z:Int,(c.toNat:Int)=z:=⟨_,rfl⟩;rw[hz] at hlb h46 fin;rw[hlb] at fin;rw[hz,hlb];refine Run.opsJ [0,2,3,4,5] 42 (!lb&& (z !=39&& (decide (z<48)||decide (57<z)))) (fun K J=>?_) ?_
       ·simp;exact y1x
       simp only[setMany,keepT];simp;refine Run.condB rfl (fun h1=>?_) (fun h1=>?_)
       ·refine zA ?_;have hf:=fin _ h1.symm;simp only[if_true] at hf;rw[hf] at hsn;exact y6q
       ·refine znr ?_;have hf:=fin _ h1.symm;simp only[bMe,if_false] at hf;rw[hf] at hsn;exact y3l
      ·rintro v h' ⟨hv,_⟩;cases hv
   ·have hje:j=n.length:=aB;subst hje;refine znfen ?_;refine zA ?_;rw[bMm] at hst;refine Fin.ret' aA rfl hh (bM1 _).symm rfl rfl (Weak.refl _) rfl ⟨?_,rfl⟩;simp only[nameB,hst,hc]
    cases fst<;>rfl
open Go Go.AI
def nD (k i:Int)(n:List UInt8)(lsl ksl:Int):Bool:=
 !(decide (k<0)||decide (13<=k)||ksl !=qN k)&& !(i !=0&& (k !=0&& k !=12))&& !(!decide (n=[])&& k !=3)&& (if k=2 then lsl==1 else(lsl==0||k==3))
def fM:Tm->Bool
 | .mk k i n ls ks=>nD k i n ls.length ks.length
theorem aQa (h:Heap)(hh:WF h)(t:Tm):ACalls Tryz.prog 129 [t.av] h fun o h'=>o= .ret (bA (fM t))/\h'=h:=by
 obtain⟨k,i,n,ls,ks⟩:=t;have hk:=aQn (h++[some (.cells [iA k,iA i, .p (sP n), .p (.sl 2 (lvPs ls)), .p (.sl 5 (tmPs ks))])]) (hh.app aA) k;refine ACalls.of_run Tryz.func129 rfl ?_;simp only[Tryz.ntmps129,bM2,bM3,Tm.av,cells_mk,List.map];refine znr ?_;have hcase:(k<0)\/(¬k<0/\13<=k)\/(¬k<0/\¬13<=k):=aB;rcases hcase with c1|⟨c1,c2⟩|⟨c1,c2⟩
 ·refine ya ?_;refine zd1 c1 ?_;refine y8 ?_;refine nv ?_;refine zA ?_;refine zF2 hh ?_;exact⟨by simp[fM,nD,c1],rfl⟩
 ·refine ya ?_;refine zd2 c1 c2 ?_;refine y8 ?_;refine nv ?_;refine zA ?_;refine zF2 hh ?_;exact⟨by simp[fM,nD,c1,c2],rfl⟩
 ·refine ya ?_;refine zd2 c1 c2 ?_;refine DR.call (args:=[iA k]) rfl rfl aA aA rfl hk ?_;refine zd ?_;refine y8 ?_;refine nv ?_;refine Run.condB rfl (fun h1=>?_) (fun h1=>?_)
  ·refine zA ?_;refine zF2 hh ?_;exact⟨by simp only[fM,nD,h1];simp,rfl⟩
  ·refine nv ?_;refine Run.regJ [1] 32 (i !=0&& (k !=0&& k !=12)) (fun K J=>?_) ?_
   ·simp;exact y1x
   refine y6 ?_;simp;refine Run.condB rfl (fun h2=>?_) (fun h2=>?_)
   ·refine zA ?_;refine zF2 hh ?_;exact⟨by simp only[fM,nD,h2];simp,rfl⟩
   ·refine nv ?_;refine Run.regJ [1] 40 (!decide (n=[])&& k !=3) (fun K J=>?_) ?_
    ·simp;exact y1x
    refine y6 ?_;simp;refine Run.condB rfl (fun h3=>?_) (fun h3=>?_)
    ·refine zA ?_;refine zF2 hh ?_;exact⟨by simp only[fM,nD,h3];simp,rfl⟩
    ·refine znr ?_
     have h1':(decide (k<0)||decide (13<=k)||(ks.length:Int) !=qN k)=false:=by
      simp[c1,c2];simpa using h1
     by_cases c4:k=2
     ·refine dV c4 ?_;refine Fin.ret' aA rfl hh rfl rfl rfl (Weak.refl _) rfl ⟨?_,rfl⟩;have e:fM (.mk k i n ls ks)=((ls.length:Int)==1):=by simp only[fM,nD,h1',h2,h3];rw[if_pos c4];rfl
      rw[e];rfl
     ·refine aFh c4 ?_;refine Run.regJ [1] 2 ((ls.length:Int)==0||k==3) (fun K J=>?_) ?_
      ·simp;exact y1x
      refine y6 ?_;simp;refine Run.ret ?_;refine Fin.ret' aA rfl hh rfl rfl rfl (Weak.refl _) rfl ⟨?_,rfl⟩;have e:fM (.mk k i n ls ks)=((ls.length:Int)==0||k==3):=by simp only[fM,nD,h1',h2,h3];rw[if_neg c4];rfl
      rw[e];rfl
open Go Go.AI
mutual
def Tm.depth:Tm->Nat
 | .mk _ _ _ _ ks=>Tm.depths ks+1
def Tm.depths:List Tm->Nat
 |[]=>0
 |t::ts=>max t.depth (Tm.depths ts)
end
theorem depths_snoc (l:List Tm)(t:Tm):Tm.depths (l++[t])=max (Tm.depths l) t.depth:=by
 induction l with
 |nil=>simp[Tm.depths]
 |cons x l ih=>simp only[bLz,Tm.depths,ih];omega
mutual
theorem iC:∀t:Tm,t.depth<=t.size
 | .mk _ _ _ _ ks=>by simp only[Tm.depth,Tm.size];have:=depths_le_sizes ks;omega
theorem depths_le_sizes:∀l:List Tm,Tm.depths l<=Tm.sizes l
 |[]=>by simp[Tm.depths,Tm.sizes]
 |t::ts=>by simp only[Tm.depths,Tm.sizes];have:=iC t;have:=depths_le_sizes ts;omega
end
theorem kN (l:List Tm)(i:Nat):Tm.depths (l.take i)<=Tm.sizes l:=bNs (depths_le_sizes _) (cQ l i)
theorem lS (N:Nat):∀(t:Tm)(h:Heap),t.size<=N->t.size<=1099511627776->WF h->ACalls Tryz.prog 78 [t.av] h fun o h'=>o= .ret (iA t.depth)/\h'=h:=by
 induction N with
 |zero=>intro t h hN;cases t;simp[Tm.size] at hN
 |succ N ih=>
 intro t h hN hsz hh;obtain⟨k,i,n,ls,ks⟩:=t;simp only[Tm.size] at hN hsz;refine ACalls.of_run Tryz.func78 rfl ?_;simp only[Tryz.ntmps78,bM2,bM3,Tm.av,cells_mk,List.map];refine sE ?_;refine Run.loopS [1] (fun j:Nat=>j<=ks.length) (fun j=>ks.length-j) (fun j=>[(3,iA (Tm.depths (ks.take j):Nat)),(4,iA j)]) (fun _=>_) 0 aA ?_ rfl ?_
 ·simp[Tm.depths];exact zK
 ·intro j hj IH;refine cK ?_
  by_cases hjl:j<ks.length
  ·have hg:ks[j]?=some ks[j]:=bLv hjl;have hs:=dO hjl;have htk:ks.take (j+1)=ks.take j++[ks[j]]:=bM6 hjl;have hd1:=iC ks[j];have hll:=aR ks;have hd2:=kN ks j;refine iY hjl hg ?_;refine Run.call (args:=[ks[j].av]) rfl rfl aA rfl (ih ks[j] _ aB aB (hh.app aA)) ?_ ?_
   ·rintro v h' ⟨hv,rfl⟩;simp only[AOut.ret.injEq] at hv;subst hv;refine zor ?_;refine IH (j+1) _ _ aB aB ?_ rfl;exact y54
   ·rintro v h' ⟨hv,_⟩;cases hv
  ·exact y4k
def aL (l:List Int):Int:=match l with
 |[]=>0
 |e::l=>if e=0 then aL l else e
theorem aZ (l:List Int)(e:Int):aL (l++[e])=if aL l=0 then e else aL l:=by
 induction l with
 |nil=>simp only[bM4,aL];split<;>simp_all
 |cons x l ih=>simp only[bLz,aL,ih];split<;>simp_all
theorem dC {l:List Int} {j:Nat} (h:aL (l.take j)≠0):aL l=aL (l.take j):=by
 induction l generalizing j with
 |nil=>simp
 |cons x l ih=>
  cases j with
  |zero=>simp[aL] at h
  |succ j=>
   simp only[bMv,aL] at h⊢;split
   ·rename_i hx;simp only[hx,if_true] at h;exact ih h
   ·rfl
def lY (depth vars params metas levels:Int)(k i:Int)(n:List UInt8)(ls:List Lv):Int:=
 if k=3/\nameB n=false then 29
 else if 8<ls.length then 6
 else if aL (ls.map (bO params levels))≠0 then aL (ls.map (bO params levels))
 else if k=0/\(i<0\/vars<=i-depth) then 24
 else if k=12/\(i<0\/metas<=i) then 23 else 0
mutual
def chk (vars params metas levels:Int)(depth:Int):Tm->Int
 | .mk k i n ls ks=>if fM (.mk k i n ls ks)=false then 3 else
   if lY depth vars params metas levels k i n ls≠0 then lY depth vars params metas levels k i n ls else aL (lQ vars params metas levels k depth 0 ks)
def lQ (vars params metas levels:Int)(k depth:Int)(idx:Nat):List Tm->List Int
 |[]=>[]
 |t::ts=>chk vars params metas levels (depth+aI k idx) t::lQ vars params metas levels k depth (idx+1) ts
end
theorem lR (v p m l k d:Int):∀(ks:List Tm)(idx j:Nat),(lQ v p m l k d idx ks).take j=lQ v p m l k d idx (ks.take j)
 |[],_,_=>by simp[lQ]
 |t::ts,idx,0=>by simp[lQ]
 |t::ts,idx,j+1=>by simp only[lQ,bMv,lR v p m l k d ts (idx+1) j]
theorem xP (v p m l k d:Int):∀(ks:List Tm)(idx:Nat)(t:Tm),lQ v p m l k d idx (ks++[t])=lQ v p m l k d idx ks++[chk v p m l (d+aI k (idx+ks.length:Nat)) t]
 |[],idx,t=>by simp[lQ]
 |x::ks,idx,t=>by simp only[bLz,lQ,xP v p m l k d ks (idx+1) t];simp[bO0,bOn 1]
open Go Go.AI
mutual
def Tm.fit:Tm->Prop
 | .mk _ i _ ls ks=>ls.length<=1048576/\(∀l∈ls,l.vars.length<=1048576/\∀v∈l.vars,-9223372036854775808<=v.1)/\-9223372036854775808<=i/\i<=9223372036854775807/\Tm.fits ks
def Tm.fits:List Tm->Prop
 |[]=>True
 |t::ts=>t.fit/\Tm.fits ts
end
theorem Tm.fits_at {l:List Tm} (h:Tm.fits l):∀t∈l,t.fit:=by
 induction l with
 |nil=>intro t ht;cases ht
 |cons x l ih=>
  simp only[Tm.fits] at h;intro t ht
  cases bMh.1 ht with
  |inl e=>subst e;exact h.1
  |inr e=>exact ih h.2 t e
theorem aUl (vars params metas levels:Int)(N:Nat):∀(t:Tm)(depth:Int)(h:Heap),t.size<=N->t.fit->0<=depth->depth+t.size<=1099511627776->WF h->
  ACalls Tryz.prog 76 [t.av,iA depth,iA vars,iA params,iA metas,iA levels] h fun o h'=>o= .ret (iA (chk vars params metas levels depth t))/\h'=h:=by
 induction N with
 |zero=>intro t _ h hN;cases t;simp[Tm.size] at hN
 |succ N ih=>
 intro t depth h hN hfit hd0 hd1 hh;have hform:=aQa (h++[some (.cells (t.cells.map .p))]) (hh.app aA) t;obtain⟨k,i,n,ls,ks⟩:=t;have hname:=aEt (h++[some (.cells [iA k,iA i, .p (sP n), .p (.sl 2 (lvPs ls)), .p (.sl 5 (tmPs ks))])]) (hh.app aA) n;simp only[Tm.size] at hN hd1;simp only[Tm.fit] at hfit;obtain⟨hf1,hf2,hf3,hf4,hf5⟩:=hfit;refine ACalls.of_run Tryz.func76 rfl ?_;simp only[Tryz.ntmps76,bM2,bM3,Tm.av,cells_mk,List.map];refine znrr ?_;refine rl rfl rfl aA rfl hform ?_;refine zo ?_;refine Run.condB rfl (fun h1=>?_) (fun h1=>?_)
 ·refine zA ?_;have h1':fM (.mk k i n ls ks)=false:=by simpa using h1
  refine zF2 hh ?_;exact⟨by simp only[chk,h1',if_true];rfl,rfl⟩
 have h1':fM (.mk k i n ls ks)=true:=by simpa using h1
 have hchk:chk vars params metas levels depth (.mk k i n ls ks)=if lY depth vars params metas levels k i n ls≠0 then lY depth vars params metas levels k i n ls else aL (lQ vars params metas levels k depth 0 ks):=by
  simp only[chk,h1',Bool.true_eq_false,if_false]
 rw[hchk];clear hchk h1 h1' hform;have hll:=aR ks;obtain⟨hz,hH⟩:∃e,lY depth vars params metas levels k i n ls=e:=⟨_,rfl⟩;rw[hH];unfold lY at hH;refine nv ?_;refine Run.join [1,2,3,4,5,6] 28 (k==3&& !nameB n) (fun hJ=>?_) ?_
 ·by_cases hk3:k=3
  ·subst hk3;refine znr ?_;refine Run.call rfl aA aA rfl hname ?_ ?_
   ·rintro v h' ⟨hv,rfl⟩;simp only[AOut.ret.injEq] at hv;subst hv;refine zo ?_;refine hJ _ ?_;exact zS
   ·rintro v h' ⟨hv,_⟩;cases hv
  ·have hk4:(k==3)=false:=by simpa using hk3
   refine sD hk4 ?_;refine hJ _ ?_;simp[hk4];exact zK
 refine y6 ?_;simp;refine Run.condB rfl (fun h2=>?_) (fun h2=>?_)
 ·refine zA ?_;rw[if_pos (by simpa using h2)] at hH;exact y44
 rw[if_neg (by simpa using h2)] at hH;refine znr ?_
 by_cases h3:8<ls.length
 ·have h3':8<(ls.length:Int):=aB;refine znt1 h3' ?_;refine zA ?_;rw[if_pos h3] at hH;exact y44
 rw[if_neg h3] at hH;have h3':¬8<(ls.length:Int):=aB;refine znf1r h3' ?_;refine Run.loopS [1,2,3,4,5,6] (fun j:Nat=>j<=ls.length/\aL ((ls.map (bO params levels)).take j)=0) (fun j=>ls.length-j) (fun j=>[(13,iA j)]) (fun _=>_) 0 (by simp[aL]) ?_ rfl ?_
 ·exact zS
 rintro j ⟨hj,hall⟩ IH;refine cK ?_
 by_cases hjl:j<ls.length
 ·have hg:ls[j]?=some ls[j]:=bLv hjl;have hl:=hf2 _ (bLy hjl);generalize ls[j]=u at hg hl
  have htk:(ls.map (bO params levels)).take (j+1)=(ls.map (bO params levels)).take j++[bO params levels u]:=by
   exact y7w
  refine iY hjl hg ?_;refine Run.call (args:=[u.av,iA params,iA levels]) rfl rfl aA rfl (aM9 _ (hh.app aA) u params levels hl.1 hl.2) ?_ ?_
  ·rintro v h' ⟨hv,rfl⟩;simp only[AOut.ret.injEq] at hv;subst hv;refine zor ?_
   by_cases h4:bO params levels u=0
   ·refine znf1r h4 ?_;refine IH (j+1) _ _ ⟨by omega,by rw[htk,aZ,hall,if_pos rfl,h4]⟩ aB ?_ rfl;exact zS
   ·refine znt1 h4 ?_;refine zA ?_
    have hst:aL (ls.map (bO params levels))=bO params levels u:=by
     have e:aL ((ls.map (bO params levels)).take (j+1))=bO params levels u:=by rw[htk,aZ,hall,if_pos rfl]
     rw[dC (j:=j+1) (by rw[e];exact h4),e]
    rw[if_pos (by rw[hst];exact h4),hst] at hH;refine zF2 hh ?_;exact⟨by simp[<-hH,h4],rfl⟩
  ·rintro v h' ⟨hv,_⟩;cases hv
 have hje:j=ls.length:=aB;subst hje;rw[bM7 aA] at hall;rw[if_neg (by simp[hall])] at hH;refine znfen ?_;refine Run.regJ [1,2,3,4,5,6] 66 (k==0&& (decide (i<0)||decide (vars<=i-depth))) (fun K J=>?_) ?_
 ·by_cases hi:i<0
  ·simp[hi];exact y2g
  ·have hw:IntKind.i64.wrap (i-depth)=i-depth:=wrap_id aB aB;simp[hi,hw];exact y2g
 refine y6 ?_;simp;refine Run.condB rfl (fun h4=>?_) (fun h4=>?_)
 ·refine zA ?_;rw[if_pos (by simpa using h4)] at hH;exact y44
 rw[if_neg (by simpa using h4)] at hH;refine nv ?_;refine Run.regJ [1,2,3,4,5,6] 80 (k==12&& (decide (i<0)||decide (metas<=i))) (fun K J=>?_) ?_
 ·simp;exact y1x
 refine y6 ?_;simp;refine Run.condB rfl (fun h5=>?_) (fun h5=>?_)
 ·refine zA ?_;rw[if_pos (by simpa using h5)] at hH;exact y44
 rw[if_neg (by simpa using h5)] at hH;subst hH;refine znr ?_;refine Run.loopS [1,2,3,4,5,6] (fun j:Nat=>j<=ks.length/\aL ((lQ vars params metas levels k depth 0 ks).take j)=0) (fun j=>ks.length-j) (fun j=>[(15,iA j)]) (fun _=>_) 0 (by simp[aL]) ?_ rfl ?_
 ·exact zS
 rintro j ⟨hj,hall⟩ IH2;refine cK ?_
 by_cases hjl:j<ks.length
 ·have hg:ks[j]?=some ks[j]:=bLv hjl;have hs:=dO hjl;have hfj:=Tm.fits_at hf5 _ (bLy hjl);have hbz:=bL k j;have htk:ks.take (j+1)=ks.take j++[ks[j]]:=bM6 hjl;generalize ks[j]=u at hg hs hfj htk
  have hck:(lQ vars params metas levels k depth 0 ks).take (j+1)=(lQ vars params metas levels k depth 0 ks).take j++[chk vars params metas levels (depth+aI k j) u]:=by
   rw[lR,lR,htk,xP,bMn,bMw,bNc hj]
  obtain⟨e,he⟩:∃e,chk vars params metas levels (depth+aI k j) u=e:=⟨_,rfl⟩;have hrec:=ih u (depth+aI k j) (h++[some (.cells [iA k,iA i, .p (sP n), .p (.sl 2 (lvPs ls)), .p (.sl 5 (tmPs ks))])]) aB hfj aB aB (hh.app aA);rw[he] at hck hrec;refine znt1 hjl ?_;refine Run.draw [0,0,0,0,0,0,0,0,0,0,1,0,0,0,0,1,2] [0,0,0,0,0,0,0,0,0,0,0,0,0,0,0,1,0] [0,1,0,7,15,0,0,64,0,448,992,0,0,0,0,32767,65535] [6,7,8,9,0,1,2,3,4,5,10,11,12,13,14,15,16] aC aC ?_;refine zd ?_;refine DR.call (args:=[iA k,iA j]) rfl rfl rfl aA rfl (below_any _ (hh.app aA) k j) ?_;refine zd1 hg ?_;refine DR.call (args:=[u.av,iA (depth+aI k j),iA vars,iA params,iA metas,iA levels]) rfl rfl rfl aA rfl hrec ?_;refine zd ?_;refine y8 ?_;refine znr ?_
  by_cases h6:e=0
  ·refine znf1r h6 ?_;refine IH2 (j+1) _ _ ⟨by omega,by rw[hck,aZ,hall,if_pos rfl,h6]⟩ aB ?_ rfl;exact zS
  ·refine znt1 h6 ?_;refine zA ?_
   have hst:aL (lQ vars params metas levels k depth 0 ks)=e:=by
    have e1:aL ((lQ vars params metas levels k depth 0 ks).take (j+1))=e:=by rw[hck,aZ,hall,if_pos rfl]
    rw[dC (j:=j+1) (by rw[e1];exact h6),e1]
   refine zF2 hh ?_;exact⟨by simp[hst],rfl⟩
 have hje:j=ks.length:=aB;subst hje;rw[lR,bMm] at hall;refine znfen ?_;refine zA ?_;refine zF2 hh ?_;exact⟨by simp[hall],rfl⟩
end Go.Proofs.YtplomildbmcmfaaGreat
