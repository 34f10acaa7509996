import Derived.Test.YtplomildbmcmfaaGreatZA0
import Derived.Test.YtplomildbmcmfaaGreatZFD
import Derived.Test.YtplomildbmcmfaaGreatZTy
set_option maxRecDepth 8000
namespace Go.Proofs.YtplomildbmcmfaaGreat
open Go Go.AI
structure Lv where
 c:Int
 vars:List (Int×Int)
 deriving DecidableEq
inductive Tm where
 |mk (kind index:Int) (name:List UInt8) (levels:List Lv) (kids:List Tm)
abbrev iP (n:Int):PV:= .prim (.int .i64 n)
abbrev sP (s:List UInt8):PV:= .prim (.string ⟨s.toArray⟩)
abbrev iA (n:Int):AV:= .p (.prim (.int .i64 n))
abbrev bA (b:Bool):AV:= .p (.prim (.bool b))
def jC (l:List (Int×Int)):List (List PV):=l.map fun v=>[iP v.1,iP v.2]
def Lv.cells (l:Lv):List PV:=[iP l.c, .sl 2 (jC l.vars)]
def lvPs (l:List Lv):List (List PV):=l.map Lv.cells
mutual
def Tm.cells:Tm->List PV
 | .mk k i n ls ks=>[iP k,iP i,sP n, .sl 2 (lvPs ls), .sl 5 (tmPs ks)]
def tmPs:List Tm->List (List PV)
 |[]=>[]
 |t::ts=>t.cells::tmPs ts
end
@[simp] theorem cells_mk (k i:Int) (n:List UInt8) (ls:List Lv) (ks:List Tm):(Tm.mk k i n ls ks).cells=[iP k,iP i,sP n, .sl 2 (lvPs ls), .sl 5 (tmPs ks)] :=rfl
theorem tmPs_eq (l:List Tm):tmPs l=l.map Tm.cells:=by
 induction l with
 |nil=>rfl
 |cons t l ih=>simp[tmPs,ih]
@[simp] theorem rP (l:List Tm):(tmPs l).length=l.length:=by simp[tmPs_eq]
@[simp] theorem bGe (l:List Tm) (i:Nat):(tmPs l)[i]?=(l[i]?).map Tm.cells:=by simp[tmPs_eq]
@[simp] theorem aWs (l:List Lv):(lvPs l).length=l.length:=by simp[lvPs]
@[simp] theorem bFe (l:List Lv) (i:Nat):(lvPs l)[i]?=(l[i]?).map Lv.cells:=by simp[lvPs]
@[simp] theorem aTs (l:List (Int×Int)):(jC l).length=l.length:=by simp[jC]
@[simp] theorem bE2 (l:List (Int×Int)) (i:Nat):(jC l)[i]?=(l[i]?).map fun v=>[iP v.1,iP v.2] :=by simp[jC]
@[simp] theorem bAg (t:Tm):t.cells.length=5:=by cases t;simp[Tm.cells]
@[simp] theorem aZd (t:Lv):t.cells.length=2:=by simp[Lv.cells]
abbrev Tm.av (t:Tm):AV:= .agg (t.cells.map .p)
abbrev Lv.av (t:Lv):AV:= .agg (t.cells.map .p)
@[simp] theorem bA8 (t:Tm):(t.cells.map AV.p).take 5=t.cells.map .p:=bM7 aA
@[simp] theorem aCy (t:Lv):(t.cells.map AV.p).take 2=t.cells.map .p:=bM7 aA
@[simp] theorem patch5 (a b c d e:AV) (t:Tm):patch [a,b,c,d,e] 0 (t.cells.map AV.p)=t.cells.map AV.p:=by cases t;rfl
@[simp] theorem bE0 (l:List PV):nS (l.map AV.p)=some l:=by
 induction l with
 |nil=>rfl
 |cons x l ih=>simp[nS,rQ,ih]
@[simp] theorem underL_p (n:Nat) (l:List PV):AV.underL n (l.map AV.p)=true:=by
 induction l with
 |nil=>simp[AV.underL]
 |cons x l ih=>simp[AV.underL,AV.under,ih]
namespace Tm
def kind:Tm->Int|mk k _ _ _ _=>k
def index:Tm->Int|mk _ i _ _ _=>i
def name:Tm->List UInt8|mk _ _ n _ _=>n
def levels:Tm->List Lv|mk _ _ _ l _=>l
def kids:Tm->List Tm|mk _ _ _ _ ks=>ks
mutual
def size:Tm->Nat
 |mk _ _ _ _ ks=>1+sizes ks
def sizes:List Tm->Nat
 |[]=>0
 |t::ts=>t.size+sizes ts
end
end Tm
open Go Go.AI
theorem gW (l:List Tm)(i:Nat)(t:Tm)(h:l[i]?=some t):Tm.sizes (l.take (i+1))=Tm.sizes (l.take i)+t.size:=by
 induction l generalizing i with
 |nil=>simp at h
 |cons x l ih=>
  cases i with
  |zero=>simp at h;subst h;simp[Tm.sizes]
  |succ i=>simp at h;simp only[bMv,Tm.sizes,ih i h];omega
theorem Tm.size_pos (t:Tm):1<=t.size:=by cases t;simp[Tm.size]
theorem aR (l:List Tm):l.length<=Tm.sizes l:=by
 induction l with
 |nil=>simp
 |cons x l ih=>have:=x.size_pos;simp only[Tm.sizes,bM2];omega
theorem cQ (l:List Tm)(i:Nat):Tm.sizes (l.take i)<=Tm.sizes l:=by
 induction l generalizing i with
 |nil=>simp
 |cons x l ih=>cases i with
  |zero=>simp[Tm.sizes]
  |succ i=>simp only[bMv,Tm.sizes];have:=ih i;omega
theorem mK (N:Nat):∀(t:Tm)(h:Heap),t.size<=N->t.size<=1099511627776->WF h->ACalls Tryz.prog 77 [t.av] h fun o h'=>o= .ret (iA t.size)/\h'=h:=by
 induction N with
 |zero=>intro t h hN;cases t;simp[Tm.size] at hN
 |succ N ih=>
 intro t h hN hsz hh;refine ACalls.of_run Tryz.func77 rfl ?_;obtain⟨k,i,n,ls,ks⟩:=t;simp only[Tm.size] at hN hsz⊢;simp only[Tryz.ntmps77,bM2,bM3,Tm.av,Tm.cells,List.map];refine Run.seq (Run.reg fun K J=>?_);simp;refine J _ _ _ (Run.opsNil ?_);clear J;refine Run.seq (Run.reg fun K J=>?_);simp;refine J _ _ _ (Run.opsNil ?_);clear J;refine Run.seq (Run.seq (Run.reg fun K J=>?_));simp;refine J _ _ _ (Run.opsNil ?_);clear J;refine Run.block ?_;refine Run.loopS [1] (fun j:Nat=>j<=ks.length) (fun j=>ks.length-j) (fun j=>[(3,iA (1+Tm.sizes (ks.take j):Nat)),(4,iA j)]) (fun _=>_) 0 aA ?_ rfl ?_
 ·simp[Tm.sizes];exact y7s
 ·intro j hj IH;simp;refine Run.seq (Run.seq (Run.reg fun K J=>?_));simp;refine J _ _ _ (Run.opsNil ?_);clear J
  by_cases hlt:j<ks.length
  ·refine ct (by simp[hlt]) ?_;refine Run.skip (Run.seq (Run.block (Run.reg fun K J=>?_)));have hg:ks[j]?=some ks[j]:=bLv hlt;have hs:=gW ks j _ hg;have hs2:=cQ ks (j+1);have hs3:=aR ks;simp[hg];refine J _ _ _ ?_;clear J;refine Run.call (args:=[ks[j].av]) rfl rfl aA rfl (ih ks[j] _ aB aB (hh.app aA)) ?_ ?_
   ·rintro v h' ⟨hv,rfl⟩;simp only[AOut.ret.injEq] at hv;subst hv;refine Run.ops fun K J=>?_
    simp;simp (disch:=omega) only[wrap_id];refine J _ _ _ (Run.opsNil (Run.inBlock ?_));clear J;refine Run.reg fun K J=>?_
    simp;simp (disch:=omega) only[wrap_id];refine J _ _ _ (Run.opsNil ?_);clear J;refine IH (j+1) _ _ aB aB ?_ rfl;simp[hs];exact y6t
   ·rintro v h' ⟨hv,_⟩;cases hv
  ·have hje:j=ks.length:=aB;subst hje;refine cf aA ?_;refine Run.exit rfl ?_;refine Run.seq (Run.reg fun K J=>?_);simp;refine J _ _ _ (Run.opsNil ?_);clear J;refine Run.ret ?_;exact Fin.ret hh rfl rfl rfl (Weak.refl _) rfl ⟨by simp,rfl⟩
open Go Go.AI
abbrev wk (err nodes:Int):Option AO:=some (.cells [iA err,iA nodes])
def dN (err e:Int):Int:=if err=0 then e else err
theorem aEb (h:Heap)(hh:WF h)(id:Nat)(err nodes e:Int)(hid:h[id]?=some (wk err nodes)):
  ACalls Tryz.prog 221 [.ptr id 0,iA e] h fun o h'=>o= .ret (.tup [])/\h'=h.set id (wk (dN err e) nodes):=by
 refine zE Tryz.func221 Tryz.ntmps221 ?_;refine Run.seq (Run.reg fun K J=>?_);simp[hid];refine J _ _ _ (Run.opsNil ?_);clear J
 by_cases he:err=0
 ·refine ct (by simp[he]) ?_;refine Run.reg fun K J=>?_
  simp[hid];refine J _ _ _ (Run.opsNil ?_);clear J;refine Run.nil ?_;exact Fin.ret' aA aA (hh.set aA) (bM1 _).symm rfl rfl (Weak.refl _) rfl ⟨rfl,by simp[dN,he]⟩
 ·refine cf (by simp[he]) ?_;refine Run.skip (Run.nil ?_);refine zF3 hh ?_;exact⟨rfl,by simp[dN,he,iM hid]⟩
def vr (i:Int):Tm:= .mk 0 i [] [] []
theorem oQ (h:Heap)(hh:WF h)(id:Nat)(err nodes i:Int)(hid:h[id]?=some (wk err nodes)):
  ACalls Tryz.prog 196 [.ptr id 0,iA i] h fun o h'=>o= .ret (vr i).av/\h'=h.set id (wk (if 65535<i then dN err 24 else err) nodes):=by
 obtain⟨g1,g2,g3,g4,g5,hlt⟩:=idf hid;refine zE Tryz.func196 Tryz.ntmps196 ?_;refine Run.seq (Run.reg fun K J=>?_);simp;refine J _ _ _ (Run.opsNil ?_);clear J;refine Run.seq (Run.seq (Run.reg fun K J=>?_));simp;refine J _ _ _ (Run.opsNil ?_);clear J
 by_cases he:65535<i
 ·refine ct (by simp[he]) ?_;refine zq ?_;refine Run.call (args:=[.ptr id 0,iA 24]) rfl rfl aA rfl (aEb _ (hh.app aA) id err nodes 24 (g1 _)) ?_ ?_
  ·rintro v h' ⟨hv,rfl⟩;simp only[AOut.ret.injEq] at hv;subst hv;simp[g2];refine Run.opsNil (Run.seq (Run.reg fun K J=>?_));simp;refine J _ _ _ (Run.opsNil ?_);clear J;refine Run.ret ?_;refine Fin.ret' (h0:=h.set id (wk (dN err 24) nodes)) aA aA (hh.set aA) rfl aE rfl ?_ ?_ ⟨rfl,by simp[he]⟩
   ·simp only[vr];exact y2y
   ·simp
  ·rintro v h' ⟨hv,_⟩;cases hv
 ·refine cf (by simp[he]) ?_;refine Run.skip (Run.seq (Run.reg fun K J=>?_));simp;refine J _ _ _ (Run.opsNil ?_);clear J;refine Run.ret ?_;refine Fin.ret' (h0:=h) aA rfl hh rfl aE rfl ?_ ?_ ⟨rfl,by simp[he,iM hid]⟩
  ·simp only[vr];exact y2y
  ·simp
def aI (k i:Int):Int:=if(i=1/\(k=5\/k=6\/k=7))\/(i=2/\k=11) then 1 else 0
theorem below_any (h:Heap)(hh:WF h)(k i:Int):ACalls Tryz.prog 132 [iA k,iA i] h fun o h'=>o= .ret (iA (aI k i))/\h'=h:=by
 refine zE Tryz.func132 Tryz.ntmps132 ?_;refine Run.seq (Run.reg fun K J=>?_);simp;refine J _ _ _ (Run.opsNil ?_);clear J;refine Run.seq (Run.seq (Run.reg fun K J=>?_))
 have hcase:((i==1)=true/\(k==5)=true)\/((i==1)=true/\(k==5)=false/\(k==6)=true)\/((i==1)=true/\(k==5)=false/\(k==6)=false/\(k==7)=true)\/
   ((i==1)=true/\(k==5)=false/\(k==6)=false/\(k==7)=false/\(i==2)=false)\/((i==1)=false/\(i==2)=true/\(k==11)=true)\/((i==1)=false/\(i==2)=true/\(k==11)=false)\/((i==1)=false/\(i==2)=false):=by
  simp;omega
 rcases hcase with ⟨e1,e2⟩|⟨e1,e2,e3⟩|⟨e1,e2,e3,e4⟩|⟨e1,e2,e3,e4,e5⟩|⟨e1,e2,e3⟩|⟨e1,e2,e3⟩|⟨e1,e2⟩
 all_goals
  simp[*,-J];simp only[beq_iff_eq,beq_eq_false_iff_ne,ne_eq] at*;refine J _ _ _ (Run.opsNil ?_);clear J;refine Run.cond rfl ?_
  first
  | (simp only[if_true]
     refine Run.seq (Run.reg fun K J=>?_);simp;refine J _ _ _ (Run.opsNil ?_);clear J;refine Run.ret ?_;refine zF3 hh ?_;exact⟨by simp[aI, *],rfl⟩)
  | (simp only[bMe,if_false]
     refine Run.skip (Run.seq (Run.reg fun K J=>?_));simp;refine J _ _ _ (Run.opsNil ?_);clear J;refine Run.ret ?_;refine zF3 hh ?_;exact⟨by simp[aI, *],rfl⟩)
open Go Go.AI
mutual
def dQ (d from_ depth:Int):Tm->Tm
 | .mk k i n ls ks=>if k=0 then(if i<from_+depth\/i+d<from_+depth then .mk k i n ls ks else vr (i+d)) else .mk k i n ls (dH d from_ depth k 0 ks)
def dH (d from_ depth k:Int)(idx:Nat):List Tm->List Tm
 |[]=>[]
 |t::ts=>dQ d from_ (depth+aI k idx) t::dH d from_ depth k (idx+1) ts
end
mutual
def bE (d from_ depth:Int):Tm->Bool
 | .mk k i _ _ ks=>if k=0 then !decide (i<from_+depth)&& (decide (i+d<from_+depth)||decide (65535<i+d)) else aV d from_ depth k 0 ks
def aV (d from_ depth k:Int)(idx:Nat):List Tm->Bool
 |[]=>false
 |t::ts=>bE d from_ (depth+aI k idx) t||aV d from_ depth k (idx+1) ts
end
mutual
def Tm.idx:Tm->Prop
 | .mk k i _ _ ks=>(k=0->-1099511627776<=i/\i<=1099511627776)/\Tm.idxs ks
def Tm.idxs:List Tm->Prop
 |[]=>True
 |t::ts=>t.idx/\Tm.idxs ts
end
theorem Tm.idxs_at {l:List Tm} (h:Tm.idxs l):∀t∈l,t.idx:=by
 induction l with
 |nil=>intro t ht;cases ht
 |cons x l ih=>
  simp only[Tm.idxs] at h;intro t ht
  cases bMh.1 ht with
  |inl e=>subst e;exact h.1
  |inr e=>exact ih h.2 t e
def gH (bad:Bool)(err:Int):Int:=if bad=true then dN err 24 else err
theorem qA (e:Int)(a b:Bool):gH b (gH a e)=gH (a||b) e:=by
 unfold gH dN;cases a<;>cases b<;>simp;omega
theorem jF (k i:Int):0<=aI k i/\aI k i<=1:=by unfold aI;split<;>omega
theorem rF (d f depth k:Int):∀(l:List Tm)(idx:Nat)(t:Tm),dH d f depth k idx (l++[t])=dH d f depth k idx l++[dQ d f (depth+aI k (idx+l.length:Nat)) t]
 |[],idx,t=>by simp[dH]
 |x::l,idx,t=>by simp only[bLz,dH,rF d f depth k l (idx+1) t];simp[bO0,bOn 1]
theorem kT (d f depth k:Int):∀(l:List Tm)(idx:Nat)(t:Tm),aV d f depth k idx (l++[t])=(aV d f depth k idx l||bE d f (depth+aI k (idx+l.length:Nat)) t)
 |[],idx,t=>by simp[aV]
 |x::l,idx,t=>by simp only[bLz,aV,kT d f depth k l (idx+1) t];simp[bO0,bOn 1,Bool.or_assoc]
theorem iQ (d f depth k:Int):∀(l:List Tm)(idx:Nat),(dH d f depth k idx l).length=l.length
 |[],idx=>rfl
 |x::l,idx=>by simp[dH,iQ d f depth k l]
theorem tmPs_snoc (l:List Tm)(t:Tm):tmPs (l++[t])=tmPs l++[t.cells]:=by simp[tmPs_eq]
theorem aIi (d f:Int)(hd1:-1099511627776<=d)(hd2:d<=1099511627776)(hf1:0<=f)(hf2:f<=65536)(nodes:Int)(N:Nat):
  ∀(t:Tm) (depth err:Int) (h:Heap) (id:Nat),t.size<=N->t.size<=1048576->t.idx->0<=depth->depth+t.size<=1099511627776->WF h->h[id]?=some (wk err nodes)->
  ACalls Tryz.prog 151 [.ptr id 0,t.av,iA d,iA f,iA depth] h fun o h'=>o= .ret (dQ d f depth t).av/\h'=h.set id (wk (gH (bE d f depth t) err) nodes):=by
 induction N with
 |zero=>intro t _ _ _ _ hN;have:=t.size_pos;omega
 |succ N ih=>
 intro t depth err h id hN hB hidx hdp hdB hh hid;obtain⟨g1,g2,g3,g4,g5,hlt⟩:=idf hid;refine ACalls.of_run Tryz.func151 rfl ?_;obtain⟨k,i,n,ls,ks⟩:=t;simp only[Tm.size] at hN hB hdB;simp only[Tm.idx] at hidx;simp only[Tryz.ntmps151,bM2,bM3,Tm.av,cells_mk,List.map];refine Run.seq (Run.reg fun K J=>?_);simp;refine J _ _ _ (Run.opsNil ?_);clear J;refine Run.seq (Run.seq (Run.reg fun K J=>?_));simp;refine J _ _ _ (Run.opsNil ?_);clear J
 by_cases hk0:k=0
 ·subst hk0;obtain⟨hi1,hi2⟩:=hidx.1 rfl;refine ct aA ?_;refine Run.seq (Run.seq (Run.reg fun K J=>?_));simp;simp (disch:=omega) only[wrap_id];refine J _ _ _ (Run.opsNil ?_);clear J
  by_cases h1:i<f+depth
  ·refine ct (by simp[h1]) ?_;refine Run.seq (Run.reg fun K J=>?_);simp;refine J _ _ _ (Run.opsNil ?_);clear J;refine Run.ret ?_;refine Fin.ret' (h0:=h) aA rfl hh rfl aE rfl (Weak.of_eq ?_) ?_ ⟨rfl,by simp[bE,h1,gH,iM hid]⟩
   ·simp[dQ,h1]
   ·simp
  ·refine cf (by simp[h1]) ?_;refine Run.skip (Run.seq (Run.seq (Run.reg fun K J=>?_)));simp;simp (disch:=omega) only[wrap_id];refine J _ _ _ (Run.opsNil ?_);clear J
   by_cases h2:i+d<f+depth
   ·refine ct (by simp[h2]) ?_;refine Run.seq (Run.reg fun K J=>?_);simp;refine J _ _ _ ?_;clear J;refine Run.call (args:=[.ptr id 0,iA 24]) rfl rfl aA rfl (aEb _ (hh.app aA) id err nodes 24 (g1 _)) ?_ ?_
    ·rintro v h' ⟨hv,rfl⟩;simp only[AOut.ret.injEq] at hv;subst hv;simp[g2];refine Run.opsNil (Run.seq (Run.reg fun K J=>?_));simp;refine J _ _ _ (Run.opsNil ?_);clear J;refine Run.ret ?_;refine Fin.ret' (h0:=h.set id (wk (dN err 24) nodes)) aA aA (hh.set aA) rfl aE rfl (Weak.of_eq ?_) ?_ ⟨rfl,by simp[bE,h1,h2,gH]⟩
     ·simp[dQ,h2]
     ·simp
    ·rintro v h' ⟨hv,_⟩;cases hv
   ·refine cf (by simp[h2]) ?_;refine Run.skip (Run.seq (Run.reg fun K J=>?_));simp;simp (disch:=omega) only[wrap_id];refine J _ _ _ ?_;clear J;refine Run.call (args:=[.ptr id 0,iA (i+d)]) rfl rfl aA rfl (oQ _ (hh.app aA) id err nodes (i+d) (g1 _)) ?_ ?_
    ·rintro v h' ⟨hv,rfl⟩;simp only[AOut.ret.injEq] at hv;subst hv;rw[g2];refine Run.ops fun K J=>?_
     simp[vr];refine J _ _ _ (Run.opsNil ?_);clear J;refine Run.ret ?_;refine Fin.ret' (h0:=h.set id (wk (if 65535<i+d then dN err 24 else err) nodes)) aA aA (hh.set aA) rfl aE rfl (Weak.of_eq ?_) ?_ ⟨rfl,by simp[bE,h1,h2,gH]⟩
     ·simp[dQ,h1,h2,vr]
     ·simp
    ·rintro v h' ⟨hv,_⟩;cases hv
 ·refine cf (by simp[hk0]) ?_;refine Run.skip (Run.seq (Run.reg fun K J=>?_));simp;refine J _ _ _ (Run.opsNil ?_);clear J;refine Run.seq (Run.seq (Run.reg fun K J=>?_));simp;refine J _ _ _ (Run.opsNil ?_);clear J;refine Run.tok 11 5 aA ?_;refine Run.block ?_;simp
  refine Run.loopS [0,2,3,4,6,10] (fun j:Nat=>j<=ks.length) (fun j=>ks.length-j) (fun j=>[(11, .own (h.length+2) 5 (tmPs (dH d f depth k 0 (ks.take j)))),(12,iA j)])
   (fun j=>h.set id (wk (gH (aV d f depth k 0 (ks.take j)) err) nodes)++[some (.cells [iA k,iA i, .p (sP n), .p (.sl 2 (lvPs ls)), .p (.sl 5 (tmPs ks))]),some (.cells [iA 0,iA 0, .p (sP []), .p (.prim (.slice none 0 0)), .p (.prim (.slice none 0 0))]),some (.tok j 5)])
   0 aA ?_ ?_ ?_
  ·simp[dH,tmPs];exact y7s
  ·simp[aV,gH,iM hid]
  ·intro j hj IH;simp;refine Run.seq (Run.seq (Run.reg fun K J=>?_));simp;refine J _ _ _ (Run.opsNil ?_);clear J
   by_cases hjl:j<ks.length
   ·refine ct (by simp[hjl]) ?_;refine Run.skip (Run.seq (Run.block ?_));have hg:ks[j]?=some ks[j]:=bLv hjl;have hbz:=jF k j
    refine Run.draw [0,0,0,0,0,0,0,0,0,0,0,0,0,0,1,1,2,2,3] [0,0,0,0,0,0,0,0,0,0,0,0,0,0,0,1,0,2,0] [0,0,0,4,0,28,60,0,0,0,0,1024,0,7168,15872,32766,65534,131071,262143] [10,11,12,13,1,2,3,4,5,6,7,8,9,14,15,0,16,17,18]
     aC aC ?_
    refine y1g ?_;refine DR.go fun K J=>?_
    simp[hg];simp (disch:=omega) only[wrap_id];refine J _ _ _ _ ?_;clear J;have hs:=gW ks j _ hg;have hs2:=cQ ks (j+1);have hs3:=aR ks
    refine DR.call (args:=[.ptr id 0,ks[j].av,iA d,iA f,iA (depth+aI k j)]) rfl rfl rfl aA rfl
     (ih ks[j] (depth+aI k j) (gH (aV d f depth k 0 (ks.take j)) err) _ id aB aB (Tm.idxs_at hidx.2 _ (bLy hjl)) aB aB (WF.app (WF.set hh aA) aA) (g4 _ _)) ?_
    refine DR.go fun K J=>?_
    have hmin:min j ks.length=j:=bNc hj;have hb1:(j+1)*80<=140737488355328:=aB;have hb2:j+1<=9223372036854775807:=aB;simp[g5,iQ,hmin,hb1,hb2];refine J _ _ _ _ ?_;clear J;refine y8 ?_;refine Run.inBlock (Run.reg fun K J=>?_);simp;simp (disch:=omega) only[wrap_id];refine J _ _ _ (Run.opsNil ?_);clear J;have htk:ks.take (j+1)=ks.take j++[ks[j]]:=bM6 hjl;refine IH (j+1) _ _ aB aB ?_ ?_
    ·rw[htk,rF,tmPs_snoc];simp[hmin]
     repeat' first|exact wn|apply wc
     all_goals first|exact Weak.junk _|exact Weak.refl _
    ·rw[htk,kT,<-qA];simp only[bMn,hmin,bMw]
   ·have hje:j=ks.length:=aB;subst hje;refine cf aA ?_;refine Run.exit rfl ?_;refine Run.seq (Run.reg fun K J=>?_);simp;refine J _ _ _ (Run.opsNil ?_);clear J;refine Run.seq (Run.reg fun K J=>?_);simp;refine J _ _ _ (Run.opsNil ?_);clear J;refine Run.ret ?_;refine Fin.ret' (h0:=h.set id (wk (gH (aV d f depth k 0 ks) err) nodes)) aA aA (hh.set aA) rfl aE rfl ?_ ?_ ⟨rfl,by simp[bE,hk0]⟩
    ·simp only[dQ,hk0,if_false];refine Weak.agg ?_
     repeat' first|exact wn|apply wc
     all_goals first|exact Weak.refl _|exact Weak.own _ _ _
    ·simp
end Go.Proofs.YtplomildbmcmfaaGreat
namespace Go.AI
open Go
def buf (sz:Nat)(es:List (List PV))(m:Nat):List AV:=es.flatten.map .p++List.replicate (m*sz) .junk
theorem RepL.junks {E w} :∀(l:List Value),RepL E w (List.replicate l.length .junk) l
 |[]=>by simp[RepL]
 |v::l=>by simp only[bM2,bN3,RepL];exact⟨v,l,rfl,by simp only[Rep],RepL.junks l⟩
theorem aB1 {sz:Nat} {es:List (List PV)} {m:Nat} (h:∀e∈es,e.length=sz):(buf sz es m).length=(es.length+m)*sz:=by
 unfold buf;rw[bM5,bMp,flat_length h,List.length_replicate,bO3]
theorem lO (n sz:Nat)(es:List (List PV))(m:Nat):AV.underL n (buf sz es m)=true:=by
 have hj:∀k,AV.underL n (List.replicate k .junk)=true:=by
  intro k
  induction k with
  |zero=>simp[AV.underL]
  |succ k ih=>simp only[bN3,AV.underL,AV.under,ih];rfl
 have ha:∀(xs ys:List AV),AV.underL n xs=true->AV.underL n ys=true->AV.underL n (xs++ys)=true:=by
  intro xs ys h1 h2
  induction xs with
  |nil=>exact h2
  |cons x xs ih=>simp only[AV.underL,bM8,bLz] at h1⊢;exact⟨h1.1,ih h1.2⟩
 refine ha _ _ ?_ (hj _);generalize es.flatten=l
 induction l with
 |nil=>simp[AV.underL]
 |cons x l ih=>simp only[bMd,AV.underL,AV.under,ih];rfl
theorem aUf {sz:Nat} {es ys:List (List PV)} {m:Nat} (h:∀e∈es,e.length=sz)(hy:∀e∈ys,e.length=sz)(hm:ys.length<=m):
  patch (buf sz es m) (es.length*sz) (ys.flatten.map .p)=buf sz (es++ys) (m-ys.length):=by
 have hle:(ys.flatten.map AV.p).length=ys.length*sz:=by rw[bMp,flat_length hy]
 have h1:(es.flatten.map AV.p).length=es.length*sz:=by rw[bMp,flat_length h]
 have hsp:m*sz=ys.length*sz+(m-ys.length)*sz:=by rw[<-bO3];congr 1;omega
 unfold buf;rw[<-h1,<-bO7 ((es.flatten.map AV.p).length),patch_skip,hsp,<-List.replicate_append_replicate,patch_full _ _ _ (by rw[hle,List.length_replicate]),bOa,bMy,bMj]
section
variable {P:Program} {rd:Option Nat} {nb:Nat} {k:List It} {T:List AV} {h:Heap} {D:List AD} {Q:AX->List AV->Heap->List AD->Prop} {all:Array Oper} {o:Oper} {rest:List Oper}
theorem nP (b:List Oper):∀(l:List Oper)(T:List AV)(h:Heap),bY P all (fun l T h=>Run P rd nb (.ops all (l++b)::k) T h D Q) l T h->Run P rd nb (.ops all (l++b)::k) T h D Q
 |[],T,h,r=>r
 |o::l,T,h,r=>by
  simp only[bY] at r;split at r
  ·rename_i hw;split at r
   ·rename_i x h' ho;exact Run.op hw ho (nP b l _ _ r)
   ·exact r
  ·rename_i hw;exact Run.off hw (nP b l _ _ r)
  ·exact r
theorem Run.opsPre (n:Nat) {l:List Oper} (r:∀K:List Oper->List AV->Heap->Prop,(∀l' T h,Run P rd nb (.ops all (l'++l.drop n)::k) T h D Q->K l' T h)->bY P all K (l.take n) T h):Run P rd nb (.ops all l::k) T h D Q:=by
 have:=nP (P:=P) (rd:=rd) (nb:=nb) (all:=all) (k:=k) (D:=D) (Q:=Q) (l.drop n) (l.take n) T h (r _ fun _ _ _ h=>h)
 rwa [bN5] at this
theorem Run.opR {R:AV->Heap->Prop} (hw:awanted all T o=some true)(hnd:∀c,o.op≠ .defer c)
  (ho:∀E w a,St E w a T h D->∃x h' E' w' v,R x h'/\(execOp a.eval o).run P w= .ok (.value v) w'/\Rel E' (Heap.at h') w'/\Fresh E' h'.length/\Rep E' w' x v/\Fr E (Heap.at h) w E' (Heap.at h') w')
  (r:∀x h',R x h'->Run P rd nb (.ops all rest::k) (tput T o.dst x) h' D Q):Run P rd nb (.ops all (o::rest)::k) T h D Q:=by
 intro E w a s;obtain⟨x,h',E',w',v,hR,hrun,hr,hf,hx,hfr⟩:=ho E w a s;have s':St E' w' (a.put o.dst v) (tput T o.dst x) h' D:=(s.move hfr hr hf).put hx o.dst;have:=r x h' hR E' w' _ s';exact y41
theorem aNh {E:Env} {w:World} {sz c':Nat} {es:List (List PV)} {vals zs:List Value} {e:TypeId} (r:Rel E h.at w)(hf:Fresh E h.length)(hv:RepL E w (es.flatten.map .p) vals)(hz:zs.length=(c'-es.length)*sz):
  ∃E',Rel E' (Heap.at (h++[some (.cells (buf sz es (c'-es.length)))])) (w.drew.alloc (.cells (List.toArray (vals++zs)) e (0,0)))/\Fresh E' (h.length+1)/\
   Fr E h.at w E' (Heap.at (h++[some (.cells (buf sz es (c'-es.length)))])) (w.drew.alloc (.cells (List.toArray (vals++zs)) e (0,0)))/\E'.g h.length=some w.heap.size:=by
 have hb:RepL E w.drew (buf sz es (c'-es.length)) (vals++zs):=by
  unfold buf;refine RepL.append (RepL.ext (E:=E) (w:=w) (E':=E) (w':=w.drew) ⟨fun _ _ h=>h,fun _ _ _=>rfl,fun _ _ h=>h,fun _ L h=>⟨L,h,bLx _,fun _=>rfl⟩⟩ hv) ?_;rw[<-hz];exact RepL.junks zs
 exact y61
theorem exec_append {a:Act} {s x:Operand} {t:TypeId} {v:Value} {w w':World} (ho:o.op= .call ⟨.builtin .append,#[s,x],#[t,t]⟩)(hrun:(Builtin.append_ #[t,t] o.type #[a.eval s,a.eval x]).run P w= .ok v w'):
  (execOp a.eval o).run P w= .ok (.value v) w':=by
 simp only[execOp,ho,resolve,Sem.run_bind,Sem.run_pure,Result.andThen_ok,invoke];simp[builtin,hrun]
theorem Run.appendN {s x:Operand} {t e:TypeId} {ys:List (List PV)} {sz by_:Nat} {z:List Value} (ho:o.op= .call ⟨.builtin .append,#[s,x],#[t,t]⟩)(hw:awanted all T o=some true)(he:elT P t=some e)(hsz:szT P e=some sz)(hby:byT P e=some by_)(hz:aS P e=some z)
  (hs:aev T s= .p (.prim (.slice none 0 0))) (hx:sI (aev T x)=some ys) (hx2:srcSz sz (aev T x)=true) (hpos:0<ys.length) (hb:ys.length*by_<=140737488355328) (hb2:ys.length<=9223372036854775807)
  (r:∀c',ys.length<=c'->Run P rd nb (.ops all rest::k) (tput T o.dst (.sm h.length 0 ys.length c' sz)) (h++[some (.cells (buf sz ys (c'-ys.length)))]) D Q):Run P rd nb (.ops all (o::rest)::k) T h D Q:=by
 refine Run.opR (R:=fun x h'=>∃c',ys.length<=c'/\x= .sm h.length 0 ys.length c' sz/\h'=h++[some (.cells (buf sz ys (c'-ys.length)))]) hw (fun c hc=>by rw[hc] at ho;cases ho) ?_ (by rintro x h' ⟨c',h1,rfl,rfl⟩;exact r c' h1);intro E w a st;have hsr:=aev_rep st s;rw[hs] at hsr;simp only[Rep,RepP] at hsr;have hX:=iR hx hx2 (aev_rep st x);simp only[RepP] at hX;obtain⟨ad,cx,hxv,_,hX⟩:=hX;have hne:ys≠[]:=by intro h0;rw[h0] at hpos;simp at hpos
 obtain⟨b,off,rfl,hr⟩:=hX.resolve_left hne;have hu:=eZ he;obtain⟨i,zv,hi,hzv,hzc,hzl,_⟩:=aN hz;have hisz:i.size=sz:=by unfold szT at hsz;rw[hi] at hsz;simpa using hsz
 have hiby:i.bytes=by_:=by unfold byT at hby;rw[hi] at hby;simpa using hby
 have hyl:=hr.length;obtain⟨news,n1,n2,n3⟩:=hr.values;have hrun:=run_append_nil (P:=P) w t o.type e i zv hu hi hzv ⟨b,off,none⟩ ys.length cx news (by rw[n1,hisz]) (fun j v hj=>by rw[addr_add];exact n2 j v hj) hpos aB (by rw[hiby];omega)
 have hzs:((Builtin.zeroCells zv.cells (grownCap w ys.length 0 e-ys.length)).toList).length=(grownCap w ys.length 0 e-ys.length)*sz:=by
  exact y3g
 obtain⟨E',g1,g2,g3,g4⟩:=aNh (h:=h) (e:=e) st.rel st.fresh n3 hzs;refine⟨_,_,E',_, .slice (some ⟨w.heap.size,0,none⟩) ys.length (grownCap w ys.length 0 e),⟨grownCap w ys.length 0 e,le_grownCap w _ 0 e,rfl,rfl⟩,?_,g1,by simpa using g2,?_,g3⟩
 ·have hq:List.toArray (news++(Builtin.zeroCells zv.cells (grownCap w ys.length 0 e-ys.length)).toList)=news.toArray++Builtin.zeroCells zv.cells (grownCap w ys.length 0 e-ys.length):=by
   exact y5z
  rw[hq];exact exec_append ho (by rw[hsr.1,hxv];exact hrun)
 ·exact y7n
theorem Run.appendS {s x:Operand} {t e:TypeId} {es ys:List (List PV)} {id cap sz by_:Nat} {z:List Value} (ho:o.op= .call ⟨.builtin .append,#[s,x],#[t,t]⟩)(hw:awanted all T o=some true)(he:elT P t=some e)(hsz:szT P e=some sz)(hby:byT P e=some by_)(hz:aS P e=some z)
  (hs:aev T s= .sm id 0 es.length cap sz) (hid:h.at id=some (.cells (buf sz es (cap-es.length)))) (hes:∀e∈es,e.length=sz) (hcap:es.length<=cap) (hx:sI (aev T x)=some ys) (hx2:srcSz sz (aev T x)=true) (hpos:0<ys.length)
  (hb:(es.length+ys.length)*by_<=140737488355328) (hb2:es.length+ys.length<=9223372036854775807)
  (r1:es.length+ys.length<=cap->Run P rd nb (.ops all rest::k) (tput T o.dst (.sm id 0 (es.length+ys.length) cap sz)) (h.set id (some (.cells (buf sz (es++ys) (cap-(es.length+ys.length)))))) D Q)
  (r2:∀c',es.length+ys.length<=c'->Run P rd nb (.ops all rest::k) (tput T o.dst (.sm h.length 0 (es.length+ys.length) c' sz)) (h++[some (.cells (buf sz (es++ys) (c'-(es.length+ys.length))))]) D Q):Run P rd nb (.ops all (o::rest)::k) T h D Q:=by
 refine Run.opR (R:=fun x h'=>(es.length+ys.length<=cap/\x= .sm id 0 (es.length+ys.length) cap sz/\h'=h.set id (some (.cells (buf sz (es++ys) (cap-(es.length+ys.length))))))\/
   ∃c',es.length+ys.length<=c'/\x= .sm h.length 0 (es.length+ys.length) c' sz/\h'=h++[some (.cells (buf sz (es++ys) (c'-(es.length+ys.length))))]) hw (fun c hc=>by rw[hc] at ho;cases ho) ?_
  (by rintro x h' (⟨h1,rfl,rfl⟩|⟨c',h1,rfl,rfl⟩)
      ·exact r1 h1
      ·exact r2 c' h1)
 intro E w a st;have hsr:=aev_rep st s;rw[hs] at hsr;simp only[Rep] at hsr;obtain⟨g,hg,hsv⟩:=hsr;have hX:=iR hx hx2 (aev_rep st x);simp only[RepP] at hX;obtain⟨ad,cx,hxv,_,hX⟩:=hX;have hne:ys≠[]:=by intro h0;rw[h0] at hpos;simp at hpos
 obtain⟨b,off,rfl,hr⟩:=hX.resolve_left hne;have hu:=eZ he;obtain⟨i,zv,hi,hzv,hzc,hzl,_⟩:=aN hz;have hisz:i.size=sz:=by unfold szT at hsz;rw[hi] at hsz;simpa using hsz
 have hiby:i.bytes=by_:=by unfold byT at hby;rw[hi] at hby;simpa using hby
 have hyl:=hr.length;obtain⟨news,n1,n2,n3⟩:=hr.values;obtain⟨g',cur,hg',hrow,hreps⟩:=st.rel.objs id _ hid;rw[hg] at hg';cases hg';have hcl:=hreps.length;rw[aB1 hes] at hcl;have hmul:(es.length+(cap-es.length))*sz=cap*sz:=by congr 1;omega
 have hadd:(es.length+ys.length)*sz=es.length*sz+ys.length*sz:=bO3 _ _ _
 by_cases hroom:es.length+ys.length<=cap
 ·have hmulle:(es.length+ys.length)*sz<=cap*sz:=bNk _ hroom
  obtain⟨w',hrun,hrow',hsame,hsize,hos,hout⟩:=append_room (P:=P) (ty:=o.type) hu hi hrow (a:=⟨b,off,none⟩) (m:=ys.length) (c:=cx) (news:=news) (n:=es.length) (cap:=cap) (by rw[n1,hisz]) (fun j v hj=>by rw[addr_add];exact n2 j v hj)
   (RepL.one_p n3) hroom (by rw[hisz];omega)
  rw[hisz] at hrow'
  have hnew:RepL E w (buf sz (es++ys) (cap-(es.length+ys.length))) (patch cur (es.length*sz) news):=by
   have:=RepL.patch (es.length*sz) n3 hreps;rw[aUf hes hyl aB] at this
   rwa [show cap-es.length-ys.length=cap-(es.length+ys.length) by omega] at this
  have hx:Ext E w E w':=⟨fun _ _ h=>h,fun b' off' hb'=>bS (hsame b' (fun e=>st.rel.sep id _ g off' hid hg (e▸hb'))) off',fun _ _ h=>h,fun _ L h=>⟨L,h,bLx _,fun _=>rfl⟩⟩;obtain⟨g1,g2⟩:=st.rel.writeO hid rfl (o':= .cells (buf sz (es++ys) (cap-(es.length+ys.length)))) rfl hg (fun hx=>⟨_,hrow',hnew.ext hx⟩) hsame hsize hos hout;refine⟨_,_,E,w', .slice (some ⟨g,0,none⟩) (es.length+ys.length) cap, .inl ⟨hroom,rfl,rfl⟩,?_,g1,by simpa using st.fresh,?_,g2⟩
  ·exact y3i
  ·simp only[Rep];exact⟨g,hg,rfl⟩
 ·have holds:∀j v,(cur.take (es.length*sz))[j]?=some v->w.cell? ((⟨g,0,none⟩:Addr).add j)=some v:=by
   intro j v hj;rw[addr_add,bMw,hrow.cell];exact y3h
  have hlec:es.length*sz<=cap*sz:=bNk _ hcap;have hol:(cur.take (es.length*sz)).length=es.length*sz:=by rw[bMn];omega
  have horep:RepL E w (es.flatten.map .p) (cur.take (es.length*sz)):=by
   have:=hreps.take (es.length*sz);have hel:(es.flatten.map AV.p).length=es.length*sz:=by rw[bMp,flat_length hes]
   unfold buf at this
   rwa [bMx aB,bM7 aB] at this
  have hrun:=run_append_grow (P:=P) w t o.type e i zv hu hi hzv ⟨g,0,none⟩ es.length cap (cur.take (es.length*sz)) (by rw[hol,hisz]) holds ⟨b,off,none⟩ ys.length cx news (by rw[n1,hisz])
   (fun j v hj=>by rw[addr_add];exact n2 j v hj) aB aB (growslice_fits aB (by rw[hiby];exact hb))
  have hzs:((Builtin.zeroCells zv.cells (grownCap w (es.length+ys.length) cap e-(es.length+ys.length))).toList).length=(grownCap w (es.length+ys.length) cap e-(es++ys).length)*sz:=by
   exact y3g
  obtain⟨E',g1,g2,g3,g4⟩:=aNh (h:=h) (e:=e) (es:=es++ys) st.rel st.fresh (by rw[bOa,bMy];exact horep.append n3) hzs;rw[bM5] at g1 g3;refine⟨_,_,E',_, .slice (some ⟨w.heap.size,0,none⟩) (es.length+ys.length) (grownCap w (es.length+ys.length) cap e), .inr ⟨grownCap w (es.length+ys.length) cap e,le_grownCap w _ cap e,rfl,rfl⟩,?_,g1,by simpa using g2,?_,g3⟩
  ·have hq:List.toArray (cur.take (es.length*sz)++news++(Builtin.zeroCells zv.cells (grownCap w (es.length+ys.length) cap e-(es.length+ys.length))).toList)=
     (cur.take (es.length*sz)).toArray++news.toArray++Builtin.zeroCells zv.cells (grownCap w (es.length+ys.length) cap e-(es.length+ys.length)):=by
    exact y5z
   rw[hq];exact y3i
  ·exact y7n
theorem Run.freezeS (slot:Nat) {id n cap sz m:Nat} {es:List (List PV)} (hs:tget T slot= .sm id 0 n cap sz)(hat:h.at id=some (.cells (buf sz es m)))(hes:∀e∈es,e.length=sz)(hn:es.length=n)(hcap:n<=cap)
  (r:Run P rd nb k (T.set slot (.p (.sl sz es))) (h.set id none) D Q):Run P rd nb k T h D Q:=by
 intro E w a s;have hv:=s.tmps.get slot;rw[<-tget_eq,hs] at hv;simp only[Rep] at hv;obtain⟨b,hg,hv⟩:=hv;obtain⟨b',vals,hg',hrow,hreps⟩:=s.rel.objs id _ hat;rw[hg] at hg';cases hg';obtain⟨f1,f2⟩:=s.rel.freeze hat hg;have s':=s.move f2 f1 (fun i hi=>s.fresh i (by simpa using hi));have hel:(es.flatten.map AV.p).length=es.length*sz:=by rw[bMp,flat_length hes]
 have hx:Rep {E with ro:=fun b' off=>E.ro b' off\/b'=b} w (.p (.sl sz es)) (.slice (some ⟨b,0,none⟩) n cap):=by
  exact y37
 have hset:=s'.tmps.set hx slot
 have hsame:(a.tmps.toList).set slot (.slice (some ⟨b,0,none⟩) n cap)=a.tmps.toList:=by
  exact y4j
 rw[hsame] at hset;exact K_mono (P:=P) (rd:=rd) (Post.of_fr (Q:=Q) f2) k _ _ _ (r _ w a ⟨s'.rel,s'.fresh,hset,s'.defers⟩)
end
open Go
section
variable {P:Program} {rd:Option Nat} {nb:Nat} {k:List It} {T:List AV} {h:Heap} {D:List AD} {Q:AX->List AV->Heap->List AD->Prop} {all:Array Oper} {o:Oper} {rest:List Oper}
theorem Run.weakH (id:Nat) {cs cs':List AV} (hid:h.at id=some (.cells cs))(hw:WeakL cs cs')(r:Run P rd nb k T (h.set id (some (.cells cs'))) D Q):Run P rd nb k T h D Q:=by
 intro E w a s;obtain⟨b,vals,hg,hrow,hreps⟩:=s.rel.objs id cs hid;obtain⟨g1,g2⟩:=s.rel.writeO hid rfl (o':= .cells cs') rfl hg (fun _=>⟨vals,hrow,hw E w vals hreps⟩) (fun _ _=>rfl) rfl rfl rfl;exact K_mono (P:=P) (rd:=rd) (Post.of_fr (Q:=Q) g2) k _ _ _ (r E w a (s.move g2 g1 (by simpa using s.fresh)))
theorem Run.regPre {id:Nat} (n:Nat) {l:List Oper} (r:∀K:List Oper->List AV->Heap->Prop,(∀l' T h,Run P rd nb (.ops l.toArray (l'++l.drop n)::k) T h D Q->K l' T h)->bY P l.toArray K (l.take n) T h):Run P rd nb (.code (.region id l.toArray false)::k) T h D Q:=
 Run.region (Run.opsPre n r)
end
theorem aLd {sz:Nat} :∀ {es:List (List PV)} {k:Nat} (rest:List AV),(∀e∈es,e.length=sz)->(hk:k<es.length)->((es.flatten.map AV.p++rest).drop (k*sz)).take sz=(es[k]).map .p
 |[],k,rest,h,hk=>by simp at hk
 |e::es,0,rest,h,hk=>by
  have he:=h e aA;simp only[Nat.zero_mul,List.drop_zero,List.getElem_cons_zero,bNa,bMy,bMj];rw[bMx (by simp[he])];exact bM7 (by simp[he])
 |e::es,k+1,rest,h,hk=>by
  have he:=h e aA;have ih:=aLd (es:=es) (k:=k) rest (fun x hx=>h x (bNr _ hx)) (by simpa using hk);simp only[List.getElem_cons_succ,bNa,bMy,bMj];rw[show(k+1)*sz=(e.map AV.p).length+k*sz by rw[bMp,he,bOm];omega,<-List.drop_drop,List.drop_left];exact ih
theorem aUe {sz:Nat} {es:List (List PV)} {m k:Nat} (h:∀e∈es,e.length=sz)(hk:k<es.length):((buf sz es m).drop (k*sz)).take sz=(es[k]).map .p:=aLd _ h hk
theorem patch_app {α:Type} :∀(us l r:List α)(off:Nat),off+us.length<=l.length->patch (l++r) off us=patch l off us++r
 |[],l,r,off,_=>rfl
 |u::us,l,r,off,h=>by
  simp only[bM2] at h;simp only[patch];rw[bMq _ _ aB];exact patch_app us (l.set off u) r (off+1) (by rw[bNu];omega)
theorem buf_set {sz:Nat} {es:List (List PV)} {m k:Nat} {e:List PV} (h:∀e∈es,e.length=sz)(hk:k<es.length)(he:e.length=sz):patch (buf sz es m) (k*sz) (e.map .p)=buf sz (es.set k e) m:=by
 have hle:(k+1)*sz<=es.length*sz:=bNk _ aB;rw[bOm] at hle;unfold buf;rw[patch_app _ _ _ _ (by rw[bMp,bMp,flat_length h,he];omega),<-jO,lW sz es k e h he hk]
end Go.AI
namespace Go.AI.PC
open Go Go.AI
def eF (pc:List Nat)(i:Nat)(o:Oper):Bool:=isE o.op&& !pc.contains i
def pv (P:Program)(T:List AV)(o:Oper)(x:AV)(g:Heap):Prop:=
 aop P (aev T) g o.op=some (x,g)\/∃c f args,o.op= .call c/\acallee T c=some (f,args)/\aK P f=true/\ACalls P f args g (fun o' g'=>o'= .ret x/\g'=g)
def stab (P:Program)(T:List AV)(x:AV)(o:Oper):List Heap->Prop
 |[]=>True
 |g::gs=>pv P T o x g/\stab P T x o gs
section
variable (pc:List Nat) (P:Program) (ops:Array Oper) (lo:List Nat) (Kont:List AV->Heap->Prop)
def drStep (i:Nat)(next:List Heap->List AV->Heap->Prop)(hist:List Heap)(T:List AV)(h:Heap):Prop:=
 ∃o,ops[i]?=some o/\
  ((awanted ops T o=some false/\next (if eF pc i o then hist++[h] else hist) (tput T o.dst (.tup [])) h)\/
   (awanted ops T o=some true/\eF pc i o=false/\∃x,pv P T o x h/\stab P T x o (hist.drop (lo.getD i 0))/\next hist (tput T o.dst x) h)\/
   (awanted ops T o=some true/\eF pc i o=true/\∃x h',aop P (aev T) h o.op=some (x,h')/\next (hist++[h]) (tput T o.dst x) h')\/
   (awanted ops T o=some true/\eF pc i o=true/\∃c f args h',o.op= .call c/\acallee T c=some (f,args)/\aK P f=true/\
     ∃v,ACalls P f args h (fun o' g=>o'= .ret v/\g=h')/\next (hist++[h]) (tput T o.dst v) h'))
def DR:List Nat->List Heap->List AV->Heap->Prop
 |[],_,T,h=>Kont T h
 |i::π,hist,T,h=>drStep pc P ops lo i (DR π) hist T h
end
section
variable {pc:List Nat} {P:Program} {ops:Array Oper} {lo:List Nat} {Kont:List AV->Heap->Prop}
end
theorem getD_set {l:Array Bool} {i j:Nat} (hi:i<l.size):(l.setIfInBounds i true).getD j true=if j=i then true else l.getD j true:=by
 exact y38
theorem getD_setF {l:Array Bool} {i j:Nat} (hi:i<l.size):(l.setIfInBounds i true).getD j false=if j=i then true else l.getD j false:=by
 exact y38
section
variable {pc:List Nat} {P:Program} {ops:Array Oper} {lo rk:List Nat} {pr:Nat->Nat->Bool} {fin:Option Nat} {listed:Array Bool} {π:List Nat} {n:Nat}
variable {D:List AD} {Q:AX->List AV->Heap->List AD->Prop}
end
section
variable {pc:List Nat} {P:Program} {rd:Option Nat} {nb:Nat} {ops:Array Oper} {D:List AD} {Q:AX->List AV->Heap->List AD->Prop} {k:List It} {T:List AV} {h:Heap}
def drOps (pc:List Nat)(P:Program)(ops:Array Oper)(lo:List Nat)(K:List Nat->List Heap->List AV->Heap->Prop):List Nat->List Heap->List AV->Heap->Prop
 |[],hist,T,h=>K [] hist T h
 |i::π,hist,T,h=>
  match ops[i]? with
  |none=>False
  |some o=>match awanted ops T o with
   |some false=>drOps pc P ops lo K π (if eF pc i o then hist++[h] else hist) (tput T o.dst (.tup [])) h
   |some true=>match aop P (aev T) h o.op with
    |some (x,h')=>if isE o.op then pc.contains i=false/\drOps pc P ops lo K π (hist++[h]) (tput T o.dst x) h' else stab P T x o (hist.drop (lo.getD i 0))/\drOps pc P ops lo K π hist (tput T o.dst x) h
    |none=>K (i::π) hist T h
   |none=>K (i::π) hist T h
theorem drOps_sound {lo:List Nat} {Kont:List AV->Heap->Prop} :∀(π:List Nat)(hist:List Heap)(T:List AV)(h:Heap),drOps pc P ops lo (DR pc P ops lo Kont) π hist T h->DR pc P ops lo Kont π hist T h
 |[],_,_,_,d=>d
 |i::π,hist,T,h,d=>by
  simp only[drOps] at d;split at d
  ·exact d.elim
  ·rename_i o ho;split at d
   ·rename_i hw;exact⟨o,ho, .inl ⟨hw,drOps_sound π _ _ _ d⟩⟩
   ·rename_i hw;split at d
    ·rename_i x h' hop;split at d
     ·rename_i hE;exact⟨o,ho, .inr (.inr (.inl ⟨hw,by unfold eF;rw[hE,d.1];rfl,x,h',hop,drOps_sound π _ _ _ d.2⟩))⟩
     ·rename_i hE;have hE':isE o.op=false:=by simpa using hE
      have:=gL hE' hop;subst this;exact⟨o,ho, .inr (.inl ⟨hw,by unfold eF;rw[hE'];rfl,x, .inl hop,d.1,drOps_sound π _ _ _ d.2⟩)⟩
    ·exact d
   ·exact d
theorem DR.go {lo:List Nat} {Kont:List AV->Heap->Prop} {π:List Nat} {hist:List Heap} (r:∀K:List Nat->List Heap->List AV->Heap->Prop,(∀π hist T h,DR pc P ops lo Kont π hist T h->K π hist T h)->drOps pc P ops lo K π hist T h):DR pc P ops lo Kont π hist T h:=
 drOps_sound π hist T h (r _ fun _ _ _ _ h=>h)
theorem DR.call {lo:List Nat} {Kont:List AV->Heap->Prop} {π:List Nat} {hist:List Heap} {i:Nat} {o:Oper} {c:Call} {f:FuncId} {args:List AV} {v:AV} {h':Heap} (hi:ops[i]?=some o)(ho:o.op= .call c)(hw:awanted ops T o=some true)
  (hc:acallee T c=some (f,args)) (he:aK P f=true) (hpc:pc.contains i=false) (hR:ACalls P f args h (fun o' g=>o'= .ret v/\g=h')) (d:DR pc P ops lo Kont π (hist++[h]) (tput T o.dst v) h'):DR pc P ops lo Kont (i::π) hist T h:=by
 refine⟨o,hi, .inr (.inr (.inr ⟨hw,?_,c,f,args,h',ho,hc,he,v,hR,d⟩))⟩;unfold eF;rw[ho,hpc];obtain⟨callee,a,t⟩:=c
 cases callee with
 |value x=>rfl
 |invoke r m=>simp[acallee] at hc
 |builtin b=>simp[acallee] at hc
end
attribute [simp] eF
end Go.AI.PC
