import Derived.Test.YtcfcolkbeelegaaGreatJA0
import Derived.Test.YtcfcolkbeelegaaGreatJFD
import Derived.Test.YtcfcolkbeelegaaGreatJTy
set_option maxRecDepth 8000
namespace Go.Proofs.YtcfcolkbeelegaaGreat
open Go Go.AI
abbrev AC (n:FuncId)(l:List AV)(h:Heap)(v:AV):Prop:=ACalls Tryz.prog n l h fun o h'=>o= .ret v/\h'=h
structure Lv where
 c:Int
 vars:List (Int×Int)
 deriving DecidableEq
inductive Tm where
 |mk (kind index:Int) (name:List UInt8) (levels:List Lv) (kids:List Tm)
abbrev iP (n:Int):PV:= .prim (.int .i64 n)
abbrev sP (s:List UInt8):PV:= .prim (.string ⟨s.toArray⟩)
abbrev iA (n:Int):AV:= .p (.prim (.int .i64 n))
abbrev bA (b:Bool):AV:= .p (.prim (.bool b))
def bN (l:List (Int×Int)):List (List PV):=l.map fun v=>[iP v.1,iP v.2]
def Lv.cells (l:Lv):List PV:=[iP l.c, .sl 2 (bN l.vars)]
def aW (l:List Lv):List (List PV):=l.map Lv.cells
mutual
def Tm.cells:Tm->List PV
 | .mk k i n ls ks=>[iP k,iP i,sP n, .sl 2 (aW ls), .sl 5 (aL ks)]
def aL:List Tm->List (List PV)
 |[]=>[]
 |t::ts=>t.cells::aL ts
end
@[simp] theorem aH (k i:Int) (n:List UInt8) (ls:List Lv) (ks:List Tm):(Tm.mk k i n ls ks).cells=[iP k,iP i,sP n, .sl 2 (aW ls), .sl 5 (aL ks)] :=rfl
theorem dA (l:List Tm):aL l=l.map Tm.cells:=by
 induction l with
 |nil=>rfl
 |cons t l ih=>simp[aL,ih]
@[simp] theorem kJ (l:List Tm):(aL l).length=l.length:=by simp[dA]
@[simp] theorem aXf (l:List Tm) (i:Nat):(aL l)[i]?=(l[i]?).map Tm.cells:=by simp[dA]
@[simp] theorem aTq (l:List Lv):(aW l).length=l.length:=by simp[aW]
@[simp] theorem aX7 (l:List Lv) (i:Nat):(aW l)[i]?=(l[i]?).map Lv.cells:=by simp[aW]
@[simp] theorem aSf (l:List (Int×Int)):(bN l).length=l.length:=by simp[bN]
@[simp] theorem aWg (l:List (Int×Int)) (i:Nat):(bN l)[i]?=(l[i]?).map fun v=>[iP v.1,iP v.2] :=by simp[bN]
@[simp] theorem aVe (t:Tm):t.cells.length=5:=by cases t;simp[Tm.cells]
@[simp] theorem aUv (t:Lv):t.cells.length=2:=by simp[Lv.cells]
abbrev Tm.av (t:Tm):AV:= .agg (t.cells.map .p)
abbrev Lv.av (t:Lv):AV:= .agg (t.cells.map .p)
@[simp] theorem aV2 (t:Tm):(t.cells.map AV.p).take 5=t.cells.map .p:=aZ6 aA
@[simp] theorem aFf (t:Lv):(t.cells.map AV.p).take 2=t.cells.map .p:=aZ6 aA
@[simp] theorem patch5 (a b c d e:AV) (t:Tm):patch [a,b,c,d,e] 0 (t.cells.map AV.p)=t.cells.map AV.p:=by cases t;rfl
@[simp] theorem aWb (l:List PV):aD4 (l.map AV.p)=some l:=by
 induction l with
 |nil=>rfl
 |cons x l ih=>simp[aD4,aDn,ih]
@[simp] theorem underL_p (n:Nat) (l:List PV):AV.underL n (l.map AV.p)=true:=by
 induction l with
 |nil=>simp[AV.underL]
 |cons x l ih=>simp[AV.underL,AV.under,ih]
namespace Tm
def kind:Tm->Int|mk k _ _ _ _=>k
def index:Tm->Int|mk _ i _ _ _=>i
def name:Tm->List UInt8|mk _ _ n _ _=>n
def levels:Tm->List Lv|mk _ _ _ l _=>l
def kids:Tm->List Tm|mk _ _ _ _ ks=>ks
mutual
def size:Tm->Nat
 |mk _ _ _ _ ks=>1+sizes ks
def sizes:List Tm->Nat
 |[]=>0
 |t::ts=>t.size+sizes ts
end
end Tm
open Go Go.AI
theorem fY (l:List Tm)(i:Nat)(t:Tm)(h:l[i]?=some t):Tm.sizes (l.take (i+1))=Tm.sizes (l.take i)+t.size:=by
 induction l generalizing i with
 |nil=>simp at h
 |cons x l ih=>
  cases i with
  |zero=>simp at h;subst h;simp[Tm.sizes]
  |succ i=>simp at h;simp only[aZu,Tm.sizes,ih i h];omega
theorem Tm.size_pos (t:Tm):1<=t.size:=by cases t;simp[Tm.size]
theorem aR (l:List Tm):l.length<=Tm.sizes l:=by
 induction l with
 |nil=>simp
 |cons x l ih=>have:=x.size_pos;simp only[Tm.sizes,aZ1];omega
theorem cQ (l:List Tm)(i:Nat):Tm.sizes (l.take i)<=Tm.sizes l:=by
 induction l generalizing i with
 |nil=>simp
 |cons x l ih=>cases i with
  |zero=>simp[Tm.sizes]
  |succ i=>simp only[aZu,Tm.sizes];have:=ih i;omega
theorem pB (N:Nat):∀(t:Tm)(h:Heap),t.size<=N->t.size<=1099511627776->WF h->AC 38 [t.av] h (iA t.size):=by
 induction N with
 |zero=>intro t h hN;cases t;simp[Tm.size] at hN
 |succ N ih=>
 intro t h hN hsz hh;refine ACalls.of_run Tryz.func38 rfl ?_;obtain⟨k,i,n,ls,ks⟩:=t;simp only[Tm.size] at hN hsz⊢;simp only[Tryz.ntmps38,aZ1,aZ2,Tm.av,Tm.cells,List.map];refine Run.seq (Run.reg fun K J=>?_);simp;refine J _ _ _ (Run.opsNil ?_);clear J;refine Run.seq (Run.reg fun K J=>?_);simp;refine J _ _ _ (Run.opsNil ?_);clear J;refine Run.seq (Run.seq (Run.reg fun K J=>?_));simp;refine J _ _ _ (Run.opsNil ?_);clear J;refine Run.block ?_;refine Run.loopS [1] (fun j:Nat=>j<=ks.length) (fun j=>ks.length-j) (fun j=>[(3,iA (1+Tm.sizes (ks.take j):Nat)),(4,iA j)]) (fun _=>_) 0 aA ?_ rfl ?_
 ·simp[Tm.sizes];exact y93
 ·intro j hj IH;simp;refine Run.seq (Run.seq (Run.reg fun K J=>?_));simp;refine J _ _ _ (Run.opsNil ?_);clear J
  by_cases hlt:j<ks.length
  ·refine ct (by simp[hlt]) ?_;refine Run.skip (Run.seq (Run.block (Run.reg fun K J=>?_)));have hg:ks[j]?=some ks[j]:=aYu hlt;have hs:=fY ks j _ hg;have hs2:=cQ ks (j+1);have hs3:=aR ks;simp[hg];refine J _ _ _ ?_;clear J;refine Run.call (args:=[ks[j].av]) rfl rfl aA rfl (ih ks[j] _ aB aB (hh.app aA)) ?_ ?_
   ·rintro v h' ⟨hv,rfl⟩;simp only[AOut.ret.injEq] at hv;subst hv;refine Run.ops fun K J=>?_
    simp;simp (disch:=omega) only[aQ];refine J _ _ _ (Run.opsNil (Run.inBlock ?_));clear J;refine Run.reg fun K J=>?_
    simp;simp (disch:=omega) only[aQ];refine J _ _ _ (Run.opsNil ?_);clear J;refine IH (j+1) _ _ aB aB ?_ rfl;simp[hs];exact y80
   ·rintro v h' ⟨hv,_⟩;cases hv
  ·have hje:j=ks.length:=aB;subst hje;refine cf aA ?_;refine Run.exit rfl ?_;refine Run.seq (Run.reg fun K J=>?_);simp;refine J _ _ _ (Run.opsNil ?_);clear J;refine Run.ret ?_;exact Fin.ret hh rfl rfl rfl (Weak.refl _) rfl ⟨by simp,rfl⟩
open Go Go.AI
abbrev wk (err nodes:Int):Option AO:=some (.cells [iA err,iA nodes])
def cO (err e:Int):Int:=if err=0 then e else err
theorem yK (h:Heap)(hh:WF h)(id:Nat)(err nodes e:Int)(hid:h[id]?=some (wk err nodes)):
  ACalls Tryz.prog 116 [.ptr id 0,iA e] h fun o h'=>o= .ret (.tup [])/\h'=h.set id (wk (cO err e) nodes):=by
 refine zE Tryz.func116 Tryz.ntmps116 ?_;refine Run.seq (Run.reg fun K J=>?_);simp[hid];refine J _ _ _ (Run.opsNil ?_);clear J
 by_cases he:err=0
 ·refine ct (by simp[he]) ?_;refine Run.reg fun K J=>?_
  simp[hid];refine J _ _ _ (Run.opsNil ?_);clear J;refine Run.nil ?_;exact Fin.ret' aA aA (hh.set aA) (aZ0 _).symm rfl rfl (Weak.refl _) rfl ⟨rfl,by simp[cO,he]⟩
 ·refine cf (by simp[he]) ?_;refine Run.skip (Run.nil ?_);refine zF3 hh ?_;exact⟨rfl,by simp[cO,he,dO hid]⟩
def vr (i:Int):Tm:= .mk 0 i [] [] []
theorem rG (h:Heap)(hh:WF h)(id:Nat)(err nodes i:Int)(hid:h[id]?=some (wk err nodes)):
  ACalls Tryz.prog 231 [.ptr id 0,iA i] h fun o h'=>o= .ret (vr i).av/\h'=h.set id (wk (if 65535<i then cO err 24 else err) nodes):=by
 obtain⟨g1,g2,g3,g4,g5,hlt⟩:=idf hid;refine zE Tryz.func231 Tryz.ntmps231 ?_;refine Run.seq (Run.reg fun K J=>?_);simp;refine J _ _ _ (Run.opsNil ?_);clear J;refine Run.seq (Run.seq (Run.reg fun K J=>?_));simp;refine J _ _ _ (Run.opsNil ?_);clear J
 by_cases he:65535<i
 ·refine ct (by simp[he]) ?_;refine zq ?_;refine Run.call (args:=[.ptr id 0,iA 24]) rfl rfl aA rfl (yK _ (hh.app aA) id err nodes 24 (g1 _)) ?_ ?_
  ·rintro v h' ⟨hv,rfl⟩;simp only[AOut.ret.injEq] at hv;subst hv;simp[g2];refine Run.opsNil (Run.seq (Run.reg fun K J=>?_));simp;refine J _ _ _ (Run.opsNil ?_);clear J;refine Run.ret ?_;refine Fin.ret' (h0:=h.set id (wk (cO err 24) nodes)) aA aA (hh.set aA) rfl aE rfl ?_ ?_ ⟨rfl,by simp[he]⟩
   ·simp only[vr];exact y3n
   ·simp
  ·rintro v h' ⟨hv,_⟩;cases hv
 ·refine cf (by simp[he]) ?_;refine Run.skip (Run.seq (Run.reg fun K J=>?_));simp;refine J _ _ _ (Run.opsNil ?_);clear J;refine Run.ret ?_;refine Fin.ret' (h0:=h) aA rfl hh rfl aE rfl ?_ ?_ ⟨rfl,by simp[he,dO hid]⟩
  ·simp only[vr];exact y3n
  ·simp
def aO (k i:Int):Int:=if(i=1/\(k=5\/k=6\/k=7))\/(i=2/\k=11) then 1 else 0
theorem aAo (h:Heap)(hh:WF h)(k i:Int):AC 150 [iA k,iA i] h (iA (aO k i)):=by
 refine zE Tryz.func150 Tryz.ntmps150 ?_;refine Run.seq (Run.reg fun K J=>?_);simp;refine J _ _ _ (Run.opsNil ?_);clear J;refine Run.seq (Run.seq (Run.reg fun K J=>?_))
 have hcase:((i==1)=true/\(k==5)=true)\/((i==1)=true/\(k==5)=false/\(k==6)=true)\/((i==1)=true/\(k==5)=false/\(k==6)=false/\(k==7)=true)\/
   ((i==1)=true/\(k==5)=false/\(k==6)=false/\(k==7)=false/\(i==2)=false)\/((i==1)=false/\(i==2)=true/\(k==11)=true)\/((i==1)=false/\(i==2)=true/\(k==11)=false)\/((i==1)=false/\(i==2)=false):=by
  simp;omega
 rcases hcase with ⟨e1,e2⟩|⟨e1,e2,e3⟩|⟨e1,e2,e3,e4⟩|⟨e1,e2,e3,e4,e5⟩|⟨e1,e2,e3⟩|⟨e1,e2,e3⟩|⟨e1,e2⟩
 all_goals
  simp[*,-J];simp only[beq_iff_eq,beq_eq_false_iff_ne,ne_eq] at*;refine J _ _ _ (Run.opsNil ?_);clear J;refine Run.cond rfl ?_
  first
  | (simp only[if_true]
     refine Run.seq (Run.reg fun K J=>?_);simp;refine J _ _ _ (Run.opsNil ?_);clear J;refine Run.ret ?_;refine zF3 hh ?_;exact⟨by simp[aO, *],rfl⟩)
  | (simp only[aZd,if_false]
     refine Run.skip (Run.seq (Run.reg fun K J=>?_));simp;refine J _ _ _ (Run.opsNil ?_);clear J;refine Run.ret ?_;refine zF3 hh ?_;exact⟨by simp[aO, *],rfl⟩)
open Go Go.AI
mutual
def eV (d from_ depth:Int):Tm->Tm
 | .mk k i n ls ks=>if k=0 then(if i<from_+depth\/i+d<from_+depth then .mk k i n ls ks else vr (i+d)) else .mk k i n ls (eO d from_ depth k 0 ks)
def eO (d from_ depth k:Int)(idx:Nat):List Tm->List Tm
 |[]=>[]
 |t::ts=>eV d from_ (depth+aO k idx) t::eO d from_ depth k (idx+1) ts
end
mutual
def bX (d from_ depth:Int):Tm->Bool
 | .mk k i _ _ ks=>if k=0 then !decide (i<from_+depth)&& (decide (i+d<from_+depth)||decide (65535<i+d)) else bU d from_ depth k 0 ks
def bU (d from_ depth k:Int)(idx:Nat):List Tm->Bool
 |[]=>false
 |t::ts=>bX d from_ (depth+aO k idx) t||bU d from_ depth k (idx+1) ts
end
mutual
def Tm.idx:Tm->Prop
 | .mk k i _ _ ks=>(k=0->-1099511627776<=i/\i<=1099511627776)/\Tm.idxs ks
def Tm.idxs:List Tm->Prop
 |[]=>True
 |t::ts=>t.idx/\Tm.idxs ts
end
theorem Tm.idxs_at {l:List Tm} (h:Tm.idxs l):∀t∈l,t.idx:=by
 induction l with
 |nil=>intro t ht;cases ht
 |cons x l ih=>
  simp only[Tm.idxs] at h;intro t ht
  cases aZg.1 ht with
  |inl e=>subst e;exact h.1
  |inr e=>exact ih h.2 t e
def gI (bad:Bool)(err:Int):Int:=if bad=true then cO err 24 else err
theorem tF (e:Int)(a b:Bool):gI b (gI a e)=gI (a||b) e:=by
 unfold gI cO;cases a<;>cases b<;>simp;omega
theorem aAn (k i:Int):0<=aO k i/\aO k i<=1:=by unfold aO;split<;>omega
theorem uX (d f depth k:Int):∀(l:List Tm)(idx:Nat)(t:Tm),eO d f depth k idx (l++[t])=eO d f depth k idx l++[eV d f (depth+aO k (idx+l.length:Nat)) t]
 |[],idx,t=>by simp[eO]
 |x::l,idx,t=>by simp only[aYy,eO,uX d f depth k l (idx+1) t];simp[bAz,bBm 1]
theorem mT (d f depth k:Int):∀(l:List Tm)(idx:Nat)(t:Tm),bU d f depth k idx (l++[t])=(bU d f depth k idx l||bX d f (depth+aO k (idx+l.length:Nat)) t)
 |[],idx,t=>by simp[bU]
 |x::l,idx,t=>by simp only[aYy,bU,mT d f depth k l (idx+1) t];simp[bAz,bBm 1,Bool.or_assoc]
theorem kG (d f depth k:Int):∀(l:List Tm)(idx:Nat),(eO d f depth k idx l).length=l.length
 |[],idx=>rfl
 |x::l,idx=>by simp[eO,kG d f depth k l]
theorem eX (l:List Tm)(t:Tm):aL (l++[t])=aL l++[t.cells]:=by simp[dA]
theorem xH (d f:Int)(hd1:-1099511627776<=d)(hd2:d<=1099511627776)(hf1:0<=f)(hf2:f<=65536)(nodes:Int)(N:Nat):
  ∀(t:Tm) (depth err:Int) (h:Heap) (id:Nat),t.size<=N->t.size<=1048576->t.idx->0<=depth->depth+t.size<=1099511627776->WF h->h[id]?=some (wk err nodes)->
  ACalls Tryz.prog 207 [.ptr id 0,t.av,iA d,iA f,iA depth] h fun o h'=>o= .ret (eV d f depth t).av/\h'=h.set id (wk (gI (bX d f depth t) err) nodes):=by
 induction N with
 |zero=>intro t _ _ _ _ hN;have:=t.size_pos;omega
 |succ N ih=>
 intro t depth err h id hN hB hidx hdp hdB hh hid;obtain⟨g1,g2,g3,g4,g5,hlt⟩:=idf hid;refine ACalls.of_run Tryz.func207 rfl ?_;obtain⟨k,i,n,ls,ks⟩:=t;simp only[Tm.size] at hN hB hdB;simp only[Tm.idx] at hidx;simp only[Tryz.ntmps207,aZ1,aZ2,Tm.av,aH,List.map];refine Run.seq (Run.reg fun K J=>?_);simp;refine J _ _ _ (Run.opsNil ?_);clear J;refine Run.seq (Run.seq (Run.reg fun K J=>?_));simp;refine J _ _ _ (Run.opsNil ?_);clear J
 by_cases hk0:k=0
 ·subst hk0;obtain⟨hi1,hi2⟩:=hidx.1 rfl;refine ct aA ?_;refine Run.seq (Run.seq (Run.reg fun K J=>?_));simp;simp (disch:=omega) only[aQ];refine J _ _ _ (Run.opsNil ?_);clear J
  by_cases h1:i<f+depth
  ·refine ct (by simp[h1]) ?_;refine Run.seq (Run.reg fun K J=>?_);simp;refine J _ _ _ (Run.opsNil ?_);clear J;refine Run.ret ?_;refine Fin.ret' (h0:=h) aA rfl hh rfl aE rfl (Weak.of_eq ?_) ?_ ⟨rfl,by simp[bX,h1,gI,dO hid]⟩
   ·simp[eV,h1]
   ·simp
  ·refine cf (by simp[h1]) ?_;refine Run.skip (Run.seq (Run.seq (Run.reg fun K J=>?_)));simp;simp (disch:=omega) only[aQ];refine J _ _ _ (Run.opsNil ?_);clear J
   by_cases h2:i+d<f+depth
   ·refine ct (by simp[h2]) ?_;refine Run.seq (Run.reg fun K J=>?_);simp;refine J _ _ _ ?_;clear J;refine Run.call (args:=[.ptr id 0,iA 24]) rfl rfl aA rfl (yK _ (hh.app aA) id err nodes 24 (g1 _)) ?_ ?_
    ·rintro v h' ⟨hv,rfl⟩;simp only[AOut.ret.injEq] at hv;subst hv;simp[g2];refine Run.opsNil (Run.seq (Run.reg fun K J=>?_));simp;refine J _ _ _ (Run.opsNil ?_);clear J;refine Run.ret ?_;refine Fin.ret' (h0:=h.set id (wk (cO err 24) nodes)) aA aA (hh.set aA) rfl aE rfl (Weak.of_eq ?_) ?_ ⟨rfl,by simp[bX,h1,h2,gI]⟩
     ·simp[eV,h2]
     ·simp
    ·rintro v h' ⟨hv,_⟩;cases hv
   ·refine cf (by simp[h2]) ?_;refine Run.skip (Run.seq (Run.reg fun K J=>?_));simp;simp (disch:=omega) only[aQ];refine J _ _ _ ?_;clear J;refine Run.call (args:=[.ptr id 0,iA (i+d)]) rfl rfl aA rfl (rG _ (hh.app aA) id err nodes (i+d) (g1 _)) ?_ ?_
    ·rintro v h' ⟨hv,rfl⟩;simp only[AOut.ret.injEq] at hv;subst hv;rw[g2];refine Run.ops fun K J=>?_
     simp[vr];refine J _ _ _ (Run.opsNil ?_);clear J;refine Run.ret ?_;refine Fin.ret' (h0:=h.set id (wk (if 65535<i+d then cO err 24 else err) nodes)) aA aA (hh.set aA) rfl aE rfl (Weak.of_eq ?_) ?_ ⟨rfl,by simp[bX,h1,h2,gI]⟩
     ·simp[eV,h1,h2,vr]
     ·simp
    ·rintro v h' ⟨hv,_⟩;cases hv
 ·refine cf (by simp[hk0]) ?_;refine Run.skip (Run.seq (Run.reg fun K J=>?_));simp;refine J _ _ _ (Run.opsNil ?_);clear J;refine Run.seq (Run.seq (Run.reg fun K J=>?_));simp;refine J _ _ _ (Run.opsNil ?_);clear J;refine Run.tok 11 5 aA ?_;refine Run.block ?_;simp
  refine Run.loopS [0,2,3,4,6,10] (fun j:Nat=>j<=ks.length) (fun j=>ks.length-j) (fun j=>[(11, .own (h.length+2) 5 (aL (eO d f depth k 0 (ks.take j)))),(12,iA j)])
   (fun j=>h.set id (wk (gI (bU d f depth k 0 (ks.take j)) err) nodes)++[some (.cells [iA k,iA i, .p (sP n), .p (.sl 2 (aW ls)), .p (.sl 5 (aL ks))]),some (.cells [iA 0,iA 0, .p (sP []), .p (.prim (.slice none 0 0)), .p (.prim (.slice none 0 0))]),some (.tok j 5)])
   0 aA ?_ ?_ ?_
  ·simp[eO,aL];exact y93
  ·simp[bU,gI,dO hid]
  ·intro j hj IH;simp;refine Run.seq (Run.seq (Run.reg fun K J=>?_));simp;refine J _ _ _ (Run.opsNil ?_);clear J
   by_cases hjl:j<ks.length
   ·refine ct (by simp[hjl]) ?_;refine Run.skip (Run.seq (Run.block ?_));have hg:ks[j]?=some ks[j]:=aYu hjl;have hbz:=aAn k j
    refine Run.draw [0,0,0,0,0,0,0,0,0,0,0,0,0,0,1,1,2,2,3] [0,0,0,0,0,0,0,0,0,0,0,0,0,0,0,1,0,2,0] [0,0,0,4,0,28,60,0,0,0,0,1024,0,7168,15872,32766,65534,131071,262143] [10,11,12,13,1,2,3,4,5,6,7,8,9,14,15,0,16,17,18]
     aC aC ?_
    refine y25 ?_;refine DR.go fun K J=>?_
    simp[hg];simp (disch:=omega) only[aQ];refine J _ _ _ _ ?_;clear J;have hs:=fY ks j _ hg;have hs2:=cQ ks (j+1);have hs3:=aR ks
    refine DR.call (args:=[.ptr id 0,ks[j].av,iA d,iA f,iA (depth+aO k j)]) rfl rfl rfl aA rfl
     (ih ks[j] (depth+aO k j) (gI (bU d f depth k 0 (ks.take j)) err) _ id aB aB (Tm.idxs_at hidx.2 _ (aYx hjl)) aB aB (WF.app (WF.set hh aA) aA) (g4 _ _)) ?_
    refine DR.go fun K J=>?_
    have hmin:min j ks.length=j:=bAb hj;have hb1:(j+1)*80<=140737488355328:=aB;have hb2:j+1<=9223372036854775807:=aB;simp[g5,kG,hmin,hb1,hb2];refine J _ _ _ _ ?_;clear J;refine y9 ?_;refine Run.inBlock (Run.reg fun K J=>?_);simp;simp (disch:=omega) only[aQ];refine J _ _ _ (Run.opsNil ?_);clear J;have htk:ks.take (j+1)=ks.take j++[ks[j]]:=aZ5 hjl;refine IH (j+1) _ _ aB aB ?_ ?_
    ·rw[htk,uX,eX];simp[hmin]
     repeat' first|exact wn|apply wc
     all_goals first|exact Weak.junk _|exact Weak.refl _
    ·rw[htk,mT,<-tF];simp only[aZm,hmin,aZv]
   ·have hje:j=ks.length:=aB;subst hje;refine cf aA ?_;refine Run.exit rfl ?_;refine Run.seq (Run.reg fun K J=>?_);simp;refine J _ _ _ (Run.opsNil ?_);clear J;refine Run.seq (Run.reg fun K J=>?_);simp;refine J _ _ _ (Run.opsNil ?_);clear J;refine Run.ret ?_;refine Fin.ret' (h0:=h.set id (wk (gI (bU d f depth k 0 ks) err) nodes)) aA aA (hh.set aA) rfl aE rfl ?_ ?_ ⟨rfl,by simp[bX,hk0]⟩
    ·simp only[eV,hk0,if_false];refine Weak.agg ?_
     repeat' first|exact wn|apply wc
     all_goals first|exact Weak.refl _|exact Weak.own _ _ _
    ·simp
end Go.Proofs.YtcfcolkbeelegaaGreat
