import Derived.Test.YtfajdeofhioakaaGreatJA0
import Derived.Test.YtfajdeofhioakaaGreatJFD
import Derived.Test.YtfajdeofhioakaaGreatJTy
set_option maxRecDepth 8000


namespace Go.Proofs.YtfajdeofhioakaaGreat

open Go Go.AI
abbrev AC (n : FuncId) (l : List AV) (h : Heap) (v : AV) : Prop := ACalls Tryz.prog n l h fun o h' => o = .ret v /\ h' = h

structure Lv where
 c : Int
 vars : List (Int × Int)
 deriving DecidableEq

inductive Tm where
 | mk (kind index : Int) (name : List UInt8) (levels : List Lv) (kids : List Tm)
abbrev iP (n : Int) : PV := .prim (.int .i64 n)
abbrev sP (s : List UInt8) : PV := .prim (.string ⟨s.toArray⟩)
abbrev iA (n : Int) : AV := .p (.prim (.int .i64 n))
abbrev bA (b : Bool) : AV := .p (.prim (.bool b))
def vY (l : List (Int × Int)) : List (List PV) := l.map fun v => [iP v.1, iP v.2]
def Lv.cells (l : Lv) : List PV := [iP l.c, .sl 2 (vY l.vars)]
def bR (l : List Lv) : List (List PV) := l.map Lv.cells

mutual
def Tm.cells : Tm -> List PV
 | .mk k i n ls ks => [iP k, iP i, sP n, .sl 2 (bR ls), .sl 5 (aP ks)]
def aP : List Tm -> List (List PV)
 | [] => []
 | t :: ts => t.cells :: aP ts
end
@[simp] theorem cells_mk (k i : Int) (n : List UInt8) (ls : List Lv) (ks : List Tm) : (Tm.mk k i n ls ks).cells = [iP k, iP i, sP n, .sl 2 (bR ls), .sl 5 (aP ks)] := rfl
theorem fR (l : List Tm) : aP l = l.map Tm.cells := by
 induction l with
 | nil => rfl
 | cons t l ih => simp [aP, ih]
@[simp] theorem aBj (l : List Tm) : (aP l).length = l.length := by simp [fR]
@[simp] theorem tmPs_get (l : List Tm) (i : Nat) : (aP l)[i]? = (l[i]?).map Tm.cells := by simp [fR]
@[simp] theorem aP5 (l : List Lv) : (bR l).length = l.length := by simp [bR]
@[simp] theorem aX5 (l : List Lv) (i : Nat) : (bR l)[i]? = (l[i]?).map Lv.cells := by simp [bR]
@[simp] theorem aMk (l : List (Int × Int)) : (vY l).length = l.length := by simp [vY]
@[simp] theorem aWi (l : List (Int × Int)) (i : Nat) : (vY l)[i]? = (l[i]?).map fun v => [iP v.1, iP v.2] := by simp [vY]
@[simp] theorem aSs (t : Tm) : t.cells.length = 5 := by cases t; simp [Tm.cells]
@[simp] theorem aRs (t : Lv) : t.cells.length = 2 := by simp [Lv.cells]
abbrev Tm.av (t : Tm) : AV := .agg (t.cells.map .p)
abbrev Lv.av (t : Lv) : AV := .agg (t.cells.map .p)
@[simp] theorem aSi (t : Tm) : (t.cells.map AV.p).take 5 = t.cells.map .p := bBr aA
@[simp] theorem aBi (t : Lv) : (t.cells.map AV.p).take 2 = t.cells.map .p := bBr aA
@[simp] theorem patch5 (a b c d e : AV) (t : Tm) : patch [a, b, c, d, e] 0 (t.cells.map AV.p) = t.cells.map AV.p := by cases t; rfl
@[simp] theorem aWh (l : List PV) : mV (l.map AV.p) = some l := by
 induction l with
 | nil => rfl
 | cons x l ih => simp [mV, qQ, ih]
@[simp] theorem underL_p (n : Nat) (l : List PV) : AV.underL n (l.map AV.p) = true := by
 induction l with
 | nil => simp [AV.underL]
 | cons x l ih => simp [AV.underL, AV.under, ih]

namespace Tm
def kind : Tm -> Int | mk k _ _ _ _ => k
def index : Tm -> Int | mk _ i _ _ _ => i
def name : Tm -> List UInt8 | mk _ _ n _ _ => n
def levels : Tm -> List Lv | mk _ _ _ l _ => l
def kids : Tm -> List Tm | mk _ _ _ _ ks => ks

mutual
def size : Tm -> Nat
 | mk _ _ _ _ ks => 1 + sizes ks
def sizes : List Tm -> Nat
 | [] => 0
 | t :: ts => t.size + sizes ts
end

end Tm


open Go Go.AI
theorem dR (l : List Tm) (i : Nat) (t : Tm) (h : l[i]? = some t) : Tm.sizes (l.take (i + 1)) = Tm.sizes (l.take i) + t.size := by
 induction l generalizing i with
 | nil => simp at h
 | cons x l ih =>
  cases i with
  | zero => simp at h; subst h; simp [Tm.sizes]
  | succ i => simp at h; simp only [bCf, Tm.sizes, ih i h]; omega
theorem Tm.size_pos (t : Tm) : 1 <= t.size := by cases t; simp [Tm.size]
theorem aR (l : List Tm) : l.length <= Tm.sizes l := by
 induction l with
 | nil => simp
 | cons x l ih => have := x.size_pos; simp only [Tm.sizes, bBm]; omega
theorem bQ (l : List Tm) (i : Nat) : Tm.sizes (l.take i) <= Tm.sizes l := by
 induction l generalizing i with
 | nil => simp
 | cons x l ih => cases i with
  | zero => simp [Tm.sizes]
  | succ i => simp only [bCf, Tm.sizes]; have := ih i; omega
theorem oK (N : Nat) : ∀ (t : Tm) (h : Heap), t.size <= N -> t.size <= 1099511627776 -> WF h -> AC 35 [t.av] h (iA t.size) := by
 induction N with
 | zero => intro t h hN; cases t; simp [Tm.size] at hN
 | succ N ih =>
 intro t h hN hsz hh;refine ACalls.of_run Tryz.func35 rfl ?_;obtain ⟨k, i, n, ls, ks⟩ := t;simp only [Tm.size] at hN hsz ⊢;simp only [Tryz.ntmps35, bBm, bBn, Tm.av, Tm.cells, List.map];refine Run.seq (Run.reg fun K J => ?_);simp;refine J _ _ _ (Run.opsNil ?_); clear J;refine Run.seq (Run.reg fun K J => ?_);simp;refine J _ _ _ (Run.opsNil ?_); clear J;refine Run.seq (Run.seq (Run.reg fun K J => ?_));simp;refine J _ _ _ (Run.opsNil ?_); clear J;refine Run.block ?_;refine Run.loopS [1] (fun j : Nat => j <= ks.length) (fun j => ks.length - j) (fun j => [(3, iA (1 + Tm.sizes (ks.take j) : Nat)), (4, iA j)]) (fun _ => _) 0 aA ?_ rfl ?_
 ·simp [Tm.sizes];exact y6f
 ·intro j hj IH;simp;refine Run.seq (Run.seq (Run.reg fun K J => ?_));simp;refine J _ _ _ (Run.opsNil ?_); clear J
  by_cases hlt : j < ks.length
  ·refine ct (by simp [hlt]) ?_;refine Run.skip (Run.seq (Run.block (Run.reg fun K J => ?_)));have hg : ks[j]? = some ks[j] := bBf hlt;have hs := dR ks j _ hg;have hs2 := bQ ks (j + 1);have hs3 := aR ks;simp [hg];refine J _ _ _ ?_; clear J;refine Run.call (args := [ks[j].av]) rfl rfl aA rfl (ih ks[j] _ aB aB (hh.app aA)) ?_ ?_
   ·rintro v h' ⟨hv, rfl⟩;simp only [AOut.ret.injEq] at hv;subst hv;refine Run.ops fun K J => ?_
    simp;simp (disch := omega) only [wrap_id];refine J _ _ _ (Run.opsNil (Run.inBlock ?_)); clear J;refine Run.reg fun K J => ?_
    simp;simp (disch := omega) only [wrap_id];refine J _ _ _ (Run.opsNil ?_); clear J;refine IH (j + 1) _ _ aB aB ?_ rfl;simp [hs]
    repeat' first | exact wn | apply wc
    all_goals first | exact Weak.junk _ | exact Weak.refl _ | exact Weak.int aB
   ·rintro v h' ⟨hv, _⟩; cases hv
  ·have hje : j = ks.length := aB;subst hje;refine cf aA ?_;refine Run.exit rfl ?_;refine Run.seq (Run.reg fun K J => ?_);simp;refine J _ _ _ (Run.opsNil ?_); clear J;refine Run.ret ?_;exact Fin.ret hh rfl rfl rfl (Weak.refl _) rfl ⟨by simp, rfl⟩


open Go Go.AI
abbrev wk (err nodes : Int) : Option AO := some (.cells [iA err, iA nodes])
def firstErr (err e : Int) : Int := if err = 0 then e else err
theorem fail_any (h : Heap) (hh : WF h) (id : Nat) (err nodes e : Int) (hid : h[id]? = some (wk err nodes)) :
  ACalls Tryz.prog 143 [.ptr id 0, iA e] h fun o h' => o = .ret (.tup []) /\ h' = h.set id (wk (firstErr err e) nodes) := by
 refine zE Tryz.func143 Tryz.ntmps143 ?_;refine Run.seq (Run.reg fun K J => ?_);simp [hid];refine J _ _ _ (Run.opsNil ?_); clear J
 by_cases he : err = 0
 ·refine ct (by simp [he]) ?_;refine Run.reg fun K J => ?_
  simp [hid];refine J _ _ _ (Run.opsNil ?_); clear J;refine Run.nil ?_;exact Fin.ret' aA aA (hh.set aA) (bBl _).symm rfl rfl (Weak.refl _) rfl ⟨rfl, by simp [firstErr, he]⟩
 ·refine cf (by simp [he]) ?_;refine Run.skip (Run.nil ?_);refine zF3 hh ?_;exact ⟨rfl, by simp [firstErr, he, fM hid]⟩
def vr (i : Int) : Tm := .mk 0 i [] [] []
theorem iY (h : Heap) (hh : WF h) (id : Nat) (err nodes i : Int) (hid : h[id]? = some (wk err nodes)) :
  ACalls Tryz.prog 144 [.ptr id 0, iA i] h fun o h' => o = .ret (vr i).av /\ h' = h.set id (wk (if 65535 < i then firstErr err 24 else err) nodes) := by
 obtain ⟨g1, g2, g3, g4, g5, hlt⟩ := idf hid;refine zE Tryz.func144 Tryz.ntmps144 ?_;refine Run.seq (Run.reg fun K J => ?_);simp;refine J _ _ _ (Run.opsNil ?_); clear J;refine Run.seq (Run.seq (Run.reg fun K J => ?_));simp;refine J _ _ _ (Run.opsNil ?_); clear J
 by_cases he : 65535 < i
 ·refine ct (by simp [he]) ?_;refine zq ?_;refine Run.call (args := [.ptr id 0, iA 24]) rfl rfl aA rfl (fail_any _ (hh.app aA) id err nodes 24 (g1 _)) ?_ ?_
  ·rintro v h' ⟨hv, rfl⟩;simp only [AOut.ret.injEq] at hv;subst hv;simp [g2];refine Run.opsNil (Run.seq (Run.reg fun K J => ?_));simp;refine J _ _ _ (Run.opsNil ?_); clear J;refine Run.ret ?_;refine Fin.ret' (h0 := h.set id (wk (firstErr err 24) nodes)) aA aA (hh.set aA) rfl aE rfl ?_ ?_ ⟨rfl, by simp [he]⟩
   ·exact y3b
   ·simp
  ·rintro v h' ⟨hv, _⟩; cases hv
 ·refine cf (by simp [he]) ?_;refine Run.skip (Run.seq (Run.reg fun K J => ?_));simp;refine J _ _ _ (Run.opsNil ?_); clear J;refine Run.ret ?_;refine Fin.ret' (h0 := h) aA rfl hh rfl aE rfl ?_ ?_ ⟨rfl, by simp [he, fM hid]⟩
  ·exact y3b
  ·simp
def aJ (k i : Int) : Int := if (i = 1 /\ (k = 5 \/ k = 6 \/ k = 7)) \/ (i = 2 /\ k = 11) then 1 else 0
theorem below_any (h : Heap) (hh : WF h) (k i : Int) : AC 141 [iA k, iA i] h (iA (aJ k i)) := by
 refine zE Tryz.func141 Tryz.ntmps141 ?_;refine Run.seq (Run.reg fun K J => ?_);simp;refine J _ _ _ (Run.opsNil ?_); clear J;refine Run.seq (Run.seq (Run.reg fun K J => ?_))
 have hcase : ((i == 1) = true /\ (k == 5) = true) \/ ((i == 1) = true /\ (k == 5) = false /\ (k == 6) = true) \/ ((i == 1) = true /\ (k == 5) = false /\ (k == 6) = false /\ (k == 7) = true) \/
   ((i == 1) = true /\ (k == 5) = false /\ (k == 6) = false /\ (k == 7) = false /\ (i == 2) = false) \/ ((i == 1) = false /\ (i == 2) = true /\ (k == 11) = true) \/ ((i == 1) = false /\ (i == 2) = true /\ (k == 11) = false) \/ ((i == 1) = false /\ (i == 2) = false) := by
  simp; omega
 rcases hcase with ⟨e1, e2⟩ | ⟨e1, e2, e3⟩ | ⟨e1, e2, e3, e4⟩ | ⟨e1, e2, e3, e4, e5⟩ | ⟨e1, e2, e3⟩ | ⟨e1, e2, e3⟩ | ⟨e1, e2⟩
 all_goals
  simp [*, -J];simp only [beq_iff_eq, beq_eq_false_iff_ne, ne_eq] at *;refine J _ _ _ (Run.opsNil ?_); clear J;refine Run.cond rfl ?_
  first
  | (simp only [if_true]
     refine Run.seq (Run.reg fun K J => ?_);simp;refine J _ _ _ (Run.opsNil ?_); clear J;refine Run.ret ?_;refine zF3 hh ?_;exact ⟨by simp [aJ, *], rfl⟩)
  | (simp only [bBy, if_false]
     refine Run.skip (Run.seq (Run.reg fun K J => ?_));simp;refine J _ _ _ (Run.opsNil ?_); clear J;refine Run.ret ?_;refine zF3 hh ?_;exact ⟨by simp [aJ, *], rfl⟩)


open Go Go.AI

mutual
def dH (d from_ depth : Int) : Tm -> Tm
 | .mk k i n ls ks => if k = 0 then (if i < from_ + depth \/ i + d < from_ + depth then .mk k i n ls ks else vr (i + d)) else .mk k i n ls (dA d from_ depth k 0 ks)
def dA (d from_ depth k : Int) (idx : Nat) : List Tm -> List Tm
 | [] => []
 | t :: ts => dH d from_ (depth + aJ k idx) t :: dA d from_ depth k (idx + 1) ts
end

mutual
def bG (d from_ depth : Int) : Tm -> Bool
 | .mk k i _ _ ks => if k = 0 then !decide (i < from_ + depth) && (decide (i + d < from_ + depth) || decide (65535 < i + d)) else aZ d from_ depth k 0 ks
def aZ (d from_ depth k : Int) (idx : Nat) : List Tm -> Bool
 | [] => false
 | t :: ts => bG d from_ (depth + aJ k idx) t || aZ d from_ depth k (idx + 1) ts
end

mutual
def Tm.idx : Tm -> Prop
 | .mk k i _ _ ks => (k = 0 -> -1099511627776 <= i /\ i <= 1099511627776) /\ Tm.idxs ks
def Tm.idxs : List Tm -> Prop
 | [] => True
 | t :: ts => t.idx /\ Tm.idxs ts
end
theorem Tm.idxs_at {l : List Tm} (h : Tm.idxs l) : ∀ t ∈ l, t.idx := by
 induction l with
 | nil => intro t ht; cases ht
 | cons x l ih =>
  simp only [Tm.idxs] at h;intro t ht
  cases bC1.1 ht with
  | inl e => subst e; exact h.1
  | inr e => exact ih h.2 t e
def errIf (bad : Bool) (err : Int) : Int := if bad = true then firstErr err 24 else err
theorem kC (e : Int) (a b : Bool) : errIf b (errIf a e) = errIf (a || b) e := by
 unfold errIf firstErr; cases a <;> cases b <;> simp; omega
theorem oV (k i : Int) : 0 <= aJ k i /\ aJ k i <= 1 := by unfold aJ; split <;> omega
theorem qE (d f depth k : Int) : ∀ (l : List Tm) (idx : Nat) (t : Tm), dA d f depth k idx (l ++ [t]) = dA d f depth k idx l ++ [dH d f (depth + aJ k (idx + l.length : Nat)) t]
 | [], idx, t => by simp [dA]
 | x :: l, idx, t => by simp only [bBj, dA, qE d f depth k l (idx + 1) t]; simp [bDk, bE7 1]
theorem jW (d f depth k : Int) : ∀ (l : List Tm) (idx : Nat) (t : Tm), aZ d f depth k idx (l ++ [t]) = (aZ d f depth k idx l || bG d f (depth + aJ k (idx + l.length : Nat)) t)
 | [], idx, t => by simp [aZ]
 | x :: l, idx, t => by simp only [bBj, aZ, jW d f depth k l (idx + 1) t]; simp [bDk, bE7 1, Bool.or_assoc]
theorem gS (d f depth k : Int) : ∀ (l : List Tm) (idx : Nat), (dA d f depth k idx l).length = l.length
 | [], idx => rfl
 | x :: l, idx => by simp [dA, gS d f depth k l]
theorem qP (l : List Tm) (t : Tm) : aP (l ++ [t]) = aP l ++ [t.cells] := by simp [fR]
theorem aF7 (d f : Int) (hd1 : -1099511627776 <= d) (hd2 : d <= 1099511627776) (hf1 : 0 <= f) (hf2 : f <= 65536) (nodes : Int) (N : Nat) :
  ∀ (t : Tm) (depth err : Int) (h : Heap) (id : Nat), t.size <= N -> t.size <= 1048576 -> t.idx -> 0 <= depth -> depth + t.size <= 1099511627776 -> WF h -> h[id]? = some (wk err nodes) ->
  ACalls Tryz.prog 96 [.ptr id 0, t.av, iA d, iA f, iA depth] h fun o h' => o = .ret (dH d f depth t).av /\ h' = h.set id (wk (errIf (bG d f depth t) err) nodes) := by
 induction N with
 | zero => intro t _ _ _ _ hN; have := t.size_pos; omega
 | succ N ih =>
 intro t depth err h id hN hB hidx hdp hdB hh hid;obtain ⟨g1, g2, g3, g4, g5, hlt⟩ := idf hid;refine ACalls.of_run Tryz.func96 rfl ?_;obtain ⟨k, i, n, ls, ks⟩ := t;simp only [Tm.size] at hN hB hdB;simp only [Tm.idx] at hidx;simp only [Tryz.ntmps96, bBm, bBn, Tm.av, cells_mk, List.map];refine Run.seq (Run.reg fun K J => ?_);simp;refine J _ _ _ (Run.opsNil ?_); clear J;refine Run.seq (Run.seq (Run.reg fun K J => ?_));simp;refine J _ _ _ (Run.opsNil ?_); clear J
 by_cases hk0 : k = 0
 ·subst hk0;obtain ⟨hi1, hi2⟩ := hidx.1 rfl;refine ct aA ?_;refine Run.seq (Run.seq (Run.reg fun K J => ?_));simp;simp (disch := omega) only [wrap_id];refine J _ _ _ (Run.opsNil ?_); clear J
  by_cases h1 : i < f + depth
  ·refine ct (by simp [h1]) ?_;refine Run.seq (Run.reg fun K J => ?_);simp;refine J _ _ _ (Run.opsNil ?_); clear J;refine Run.ret ?_;refine Fin.ret' (h0 := h) aA rfl hh rfl aE rfl (Weak.of_eq ?_) ?_ ⟨rfl, by simp [bG, h1, errIf, fM hid]⟩
   ·simp [dH, h1]
   ·simp
  ·refine cf (by simp [h1]) ?_;refine Run.skip (Run.seq (Run.seq (Run.reg fun K J => ?_)));simp;simp (disch := omega) only [wrap_id];refine J _ _ _ (Run.opsNil ?_); clear J
   by_cases h2 : i + d < f + depth
   ·refine ct (by simp [h2]) ?_;refine Run.seq (Run.reg fun K J => ?_);simp;refine J _ _ _ ?_; clear J;refine Run.call (args := [.ptr id 0, iA 24]) rfl rfl aA rfl (fail_any _ (hh.app aA) id err nodes 24 (g1 _)) ?_ ?_
    ·rintro v h' ⟨hv, rfl⟩;simp only [AOut.ret.injEq] at hv;subst hv;simp [g2];refine Run.opsNil (Run.seq (Run.reg fun K J => ?_));simp;refine J _ _ _ (Run.opsNil ?_); clear J;refine Run.ret ?_;refine Fin.ret' (h0 := h.set id (wk (firstErr err 24) nodes)) aA aA (hh.set aA) rfl aE rfl (Weak.of_eq ?_) ?_ ⟨rfl, by simp [bG, h1, h2, errIf]⟩
     ·simp [dH, h2]
     ·simp
    ·rintro v h' ⟨hv, _⟩; cases hv
   ·refine cf (by simp [h2]) ?_;refine Run.skip (Run.seq (Run.reg fun K J => ?_));simp;simp (disch := omega) only [wrap_id];refine J _ _ _ ?_; clear J;refine Run.call (args := [.ptr id 0, iA (i + d)]) rfl rfl aA rfl (iY _ (hh.app aA) id err nodes (i + d) (g1 _)) ?_ ?_
    ·rintro v h' ⟨hv, rfl⟩;simp only [AOut.ret.injEq] at hv;subst hv;rw [g2];refine Run.ops fun K J => ?_
     simp [vr];refine J _ _ _ (Run.opsNil ?_); clear J;refine Run.ret ?_;refine Fin.ret' (h0 := h.set id (wk (if 65535 < i + d then firstErr err 24 else err) nodes)) aA aA (hh.set aA) rfl aE rfl (Weak.of_eq ?_) ?_ ⟨rfl, by simp [bG, h1, h2, errIf]⟩
     ·simp [dH, h1, h2, vr]
     ·simp
    ·rintro v h' ⟨hv, _⟩; cases hv
 ·refine cf (by simp [hk0]) ?_;refine Run.skip (Run.seq (Run.reg fun K J => ?_));simp;refine J _ _ _ (Run.opsNil ?_); clear J;refine Run.seq (Run.seq (Run.reg fun K J => ?_));simp;refine J _ _ _ (Run.opsNil ?_); clear J;refine Run.tok 11 5 aA ?_;refine Run.block ?_;simp
  refine Run.loopS [0, 2, 3, 4, 6, 10] (fun j : Nat => j <= ks.length) (fun j => ks.length - j) (fun j => [(11, .own (h.length + 2) 5 (aP (dA d f depth k 0 (ks.take j)))), (12, iA j)])
   (fun j => h.set id (wk (errIf (aZ d f depth k 0 (ks.take j)) err) nodes) ++ [some (.cells [iA k, iA i, .p (sP n), .p (.sl 2 (bR ls)), .p (.sl 5 (aP ks))]), some (.cells [iA 0, iA 0, .p (sP []), .p (.prim (.slice none 0 0)), .p (.prim (.slice none 0 0))]), some (.tok j 5)])
   0 aA ?_ ?_ ?_
  ·simp [dA, aP];exact y6f
  ·simp [aZ, errIf, fM hid]
  ·intro j hj IH;simp;refine Run.seq (Run.seq (Run.reg fun K J => ?_));simp;refine J _ _ _ (Run.opsNil ?_); clear J
   by_cases hjl : j < ks.length
   ·refine ct (by simp [hjl]) ?_;refine Run.skip (Run.seq (Run.block ?_));have hg : ks[j]? = some ks[j] := bBf hjl;have hbz := oV k j
    refine Run.draw [0, 0, 0, 0, 0, 0, 0, 0, 0, 0, 0, 0, 0, 0, 1, 1, 2, 2, 3] [0, 0, 0, 0, 0, 0, 0, 0, 0, 0, 0, 0, 0, 0, 0, 1, 0, 2, 0] [0, 0, 0, 4, 0, 28, 60, 0, 0, 0, 0, 1024, 0, 7168, 15872, 32766, 65534, 131071, 262143] [10, 11, 12, 13, 1, 2, 3, 4, 5, 6, 7, 8, 9, 14, 15, 0, 16, 17, 18]
     aC aC ?_
    refine zd ?_;refine DR.call (args := [iA k, iA j]) rfl rfl rfl aA rfl (below_any _ (WF.app (WF.set hh aA) aA) k j) ?_;refine DR.go fun K J => ?_
    simp [hg];simp (disch := omega) only [wrap_id];refine J _ _ _ _ ?_; clear J;have hs := dR ks j _ hg;have hs2 := bQ ks (j + 1);have hs3 := aR ks
    refine DR.call (args := [.ptr id 0, ks[j].av, iA d, iA f, iA (depth + aJ k j)]) rfl rfl rfl aA rfl
     (ih ks[j] (depth + aJ k j) (errIf (aZ d f depth k 0 (ks.take j)) err) _ id aB aB (Tm.idxs_at hidx.2 _ (bBi hjl)) aB aB (WF.app (WF.set hh aA) aA) (g4 _ _)) ?_
    refine DR.go fun K J => ?_
    have hmin : min j ks.length = j := bCw hj;have hb1 : (j + 1) * 80 <= 140737488355328 := aB;have hb2 : j + 1 <= 9223372036854775807 := aB;simp [g5, gS, hmin, hb1, hb2];refine J _ _ _ _ ?_; clear J;refine y8 ?_;refine Run.inBlock (Run.reg fun K J => ?_);simp;simp (disch := omega) only [wrap_id];refine J _ _ _ (Run.opsNil ?_); clear J;have htk : ks.take (j + 1) = ks.take j ++ [ks[j]] := bBq hjl;refine IH (j + 1) _ _ aB aB ?_ ?_
    ·rw [htk, qE, qP];simp [hmin]
     repeat' first | exact wn | apply wc
     all_goals first | exact Weak.junk _ | exact Weak.refl _
    ·rw [htk, jW, <- kC];simp only [bC7, hmin, bCg]
   ·have hje : j = ks.length := aB;subst hje;refine cf aA ?_;refine Run.exit rfl ?_;refine Run.seq (Run.reg fun K J => ?_);simp;refine J _ _ _ (Run.opsNil ?_); clear J;refine Run.seq (Run.reg fun K J => ?_);simp;refine J _ _ _ (Run.opsNil ?_); clear J;refine Run.ret ?_;refine Fin.ret' (h0 := h.set id (wk (errIf (aZ d f depth k 0 ks) err) nodes)) aA aA (hh.set aA) rfl aE rfl ?_ ?_ ⟨rfl, by simp [bG, hk0]⟩
    ·simp only [dH, hk0, if_false];refine Weak.agg ?_
     repeat' first | exact wn | apply wc
     all_goals first | exact Weak.refl _ | exact Weak.own _ _ _
    ·simp

end Go.Proofs.YtfajdeofhioakaaGreat
