import Derived.Test.YtfajdeofhioakaaGreatAFD
import Derived.Test.YtfajdeofhioakaaGreatATy
set_option maxRecDepth 8000


namespace Go.Proofs.YtfajdeofhioakaaGreat

open Go Go.AI

structure Lv where
 c : Int
 vars : List (Int × Int)
 deriving DecidableEq

inductive Tm where
 | mk (kind index : Int) (name : List UInt8) (levels : List Lv) (kids : List Tm)
abbrev iP (n : Int) : PV := .prim (.int .i64 n)
abbrev sP (s : List UInt8) : PV := .prim (.string ⟨s.toArray⟩)
abbrev iA (n : Int) : AV := .p (.prim (.int .i64 n))
abbrev bA (b : Bool) : AV := .p (.prim (.bool b))
def varPs (l : List (Int × Int)) : List (List PV) := l.map fun v => [iP v.1, iP v.2]
def Lv.cells (l : Lv) : List PV := [iP l.c, .sl 2 (varPs l.vars)]
def lvPs (l : List Lv) : List (List PV) := l.map Lv.cells

mutual
def Tm.cells : Tm → List PV
 | .mk k i n ls ks => [iP k, iP i, sP n, .sl 2 (lvPs ls), .sl 5 (tmPs ks)]
def tmPs : List Tm → List (List PV)
 | [] => []
 | t :: ts => t.cells :: tmPs ts
end
@[simp] theorem cells_mk (k i : Int) (n : List UInt8) (ls : List Lv) (ks : List Tm) : (Tm.mk k i n ls ks).cells = [iP k, iP i, sP n, .sl 2 (lvPs ls), .sl 5 (tmPs ks)] := rfl
theorem tmPs_eq (l : List Tm) : tmPs l = l.map Tm.cells := by
 induction l with
 | nil => rfl
 | cons t l ih => simp [tmPs, ih]
@[simp] theorem tmPs_length (l : List Tm) : (tmPs l).length = l.length := by simp [tmPs_eq]
@[simp] theorem tmPs_get (l : List Tm) (i : Nat) : (tmPs l)[i]? = (l[i]?).map Tm.cells := by simp [tmPs_eq]
@[simp] theorem lvPs_length (l : List Lv) : (lvPs l).length = l.length := by simp [lvPs]
@[simp] theorem lvPs_get (l : List Lv) (i : Nat) : (lvPs l)[i]? = (l[i]?).map Lv.cells := by simp [lvPs]
@[simp] theorem varPs_length (l : List (Int × Int)) : (varPs l).length = l.length := by simp [varPs]
@[simp] theorem varPs_get (l : List (Int × Int)) (i : Nat) : (varPs l)[i]? = (l[i]?).map fun v => [iP v.1, iP v.2] := by simp [varPs]
@[simp] theorem cells_len (t : Tm) : t.cells.length = 5 := by cases t; simp [Tm.cells]
@[simp] theorem lcells_len (t : Lv) : t.cells.length = 2 := by simp [Lv.cells]
abbrev Tm.av (t : Tm) : AV := .agg (t.cells.map .p)
abbrev Lv.av (t : Lv) : AV := .agg (t.cells.map .p)
@[simp] theorem take_cells (t : Tm) : (t.cells.map AV.p).take 5 = t.cells.map .p := List.take_of_length_le (by simp)
@[simp] theorem take_lcells (t : Lv) : (t.cells.map AV.p).take 2 = t.cells.map .p := List.take_of_length_le (by simp)
@[simp] theorem patch5 (a b c d e : AV) (t : Tm) : patch [a, b, c, d, e] 0 (t.cells.map AV.p) = t.cells.map AV.p := by cases t; rfl
@[simp] theorem toPVs_map (l : List PV) : toPVs (l.map AV.p) = some l := by
 induction l with
 | nil => rfl
 | cons x l ih => simp [toPVs, toPV, ih]
@[simp] theorem underL_p (n : Nat) (l : List PV) : AV.underL n (l.map AV.p) = true := by
 induction l with
 | nil => simp [AV.underL]
 | cons x l ih => simp [AV.underL, AV.under, ih]

namespace Tm
def kind : Tm → Int | mk k _ _ _ _ => k
def index : Tm → Int | mk _ i _ _ _ => i
def name : Tm → List UInt8 | mk _ _ n _ _ => n
def levels : Tm → List Lv | mk _ _ _ l _ => l
def kids : Tm → List Tm | mk _ _ _ _ ks => ks

mutual
def size : Tm → Nat
 | mk _ _ _ _ ks => 1 + sizes ks
def sizes : List Tm → Nat
 | [] => 0
 | t :: ts => t.size + sizes ts
end

end Tm


open Go Go.AI
theorem sizes_take (l : List Tm) (i : Nat) (t : Tm) (h : l[i]? = some t) : Tm.sizes (l.take (i + 1)) = Tm.sizes (l.take i) + t.size := by
 induction l generalizing i with
 | nil => simp at h
 | cons x l ih =>
  cases i with
  | zero => simp at h; subst h; simp [Tm.sizes]
  | succ i => simp at h; simp only [List.take_succ_cons, Tm.sizes, ih i h]; omega
theorem Tm.size_pos (t : Tm) : 1 ≤ t.size := by cases t; simp [Tm.size]
theorem length_le_sizes (l : List Tm) : l.length ≤ Tm.sizes l := by
 induction l with
 | nil => simp
 | cons x l ih => have := x.size_pos; simp only [Tm.sizes, List.length_cons]; omega
theorem sizes_take_le (l : List Tm) (i : Nat) : Tm.sizes (l.take i) ≤ Tm.sizes l := by
 induction l generalizing i with
 | nil => simp
 | cons x l ih => cases i with
  | zero => simp [Tm.sizes]
  | succ i => simp only [List.take_succ_cons, Tm.sizes]; have := ih i; omega
theorem size_any (N : Nat) : ∀ (t : Tm) (h : Heap), t.size ≤ N → t.size ≤ 1099511627776 → WF h → ACalls Tryz.prog 35 [t.av] h fun o h' => o = .ret (iA t.size) ∧ h' = h := by
 induction N with
 | zero => intro t h hN; cases t; simp [Tm.size] at hN
 | succ N ih =>
 intro t h hN hsz hh
 refine ACalls.of_run Tryz.func35 rfl ?_
 obtain ⟨k, i, n, ls, ks⟩ := t
 simp only [Tm.size] at hN hsz ⊢
 simp only [Tryz.ntmps35, List.length_cons, List.length_nil, Tm.av, Tm.cells, List.map]
 refine Run.seq (Run.reg fun K J => ?_)
 simp
 refine J _ _ _ (Run.opsNil ?_); clear J
 refine Run.seq (Run.reg fun K J => ?_)
 simp
 refine J _ _ _ (Run.opsNil ?_); clear J
 refine Run.seq (Run.seq (Run.reg fun K J => ?_))
 simp
 refine J _ _ _ (Run.opsNil ?_); clear J
 refine Run.block ?_
 refine Run.loopS [1] (fun j : Nat => j ≤ ks.length) (fun j => ks.length - j) (fun j => [(3, iA (1 + Tm.sizes (ks.take j) : Nat)), (4, iA j)]) (fun _ => _) 0 (by simp) ?_ rfl ?_
 ·simp [Tm.sizes]
  repeat' first | exact wn | apply wc
  all_goals first | exact Weak.refl _ | exact Weak.junk _
 ·intro j hj IH
  simp
  refine Run.seq (Run.seq (Run.reg fun K J => ?_))
  simp
  refine J _ _ _ (Run.opsNil ?_); clear J
  by_cases hlt : j < ks.length
  ·refine ct (by simp [hlt]) ?_
   refine Run.skip (Run.seq (Run.block (Run.reg fun K J => ?_)))
   have hg : ks[j]? = some ks[j] := List.getElem?_eq_getElem hlt
   have hs := sizes_take ks j _ hg
   have hs2 := sizes_take_le ks (j + 1)
   have hs3 := length_le_sizes ks
   simp [hg]
   refine J _ _ _ ?_; clear J
   refine Run.call (args := [ks[j].av]) rfl rfl (by simp) rfl (ih ks[j] _ (by omega) (by omega) (hh.app (by simp))) ?_ ?_
   ·rintro v h' ⟨hv, rfl⟩
    simp only [AOut.ret.injEq] at hv
    subst hv
    refine Run.ops fun K J => ?_
    simp
    simp (disch := omega) only [wrap_id]
    refine J _ _ _ (Run.opsNil (Run.inBlock ?_)); clear J
    refine Run.reg fun K J => ?_
    simp
    simp (disch := omega) only [wrap_id]
    refine J _ _ _ (Run.opsNil ?_); clear J
    refine IH (j + 1) _ _ (by omega) (by omega) ?_ rfl
    simp [hs]
    repeat' first | exact wn | apply wc
    all_goals first | exact Weak.junk _ | exact Weak.refl _ | exact Weak.int (by omega)
   ·rintro v h' ⟨hv, _⟩; cases hv
  ·have hje : j = ks.length := by omega
   subst hje
   refine cf (by simp) ?_
   refine Run.exit rfl ?_
   refine Run.seq (Run.reg fun K J => ?_)
   simp
   refine J _ _ _ (Run.opsNil ?_); clear J
   refine Run.ret ?_
   exact Fin.ret hh rfl rfl rfl (Weak.refl _) rfl ⟨by simp, rfl⟩


open Go Go.AI
abbrev wk (err nodes : Int) : Option AO := some (.cells [iA err, iA nodes])
def firstErr (err e : Int) : Int := if err = 0 then e else err
theorem fail_any (h : Heap) (hh : WF h) (id : Nat) (err nodes e : Int) (hid : h[id]? = some (wk err nodes)) :
  ACalls Tryz.prog 143 [.ptr id 0, iA e] h fun o h' => o = .ret (.tup []) ∧ h' = h.set id (wk (firstErr err e) nodes) := by
 refine ACalls.of_run Tryz.func143 rfl ?_
 simp only [Tryz.ntmps143, List.length_cons, List.length_nil]
 refine Run.seq (Run.reg fun K J => ?_)
 simp [hid]
 refine J _ _ _ (Run.opsNil ?_); clear J
 by_cases he : err = 0
 ·refine ct (by simp [he]) ?_
  refine Run.reg fun K J => ?_
  simp [hid]
  refine J _ _ _ (Run.opsNil ?_); clear J
  refine Run.nil ?_
  exact Fin.ret' (by simp) (by simp) (hh.set (by simp)) (List.append_nil _).symm rfl rfl (Weak.refl _) rfl ⟨rfl, by simp [firstErr, he]⟩
 ·refine cf (by simp [he]) ?_
  refine Run.skip (Run.nil ?_)
  exact Fin.ret' (by simp) rfl hh (List.append_nil _).symm rfl rfl (Weak.refl _) rfl ⟨rfl, by simp [firstErr, he, set_same hid]⟩
def vr (i : Int) : Tm := .mk 0 i [] [] []
theorem variable_any (h : Heap) (hh : WF h) (id : Nat) (err nodes i : Int) (hid : h[id]? = some (wk err nodes)) :
  ACalls Tryz.prog 144 [.ptr id 0, iA i] h fun o h' => o = .ret (vr i).av ∧ h' = h.set id (wk (if 65535 < i then firstErr err 24 else err) nodes) := by
 obtain ⟨g1, g2, g3, g4, g5, hlt⟩ := idf hid
 refine ACalls.of_run Tryz.func144 rfl ?_
 simp only [Tryz.ntmps144, List.length_cons, List.length_nil]
 refine Run.seq (Run.reg fun K J => ?_)
 simp
 refine J _ _ _ (Run.opsNil ?_); clear J
 refine Run.seq (Run.seq (Run.reg fun K J => ?_))
 simp
 refine J _ _ _ (Run.opsNil ?_); clear J
 by_cases he : 65535 < i
 ·refine ct (by simp [he]) ?_
  refine Run.reg fun K J => ?_
  simp
  refine J _ _ _ ?_; clear J
  refine Run.call (args := [.ptr id 0, iA 24]) rfl rfl (by simp) rfl (fail_any _ (hh.app (by simp)) id err nodes 24 (g1 _)) ?_ ?_
  ·rintro v h' ⟨hv, rfl⟩
   simp only [AOut.ret.injEq] at hv
   subst hv
   simp [g2]
   refine Run.opsNil (Run.seq (Run.reg fun K J => ?_))
   simp
   refine J _ _ _ (Run.opsNil ?_); clear J
   refine Run.ret ?_
   refine Fin.ret' (h0 := h.set id (wk (firstErr err 24) nodes)) (by simp) (by simp) (hh.set (by simp)) rfl (by simp; rfl) rfl ?_ ?_ ⟨rfl, by simp [he]⟩
   ·simp only [vr]
    refine Weak.agg ?_
    repeat' first | exact wn | apply wc
    all_goals first | exact Weak.refl _ | exact Weak.nil _
   ·simp
  ·rintro v h' ⟨hv, _⟩; cases hv
 ·refine cf (by simp [he]) ?_
  refine Run.skip (Run.seq (Run.reg fun K J => ?_))
  simp
  refine J _ _ _ (Run.opsNil ?_); clear J
  refine Run.ret ?_
  refine Fin.ret' (h0 := h) (by simp) rfl hh rfl (by simp; rfl) rfl ?_ ?_ ⟨rfl, by simp [he, set_same hid]⟩
  ·simp only [vr]
   refine Weak.agg ?_
   repeat' first | exact wn | apply wc
   all_goals first | exact Weak.refl _ | exact Weak.nil _
  ·simp
def belowZ (k i : Int) : Int := if (i = 1 ∧ (k = 5 ∨ k = 6 ∨ k = 7)) ∨ (i = 2 ∧ k = 11) then 1 else 0
theorem below_any (h : Heap) (hh : WF h) (k i : Int) : ACalls Tryz.prog 141 [iA k, iA i] h fun o h' => o = .ret (iA (belowZ k i)) ∧ h' = h := by
 refine ACalls.of_run Tryz.func141 rfl ?_
 simp only [Tryz.ntmps141, List.length_cons, List.length_nil]
 refine Run.seq (Run.reg fun K J => ?_)
 simp
 refine J _ _ _ (Run.opsNil ?_); clear J
 refine Run.seq (Run.seq (Run.reg fun K J => ?_))
 have hcase : ((i == 1) = true ∧ (k == 5) = true) ∨ ((i == 1) = true ∧ (k == 5) = false ∧ (k == 6) = true) ∨ ((i == 1) = true ∧ (k == 5) = false ∧ (k == 6) = false ∧ (k == 7) = true) ∨
   ((i == 1) = true ∧ (k == 5) = false ∧ (k == 6) = false ∧ (k == 7) = false ∧ (i == 2) = false) ∨ ((i == 1) = false ∧ (i == 2) = true ∧ (k == 11) = true) ∨ ((i == 1) = false ∧ (i == 2) = true ∧ (k == 11) = false) ∨ ((i == 1) = false ∧ (i == 2) = false) := by
  simp; omega
 rcases hcase with ⟨e1, e2⟩ | ⟨e1, e2, e3⟩ | ⟨e1, e2, e3, e4⟩ | ⟨e1, e2, e3, e4, e5⟩ | ⟨e1, e2, e3⟩ | ⟨e1, e2, e3⟩ | ⟨e1, e2⟩
 all_goals
  simp [*, -J]
  simp only [beq_iff_eq, beq_eq_false_iff_ne, ne_eq] at *
  refine J _ _ _ (Run.opsNil ?_); clear J
  refine Run.cond rfl ?_
  first
  | (simp only [if_true]
     refine Run.seq (Run.reg fun K J => ?_)
     simp
     refine J _ _ _ (Run.opsNil ?_); clear J
     refine Run.ret ?_
     exact Fin.ret' (by simp) rfl hh (List.append_nil _).symm rfl rfl (Weak.refl _) rfl ⟨by simp [belowZ, *], rfl⟩)
  | (simp only [Bool.false_eq_true, if_false]
     refine Run.skip (Run.seq (Run.reg fun K J => ?_))
     simp
     refine J _ _ _ (Run.opsNil ?_); clear J
     refine Run.ret ?_
     exact Fin.ret' (by simp) rfl hh (List.append_nil _).symm rfl rfl (Weak.refl _) rfl ⟨by simp [belowZ, *], rfl⟩)


open Go Go.AI

mutual
def shiftT (d from_ depth : Int) : Tm → Tm
 | .mk k i n ls ks => if k = 0 then (if i < from_ + depth ∨ i + d < from_ + depth then .mk k i n ls ks else vr (i + d)) else .mk k i n ls (shiftL d from_ depth k 0 ks)
def shiftL (d from_ depth k : Int) (idx : Nat) : List Tm → List Tm
 | [] => []
 | t :: ts => shiftT d from_ (depth + belowZ k idx) t :: shiftL d from_ depth k (idx + 1) ts
end

mutual
def shiftBad (d from_ depth : Int) : Tm → Bool
 | .mk k i _ _ ks => if k = 0 then !decide (i < from_ + depth) && (decide (i + d < from_ + depth) || decide (65535 < i + d)) else shiftBads d from_ depth k 0 ks
def shiftBads (d from_ depth k : Int) (idx : Nat) : List Tm → Bool
 | [] => false
 | t :: ts => shiftBad d from_ (depth + belowZ k idx) t || shiftBads d from_ depth k (idx + 1) ts
end

mutual
def Tm.idx : Tm → Prop
 | .mk k i _ _ ks => (k = 0 → -1099511627776 ≤ i ∧ i ≤ 1099511627776) ∧ Tm.idxs ks
def Tm.idxs : List Tm → Prop
 | [] => True
 | t :: ts => t.idx ∧ Tm.idxs ts
end
theorem Tm.idxs_at {l : List Tm} (h : Tm.idxs l) : ∀ t ∈ l, t.idx := by
 induction l with
 | nil => intro t ht; cases ht
 | cons x l ih =>
  simp only [Tm.idxs] at h
  intro t ht
  cases List.mem_cons.1 ht with
  | inl e => subst e; exact h.1
  | inr e => exact ih h.2 t e
def errIf (bad : Bool) (err : Int) : Int := if bad = true then firstErr err 24 else err
theorem errIf_twice (e : Int) (a b : Bool) : errIf b (errIf a e) = errIf (a || b) e := by
 unfold errIf firstErr; cases a <;> cases b <;> simp; omega
theorem belowZ_01 (k i : Int) : 0 ≤ belowZ k i ∧ belowZ k i ≤ 1 := by unfold belowZ; split <;> omega
theorem shiftL_snoc (d f depth k : Int) : ∀ (l : List Tm) (idx : Nat) (t : Tm), shiftL d f depth k idx (l ++ [t]) = shiftL d f depth k idx l ++ [shiftT d f (depth + belowZ k (idx + l.length : Nat)) t]
 | [], idx, t => by simp [shiftL]
 | x :: l, idx, t => by simp only [List.cons_append, shiftL, shiftL_snoc d f depth k l (idx + 1) t]; simp [Nat.add_assoc, Nat.add_comm 1]
theorem shiftBads_snoc (d f depth k : Int) : ∀ (l : List Tm) (idx : Nat) (t : Tm), shiftBads d f depth k idx (l ++ [t]) = (shiftBads d f depth k idx l || shiftBad d f (depth + belowZ k (idx + l.length : Nat)) t)
 | [], idx, t => by simp [shiftBads]
 | x :: l, idx, t => by simp only [List.cons_append, shiftBads, shiftBads_snoc d f depth k l (idx + 1) t]; simp [Nat.add_assoc, Nat.add_comm 1, Bool.or_assoc]
theorem shiftL_length (d f depth k : Int) : ∀ (l : List Tm) (idx : Nat), (shiftL d f depth k idx l).length = l.length
 | [], idx => rfl
 | x :: l, idx => by simp [shiftL, shiftL_length d f depth k l]
theorem tmPs_snoc (l : List Tm) (t : Tm) : tmPs (l ++ [t]) = tmPs l ++ [t.cells] := by simp [tmPs_eq]
theorem wshift_any (d f : Int) (hd1 : -1099511627776 ≤ d) (hd2 : d ≤ 1099511627776) (hf1 : 0 ≤ f) (hf2 : f ≤ 65536) (nodes : Int) (N : Nat) :
  ∀ (t : Tm) (depth err : Int) (h : Heap) (id : Nat), t.size ≤ N → t.size ≤ 1048576 → t.idx → 0 ≤ depth → depth + t.size ≤ 1099511627776 → WF h → h[id]? = some (wk err nodes) →
  ACalls Tryz.prog 96 [.ptr id 0, t.av, iA d, iA f, iA depth] h fun o h' => o = .ret (shiftT d f depth t).av ∧ h' = h.set id (wk (errIf (shiftBad d f depth t) err) nodes) := by
 induction N with
 | zero => intro t _ _ _ _ hN; have := t.size_pos; omega
 | succ N ih =>
 intro t depth err h id hN hB hidx hdp hdB hh hid
 obtain ⟨g1, g2, g3, g4, g5, hlt⟩ := idf hid
 refine ACalls.of_run Tryz.func96 rfl ?_
 obtain ⟨k, i, n, ls, ks⟩ := t
 simp only [Tm.size] at hN hB hdB
 simp only [Tm.idx] at hidx
 simp only [Tryz.ntmps96, List.length_cons, List.length_nil, Tm.av, cells_mk, List.map]
 refine Run.seq (Run.reg fun K J => ?_)
 simp
 refine J _ _ _ (Run.opsNil ?_); clear J
 refine Run.seq (Run.seq (Run.reg fun K J => ?_))
 simp
 refine J _ _ _ (Run.opsNil ?_); clear J
 by_cases hk0 : k = 0
 ·subst hk0
  obtain ⟨hi1, hi2⟩ := hidx.1 rfl
  refine ct (by simp) ?_
  refine Run.seq (Run.seq (Run.reg fun K J => ?_))
  simp
  simp (disch := omega) only [wrap_id]
  refine J _ _ _ (Run.opsNil ?_); clear J
  by_cases h1 : i < f + depth
  ·refine ct (by simp [h1]) ?_
   refine Run.seq (Run.reg fun K J => ?_)
   simp
   refine J _ _ _ (Run.opsNil ?_); clear J
   refine Run.ret ?_
   refine Fin.ret' (h0 := h) (by simp) rfl hh rfl (by simp; rfl) rfl (Weak.of_eq ?_) ?_ ⟨rfl, by simp [shiftBad, h1, errIf, set_same hid]⟩
   ·simp [shiftT, h1]
   ·simp
  ·refine cf (by simp [h1]) ?_
   refine Run.skip (Run.seq (Run.seq (Run.reg fun K J => ?_)))
   simp
   simp (disch := omega) only [wrap_id]
   refine J _ _ _ (Run.opsNil ?_); clear J
   by_cases h2 : i + d < f + depth
   ·refine ct (by simp [h2]) ?_
    refine Run.seq (Run.reg fun K J => ?_)
    simp
    refine J _ _ _ ?_; clear J
    refine Run.call (args := [.ptr id 0, iA 24]) rfl rfl (by simp) rfl (fail_any _ (hh.app (by simp)) id err nodes 24 (g1 _)) ?_ ?_
    ·rintro v h' ⟨hv, rfl⟩
     simp only [AOut.ret.injEq] at hv
     subst hv
     simp [g2]
     refine Run.opsNil (Run.seq (Run.reg fun K J => ?_))
     simp
     refine J _ _ _ (Run.opsNil ?_); clear J
     refine Run.ret ?_
     refine Fin.ret' (h0 := h.set id (wk (firstErr err 24) nodes)) (by simp) (by simp) (hh.set (by simp)) rfl (by simp; rfl) rfl (Weak.of_eq ?_) ?_ ⟨rfl, by simp [shiftBad, h1, h2, errIf]⟩
     ·simp [shiftT, h2]
     ·simp
    ·rintro v h' ⟨hv, _⟩; cases hv
   ·refine cf (by simp [h2]) ?_
    refine Run.skip (Run.seq (Run.reg fun K J => ?_))
    simp
    simp (disch := omega) only [wrap_id]
    refine J _ _ _ ?_; clear J
    refine Run.call (args := [.ptr id 0, iA (i + d)]) rfl rfl (by simp) rfl (variable_any _ (hh.app (by simp)) id err nodes (i + d) (g1 _)) ?_ ?_
    ·rintro v h' ⟨hv, rfl⟩
     simp only [AOut.ret.injEq] at hv
     subst hv
     rw [g2]
     refine Run.ops fun K J => ?_
     simp [vr]
     refine J _ _ _ (Run.opsNil ?_); clear J
     refine Run.ret ?_
     refine Fin.ret' (h0 := h.set id (wk (if 65535 < i + d then firstErr err 24 else err) nodes)) (by simp) (by simp) (hh.set (by simp)) rfl (by simp; rfl) rfl (Weak.of_eq ?_) ?_ ⟨rfl, by simp [shiftBad, h1, h2, errIf]⟩
     ·simp [shiftT, h1, h2, vr]
     ·simp
    ·rintro v h' ⟨hv, _⟩; cases hv
 ·refine cf (by simp [hk0]) ?_
  refine Run.skip (Run.seq (Run.reg fun K J => ?_))
  simp
  refine J _ _ _ (Run.opsNil ?_); clear J
  refine Run.seq (Run.seq (Run.reg fun K J => ?_))
  simp
  refine J _ _ _ (Run.opsNil ?_); clear J
  refine Run.tok 11 5 (by simp) ?_
  refine Run.block ?_
  simp
  refine Run.loopS [0, 2, 3, 4, 6, 10] (fun j : Nat => j ≤ ks.length) (fun j => ks.length - j) (fun j => [(11, .own (h.length + 2) 5 (tmPs (shiftL d f depth k 0 (ks.take j)))), (12, iA j)])
   (fun j => h.set id (wk (errIf (shiftBads d f depth k 0 (ks.take j)) err) nodes) ++ [some (.cells [iA k, iA i, .p (sP n), .p (.sl 2 (lvPs ls)), .p (.sl 5 (tmPs ks))]), some (.cells [iA 0, iA 0, .p (sP []), .p (.prim (.slice none 0 0)), .p (.prim (.slice none 0 0))]), some (.tok j 5)])
   0 (by simp) ?_ ?_ ?_
  ·simp [shiftL, tmPs]
   repeat' first | exact wn | apply wc
   all_goals first | exact Weak.refl _ | exact Weak.junk _
  ·simp [shiftBads, errIf, set_same hid]
  ·intro j hj IH
   simp
   refine Run.seq (Run.seq (Run.reg fun K J => ?_))
   simp
   refine J _ _ _ (Run.opsNil ?_); clear J
   by_cases hjl : j < ks.length
   ·refine ct (by simp [hjl]) ?_
    refine Run.skip (Run.seq (Run.block ?_))
    have hg : ks[j]? = some ks[j] := List.getElem?_eq_getElem hjl
    have hbz := belowZ_01 k j
    refine Run.draw [0, 0, 0, 0, 0, 0, 0, 0, 0, 0, 0, 0, 0, 0, 1, 1, 2, 2, 3] [0, 0, 0, 0, 0, 0, 0, 0, 0, 0, 0, 0, 0, 0, 0, 1, 0, 2, 0] [0, 0, 0, 4, 0, 28, 60, 0, 0, 0, 0, 1024, 0, 7168, 15872, 32766, 65534, 131071, 262143] [10, 11, 12, 13, 1, 2, 3, 4, 5, 6, 7, 8, 9, 14, 15, 0, 16, 17, 18]
     (by kernel_rfl) (by kernel_rfl) ?_
    refine DR.go fun K J => ?_
    simp
    refine J _ _ _ _ ?_; clear J
    refine DR.call (args := [iA k, iA j]) rfl rfl rfl (by simp) rfl (below_any _ (WF.app (WF.set hh (by simp)) (by simp)) k j) ?_
    refine DR.go fun K J => ?_
    simp [hg]
    simp (disch := omega) only [wrap_id]
    refine J _ _ _ _ ?_; clear J
    have hs := sizes_take ks j _ hg
    have hs2 := sizes_take_le ks (j + 1)
    have hs3 := length_le_sizes ks
    refine DR.call (args := [.ptr id 0, ks[j].av, iA d, iA f, iA (depth + belowZ k j)]) rfl rfl rfl (by simp) rfl
     (ih ks[j] (depth + belowZ k j) (errIf (shiftBads d f depth k 0 (ks.take j)) err) _ id (by omega) (by omega) (Tm.idxs_at hidx.2 _ (List.getElem_mem hjl)) (by omega) (by omega) (WF.app (WF.set hh (by simp)) (by simp)) (g4 _ _)) ?_
    refine DR.go fun K J => ?_
    have hmin : min j ks.length = j := Nat.min_eq_left hj
    have hb1 : (j + 1) * 80 ≤ 140737488355328 := by omega
    have hb2 : j + 1 ≤ 9223372036854775807 := by omega
    simp [g5, shiftL_length, hmin, hb1, hb2]
    refine J _ _ _ _ ?_; clear J
    change Run _ _ _ _ _ _ _ _
    refine Run.inBlock (Run.reg fun K J => ?_)
    simp
    simp (disch := omega) only [wrap_id]
    refine J _ _ _ (Run.opsNil ?_); clear J
    have htk : ks.take (j + 1) = ks.take j ++ [ks[j]] := List.take_succ_eq_append_getElem hjl
    refine IH (j + 1) _ _ (by omega) (by omega) ?_ ?_
    ·rw [htk, shiftL_snoc, tmPs_snoc]
     simp [hmin]
     repeat' first | exact wn | apply wc
     all_goals first | exact Weak.junk _ | exact Weak.refl _
    ·rw [htk, shiftBads_snoc, ← errIf_twice]
     simp only [List.length_take, hmin, Nat.zero_add]
   ·have hje : j = ks.length := by omega
    subst hje
    refine cf (by simp) ?_
    refine Run.exit rfl ?_
    refine Run.seq (Run.reg fun K J => ?_)
    simp
    refine J _ _ _ (Run.opsNil ?_); clear J
    refine Run.seq (Run.reg fun K J => ?_)
    simp
    refine J _ _ _ (Run.opsNil ?_); clear J
    refine Run.ret ?_
    refine Fin.ret' (h0 := h.set id (wk (errIf (shiftBads d f depth k 0 ks) err) nodes)) (by simp) (by simp) (hh.set (by simp)) rfl (by simp; rfl) rfl ?_ ?_ ⟨rfl, by simp [shiftBad, hk0]⟩
    ·simp only [shiftT, hk0, if_false]
     refine Weak.agg ?_
     repeat' first | exact wn | apply wc
     all_goals first | exact Weak.refl _ | exact Weak.own _ _ _
    ·simp

end Go.Proofs.YtfajdeofhioakaaGreat
