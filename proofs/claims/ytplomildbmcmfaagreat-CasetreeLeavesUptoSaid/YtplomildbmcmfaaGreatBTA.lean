/-
  Case trees, told abstractly; how many leaves they have.
-/
import Derived.Test.YtplomildbmcmfaaGreatBFD
import Derived.Test.YtplomildbmcmfaaGreatBTy

namespace Go.Proofs.YtplomildbmcmfaaGreat

open Go Go.AI

structure Lv where
  c : Int
  vars : List (Int × Int)

inductive Tm where
  | mk (kind index : Int) (name : List UInt8) (levels : List Lv) (kids : List Tm)
abbrev iP (n : Int) : PV := .prim (.int .i64 n)
abbrev sP (s : List UInt8) : PV := .prim (.string ⟨s.toArray⟩)
abbrev bP (b : Bool) : PV := .prim (.bool b)
abbrev iA (n : Int) : AV := .p (.prim (.int .i64 n))
abbrev bA (b : Bool) : AV := .p (.prim (.bool b))
def varPs (l : List (Int × Int)) : List (List PV) := l.map fun v => [iP v.1, iP v.2]
def Lv.cells (l : Lv) : List PV := [iP l.c, .sl 2 (varPs l.vars)]
def lvPs (l : List Lv) : List (List PV) := l.map Lv.cells

mutual
def Tm.cells : Tm → List PV
  | .mk k i n ls ks => [iP k, iP i, sP n, .sl 2 (lvPs ls), .sl 5 (tmPs ks)]
def tmPs : List Tm → List (List PV)
  | [] => []
  | t :: ts => t.cells :: tmPs ts
end
theorem tmPs_eq (l : List Tm) : tmPs l = l.map Tm.cells := by
  induction l with
  | nil => rfl
  | cons t l ih => simp [tmPs, ih]
abbrev Tm.av (t : Tm) : AV := .agg (t.cells.map .p)
@[simp] theorem cells_mk (k i : Int) (n : List UInt8) (ls : List Lv) (ks : List Tm) : (Tm.mk k i n ls ks).cells = [iP k, iP i, sP n, .sl 2 (lvPs ls), .sl 5 (tmPs ks)] := rfl

mutual
inductive Tr where
  | mk (k : Int) (b : Tm) (v : Int) (bs : List Br)
inductive Br where
  | mk (c : List UInt8) (a : Bool) (t : Tr)
end

mutual
def Tr.cells : Tr → List PV
  | .mk k b v bs => iP k :: (b.cells ++ [iP v, .sl 10 (brPs bs)])
def Br.cells : Br → List PV
  | .mk c a t => sP c :: bP a :: t.cells
def brPs : List Br → List (List PV)
  | [] => []
  | b :: bs => b.cells :: brPs bs
end
theorem brPs_eq : ∀ l : List Br, brPs l = l.map Br.cells
  | [] => by simp [brPs]
  | b :: l => by simp [brPs, brPs_eq l]
theorem tm_cells_len (t : Tm) : t.cells.length = 5 := by cases t; simp [Tm.cells]
theorem tr_cells_len (t : Tr) : t.cells.length = 8 := by cases t; simp [Tr.cells, tm_cells_len]
theorem br_cells_len (b : Br) : b.cells.length = 10 := by cases b; simp [Br.cells, tr_cells_len]
theorem br_get (l : List Br) (i : Nat) : (brPs l)[i]? = (l[i]?).map Br.cells := by simp [brPs_eq]
theorem brPs_length (l : List Br) : (brPs l).length = l.length := by simp [brPs_eq]
def Tr.av (t : Tr) : AV := .agg (t.cells.map .p)
def Br.tr : Br → Tr
  | .mk _ _ t => t
def Br.ab : Br → Bool
  | .mk _ a _ => a
def smallB : Nat → Tr → Bool
  | 0, _ => false
  | n + 1, .mk _ _ _ bs => decide (bs.length ≤ 12) && bs.all fun b => smallB n b.tr

mutual
def leavesZ : Tr → Nat
  | .mk k _ _ bs => if k ≠ 1 then 1 else leavesL bs
def leavesL : List Br → Nat
  | [] => 0
  | .mk _ a t :: l => (if a = true then 0 else leavesZ t) + leavesL l
end
theorem leavesL_snoc : ∀ (l : List Br) (b : Br), leavesL (l ++ [b]) = leavesL l + (if b.ab = true then 0 else leavesZ b.tr)
  | [], .mk c a t => by cases a <;> simp [leavesL, Br.ab, Br.tr]
  | .mk c' a' t' :: l, b => by
    simp only [List.cons_append, leavesL, leavesL_snoc l b]
    omega
theorem leaves_le : ∀ (n : Nat) (t : Tr), smallB n t = true → leavesZ t ≤ 12 ^ n
  | 0, _, h => by simp [smallB] at h
  | n + 1, .mk k b v bs, h => by
    simp only [smallB, Bool.and_eq_true, decide_eq_true_eq, List.all_eq_true] at h
    have hp : 0 < 12 ^ n := Nat.pow_pos (by omega)
    have key : ∀ l : List Br, (∀ b ∈ l, smallB n b.tr = true) → leavesL l ≤ l.length * 12 ^ n := by
      intro l
      induction l with
      | nil => intro _; simp [leavesL]
      | cons x l ih =>
        obtain ⟨c, a, t⟩ := x
        intro hl
        have h1 := ih fun b hb => hl b (List.mem_cons_of_mem _ hb)
        have h2 := leaves_le n t (hl (.mk c a t) (by simp))
        simp only [leavesL, List.length_cons, Nat.add_mul, Nat.one_mul]
        split <;> omega
    have := key bs h.2
    have h3 : bs.length * 12 ^ n ≤ 12 * 12 ^ n := Nat.mul_le_mul_right _ h.1
    simp only [leavesZ]
    rw [Nat.pow_succ]
    split <;> omega
theorem leavesL_take_le {l : List Br} (j : Nat) : leavesL (l.take j) ≤ leavesL l := by
  induction l generalizing j with
  | nil => simp
  | cons x l ih =>
    obtain ⟨c, a, t⟩ := x
    cases j with
    | zero => simp [leavesL]
    | succ j => simp only [List.take_succ_cons, leavesL]; have := ih j; omega

end Go.Proofs.YtplomildbmcmfaaGreat
