/-
  Joined: Dt A1 B1 B2.
-/
import Derived.Test.YtcfcolkbeelegaaGreatLFD
import Derived.Test.YtcfcolkbeelegaaGreatLTy

/-
  Plain terms and levels, and their cells.
-/

namespace Go.Proofs.YtcfcolkbeelegaaGreat

open Go Go.AI

structure Lv where
  c : Int
  vars : List (Int × Int)
  deriving DecidableEq

inductive Tm where
  | mk (kind index : Int) (name : List UInt8) (levels : List Lv) (kids : List Tm)
abbrev iP (n : Int) : PV := .prim (.int .i64 n)
abbrev sP (s : List UInt8) : PV := .prim (.string ⟨s.toArray⟩)
abbrev iA (n : Int) : AV := .p (.prim (.int .i64 n))
abbrev bA (b : Bool) : AV := .p (.prim (.bool b))
def varPs (l : List (Int × Int)) : List (List PV) := l.map fun v => [iP v.1, iP v.2]
def Lv.cells (l : Lv) : List PV := [iP l.c, .sl 2 (varPs l.vars)]
def lvPs (l : List Lv) : List (List PV) := l.map Lv.cells

mutual
def Tm.cells : Tm → List PV
  | .mk k i n ls ks => [iP k, iP i, sP n, .sl 2 (lvPs ls), .sl 5 (tmPs ks)]
def tmPs : List Tm → List (List PV)
  | [] => []
  | t :: ts => t.cells :: tmPs ts
end
@[simp] theorem cells_mk (k i : Int) (n : List UInt8) (ls : List Lv) (ks : List Tm) : (Tm.mk k i n ls ks).cells = [iP k, iP i, sP n, .sl 2 (lvPs ls), .sl 5 (tmPs ks)] := rfl
theorem tmPs_eq (l : List Tm) : tmPs l = l.map Tm.cells := by
  induction l with
  | nil => rfl
  | cons t l ih => simp [tmPs, ih]
@[simp] theorem tmPs_length (l : List Tm) : (tmPs l).length = l.length := by simp [tmPs_eq]
@[simp] theorem tmPs_get (l : List Tm) (i : Nat) : (tmPs l)[i]? = (l[i]?).map Tm.cells := by simp [tmPs_eq]
@[simp] theorem lvPs_length (l : List Lv) : (lvPs l).length = l.length := by simp [lvPs]
@[simp] theorem lvPs_get (l : List Lv) (i : Nat) : (lvPs l)[i]? = (l[i]?).map Lv.cells := by simp [lvPs]
@[simp] theorem varPs_length (l : List (Int × Int)) : (varPs l).length = l.length := by simp [varPs]
@[simp] theorem varPs_get (l : List (Int × Int)) (i : Nat) : (varPs l)[i]? = (l[i]?).map fun v => [iP v.1, iP v.2] := by simp [varPs]
@[simp] theorem cells_len (t : Tm) : t.cells.length = 5 := by cases t; simp [Tm.cells]
@[simp] theorem lcells_len (t : Lv) : t.cells.length = 2 := by simp [Lv.cells]
abbrev Tm.av (t : Tm) : AV := .agg (t.cells.map .p)
abbrev Lv.av (t : Lv) : AV := .agg (t.cells.map .p)
@[simp] theorem take_cells (t : Tm) : (t.cells.map AV.p).take 5 = t.cells.map .p := List.take_of_length_le (by simp)
@[simp] theorem take_lcells (t : Lv) : (t.cells.map AV.p).take 2 = t.cells.map .p := List.take_of_length_le (by simp)
@[simp] theorem patch5 (a b c d e : AV) (t : Tm) : patch [a, b, c, d, e] 0 (t.cells.map AV.p) = t.cells.map AV.p := by cases t; rfl
@[simp] theorem toPVs_map (l : List PV) : toPVs (l.map AV.p) = some l := by
  induction l with
  | nil => rfl
  | cons x l ih => simp [toPVs, toPV, ih]
@[simp] theorem underL_p (n : Nat) (l : List PV) : AV.underL n (l.map AV.p) = true := by
  induction l with
  | nil => simp [AV.underL]
  | cons x l ih => simp [AV.underL, AV.under, ih]

namespace Tm
def kind : Tm → Int | mk k _ _ _ _ => k
def index : Tm → Int | mk _ i _ _ _ => i
def name : Tm → List UInt8 | mk _ _ n _ _ => n
def levels : Tm → List Lv | mk _ _ _ l _ => l
def kids : Tm → List Tm | mk _ _ _ _ ks => ks

mutual
def size : Tm → Nat
  | mk _ _ _ _ ks => 1 + sizes ks
def sizes : List Tm → Nat
  | [] => 0
  | t :: ts => t.size + sizes ts
end

end Tm

end Go.Proofs.YtcfcolkbeelegaaGreat

namespace Go.Proofs.YtcfcolkbeelegaaGreat

open Go Go.AI
theorem sizes_take (l : List Tm) (i : Nat) (t : Tm) (h : l[i]? = some t) : Tm.sizes (l.take (i + 1)) = Tm.sizes (l.take i) + t.size := by
  induction l generalizing i with
  | nil => simp at h
  | cons x l ih =>
    cases i with
    | zero => simp at h; subst h; simp [Tm.sizes]
    | succ i => simp at h; simp only [List.take_succ_cons, Tm.sizes, ih i h]; omega
theorem Tm.size_pos (t : Tm) : 1 ≤ t.size := by cases t; simp [Tm.size]
theorem length_le_sizes (l : List Tm) : l.length ≤ Tm.sizes l := by
  induction l with
  | nil => simp
  | cons x l ih => have := x.size_pos; simp only [Tm.sizes, List.length_cons]; omega
theorem sizes_take_le (l : List Tm) (i : Nat) : Tm.sizes (l.take i) ≤ Tm.sizes l := by
  induction l generalizing i with
  | nil => simp
  | cons x l ih => cases i with
    | zero => simp [Tm.sizes]
    | succ i => simp only [List.take_succ_cons, Tm.sizes]; have := ih i; omega
set_option maxRecDepth 4000 in
theorem size_any (N : Nat) : ∀ (t : Tm) (h : Heap), t.size ≤ N → t.size ≤ 1099511627776 → WF h → ACalls Tryz.prog 38 [t.av] h fun o h' => o = .ret (iA t.size) ∧ h' = h := by
  induction N with
  | zero => intro t h hN; cases t; simp [Tm.size] at hN
  | succ N ih =>
  intro t h hN hsz hh
  refine ACalls.of_run Tryz.func38 rfl ?_
  obtain ⟨k, i, n, ls, ks⟩ := t
  simp only [Tm.size] at hN hsz ⊢
  simp only [Tryz.ntmps38, List.length_cons, List.length_nil, Tm.av, Tm.cells, List.map]
  refine Run.seq (Run.reg fun K hK => ?_)
  simp
  refine hK _ _ _ (Run.opsNil ?_); clear hK K
  refine Run.seq (Run.reg fun K hK => ?_)
  simp
  refine hK _ _ _ (Run.opsNil ?_); clear hK K
  refine Run.seq (Run.seq (Run.reg fun K hK => ?_))
  simp
  refine hK _ _ _ (Run.opsNil ?_); clear hK K
  refine Run.block ?_
  refine Run.loopS [1] (fun j : Nat => j ≤ ks.length) (fun j => ks.length - j) (fun j => [(3, iA (1 + Tm.sizes (ks.take j) : Nat)), (4, iA j)]) (fun _ => _) 0 (by simp) ?_ rfl ?_
  · simp [Tm.sizes]
    repeat' (first | exact WeakL.nil | apply WeakL.cons)
    all_goals first | exact Weak.refl _ | exact Weak.junk _
  · intro j hj IH
    simp
    refine Run.seq (Run.seq (Run.reg fun K hK => ?_))
    simp
    refine hK _ _ _ (Run.opsNil ?_); clear hK K
    by_cases hlt : j < ks.length
    · refine Run.cond (b := true) (by simp [hlt]) ?_
      simp only [if_true]
      refine Run.skip (Run.seq (Run.block (Run.reg fun K hK => ?_)))
      have hg : ks[j]? = some ks[j] := List.getElem?_eq_getElem hlt
      have hs := sizes_take ks j _ hg
      have hs2 := sizes_take_le ks (j + 1)
      have hs3 := length_le_sizes ks
      simp [hg]
      refine hK _ _ _ ?_; clear hK K
      refine Run.call (args := [ks[j].av]) rfl rfl (by simp) rfl (ih ks[j] _ (by omega) (by omega) (hh.app (by simp))) ?_ ?_
      · rintro v h' ⟨hv, rfl⟩
        simp only [AOut.ret.injEq] at hv
        subst hv
        refine Run.ops fun K hK => ?_
        simp
        simp (disch := omega) only [wrap_id]
        refine hK _ _ _ (Run.opsNil (Run.inBlock ?_)); clear hK K
        refine Run.reg fun K hK => ?_
        simp
        simp (disch := omega) only [wrap_id]
        refine hK _ _ _ (Run.opsNil ?_); clear hK K
        refine IH (j + 1) _ _ (by omega) (by omega) ?_ rfl
        simp [hs]
        repeat' (first | exact WeakL.nil | apply WeakL.cons)
        all_goals first | exact Weak.junk _ | exact Weak.refl _ | exact Weak.int (by omega)
      · rintro v h' ⟨hv, _⟩; cases hv
    · have hje : j = ks.length := by omega
      subst hje
      refine Run.cond (b := false) (by simp) ?_
      simp only [Bool.false_eq_true, if_false]
      refine Run.exit rfl ?_
      refine Run.seq (Run.reg fun K hK => ?_)
      simp
      refine hK _ _ _ (Run.opsNil ?_); clear hK K
      refine Run.ret ?_
      exact Fin.ret hh rfl rfl rfl (Weak.refl _) rfl ⟨by simp, rfl⟩

end Go.Proofs.YtcfcolkbeelegaaGreat

/-
  The reference's walk: fail, variable, Below, shift.
-/

namespace Go.Proofs.YtcfcolkbeelegaaGreat

open Go Go.AI
abbrev wk (err nodes : Int) : Option AO := some (.cells [iA err, iA nodes])
def firstErr (err e : Int) : Int := if err = 0 then e else err
set_option maxRecDepth 4000 in
theorem fail_any (h : Heap) (hh : WF h) (id : Nat) (err nodes e : Int) (hid : h[id]? = some (wk err nodes)) :
    ACalls Tryz.prog 116 [.ptr id 0, iA e] h fun o h' => o = .ret (.tup []) ∧ h' = h.set id (wk (firstErr err e) nodes) := by
  refine ACalls.of_run Tryz.func116 rfl ?_
  simp only [Tryz.ntmps116, List.length_cons, List.length_nil]
  refine Run.seq (Run.reg fun K hK => ?_)
  simp [hid]
  refine hK _ _ _ (Run.opsNil ?_); clear hK K
  by_cases he : err = 0
  · refine Run.cond (b := true) (by simp [he]) ?_
    simp only [if_true]
    refine Run.reg fun K hK => ?_
    simp [hid]
    refine hK _ _ _ (Run.opsNil ?_); clear hK K
    refine Run.nil ?_
    exact Fin.ret' (by simp) (by simp) (hh.set (by simp)) (List.append_nil _).symm rfl rfl (Weak.refl _) rfl ⟨rfl, by simp [firstErr, he]⟩
  · refine Run.cond (b := false) (by simp [he]) ?_
    simp only [Bool.false_eq_true, if_false]
    refine Run.skip (Run.nil ?_)
    exact Fin.ret' (by simp) rfl hh (List.append_nil _).symm rfl rfl (Weak.refl _) rfl ⟨rfl, by simp [firstErr, he, set_same hid]⟩
def vr (i : Int) : Tm := .mk 0 i [] [] []
def belowZ (k i : Int) : Int := if (i = 1 ∧ (k = 5 ∨ k = 6 ∨ k = 7)) ∨ (i = 2 ∧ k = 11) then 1 else 0
set_option maxRecDepth 4000 in
theorem below_any (h : Heap) (hh : WF h) (k i : Int) : ACalls Tryz.prog 150 [iA k, iA i] h fun o h' => o = .ret (iA (belowZ k i)) ∧ h' = h := by
  refine ACalls.of_run Tryz.func150 rfl ?_
  simp only [Tryz.ntmps150, List.length_cons, List.length_nil]
  refine Run.seq (Run.reg fun K hK => ?_)
  simp
  refine hK _ _ _ (Run.opsNil ?_); clear hK K
  refine Run.seq (Run.seq (Run.reg fun K hK => ?_))
  have hcase : ((i == 1) = true ∧ (k == 5) = true) ∨ ((i == 1) = true ∧ (k == 5) = false ∧ (k == 6) = true) ∨ ((i == 1) = true ∧ (k == 5) = false ∧ (k == 6) = false ∧ (k == 7) = true) ∨
      ((i == 1) = true ∧ (k == 5) = false ∧ (k == 6) = false ∧ (k == 7) = false ∧ (i == 2) = false) ∨ ((i == 1) = false ∧ (i == 2) = true ∧ (k == 11) = true) ∨ ((i == 1) = false ∧ (i == 2) = true ∧ (k == 11) = false) ∨ ((i == 1) = false ∧ (i == 2) = false) := by
    simp; omega
  rcases hcase with ⟨e1, e2⟩ | ⟨e1, e2, e3⟩ | ⟨e1, e2, e3, e4⟩ | ⟨e1, e2, e3, e4, e5⟩ | ⟨e1, e2, e3⟩ | ⟨e1, e2, e3⟩ | ⟨e1, e2⟩
  all_goals
    simp [*, -hK]
    simp only [beq_iff_eq, beq_eq_false_iff_ne, ne_eq] at *
    refine hK _ _ _ (Run.opsNil ?_); clear hK K
    refine Run.cond rfl ?_
    first
    | (simp only [if_true]
       refine Run.seq (Run.reg fun K hK => ?_)
       simp
       refine hK _ _ _ (Run.opsNil ?_); clear hK K
       refine Run.ret ?_
       exact Fin.ret' (by simp) rfl hh (List.append_nil _).symm rfl rfl (Weak.refl _) rfl ⟨by simp [belowZ, *], rfl⟩)
    | (simp only [Bool.false_eq_true, if_false]
       refine Run.skip (Run.seq (Run.reg fun K hK => ?_))
       simp
       refine hK _ _ _ (Run.opsNil ?_); clear hK K
       refine Run.ret ?_
       exact Fin.ret' (by simp) rfl hh (List.append_nil _).symm rfl rfl (Weak.refl _) rfl ⟨by simp [belowZ, *], rfl⟩)

end Go.Proofs.YtcfcolkbeelegaaGreat

/-
  The reference's shift.
-/

namespace Go.Proofs.YtcfcolkbeelegaaGreat

open Go Go.AI

mutual
def Tm.idx : Tm → Prop
  | .mk k i _ _ ks => (k = 0 → -1099511627776 ≤ i ∧ i ≤ 1099511627776) ∧ Tm.idxs ks
def Tm.idxs : List Tm → Prop
  | [] => True
  | t :: ts => t.idx ∧ Tm.idxs ts
end
theorem tmPs_snoc (l : List Tm) (t : Tm) : tmPs (l ++ [t]) = tmPs l ++ [t.cells] := by simp [tmPs_eq]

end Go.Proofs.YtcfcolkbeelegaaGreat
