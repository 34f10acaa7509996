/-
  Joined: C1 C2 C3 C4 C5.
-/
import Derived.Test.YtppgpabjcenjdaaLA
import Derived.Test.YtppgpabjcenjdaaLFD
/-
  subst: stop, moved, plain, binds.
-/

namespace Go.Proofs.Ytppgpabjcenjdaa

open Go Go.AI

/-- A node without its kids. -/
def Tm.bare : Tm → Tm
  | .mk k i n ls _ => .mk k i n ls []

/-- How many variables the levels have, and how many levels there are. -/
def lvBound (ls : List Lv) : Prop := ls.length ≤ 1048576 ∧ ∀ l ∈ ls, l.vars.length ≤ 1048576

end Go.Proofs.Ytppgpabjcenjdaa

/-
  subst: build, over any visit.
-/

namespace Go.Proofs.Ytppgpabjcenjdaa

open Go Go.AI

/-- What a visit comes to: a term that is done, a node whose kids are still to be built, an error; and the state behind it. -/
inductive VO where
  | done (t : Tm) (s : Int)
  | go (t : Tm) (s : Int)
  | bad (e s : Int)

inductive BO (α : Type) where
  | ok (x : α) (s : Int)
  | bad (e s : Int)

abbrev z5 : List PV := [iP 0, iP 0, sP [], .prim (.slice none 0 0), .prim (.slice none 0 0)]

theorem belowZ_01' (k i : Int) : 0 ≤ belowZ k i ∧ belowZ k i ≤ 1 := by unfold belowZ; split <;> omega

end Go.Proofs.Ytppgpabjcenjdaa

/-
  subst: caught, and what Shift defers.
-/

namespace Go.Proofs.Ytppgpabjcenjdaa

open Go Go.AI

end Go.Proofs.Ytppgpabjcenjdaa

/-
  subst: variables, shifted, Shift.
-/

namespace Go.AI

open Go

/-- The end of a body that keeps some of its own names. -/
theorem Fin.retM {P : Program} {fn : Func} {R : AOut → Heap → Prop} {T : List AV} {h h0 : Heap} {n : Nat} {l : List (Option AO)} {x y : AV} {xs : List AV} {ax : AX} (hax : (∀ v, ax ≠ .panic v) ∧ ∀ i, ax ≠ .exit i) (hn : n ≤ h0.length) (hh : WF h0) (e : h = h0 ++ l) (hr : aresults P T h fn.results.toList = some xs) (hx : atuple xs = x) (hw : Weak x y) (hy : y.under h0.length = true) (hR : R (.ret y) h0) :
    Fin P fn n R ax T h [] := by
  subst e hx
  have : ∃ l' y' h' m, aresults P T (h0 ++ l) fn.results.toList = some l' ∧ Settles (atuple l') (h0 ++ l) y' h' ∧ n ≤ m ∧ m ≤ h'.length ∧ y'.under m = true ∧ (h'.take m).all (AO.under m) = true ∧ R (.ret y') (h'.take m) := by
    refine ⟨xs, y, h0 ++ l, h0.length, hr, Settles.weak hw _, hn, by simp, hy, ?_, ?_⟩
    · rw [take_last]; exact hh
    · rw [take_last]; exact hR
  cases ax with
  | panic v => exact absurd rfl (hax.1 v)
  | exit i => exact absurd rfl (hax.2 i)
  | normal => exact ⟨rfl, this⟩
  | ret => exact ⟨rfl, this⟩

end Go.AI

namespace Go.Proofs.Ytppgpabjcenjdaa

open Go Go.AI

/-- A term of the right form, its variables below m. -/
def Tm.okN (m : Int) (k i : Int) (n : List UInt8) (ls : List Lv) (ks : List Tm) : Prop :=
  (k = 0 → 0 ≤ i ∧ i < m ∧ n = [] ∧ ls = [] ∧ ks = []) ∧ ls.length ≤ 8 ∧ (∀ l ∈ ls, l.vars.length ≤ 1048576) ∧ ks.length ≤ 3

mutual
def Tm.ok (m : Int) : Tm → Prop
  | .mk k i n ls ks => Tm.okN m k i n ls ks ∧ Tm.oks m k 0 ks
def Tm.oks (m k : Int) (idx : Nat) : List Tm → Prop
  | [] => True
  | t :: ts => t.ok (m + belowZ k idx) ∧ Tm.oks m k (idx + 1) ts
end

theorem Tm.oks_at {m k : Int} : ∀ {l : List Tm} {idx : Nat}, Tm.oks m k idx l → ∀ (j : Nat) (hj : j < l.length), l[j].ok (m + belowZ k (idx + j : Nat))
  | [], _, _, j, hj => by simp at hj
  | x :: l, idx, h, j, hj => by
    simp only [Tm.oks] at h
    cases j with
    | zero => simpa using h.1
    | succ j =>
      have := Tm.oks_at h.2 j (by simpa using hj)
      simp only [List.getElem_cons_succ]
      rw [show idx + (j + 1) = idx + 1 + j by omega]; exact this

theorem kid_size {l : List Tm} {j : Nat} (hj : j < l.length) : l[j].size ≤ Tm.sizes l := by
  have h1 := sizes_take l j _ (List.getElem?_eq_getElem hj)
  have h2 := sizes_take_le l (j + 1)
  omega

/-- A node that is met at a depth. -/
def Dom (m0 : Int) (t : Tm) (d : Int) : Prop := t.ok (m0 + d) ∧ 0 ≤ d ∧ d + t.size ≤ 1099511627776

theorem Dom.one {m0 : Int} : ∀ k i n ls ks d, Dom m0 (.mk k i n ls ks) d → ks.length ≤ 1048576 ∧ 0 ≤ d ∧ d ≤ 1099511627776 := by
  intro k i n ls ks d ⟨h1, h2, h3⟩
  simp only [Tm.ok, Tm.okN] at h1
  simp only [Tm.size] at h3
  exact ⟨by omega, h2, by omega⟩

theorem Dom.two {m0 : Int} : ∀ k i n ls ks d, Dom m0 (.mk k i n ls ks) d → ∀ (j : Nat) (hj : j < ks.length), Dom m0 ks[j] (d + belowZ k j) := by
  intro k i n ls ks d ⟨h1, h2, h3⟩ j hj
  have h4 := Tm.oks_at h1.2 j hj
  have h5 := belowZ_01' k j
  have h6 := kid_size hj
  simp only [Tm.size] at h3
  refine ⟨?_, by omega, by omega⟩
  rw [show m0 + (d + belowZ k j) = m0 + d + belowZ k (0 + j : Nat) by simp; omega]; exact h4

theorem Dom.lv {m0 : Int} {t : Tm} {d : Int} (h : Dom m0 t d) : lvBound t.levels := by
  obtain ⟨k, i, n, ls, ks⟩ := t
  have := h.1.1
  simp only [Tm.okN] at this
  exact ⟨by simp only [Tm.levels]; omega, by simpa only [Tm.levels] using this.2.2.1⟩

end Go.Proofs.Ytppgpabjcenjdaa

/-
  subst: shifted, Shift; the reference's Shift.
-/

namespace Go.Proofs.Ytppgpabjcenjdaa

open Go Go.AI

end Go.Proofs.Ytppgpabjcenjdaa
