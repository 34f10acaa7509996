/-
  Free variables: how many, where.
-/
import Derived.Test.YtppgpabjcenjdaaTP9
namespace Go.Proofs.Ytppgpabjcenjdaa

open Go Go.AI

theorem freesL_mem (k d : Int) (x : Int) : ∀ (l : List Tm) (idx j : Nat) (hj : j < l.length), x ∈ frees (d + belowZ k (idx + j : Nat)) l[j] → x ∈ freesL k d idx l
  | [], _, _, hj, _ => by simp at hj
  | t :: ts, idx, 0, _, h => by simp only [freesL]; exact List.mem_append_left _ (by simpa using h)
  | t :: ts, idx, j + 1, hj, h => by
    simp only [freesL]
    refine List.mem_append_right _ (freesL_mem k d x ts (idx + 1) j (by simpa using hj) ?_)
    rw [show idx + 1 + j = idx + (j + 1) by omega]
    simpa using h

mutual
theorem frees_len : ∀ (t : Tm) (d : Int), (frees d t).length ≤ t.size
  | .mk k i _ _ ks, d => by
    simp only [frees, Tm.size, List.length_append]
    have := freesL_len ks k d 0
    split <;> simp <;> omega
theorem freesL_len : ∀ (l : List Tm) (k d : Int) (idx : Nat), (freesL k d idx l).length ≤ Tm.sizes l
  | [], _, _, _ => by simp [freesL, Tm.sizes]
  | t :: ts, k, d, idx => by
    simp only [freesL, Tm.sizes, List.length_append]
    have := frees_len t (d + belowZ k idx)
    have := freesL_len ts k d (idx + 1)
    omega
end

theorem nodup_len {α : Type} [DecidableEq α] : ∀ {l F : List α}, l.Nodup → (∀ x ∈ l, x ∈ F) → l.length ≤ F.length
  | [], _, _, _ => by simp
  | x :: l, F, hn, hs => by
    obtain ⟨h1, h2⟩ := List.nodup_cons.1 hn
    have hx : x ∈ F := hs x (by simp)
    have := nodup_len (l := l) (F := F.erase x) h2 fun y hy => (List.mem_erase_of_ne (by rintro rfl; exact h1 hy)).2 (hs y (by simp [hy]))
    rw [List.length_erase_of_mem hx] at this
    have : 0 < F.length := List.length_pos_of_mem hx
    simp only [List.length_cons]
    omega

/-- What holds of a node while the free variables are looked for. -/
def PreF (F : List Int) (t : Tm) (d : Int) : Prop := t.fit ∧ 0 ≤ d ∧ d + t.size ≤ 1099511627776 ∧ ∀ x ∈ frees d t, x ∈ F

theorem preF_kid (F : List Int) : ∀ k i n ls ks d, PreF F (.mk k i n ls ks) d → ∀ (j : Nat) (hj : j < ks.length), PreF F ks[j] (d + belowZ k j) := by
  intro k i n ls ks d h j hj
  obtain ⟨h1, h2, h3, h4⟩ := h
  simp only [Tm.fit] at h1
  simp only [Tm.size] at h3
  have hs := kid_size hj
  have hb := belowZ_01' k j
  refine ⟨Tm.fits_at h1.2.2.2.2 _ (List.getElem_mem hj), by omega, by omega, fun x hx => h4 x ?_⟩
  simp only [frees]
  exact List.mem_append_right _ (freesL_mem k d x ks 0 j hj (by simpa using hx))

/-- What is noted so far. -/
def LvF (F : List Int) (l : List Int) : Prop := l.Nodup ∧ ∀ x ∈ l, x ∈ F

theorem lvF_st (F : List Int) : ∀ s d u, LvF F s → PreF F u d → (stFree s d u).2 = true → LvF F (stFree s d u).1 := by
  rintro s d ⟨k, i, n, ls, ks⟩ ⟨h1, h2⟩ ⟨p1, p2, p3, p4⟩ -
  show LvF F (if (k == 0 && decide (d ≤ i)) = true then app1 s (IntKind.i64.wrap (i - d)) else s)
  by_cases hc : (k == 0 && decide (d ≤ i)) = true
  · rw [if_pos hc]
    simp only [Tm.fit] at p1
    simp only [Bool.and_eq_true, beq_iff_eq, decide_eq_true_eq] at hc
    rw [wrap_id (n := i - d) (by omega) (by omega)]
    refine ⟨nodup_app1 _ h1, fun x hx => ?_⟩
    rcases (mem_app1 _ _ _).1 hx with hx | rfl
    · exact h2 x hx
    · exact p4 _ (by simp [frees, hc])
  · rw [if_neg hc]
    exact ⟨h1, h2⟩

end Go.Proofs.Ytppgpabjcenjdaa
