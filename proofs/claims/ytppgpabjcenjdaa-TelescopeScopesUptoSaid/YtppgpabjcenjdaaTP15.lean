/-
  Shifting by two numbers, back, and as a renaming; what is free in what is shifted.
-/
import Derived.Test.YtppgpabjcenjdaaTP1
import Derived.Test.YtppgpabjcenjdaaTP12
import Derived.Test.YtppgpabjcenjdaaTN1
namespace Go.Proofs.Ytppgpabjcenjdaa

open Go Go.AI

mutual
theorem frees_shift {n : Int} (hn : 0 ≤ n) : ∀ (t : Tm) (d m : Int), t.ok m → frees d (shiftT n 0 d t) = (frees d t).map (· + n)
  | .mk k i nm ls ks, d, m, h => by
    simp only [Tm.ok, Tm.okN] at h
    simp only [shiftT]
    by_cases hk : k = 0
    · obtain ⟨_, _, rfl, rfl, rfl⟩ := h.1.1 hk
      subst hk
      rw [if_pos rfl]
      by_cases hi : i < d
      · rw [if_pos (.inl (by omega))]
        have h1 : ¬ d ≤ i := by omega
        simp [frees, freesL, h1]
      · rw [if_neg (by omega)]
        have h1 : d ≤ i := by omega
        have h2 : d ≤ i + n := by omega
        simp [vr, frees, freesL, h1, h2]
        omega
    · rw [if_neg hk]
      simp only [frees, hk, false_and, if_false, List.nil_append]
      exact freesL_shift hn ks k d m 0 h.2
theorem freesL_shift {n : Int} (hn : 0 ≤ n) : ∀ (l : List Tm) (k d m : Int) (idx : Nat), Tm.oks m k idx l → freesL k d idx (shiftL n 0 d k idx l) = (freesL k d idx l).map (· + n)
  | [], _, _, _, _, _ => by simp only [shiftL, freesL, List.map_nil]
  | t :: ts, k, d, m, idx, h => by
    simp only [Tm.oks] at h
    simp only [shiftL, freesL, List.map_append]
    rw [frees_shift hn t _ _ h.1, freesL_shift hn ts k d m (idx + 1) h.2]
end

mutual
theorem frees_ok : ∀ (t : Tm) (d m : Int), t.ok m → ∀ x ∈ frees d t, x < m - d
  | .mk k i nm ls ks, d, m, h, x, hx => by
    simp only [Tm.ok, Tm.okN] at h
    simp only [frees, List.mem_append] at hx
    rcases hx with hx | hx
    · split at hx
      · rename_i hc
        simp only [List.mem_singleton] at hx
        have := h.1.1 hc.1
        omega
      · cases hx
    · exact freesL_ok ks k d m 0 h.2 x hx
theorem freesL_ok : ∀ (l : List Tm) (k d m : Int) (idx : Nat), Tm.oks m k idx l → ∀ x ∈ freesL k d idx l, x < m - d
  | [], _, _, _, _, _, x, hx => by simp [freesL] at hx
  | t :: ts, k, d, m, idx, h, x, hx => by
    simp only [Tm.oks] at h
    simp only [freesL, List.mem_append] at hx
    rcases hx with hx | hx
    · have := frees_ok t _ _ h.1 x hx; omega
    · exact freesL_ok ts k d m (idx + 1) h.2 x hx
end

end Go.Proofs.Ytppgpabjcenjdaa
