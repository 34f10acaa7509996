/-
  The plain law of substitution: the reference's walk, its result told plainly, and that the program's building comes to the same.
-/
import Derived.Test.YtppgpabjcenjdaaUG1
import Derived.Test.YtppgpabjcenjdaaUE10
namespace Go.Proofs.Ytppgpabjcenjdaa

open Go Go.AI

/- What comes out is small and in order. -/

mutual
theorem shiftT_size (d f : Int) : ∀ (t : Tm) (dp m : Int), t.ok m → (shiftT d f dp t).size = t.size
  | .mk k i n ls ks, dp, m, h => by
    simp only [Tm.ok, Tm.okN] at h
    simp only [shiftT]
    by_cases hk : k = 0
    · obtain ⟨_, _, rfl, rfl, rfl⟩ := h.1.1 hk
      simp only [hk, if_true]
      split
      · rfl
      · rfl
    · simp only [hk, if_false, Tm.size]
      rw [shiftL_size d f ks dp k m 0 h.2]
theorem shiftL_size (d f : Int) : ∀ (l : List Tm) (dp k m : Int) (idx : Nat), Tm.oks m k idx l → Tm.sizes (shiftL d f dp k idx l) = Tm.sizes l
  | [], dp, k, m, idx, _ => rfl
  | t :: ts, dp, k, m, idx, h => by
    simp only [Tm.oks] at h
    simp only [shiftL, Tm.sizes]
    rw [shiftT_size d f t _ _ h.1, shiftL_size d f ts dp k m (idx + 1) h.2]
end

mutual
/-- What is shifted without an error is in order. -/
theorem shiftT_ok (d f : Int) (hf : 0 ≤ f) : ∀ (t : Tm) (dp M m : Int), t.ok m → 65536 + dp ≤ M → m ≤ M → 0 ≤ dp → shiftBad d f dp t = false → (shiftT d f dp t).ok M
  | .mk k i n ls ks, dp, M, m, h, hM, hm, hdp, hb => by
    simp only [Tm.ok, Tm.okN] at h
    simp only [shiftT]
    simp only [shiftBad] at hb
    by_cases hk : k = 0
    · obtain ⟨h1, h2, rfl, rfl, rfl⟩ := h.1.1 hk
      simp only [hk, if_true] at hb ⊢
      by_cases hc : i < f + dp ∨ i + d < f + dp
      · rw [if_pos hc]
        simp only [Tm.ok, Tm.okN, Tm.oks]
        exact ⟨⟨fun _ => ⟨h1, by omega, trivial, trivial, trivial⟩, by simp, by simp, by simp⟩, trivial⟩
      · rw [if_neg hc]
        simp only [vr, Tm.ok, Tm.okN, Tm.oks]
        simp at hb
        exact ⟨⟨fun _ => ⟨by omega, by omega, trivial, trivial, trivial⟩, by simp, by simp, by simp⟩, trivial⟩
    · simp only [hk, if_false] at hb ⊢
      simp only [Tm.ok, Tm.okN]
      have hl : (shiftL d f dp k 0 ks).length = ks.length := shiftL_length d f dp k ks 0
      exact ⟨⟨fun h0 => absurd h0 hk, h.1.2.1, h.1.2.2.1, by rw [hl]; exact h.1.2.2.2⟩, shiftL_ok d f hf ks dp M m k 0 h.2 hM hm hdp hb⟩
theorem shiftL_ok (d f : Int) (hf : 0 ≤ f) : ∀ (l : List Tm) (dp M m k : Int) (idx : Nat), Tm.oks m k idx l → 65536 + dp ≤ M → m ≤ M → 0 ≤ dp → shiftBads d f dp k idx l = false → Tm.oks M k idx (shiftL d f dp k idx l)
  | [], dp, M, m, k, idx, _, _, _, _, _ => trivial
  | t :: ts, dp, M, m, k, idx, h, hM, hm, hdp, hb => by
    simp only [Tm.oks] at h
    simp only [shiftBads, Bool.or_eq_false_iff] at hb
    have hz := belowZ_01' k idx
    simp only [shiftL, Tm.oks]
    exact ⟨shiftT_ok d f hf t _ _ _ h.1 (by omega) (by omega) (by omega) hb.1, shiftL_ok d f hf ts dp M m k (idx + 1) h.2 hM hm hdp hb.2⟩
end

theorem zT_ok (m : Int) (hm : 0 < m) : zT.ok m := by
  simp only [zT, Tm.ok, Tm.okN, Tm.oks]
  exact ⟨⟨fun _ => ⟨by omega, by omega, trivial, trivial, trivial⟩, by simp, by simp, by simp⟩, trivial⟩

end Go.Proofs.Ytppgpabjcenjdaa
