/-
  Shifting by two numbers, back, and as a renaming; what is free in what is shifted.
-/
import Derived.Test.YtppgpabjcenjdaaUP1
import Derived.Test.YtppgpabjcenjdaaUP12
import Derived.Test.YtppgpabjcenjdaaUN1
namespace Go.Proofs.Ytppgpabjcenjdaa

open Go Go.AI

mutual
theorem shift_add {n m fr : Int} (hn : 0 ≤ n) (hm : 0 ≤ m) : ∀ (t : Tm) (d : Int), shiftT m fr d (shiftT n fr d t) = shiftT (n + m) fr d t
  | .mk k i nm ls ks, d => by
    simp only [shiftT]
    by_cases hk : k = 0
    · rw [if_pos hk, if_pos hk]
      by_cases hi : i < fr + d
      · rw [if_pos (.inl hi), if_pos (.inl hi)]
        simp only [shiftT]
        rw [if_pos hk, if_pos (.inl hi)]
      · rw [if_neg (by omega), if_neg (by omega)]
        simp only [vr, shiftT]
        rw [if_pos trivial, if_neg (by omega), show i + n + m = i + (n + m) by omega]
    · rw [if_neg hk, if_neg hk]
      simp only [shiftT]
      rw [if_neg hk, shiftL_add hn hm ks k d 0]
theorem shiftL_add {n m fr : Int} (hn : 0 ≤ n) (hm : 0 ≤ m) : ∀ (l : List Tm) (k d : Int) (idx : Nat), shiftL m fr d k idx (shiftL n fr d k idx l) = shiftL (n + m) fr d k idx l
  | [], _, _, _ => by simp only [shiftL]
  | t :: ts, k, d, idx => by simp only [shiftL]; rw [shift_add hn hm t, shiftL_add hn hm ts k d (idx + 1)]
end

mutual
theorem shift_undo {n fr : Int} (hn : 0 ≤ n) : ∀ (t : Tm) (d m : Int), t.ok m → shiftT (-n) fr d (shiftT n fr d t) = t
  | .mk k i nm ls ks, d, m, h => by
    simp only [Tm.ok, Tm.okN] at h
    simp only [shiftT]
    by_cases hk : k = 0
    · obtain ⟨_, _, rfl, rfl, rfl⟩ := h.1.1 hk
      subst hk
      rw [if_pos rfl]
      by_cases hi : i < fr + d
      · rw [if_pos (.inl hi)]
        simp only [shiftT]
        rw [if_pos trivial, if_pos (.inl hi)]
      · rw [if_neg (by omega)]
        simp only [vr, shiftT]
        rw [if_pos trivial, if_neg (by omega), show i + n + -n = i by omega]
    · rw [if_neg hk]
      simp only [shiftT]
      rw [if_neg hk, shiftL_undo hn ks k d m 0 h.2]
theorem shiftL_undo {n fr : Int} (hn : 0 ≤ n) : ∀ (l : List Tm) (k d m : Int) (idx : Nat), Tm.oks m k idx l → shiftL (-n) fr d k idx (shiftL n fr d k idx l) = l
  | [], _, _, _, _, _ => by simp only [shiftL]
  | t :: ts, k, d, m, idx, h => by
    simp only [Tm.oks] at h
    simp only [shiftL]
    rw [shift_undo hn t _ _ h.1, shiftL_undo hn ts k d m (idx + 1) h.2]
end

mutual
theorem bad_add {n m fr : Int} (hn : 0 ≤ n) (hm : 0 ≤ m) : ∀ (t : Tm) (d : Int), shiftBad m fr d (shiftT n fr d t) = shiftBad (n + m) fr d t
  | .mk k i nm ls ks, d => by
    simp only [shiftT, shiftBad]
    by_cases hk : k = 0
    · rw [if_pos hk, if_pos hk]
      by_cases hi : i < fr + d
      · rw [if_pos (.inl hi)]
        simp only [shiftBad]
        rw [if_pos hk]
        simp [hi]
      · rw [if_neg (by omega)]
        simp only [vr, shiftBad]
        rw [if_pos trivial]
        have h1 : ¬ i + n < fr + d := by omega
        have h2 : i + n + m = i + (n + m) := by omega
        simp [hi, h1, h2]
    · rw [if_neg hk, if_neg hk]
      simp only [shiftBad]
      rw [if_neg hk, bads_add hn hm ks k d 0]
theorem bads_add {n m fr : Int} (hn : 0 ≤ n) (hm : 0 ≤ m) : ∀ (l : List Tm) (k d : Int) (idx : Nat), shiftBads m fr d k idx (shiftL n fr d k idx l) = shiftBads (n + m) fr d k idx l
  | [], _, _, _ => by simp only [shiftL, shiftBads]
  | t :: ts, k, d, idx => by simp only [shiftL, shiftBads]; rw [bad_add hn hm t, bads_add hn hm ts k d (idx + 1)]
end

mutual
theorem bad_mono {n m fr : Int} (hn : 0 ≤ n) (hm : n ≤ m) : ∀ (t : Tm) (d : Int), shiftBad n fr d t = true → shiftBad m fr d t = true
  | .mk k i nm ls ks, d, h => by
    simp only [shiftBad] at h ⊢
    by_cases hk : k = 0
    · rw [if_pos hk] at h ⊢
      simp at h ⊢
      omega
    · rw [if_neg hk] at h ⊢
      exact bads_mono hn hm ks k d 0 h
theorem bads_mono {n m fr : Int} (hn : 0 ≤ n) (hm : n ≤ m) : ∀ (l : List Tm) (k d : Int) (idx : Nat), shiftBads n fr d k idx l = true → shiftBads m fr d k idx l = true
  | [], _, _, _, h => by simp [shiftBads] at h
  | t :: ts, k, d, idx, h => by
    simp only [shiftBads, Bool.or_eq_true] at h ⊢
    rcases h with h | h
    · exact .inl (bad_mono hn hm t _ h)
    · exact .inr (bads_mono hn hm ts k d (idx + 1) h)
end

mutual
theorem bad_undo {n fr : Int} (hn : 0 ≤ n) : ∀ (t : Tm) (d : Int), shiftBad n fr d t = false → shiftBad (-n) fr d (shiftT n fr d t) = false
  | .mk k i nm ls ks, d, h => by
    simp only [shiftT, shiftBad] at h ⊢
    by_cases hk : k = 0
    · rw [if_pos hk] at h ⊢
      by_cases hi : i < fr + d
      · rw [if_pos (.inl hi)]
        simp only [shiftBad]
        rw [if_pos hk]
        simp [hi]
      · rw [if_neg (by omega)]
        simp only [vr, shiftBad]
        rw [if_pos trivial]
        simp [hi] at h
        have h1 : ¬ i + n < fr + d := by omega
        have h2 : ¬ i + n + -n < fr + d := by omega
        have h3 : ¬ 65535 < i + n + -n := by omega
        simp [h1, h2, h3]
    · rw [if_neg hk] at h ⊢
      simp only [shiftBad]
      rw [if_neg hk]
      exact bads_undo hn ks k d 0 h
theorem bads_undo {n fr : Int} (hn : 0 ≤ n) : ∀ (l : List Tm) (k d : Int) (idx : Nat), shiftBads n fr d k idx l = false → shiftBads (-n) fr d k idx (shiftL n fr d k idx l) = false
  | [], _, _, _, _ => by simp only [shiftL, shiftBads]
  | t :: ts, k, d, idx, h => by
    simp only [shiftL, shiftBads, Bool.or_eq_false_iff] at h ⊢
    exact ⟨bad_undo hn t _ h.1, bads_undo hn ts k d (idx + 1) h.2⟩
end

/-- The numbers that are moved as Shift does. -/
def toZ (n fr : Int) (N : Nat) : List Int := (List.range N).map fun j : Nat => if fr ≤ (j : Int) then (j : Int) + n else j

theorem toZ_get (n fr : Int) (N j : Nat) (h : j < N) : (toZ n fr N)[j]? = some (if fr ≤ (j : Int) then (j : Int) + n else j) := by simp [toZ, h]

theorem toZ_snoc (n fr : Int) (N : Nat) : toZ n fr (N + 1) = toZ n fr N ++ [if fr ≤ (N : Int) then (N : Int) + n else N] := by simp [toZ, List.range_succ]

theorem toZ_length (n fr : Int) (N : Nat) : (toZ n fr N).length = N := by simp [toZ]

mutual
theorem ren_shift {n fr : Int} (hf0 : 0 ≤ fr) (hn : 0 ≤ n ∧ n ≤ 255) : ∀ (t : Tm) (d m : Int), t.ok m → 0 ≤ d → d + t.size ≤ 8192 → (∀ x ∈ frees d t, x < 300) → renT (toZ n fr 300) d t = shiftT n fr d t ∧ renBad (toZ n fr 300) d t = false
  | .mk k i nm ls ks, d, m, h, h0, h1, hf => by
    simp only [Tm.ok, Tm.okN] at h
    simp only [frees] at hf
    simp only [Tm.size] at h1
    simp only [renT, renBad, shiftT]
    by_cases hk : k = 0
    · obtain ⟨_, _, rfl, rfl, rfl⟩ := h.1.1 hk
      subst hk
      simp only [if_true]
      by_cases hi : i < d
      · rw [if_pos hi, if_pos hi]
        refine ⟨?_, rfl⟩
        by_cases hi2 : i < fr + d
        · rw [if_pos (.inl hi2)]
        · omega
      · have hlt : i - d < 300 := hf _ (by simp; omega)
        have hg := toZ_get n fr 300 (i - d).toNat (by omega)
        rw [if_neg hi, if_neg hi, hg]
        simp only
        rw [show (((i - d).toNat : Nat) : Int) = i - d by omega]
        by_cases hfr : fr ≤ i - d
        · rw [if_pos hfr, if_neg (by omega), if_neg (by omega)]
          refine ⟨by congr 1; omega, by simp; omega⟩
        · rw [if_neg hfr, if_neg (by omega), if_pos (.inl (by omega))]
          refine ⟨by simp only [vr]; congr 1; omega, by simp; omega⟩
    · rw [if_neg hk, if_neg hk, if_neg hk]
      have := ren_shiftL hf0 hn ks k d m 0 h.2 h0 (by omega) (fun x hx => hf x (List.mem_append_right _ hx))
      exact ⟨by rw [this.1], this.2⟩
theorem ren_shiftL {n fr : Int} (hf0 : 0 ≤ fr) (hn : 0 ≤ n ∧ n ≤ 255) : ∀ (l : List Tm) (k d m : Int) (idx : Nat), Tm.oks m k idx l → 0 ≤ d → d + 1 + Tm.sizes l ≤ 8192 → (∀ x ∈ freesL k d idx l, x < 300) → renL (toZ n fr 300) d k idx l = shiftL n fr d k idx l ∧ renBads (toZ n fr 300) d k idx l = false
  | [], _, _, _, _, _, _, _, _ => by simp only [renL, shiftL, renBads, and_self]
  | t :: ts, k, d, m, idx, h, h0, h1, hf => by
    simp only [Tm.oks] at h
    simp only [Tm.sizes] at h1
    simp only [freesL] at hf
    have hb := belowZ_01' k idx
    have a := ren_shift hf0 hn t (d + belowZ k idx) _ h.1 (by omega) (by omega) (fun x hx => hf x (List.mem_append_left _ hx))
    have b := ren_shiftL hf0 hn ts k d m (idx + 1) h.2 h0 (by omega) (fun x hx => hf x (List.mem_append_right _ hx))
    simp only [renL, shiftL, renBads]
    rw [a.1, b.1, a.2, b.2]
    exact ⟨rfl, rfl⟩
end

end Go.Proofs.Ytppgpabjcenjdaa
