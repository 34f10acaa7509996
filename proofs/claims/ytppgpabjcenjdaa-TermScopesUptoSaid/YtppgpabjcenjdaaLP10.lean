/-
  What Check accepts: kids, greater scopes, the least scope.
-/
import Derived.Test.YtppgpabjcenjdaaLP9
namespace Go.Proofs.Ytppgpabjcenjdaa

open Go Go.AI

theorem firstE_zero : ∀ {l : List Int}, firstE l = 0 ↔ ∀ e ∈ l, e = 0
  | [] => by simp [firstE]
  | e :: l => by
    simp only [firstE, List.mem_cons, forall_eq_or_imp]
    by_cases h : e = 0
    · simp [h, firstE_zero (l := l)]
    · simp [h]

theorem headZ_zero (d v p m l k i : Int) (n : List UInt8) (ls : List Lv) : headZ d v p m l k i n ls = 0 ↔
    ¬ (k = 3 ∧ nameB n = false) ∧ ¬ 8 < ls.length ∧ (∀ x ∈ ls, levelZ p l x = 0) ∧ ¬ (k = 0 ∧ (i < 0 ∨ v ≤ i - d)) ∧ ¬ (k = 12 ∧ (i < 0 ∨ m ≤ i)) := by
  have hf : firstE (ls.map (levelZ p l)) = 0 ↔ ∀ x ∈ ls, levelZ p l x = 0 := by rw [firstE_zero]; simp
  unfold headZ
  by_cases h1 : k = 3 ∧ nameB n = false
  · simp [h1]
  · by_cases h2 : 8 < ls.length
    · simp [h1, h2]
    · by_cases h3 : firstE (ls.map (levelZ p l)) = 0
      · by_cases h4 : k = 0 ∧ (i < 0 ∨ v ≤ i - d)
        · simp only [h2, h3, h4]; simp
        · by_cases h5 : k = 12 ∧ (i < 0 ∨ m ≤ i)
          · simp only [h2, h3, h5]; simp
          · rw [if_neg h1, if_neg h2, if_neg (by simp [h3]), if_neg h4, if_neg h5]
            exact ⟨fun _ => ⟨h1, h2, hf.1 h3, h4, h5⟩, fun _ => rfl⟩
      · rw [if_neg h1, if_neg h2, if_pos h3]
        exact ⟨fun h => absurd h h3, fun h => absurd (hf.2 h.2.2.1) h3⟩

theorem chk_zero (v p m l d k i : Int) (n : List UInt8) (ls : List Lv) (ks : List Tm) : chk v p m l d (.mk k i n ls ks) = 0 ↔ formB (.mk k i n ls ks) = true ∧ headZ d v p m l k i n ls = 0 ∧ firstE (chkL v p m l k d 0 ks) = 0 := by
  simp only [chk]
  by_cases h1 : formB (.mk k i n ls ks) = true
  · by_cases h2 : headZ d v p m l k i n ls = 0
    · simp [h1, h2]
    · simp [h1, h2]
  · simp [h1]

theorem chkL_zero (v p m l k d : Int) : ∀ (ks : List Tm) (idx : Nat), firstE (chkL v p m l k d idx ks) = 0 ↔ ∀ (j : Nat) (hj : j < ks.length), chk v p m l (d + belowZ k (idx + j : Nat)) ks[j] = 0
  | [], idx => by simp [chkL, firstE]
  | t :: ts, idx => by
    simp only [chkL, firstE]
    by_cases h : chk v p m l (d + belowZ k idx) t = 0
    · simp only [h, if_true]
      rw [chkL_zero v p m l k d ts (idx + 1)]
      constructor
      · intro hh j hj
        cases j with
        | zero => simpa using h
        | succ j =>
          have := hh j (by simpa using hj)
          rw [show idx + (j + 1) = idx + 1 + j by omega]
          simpa using this
      · intro hh j hj
        have := hh (j + 1) (by simpa using hj)
        rw [show idx + (j + 1) = idx + 1 + j by omega] at this
        simpa using this
    · simp only [h, if_false, false_iff]
      intro hh
      exact h (hh 0 (Nat.zero_lt_succ _))

mutual
theorem chk_shift (v p m l b : Int) : ∀ (t : Tm) (d : Int), chk v p m l (d + b) t = chk (v + b) p m l d t
  | .mk k i n ls ks, d => by
    have e : headZ (d + b) v p m l k i n ls = headZ d (v + b) p m l k i n ls := by
      have : (v ≤ i - (d + b)) ↔ (v + b ≤ i - d) := by omega
      simp only [headZ, this]
    simp only [chk, e, chkL_shift v p m l b ks k d 0]
theorem chkL_shift (v p m l b : Int) : ∀ (ks : List Tm) (k d : Int) (idx : Nat), chkL v p m l k (d + b) idx ks = chkL (v + b) p m l k d idx ks
  | [], _, _, _ => by simp only [chkL]
  | t :: ts, k, d, idx => by
    simp only [chkL]
    rw [show d + b + belowZ k idx = d + belowZ k idx + b by omega, chk_shift v p m l b t, chkL_shift v p m l b ts k d (idx + 1)]
end

theorem depths_at {t : Tm} : ∀ {l : List Tm}, t ∈ l → t.depth ≤ Tm.depths l
  | [], h => by cases h
  | x :: l, h => by
    simp only [Tm.depths]
    rcases List.mem_cons.1 h with rfl | h
    · omega
    · have := depths_at h; omega

/-- The kids of an accepted term are accepted. -/
theorem check_kid {v p m l k i : Int} {n : List UInt8} {ls : List Lv} {ks : List Tm} (h : checkZ v p m l (.mk k i n ls ks) = 0) (j : Nat) (hj : j < ks.length) : checkZ (pos0 v + belowZ k j) p m l ks[j] = 0 := by
  have hz : chk (pos0 v) p m l 0 (.mk k i n ls ks) = 0 ∧ ¬ 4096 < ((Tm.mk k i n ls ks).size : Int) ∧ ¬ 200 < ((Tm.mk k i n ls ks).depth : Int) := by
    unfold checkZ at h
    have e : (if v < 0 then 0 else v) = pos0 v := rfl
    rw [e] at h
    by_cases h1 : chk (pos0 v) p m l 0 (.mk k i n ls ks) = 0
    · simp only [h1, ne_eq, not_true_eq_false, if_false] at h
      split at h
      · cases h
      · split at h
        · cases h
        · exact ⟨h1, by assumption, by assumption⟩
    · simp [h1] at h
  obtain ⟨h1, h2, h3⟩ := hz
  have hk := (chkL_zero _ _ _ _ _ _ _ _).1 ((chk_zero _ _ _ _ _ _ _ _ _ _).1 h1).2.2 j hj
  rw [Nat.zero_add, chk_shift] at hk
  have hs := kid_size hj
  have hd := depths_at (List.getElem_mem hj)
  simp only [Tm.size] at h2
  simp only [Tm.depth] at h3
  have hb := belowZ_01' k j
  have hp : pos0 (pos0 v + belowZ k j) = pos0 v + belowZ k j := by
    unfold pos0
    split <;> split <;> omega
  unfold checkZ
  have e : (if pos0 v + belowZ k j < 0 then 0 else pos0 v + belowZ k j) = pos0 v + belowZ k j := hp
  rw [e, hk]
  simp
  rw [if_neg (by omega), if_neg (by omega)]

end Go.Proofs.Ytppgpabjcenjdaa
