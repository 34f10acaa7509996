/-
  The plain laws of shifting: no program in sight.
-/
import Derived.Test.YtcfcolkbeelegaaGreatLE13

namespace Go.Proofs.YtcfcolkbeelegaaGreat

open Go Go.AI
theorem sameLv_refl (l : Lv) : sameLv l l = true := by
  simp only [sameLv, bne_self_eq_false, Bool.or_self, Bool.not_false, Bool.true_and]
  rw [allTo_iff]
  intro j hj
  simp [varsAt, hj, sameVar]
theorem sameLvs_refl (l : List Lv) : sameLvs l l = true := by
  simp only [sameLvs, bne_self_eq_false, Bool.not_false, Bool.true_and]
  rw [allTo_iff]
  intro j hj
  simp [lvsAt, hj, sameLv_refl]
theorem sameHead_refl (t : Tm) : sameHead t t = true := by simp [sameHead, sameLvs_refl]

mutual
theorem sameT_refl : ∀ t : Tm, sameT t t = true
  | .mk k i n ls ks => by simp only [sameT, sameHead_refl, Bool.true_and]; exact sameTs_refl ks
theorem sameTs_refl : ∀ l : List Tm, sameTs l l = true
  | [] => by simp only [sameTs]
  | t :: ts => by simp only [sameTs, sameT_refl t, sameTs_refl ts, Bool.and_self]
end

/- What is checked is in order. -/
theorem firstE_cons {e : Int} {l : List Int} (h : firstE (e :: l) = 0) : e = 0 ∧ firstE l = 0 := by
  simp only [firstE] at h
  split at h
  · exact ⟨by assumption, h⟩
  · exact absurd h (by assumption)

mutual
theorem chk_ok (v p m l : Int) : ∀ (t : Tm) (d : Int), t.lvs → chk v p m l d t = 0 → t.ok (v + d)
  | .mk k i n ls ks, d, hl, h => by
    simp only [chk] at h
    simp only [Tm.lvs] at hl
    by_cases h1 : formB (.mk k i n ls ks) = false
    · rw [if_pos h1] at h; exact absurd h (by decide)
    rw [if_neg h1] at h
    by_cases h2 : headZ d v p m l k i n ls = 0
    · rw [if_neg (by simp [h2])] at h
      have hk := chkL_ok v p m l ks k d 0 hl.2.2 h
      simp only [Tm.ok, Tm.okN]
      have h8 : ¬ 8 < ls.length := by
        intro h8
        unfold headZ at h2
        split at h2
        · exact absurd h2 (by decide)
        · exact absurd h2 (by decide)
      have h0 : k = 0 → ¬ (i < 0 ∨ v ≤ i - d) := by
        intro hk0 hc
        unfold headZ at h2
        rw [if_neg (by omega), if_neg h8] at h2
        split at h2
        · contradiction
        · rw [if_pos ⟨hk0, hc⟩] at h2; exact absurd h2 (by decide)
      simp only [formB, formN] at h1
      have hkz : kidsZ k ≤ 3 := by unfold kidsZ; split; omega; split; omega; split <;> omega
      simp only [Bool.not_eq_false, Bool.and_eq_true, Bool.not_eq_true', Bool.or_eq_false_iff, bne_eq_false_iff_eq, decide_eq_false_iff_not] at h1
      obtain ⟨⟨⟨⟨_, hks⟩, _⟩, hn⟩, hls⟩ := h1
      refine ⟨⟨fun hk0 => ?_, by omega, hl.2.1, by omega⟩, hk⟩
      subst hk0
      have h0 := h0 rfl
      simp [kidsZ] at hks
      simp at hn hls
      exact ⟨by omega, by omega, hn, hls, hks⟩
    · rw [if_pos h2] at h; exact absurd h h2
theorem chkL_ok (v p m l : Int) : ∀ (ks : List Tm) (k d : Int) (idx : Nat), Tm.lvss ks → firstE (chkL v p m l k d idx ks) = 0 → Tm.oks (v + d) k idx ks
  | [], _, _, _, _, _ => trivial
  | t :: ts, k, d, idx, hl, h => by
    simp only [Tm.lvss] at hl
    simp only [chkL] at h
    have h := firstE_cons h
    simp only [Tm.oks]
    have := chk_ok v p m l t (d + belowZ k idx) hl.1 h.1
    rw [show v + d + belowZ k idx = v + (d + belowZ k idx) by omega]
    exact ⟨this, chkL_ok v p m l ts k d (idx + 1) hl.2 h.2⟩
end
theorem good_ok {t : Tm} (hl : t.lvs) (h : goodB [t] = true) : t.ok 65536 ∧ t.size ≤ 4096 := by
  simp only [goodB, Bool.and_eq_true] at h
  have h := allTo_at h.2 (j := 0) (by simp)
  simp only [goodAt, List.getElem?_cons_zero, checkZ, beq_iff_eq] at h
  by_cases h1 : chk 65536 8 65536 65536 0 t = 0
  · simp only [Int.reduceLT, if_false, h1, ne_eq, not_true_eq_false] at h
    refine ⟨by simpa using chk_ok 65536 8 65536 65536 t 0 hl h1, ?_⟩
    split at h
    · exact absurd h (by decide)
    · omega
  · simp [h1] at h

/- Shifting by building is shifting. -/

end Go.Proofs.YtcfcolkbeelegaaGreat
