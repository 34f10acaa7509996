/-
  The plain laws of shifting: no program in sight.
-/
import Derived.Test.YtppgpabjcenjdaaTE13
namespace Go.Proofs.Ytppgpabjcenjdaa

open Go Go.AI

theorem sameLv_refl (l : Lv) : sameLv l l = true := by
  simp only [sameLv, bne_self_eq_false, Bool.or_self, Bool.not_false, Bool.true_and]
  rw [allTo_iff]
  intro j hj
  simp [varsAt, hj, sameVar]

theorem sameLvs_refl (l : List Lv) : sameLvs l l = true := by
  simp only [sameLvs, bne_self_eq_false, Bool.not_false, Bool.true_and]
  rw [allTo_iff]
  intro j hj
  simp [lvsAt, hj, sameLv_refl]

theorem sameHead_refl (t : Tm) : sameHead t t = true := by simp [sameHead, sameLvs_refl]

mutual
theorem sameT_refl : ∀ t : Tm, sameT t t = true
  | .mk k i n ls ks => by simp only [sameT, sameHead_refl, Bool.true_and]; exact sameTs_refl ks
theorem sameTs_refl : ∀ l : List Tm, sameTs l l = true
  | [] => by simp only [sameTs]
  | t :: ts => by simp only [sameTs, sameT_refl t, sameTs_refl ts, Bool.and_self]
end

/- What is checked is in order. -/

theorem firstE_cons {e : Int} {l : List Int} (h : firstE (e :: l) = 0) : e = 0 ∧ firstE l = 0 := by
  simp only [firstE] at h
  split at h
  · exact ⟨by assumption, h⟩
  · exact absurd h (by assumption)

mutual
theorem chk_ok (v p m l : Int) : ∀ (t : Tm) (d : Int), t.lvs → chk v p m l d t = 0 → t.ok (v + d)
  | .mk k i n ls ks, d, hl, h => by
    simp only [chk] at h
    simp only [Tm.lvs] at hl
    by_cases h1 : formB (.mk k i n ls ks) = false
    · rw [if_pos h1] at h; exact absurd h (by decide)
    rw [if_neg h1] at h
    by_cases h2 : headZ d v p m l k i n ls = 0
    · rw [if_neg (by simp [h2])] at h
      have hk := chkL_ok v p m l ks k d 0 hl.2.2 h
      simp only [Tm.ok, Tm.okN]
      have h8 : ¬ 8 < ls.length := by
        intro h8
        unfold headZ at h2
        split at h2
        · exact absurd h2 (by decide)
        · exact absurd h2 (by decide)
      have h0 : k = 0 → ¬ (i < 0 ∨ v ≤ i - d) := by
        intro hk0 hc
        unfold headZ at h2
        rw [if_neg (by omega), if_neg h8] at h2
        split at h2
        · contradiction
        · rw [if_pos ⟨hk0, hc⟩] at h2; exact absurd h2 (by decide)
      simp only [formB, formN] at h1
      have hkz : kidsZ k ≤ 3 := by unfold kidsZ; split; omega; split; omega; split <;> omega
      simp only [Bool.not_eq_false, Bool.and_eq_true, Bool.not_eq_true', Bool.or_eq_false_iff, bne_eq_false_iff_eq, decide_eq_false_iff_not] at h1
      obtain ⟨⟨⟨⟨_, hks⟩, _⟩, hn⟩, hls⟩ := h1
      refine ⟨⟨fun hk0 => ?_, by omega, hl.2.1, by omega⟩, hk⟩
      subst hk0
      have h0 := h0 rfl
      simp [kidsZ] at hks
      simp at hn hls
      exact ⟨by omega, by omega, hn, hls, hks⟩
    · rw [if_pos h2] at h; exact absurd h h2
theorem chkL_ok (v p m l : Int) : ∀ (ks : List Tm) (k d : Int) (idx : Nat), Tm.lvss ks → firstE (chkL v p m l k d idx ks) = 0 → Tm.oks (v + d) k idx ks
  | [], _, _, _, _, _ => trivial
  | t :: ts, k, d, idx, hl, h => by
    simp only [Tm.lvss] at hl
    simp only [chkL] at h
    have h := firstE_cons h
    simp only [Tm.oks]
    have := chk_ok v p m l t (d + belowZ k idx) hl.1 h.1
    rw [show v + d + belowZ k idx = v + (d + belowZ k idx) by omega]
    exact ⟨this, chkL_ok v p m l ts k d (idx + 1) hl.2 h.2⟩
end

/- Shifting by building is shifting. -/

mutual
theorem bld_shift (by_ fr f0 : Int) (hf : f0 = if 65536 < fr then 65536 else fr) : ∀ (t : Tm) (s d : Int), t.ok (65536 + d) →
    bld (visVar (repShift by_ fr)) s t d = if shiftBad by_ f0 d t = true then .bad 24 s else .ok (shiftT by_ f0 d t) s
  | .mk k i n ls ks, s, d, h => by
    simp only [Tm.ok, Tm.okN] at h
    simp only [bld, shiftBad, shiftT]
    by_cases hk : k = 0
    · obtain ⟨h1, h2, rfl, rfl, rfl⟩ := h.1.1 hk
      subst hk
      simp only [visVar, repShift, Tm.kind, Tm.index, if_true]
      by_cases c1 : i - d < fr
      · have c1' : i < f0 + d := by rw [hf]; split <;> omega
        simp [c1, c1', Tm.bare]
      · have c0 : f0 = fr := by rw [hf, if_neg (by omega)]
        subst c0
        have c1' : ¬ i < f0 + d := by omega
        simp only [c1, if_false]
        by_cases c2 : by_ < 0 ∧ i - d < f0 - by_
        · have c2' : i + by_ < f0 + d := by omega
          simp [c2, c1', c2']
        · have c2' : ¬ i + by_ < f0 + d := by omega
          simp only [c2, if_false]
          by_cases c3 : 65535 < i + by_
          · simp [c1', c2', c3]
          · simp [c1', c2', c3]
    · simp only [visVar, Tm.kind, hk, if_false, Tm.bare]
      have e := bldL_shift by_ fr f0 hf ks s k d 0 h.2
      simp only [e]
      split
      · rename_i heq
        split at heq
        · rename_i hb; rw [if_pos hb]; injection heq with h1 h2; subst h1; subst h2; rfl
        · cases heq
      · rename_i heq
        split at heq
        · cases heq
        · rename_i hb; rw [if_neg hb]; injection heq with h1 h2; subst h1; subst h2; rfl
theorem bldL_shift (by_ fr f0 : Int) (hf : f0 = if 65536 < fr then 65536 else fr) : ∀ (ks : List Tm) (s k d : Int) (idx : Nat), Tm.oks (65536 + d) k idx ks →
    bldL (visVar (repShift by_ fr)) s k d idx ks = if shiftBads by_ f0 d k idx ks = true then .bad 24 s else .ok (shiftL by_ f0 d k idx ks) s
  | [], s, k, d, idx, h => by simp [bldL, shiftBads, shiftL]
  | t :: ts, s, k, d, idx, h => by
    simp only [Tm.oks] at h
    simp only [bldL, shiftBads, shiftL]
    rw [bld_shift by_ fr f0 hf t s (d + belowZ k idx) (by rw [← Int.add_assoc]; exact h.1)]
    by_cases hb : shiftBad by_ f0 (d + belowZ k idx) t = true
    · simp only [hb, if_true, Bool.true_or]
    · rw [if_neg hb]
      simp only
      rw [bldL_shift by_ fr f0 hf ts s k d (idx + 1) h.2]
      rw [Bool.not_eq_true] at hb
      by_cases hb2 : shiftBads by_ f0 d k (idx + 1) ts = true
      · simp only [hb, hb2, if_true, Bool.or_true]
      · rw [Bool.not_eq_true] at hb2
        simp only [hb, hb2, Bool.or_false, Bool.false_eq_true, if_false]
end

theorem res_shift (by_ fr : Int) (t : Tm) (h : t.ok 65536) : resShift by_ fr t = resRefShift by_ fr t := by
  unfold resShift resRefShift
  split
  · rfl
  · rw [shiftB, bld_shift by_ fr _ rfl t 0 0 (by simpa using h)]
    by_cases hb : shiftBad by_ (if 65536 < fr then 65536 else fr) 0 t = true
    · rw [if_pos hb, if_pos hb]; rfl
    · rw [if_neg hb, if_neg hb]; rfl

end Go.Proofs.Ytppgpabjcenjdaa
