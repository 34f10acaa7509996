/-
  The plain laws of substituting twice and of substituting back.
-/
import Derived.Test.YtppgpabjcenjdaaP2
namespace Go.Proofs.Ytppgpabjcenjdaa
open Go Go.AI

theorem sameVar_eq {a b : Int × Int} (h : sameVar a b = true) : a = b := by
  obtain ⟨x, y⟩ := a
  obtain ⟨x', y'⟩ := b
  simp only [sameVar, Bool.and_eq_true, beq_iff_eq] at h
  rw [h.1, h.2]
theorem sameLv_eq' {a b : Lv} (h : sameLv a b = true) : a = b := by
  obtain ⟨c, vs⟩ := a
  obtain ⟨c', vs'⟩ := b
  simp only [sameLv, Bool.and_eq_true, Bool.not_eq_true', Bool.or_eq_false_iff, bne_eq_false_iff_eq] at h
  obtain ⟨⟨rfl, hl⟩, h⟩ := h
  have : vs = vs' := by
    apply List.ext_getElem (by omega)
    intro j h1 h2
    have := allTo_at h h1
    simp only [varsAt, List.getElem?_eq_getElem h1, List.getElem?_eq_getElem h2] at this
    exact sameVar_eq this
  rw [this]
theorem sameLvs_eq' {xs ys : List Lv} (h : sameLvs xs ys = true) : xs = ys := by
  simp only [sameLvs, Bool.and_eq_true, Bool.not_eq_true', bne_eq_false_iff_eq] at h
  apply List.ext_getElem (by omega)
  intro j h1 h2
  have := allTo_at h.2 h1
  simp only [lvsAt, List.getElem?_eq_getElem h1, List.getElem?_eq_getElem h2] at this
  exact sameLv_eq' this
mutual
theorem sameT_eq : ∀ (a b : Tm), sameT a b = true → a = b
  | .mk k i n ls ks, .mk k' i' n' ls' ks', h => by
    simp only [sameT, sameHead, Tm.kind, Tm.index, Tm.name, Tm.levels, Tm.kids, Bool.and_eq_true, Bool.not_eq_true', Bool.not_eq_false', Bool.or_eq_false_iff, bne_eq_false_iff_eq, beq_iff_eq] at h
    obtain ⟨⟨⟨⟨⟨h1, h2⟩, h3⟩, h4⟩, h5⟩, h6⟩ := h
    have h7 := sameLvs_eq' h4
    have h8 := sameTs_eq ks ks' (by omega) h6
    rw [h1, h2, h3, h7, h8]
theorem sameTs_eq : ∀ (xs ys : List Tm), xs.length = ys.length → sameTs xs ys = true → xs = ys
  | [], [], _, _ => rfl
  | [], _ :: _, h, _ => by simp at h
  | _ :: _, [], h, _ => by simp at h
  | x :: xs, y :: ys, h, hs => by
    simp only [sameTs, Bool.and_eq_true] at hs
    rw [sameT_eq x y hs.1, sameTs_eq xs ys (by simpa using h) hs.2]
end

mutual
theorem sub_shift2 (y : Tm) (d : Int) (hd : 0 ≤ d) : ∀ (x : Tm) (c m : Int), x.ok m → 0 ≤ c → subT [y] (d + c) (shiftT d 0 c (shiftT 1 0 c x)) = shiftT d 0 c x
  | .mk k i n ls ks, c, m, h, hc => by
    simp only [Tm.ok, Tm.okN] at h
    by_cases hk : k = 0
    · obtain ⟨_, _, rfl, rfl, rfl⟩ := h.1.1 hk
      subst hk
      by_cases hi : i < c
      · have e1 : shiftT 1 0 c (.mk 0 i [] [] []) = .mk 0 i [] [] [] := by simp only [shiftT, if_true]; rw [if_pos (by omega)]
        have e2 : shiftT d 0 c (.mk 0 i [] [] []) = .mk 0 i [] [] [] := by simp only [shiftT, if_true]; rw [if_pos (by omega)]
        rw [e1, e2]
        simp only [subT, if_true]
        rw [if_neg (by omega)]
      · have e1 : shiftT 1 0 c (.mk 0 i [] [] []) = vr (i + 1) := by simp only [shiftT, if_true]; rw [if_neg (by omega)]
        have e2 : shiftT d 0 c (vr (i + 1)) = vr (i + 1 + d) := by simp only [vr, shiftT, if_true]; rw [if_neg (by omega)]
        have e3 : shiftT d 0 c (.mk 0 i [] [] []) = vr (i + d) := by simp only [shiftT, if_true]; rw [if_neg (by omega)]
        rw [e1, e2, e3]
        simp only [vr, subT, if_true]
        rw [if_pos (by omega), List.getElem?_eq_none (by simp; omega)]
        simp only [List.length_singleton]
        congr 1; omega
    · simp only [shiftT, hk, if_false, subT]
      rw [subL_shift2 y d hd ks c k m 0 h.2 hc]
theorem subL_shift2 (y : Tm) (d : Int) (hd : 0 ≤ d) : ∀ (l : List Tm) (c k m : Int) (idx : Nat), Tm.oks m k idx l → 0 ≤ c → subL [y] (d + c) k idx (shiftL d 0 c k idx (shiftL 1 0 c k idx l)) = shiftL d 0 c k idx l
  | [], _, _, _, _, _, _ => rfl
  | t :: ts, c, k, m, idx, h, hc => by
    simp only [Tm.oks] at h
    have hz := belowZ_01' k idx
    have e := sub_shift2 y d hd t (c + belowZ k idx) _ h.1 (by omega)
    simp only [shiftL, subL]
    rw [← Int.add_assoc] at e
    rw [e, subL_shift2 y d hd ts c k m (idx + 1) h.2 hc]
end

mutual
theorem sub_twice (x y : Tm) (mx : Int) (hx : x.ok mx) : ∀ (t : Tm) (d m : Int), t.ok m → 0 ≤ d → subT [y] d (subT [shiftT 1 0 0 x] d t) = subT [x, y] d t
  | .mk k i n ls ks, d, m, h, hd => by
    simp only [Tm.ok, Tm.okN] at h
    by_cases hk : k = 0
    · obtain ⟨_, _, rfl, rfl, rfl⟩ := h.1.1 hk
      subst hk
      by_cases hi : d ≤ i
      · by_cases h1 : i = d
        · subst h1
          have e1 : subT [shiftT 1 0 0 x] i (.mk 0 i [] [] []) = shiftT i 0 0 (shiftT 1 0 0 x) := by simp [subT]
          have e2 : subT [x, y] i (.mk 0 i [] [] []) = shiftT i 0 0 x := by simp [subT]
          rw [e1, e2]
          simpa using sub_shift2 y i hd x 0 mx hx (by omega)
        · have e1 : subT [shiftT 1 0 0 x] d (.mk 0 i [] [] []) = vr (i - 1) := by
            simp only [subT, if_true, hi]
            rw [List.getElem?_eq_none (by simp; omega)]
            rfl
          rw [e1]
          by_cases h2 : i = d + 1
          · subst h2
            simp only [vr, subT, if_true]
            rw [if_pos (by omega), if_pos (by omega)]
            rw [show (d + 1 - 1 - d).toNat = 0 by omega, show (d + 1 - d).toNat = 1 by omega]
            rfl
          · simp only [vr, subT, if_true]
            rw [if_pos (by omega), if_pos (by omega), List.getElem?_eq_none (by simp; omega), List.getElem?_eq_none (by simp; omega)]
            simp only [List.length_cons, List.length_nil]
            congr 1; omega
      · have e1 : subT [shiftT 1 0 0 x] d (.mk 0 i [] [] []) = .mk 0 i [] [] [] := by simp only [subT, if_true, hi, if_false]
        rw [e1]
        simp only [subT, if_true, hi, if_false]
    · simp only [subT, hk, if_false]
      rw [subL_twice x y mx hx ks d k m 0 h.2 hd]
theorem subL_twice (x y : Tm) (mx : Int) (hx : x.ok mx) : ∀ (l : List Tm) (d k m : Int) (idx : Nat), Tm.oks m k idx l → 0 ≤ d → subL [y] d k idx (subL [shiftT 1 0 0 x] d k idx l) = subL [x, y] d k idx l
  | [], _, _, _, _, _, _ => rfl
  | t :: ts, d, k, m, idx, h, hd => by
    simp only [Tm.oks] at h
    have hz := belowZ_01' k idx
    simp only [subL]
    rw [sub_twice x y mx hx t _ _ h.1 (by omega), subL_twice x y mx hx ts d k m (idx + 1) h.2 hd]
end

theorem resSub_zero {t : Tm} {vs : List Tm} {d : Int} (h : (resSub t vs d).2 = 0) : (resSub t vs d).1 = subT vs d t := by
  unfold resSub at h ⊢
  split at h
  · cases h
  · rename_i h1
    rw [if_neg h1]
    split at h
    · cases h
    · rename_i h2
      rw [if_neg h2]
      split at h
      · cases h
      · rename_i h3
        rw [if_neg h3]
theorem resRefShift_zero {by_ fr : Int} {t : Tm} (h : (resRefShift by_ fr t).2 = 0) : (resRefShift by_ fr t).1 = shiftT by_ (capD fr) 0 t ∧ shiftBad by_ (capD fr) 0 t = false := by
  have e : resRefShift by_ fr t = if fr < 0 ∨ by_ < -65536 ∨ 65536 < by_ then (zT, 2) else if shiftBad by_ (capD fr) 0 t = true then (zT, 24) else (shiftT by_ (capD fr) 0 t, 0) := rfl
  rw [e] at h ⊢
  by_cases h1 : fr < 0 ∨ by_ < -65536 ∨ 65536 < by_
  · rw [if_pos h1] at h; simp at h
  · rw [if_neg h1] at h ⊢
    by_cases h2 : shiftBad by_ (capD fr) 0 t = true
    · rw [if_pos h2] at h; simp at h
    · rw [if_neg h2]
      exact ⟨rfl, by simpa using h2⟩

mutual
theorem sub_back (vs : List Tm) : ∀ (t : Tm) (d m : Int), t.ok m → 0 ≤ d → shiftBad vs.length 0 d t = false →
    subT vs d (shiftT vs.length 0 d t) = t ∧ subBad vs d (shiftT vs.length 0 d t) = false ∧ subCnt vs d (shiftT vs.length 0 d t) = t.size
  | .mk k i n ls ks, d, m, h, hd, hb => by
    simp only [Tm.ok, Tm.okN] at h
    simp only [shiftBad] at hb
    by_cases hk : k = 0
    · obtain ⟨_, _, rfl, rfl, rfl⟩ := h.1.1 hk
      subst hk
      simp only [if_true] at hb
      by_cases hi : i < d
      · have e1 : shiftT vs.length 0 d (.mk 0 i [] [] []) = .mk 0 i [] [] [] := by simp only [shiftT, if_true]; rw [if_pos (by omega)]
        rw [e1]
        simp only [subT, subBad, subCnt, if_true, Tm.size, Tm.sizes]
        rw [if_neg (by omega), if_neg (by omega), if_neg (by omega)]
        exact ⟨rfl, rfl, rfl⟩
      · have e1 : shiftT vs.length 0 d (.mk 0 i [] [] []) = vr (i + vs.length) := by simp only [shiftT, if_true]; rw [if_neg (by omega)]
        rw [e1]
        simp at hb
        simp only [vr, subT, subBad, subCnt, if_true, Tm.size, Tm.sizes]
        rw [if_pos (by omega), if_pos (by omega), if_pos (by omega), List.getElem?_eq_none (by omega)]
        refine ⟨?_, ?_, rfl⟩
        · simp only []; congr 1; omega
        · simp only [decide_eq_false_iff_not]; omega
    · simp only [hk, if_false] at hb
      simp only [shiftT, hk, if_false, subT, subBad, subCnt, Tm.size]
      have := subL_back vs ks d k m 0 h.2 hd hb
      rw [this.1, this.2.1, this.2.2]
      exact ⟨rfl, rfl, rfl⟩
theorem subL_back (vs : List Tm) : ∀ (l : List Tm) (d k m : Int) (idx : Nat), Tm.oks m k idx l → 0 ≤ d → shiftBads vs.length 0 d k idx l = false →
    subL vs d k idx (shiftL vs.length 0 d k idx l) = l ∧ subBads vs d k idx (shiftL vs.length 0 d k idx l) = false ∧ subCnts vs d k idx (shiftL vs.length 0 d k idx l) = Tm.sizes l
  | [], _, _, _, _, _, _, _ => ⟨rfl, rfl, rfl⟩
  | t :: ts, d, k, m, idx, h, hd, hb => by
    simp only [Tm.oks] at h
    simp only [shiftBads, Bool.or_eq_false_iff] at hb
    have hz := belowZ_01' k idx
    have e1 := sub_back vs t (d + belowZ k idx) _ h.1 (by omega) hb.1
    have e2 := subL_back vs ts d k m (idx + 1) h.2 hd hb.2
    simp only [shiftL, subL, subBads, subCnts, Tm.sizes]
    rw [e1.1, e1.2.1, e1.2.2, e2.1, e2.2.1, e2.2.2]
    exact ⟨rfl, rfl, rfl⟩
end

mutual
theorem sub_abs (part : Tm) (hp : part.ok 65536) : ∀ (t : Tm) (d m : Int), t.ok m → 0 ≤ d → absBad part d t = false →
    subT [part] d (absT part d t) = t ∧ subBad [part] d (absT part d t) = false ∧ subCnt [part] d (absT part d t) = t.size
  | .mk k i n ls ks, d, m, h, hd, hb => by
    simp only [Tm.ok, Tm.okN] at h
    simp only [absBad] at hb
    by_cases hh : absHit part (.mk k i n ls ks) d = true
    · rw [absT, if_pos hh]
      have hh' := hh
      simp only [absHit, Bool.and_eq_true, Bool.not_eq_true'] at hh'
      have hq := sameT_eq _ _ hh'.2
      simp only [vr, subT, subBad, subCnt, if_true, Int.le_refl]
      simp only [Int.sub_self, Int.toNat_zero, List.getElem?_cons_zero]
      refine ⟨hq.symm, hh'.1, ?_⟩
      rw [hq, shiftT_size d 0 part 0 65536 hp]
    · rw [absT, if_neg hh]
      rw [if_neg hh] at hb
      by_cases hk : k = 0
      · obtain ⟨_, _, rfl, rfl, rfl⟩ := h.1.1 hk
        subst hk
        simp only [if_true] at hb ⊢
        by_cases hi : d ≤ i
        · simp only [hi, if_true]
          simp [hi] at hb
          simp only [vr, subT, subBad, subCnt, if_true, Tm.size, Tm.sizes]
          rw [if_pos (by omega), if_pos (by omega), if_pos (by omega), List.getElem?_eq_none (by simp; omega)]
          refine ⟨?_, ?_, rfl⟩
          · simp only [List.length_singleton]; congr 1; omega
          · simp only [decide_eq_false_iff_not, List.length_singleton]; omega
        · simp only [hi, if_false, subT, subBad, subCnt, if_true, Tm.size, Tm.sizes]
          exact ⟨by trivial, by trivial, by trivial⟩
      · simp only [hk, if_false] at hb ⊢
        simp only [subT, subBad, subCnt, hk, if_false, Tm.size]
        have := subL_abs part hp ks d k m 0 h.2 hd hb
        rw [this.1, this.2.1, this.2.2]
        exact ⟨rfl, rfl, rfl⟩
theorem subL_abs (part : Tm) (hp : part.ok 65536) : ∀ (l : List Tm) (d k m : Int) (idx : Nat), Tm.oks m k idx l → 0 ≤ d → absBads part d k idx l = false →
    subL [part] d k idx (absL part d k idx l) = l ∧ subBads [part] d k idx (absL part d k idx l) = false ∧ subCnts [part] d k idx (absL part d k idx l) = Tm.sizes l
  | [], _, _, _, _, _, _, _ => ⟨rfl, rfl, rfl⟩
  | t :: ts, d, k, m, idx, h, hd, hb => by
    simp only [Tm.oks] at h
    simp only [absBads, Bool.or_eq_false_iff] at hb
    have hz := belowZ_01' k idx
    have e1 := sub_abs part hp t (d + belowZ k idx) _ h.1 (by omega) hb.1
    have e2 := subL_abs part hp ts d k m (idx + 1) h.2 hd hb.2
    simp only [absL, subL, subBads, subCnts, Tm.sizes]
    rw [e1.1, e1.2.1, e1.2.2, e2.1, e2.2.1, e2.2.2]
    exact ⟨rfl, rfl, rfl⟩
end

end Go.Proofs.Ytppgpabjcenjdaa
