/-
  The plain law of abstraction: the program's building comes to the reference's walk.
-/
import Derived.Test.YtppgpabjcenjdaaQ1
import Derived.Test.YtppgpabjcenjdaaP1
import Derived.Test.YtppgpabjcenjdaaE12
namespace Go.Proofs.Ytppgpabjcenjdaa
open Go Go.AI

theorem shift_head (d : Int) (t : Tm) (h : t.ok 65536) : (shiftT d 0 0 t).kind = t.kind ∧ (shiftT d 0 0 t).kids.length = t.kids.length := by
  obtain ⟨k, i, n, ls, ks⟩ := t
  simp only [Tm.ok, Tm.okN] at h
  simp only [shiftT]
  by_cases hk : k = 0
  · obtain ⟨_, _, rfl, rfl, rfl⟩ := h.1.1 hk
    subst hk
    simp only [if_true]
    split <;> simp [Tm.kind, Tm.kids, vr]
  · simp only [hk, if_false]
    exact ⟨rfl, by simp only [Tm.kids]; exact shiftL_length _ _ _ _ _ _⟩

theorem sameT_head {a b : Tm} (h : sameT a b = true) : a.kind = b.kind ∧ a.kids.length = b.kids.length := by
  obtain ⟨k, i, n, ls, ks⟩ := a
  obtain ⟨k', i', n', ls', ks'⟩ := b
  simp only [sameT, sameHead, Bool.and_eq_true, Bool.not_eq_true', Bool.or_eq_false_iff, bne_eq_false_iff_eq, Tm.kind, Tm.kids] at h ⊢
  obtain ⟨⟨⟨⟨⟨h1, _⟩, _⟩, _⟩, h2⟩, _⟩ := h
  exact ⟨h1, by omega⟩

/-- What is held against the part is what the reference holds against it. -/
theorem visAbs_eq (part : Tm) (hp : part.ok 65536) (s : Int) (t : Tm) (d : Int) (hd0 : 0 ≤ d) (hd1 : d ≤ 65536) :
    visAbs part s t d = if absHit part t d = true then (if 65535 < d then .bad 24 (IntKind.i64.wrap (s + 1)) else .done (vr d) (IntKind.i64.wrap (s + 1))) else absRest s t d := by
  have hr : resShift d 0 part = if shiftBad d 0 0 part = true then (zT, 24) else (shiftT d 0 0 part, 0) := by
    rw [res_shift d 0 part hp, resRefShift, if_neg (by omega)]; simp
  have hsh := shift_head d part hp
  unfold visAbs absHit
  rw [hr]
  by_cases hb : shiftBad d 0 0 part = true
  · simp [hb]
  rw [if_neg hb]
  rw [Bool.not_eq_true] at hb
  simp only [hb, Bool.not_false, Bool.true_and, beq_self_eq_true]
  by_cases hs : sameT t (shiftT d 0 0 part) = true
  · have := sameT_head hs
    rw [if_pos]
    simp only [Bool.and_eq_true, beq_iff_eq]
    omega
  · rw [if_neg hs]; split <;> rfl

mutual
theorem bld_abs (part : Tm) (hp : part.ok 65536) : ∀ (t : Tm) (s d : Int), t.ok (65536 + d) → 0 ≤ d → d + t.size ≤ 65536 → 0 ≤ s → s + t.size ≤ 1099511627776 →
    (absBad part d t = true → ∃ s', bld (visAbs part) s t d = .bad 24 s') ∧ (absBad part d t = false → bld (visAbs part) s t d = .ok (absT part d t) (s + absCnt part d t))
  | .mk k i n ls ks, s, d, hok, hd0, hd1, hs0, hs1 => by
    simp only [Tm.ok, Tm.okN] at hok
    simp only [Tm.size] at hd1 hs1
    simp only [bld, absBad, absT, absCnt]
    rw [visAbs_eq part hp s _ d hd0 (by omega)]
    by_cases hh : absHit part (.mk k i n ls ks) d = true
    · simp only [hh, if_true]
      have hw : IntKind.i64.wrap (s + 1) = s + 1 := wrap_id (by omega) (by omega)
      rw [hw, if_neg (by omega)]
      have : ¬ 65535 < d := by omega
      simp [this]
    simp only [hh]
    simp only [Bool.false_eq_true, if_false]
    by_cases hk : k = 0
    · obtain ⟨i1, i2, rfl, rfl, rfl⟩ := hok.1.1 hk
      simp only [absRest, Tm.kind, Tm.index, hk, if_true, true_and]
      by_cases hc : d ≤ i
      · simp only [hc, if_true]
        by_cases h5 : 65535 < i + 1
        · simp [h5]
        · simp [h5]
      · simp [hc, bldL, Tm.bare, Tm.withKids]
    · simp only [absRest, Tm.kind, hk, false_and, if_false]
      have := bldL_abs part hp ks s k d 0 hok.2 hd0 (by omega) hs0 (by omega)
      constructor
      · intro h
        obtain ⟨s', e⟩ := this.1 h
        rw [e]
        exact ⟨_, rfl⟩
      · intro h
        rw [this.2 h]
        rfl
theorem bldL_abs (part : Tm) (hp : part.ok 65536) : ∀ (ks : List Tm) (s k d : Int) (idx : Nat), Tm.oks (65536 + d) k idx ks → 0 ≤ d → d + 1 + Tm.sizes ks ≤ 65536 → 0 ≤ s → s + Tm.sizes ks ≤ 1099511627776 →
    (absBads part d k idx ks = true → ∃ s', bldL (visAbs part) s k d idx ks = .bad 24 s') ∧ (absBads part d k idx ks = false → bldL (visAbs part) s k d idx ks = .ok (absL part d k idx ks) (s + absCnts part d k idx ks))
  | [], s, k, d, idx, _, _, _, _, _ => by simp [bldL, absBads, absL, absCnts]
  | t :: ts, s, k, d, idx, hok, hd0, hd1, hs0, hs1 => by
    simp only [Tm.oks] at hok
    simp only [Tm.sizes] at hd1 hs1
    have hz := belowZ_01' k idx
    have e1 := bld_abs part hp t s (d + belowZ k idx) (by rw [← Int.add_assoc]; exact hok.1) (by omega) (by omega) hs0 (by omega)
    simp only [bldL, absBads, absL, absCnts]
    cases hb : absBad part (d + belowZ k idx) t with
    | true =>
      obtain ⟨s', e⟩ := e1.1 hb
      rw [e]
      simp
    | false =>
      have hcl := absCnt_le part t (d + belowZ k idx)
      have e2 := bldL_abs part hp ts (s + absCnt part (d + belowZ k idx) t) k d (idx + 1) hok.2 hd0 (by omega) (by omega) (by omega)
      rw [e1.2 hb]
      simp only [Bool.false_or]
      constructor
      · intro h
        obtain ⟨s', e⟩ := e2.1 h
        rw [e]
        exact ⟨_, rfl⟩
      · intro h
        rw [e2.2 h]
        simp; omega
end

def resRefAbs (t part : Tm) : Tm × Int × Int := if absBad part 0 t = true then (zT, 0, 24) else (absT part 0 t, absCnt part 0 t, 0)

theorem res_abs (t part : Tm) (hok : t.ok 65536) (hsz : t.size ≤ 65536) (hp : part.ok 65536) : resAbs t part = resRefAbs t part := by
  have := bld_abs part hp t 0 0 (by simpa using hok) (by omega) (by omega) (by omega) (by omega)
  unfold resAbs resRefAbs
  cases hb : absBad part 0 t with
  | true =>
    obtain ⟨s', e⟩ := this.1 hb
    rw [e]; simp
  | false =>
    rw [this.2 hb]
    simp

mutual
/-- What comes out is small and in order. -/
theorem absT_ok (part : Tm) : ∀ (t : Tm) (d m : Int), t.ok m → 0 ≤ d → 65536 + d ≤ m → absBad part d t = false → (absT part d t).ok m ∧ (absT part d t).size ≤ t.size
  | .mk k i n ls ks, d, m, h, hd, hm, hb => by
    have h' := h
    simp only [Tm.ok, Tm.okN] at h
    simp only [absT]
    simp only [absBad] at hb
    by_cases hh : absHit part (.mk k i n ls ks) d = true
    · rw [if_pos hh] at hb ⊢
      simp only [vr, Tm.ok, Tm.okN, Tm.oks, Tm.size, Tm.sizes]
      simp at hb
      exact ⟨⟨⟨fun _ => ⟨by omega, by omega, trivial, trivial, trivial⟩, by simp, by simp, by simp⟩, trivial⟩, by omega⟩
    · rw [if_neg hh] at hb ⊢
      by_cases hk : k = 0
      · obtain ⟨h1, h2, rfl, rfl, rfl⟩ := h.1.1 hk
        simp only [hk, if_true] at hb ⊢
        by_cases hc : d ≤ i
        · simp only [hc, if_true] at hb ⊢
          simp at hb
          simp only [vr, Tm.ok, Tm.okN, Tm.oks, Tm.size, Tm.sizes]
          exact ⟨⟨⟨fun _ => ⟨by omega, by omega, trivial, trivial, trivial⟩, by simp, by simp, by simp⟩, trivial⟩, by omega⟩
        · simp only [hc, if_false]
          exact ⟨by rw [← hk]; exact h', by simp [Tm.size]⟩
      · simp only [hk, if_false] at hb ⊢
        have hl := absL_length part d k ks 0
        have := absL_ok part ks d m k 0 h.2 hd hm hb
        simp only [Tm.ok, Tm.okN, Tm.size]
        exact ⟨⟨⟨fun h0 => absurd h0 hk, h.1.2.1, h.1.2.2.1, by rw [hl]; exact h.1.2.2.2⟩, this.1⟩, by have := this.2; omega⟩
theorem absL_ok (part : Tm) : ∀ (l : List Tm) (d m k : Int) (idx : Nat), Tm.oks m k idx l → 0 ≤ d → 65536 + d ≤ m → absBads part d k idx l = false → Tm.oks m k idx (absL part d k idx l) ∧ Tm.sizes (absL part d k idx l) ≤ Tm.sizes l
  | [], d, m, k, idx, _, _, _, _ => ⟨trivial, Nat.le_refl _⟩
  | t :: ts, d, m, k, idx, h, hd, hm, hb => by
    simp only [Tm.oks] at h
    simp only [absBads, Bool.or_eq_false_iff] at hb
    have hz := belowZ_01' k idx
    have e1 := absT_ok part t (d + belowZ k idx) (m + belowZ k idx) h.1 (by omega) (by omega) hb.1
    have e2 := absL_ok part ts d m k (idx + 1) h.2 hd hm hb.2
    simp only [absL, Tm.oks, Tm.sizes]
    exact ⟨⟨e1.1, e2.1⟩, by have := e1.2; have := e2.2; omega⟩
end

theorem resRefAbs_ok (t part : Tm) (hok : t.ok 65536) : (resRefAbs t part).1.ok 65536 ∧ (resRefAbs t part).1.size ≤ t.size := by
  unfold resRefAbs
  have := t.size_pos
  cases hb : absBad part 0 t with
  | true => simp only [if_true]; exact ⟨zT_ok _ (by omega), by simpa [zT, Tm.size, Tm.sizes] using this⟩
  | false =>
    simp only [Bool.false_eq_true, if_false]
    exact absT_ok part t 0 65536 hok (by omega) (by omega) hb

end Go.Proofs.Ytppgpabjcenjdaa
