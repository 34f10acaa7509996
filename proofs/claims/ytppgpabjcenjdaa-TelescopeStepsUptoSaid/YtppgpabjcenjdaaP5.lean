/-
  The plain laws of TelescopeSteps: one value after the other is all at once.
-/
import Derived.Test.YtppgpabjcenjdaaV0
namespace Go.Proofs.Ytppgpabjcenjdaa
open Go Go.AI

mutual
theorem sub_shiftS (y : Tm) (d : Int) (hd : 0 ≤ d) : ∀ (x : Tm) (c m : Int), x.ok m → 0 ≤ c → subT [y] (d + c) (shiftT (d + 1) 0 c x) = shiftT d 0 c x
  | .mk k i n ls ks, c, m, h, hc => by
    simp only [Tm.ok, Tm.okN] at h
    by_cases hk : k = 0
    · obtain ⟨_, _, rfl, rfl, rfl⟩ := h.1.1 hk
      subst hk
      by_cases hi : i < c
      · have e1 : shiftT (d + 1) 0 c (.mk 0 i [] [] []) = .mk 0 i [] [] [] := by simp only [shiftT, if_true]; rw [if_pos (by omega)]
        have e2 : shiftT d 0 c (.mk 0 i [] [] []) = .mk 0 i [] [] [] := by simp only [shiftT, if_true]; rw [if_pos (by omega)]
        rw [e1, e2]
        simp only [subT, if_true]
        rw [if_neg (by omega)]
      · have e1 : shiftT (d + 1) 0 c (.mk 0 i [] [] []) = vr (i + (d + 1)) := by simp only [shiftT, if_true]; rw [if_neg (by omega)]
        have e3 : shiftT d 0 c (.mk 0 i [] [] []) = vr (i + d) := by simp only [shiftT, if_true]; rw [if_neg (by omega)]
        rw [e1, e3]
        simp only [vr, subT, if_true]
        rw [if_pos (by omega), List.getElem?_eq_none (by simp; omega)]
        simp only [List.length_singleton]
        congr 1; omega
    · simp only [shiftT, hk, if_false, subT]
      rw [subL_shiftS y d hd ks c k m 0 h.2 hc]
theorem subL_shiftS (y : Tm) (d : Int) (hd : 0 ≤ d) : ∀ (l : List Tm) (c k m : Int) (idx : Nat), Tm.oks m k idx l → 0 ≤ c → subL [y] (d + c) k idx (shiftL (d + 1) 0 c k idx l) = shiftL d 0 c k idx l
  | [], _, _, _, _, _, _ => rfl
  | t :: ts, c, k, m, idx, h, hc => by
    simp only [Tm.oks] at h
    have hz := belowZ_01' k idx
    have e := sub_shiftS y d hd t (c + belowZ k idx) _ h.1 (by omega)
    simp only [shiftL, subL]
    rw [← Int.add_assoc] at e
    rw [e, subL_shiftS y d hd ts c k m (idx + 1) h.2 hc]
end
mutual
/-- One value more, put in last. -/
theorem sub_step (y : Tm) (vs : List Tm) (mv : Int) (hv : ∀ v ∈ vs, v.ok mv) : ∀ (t : Tm) (d m : Int), t.ok m → 0 ≤ d → subT [y] d (subT vs (d + 1) t) = subT (y :: vs) d t
  | .mk k i n ls ks, d, m, h, hd => by
    simp only [Tm.ok, Tm.okN] at h
    by_cases hk : k = 0
    · obtain ⟨_, _, rfl, rfl, rfl⟩ := h.1.1 hk
      subst hk
      by_cases hi : d + 1 ≤ i
      · obtain ⟨q, hq⟩ : ∃ q : Nat, i = d + 1 + q := ⟨(i - (d + 1)).toNat, by omega⟩
        subst hq
        have n1 : (d + 1 + (q : Int) - (d + 1)).toNat = q := by omega
        have n2 : (d + 1 + (q : Int) - d).toNat = q + 1 := by omega
        cases hx : vs[q]? with
        | some x =>
          have e1 : subT vs (d + 1) (.mk 0 (d + 1 + q) [] [] []) = shiftT (d + 1) 0 0 x := by simp only [subT, if_true]; rw [if_pos (by omega), n1, hx]
          have e2 : subT (y :: vs) d (.mk 0 (d + 1 + q) [] [] []) = shiftT d 0 0 x := by simp only [subT, if_true]; rw [if_pos (by omega), n2, List.getElem?_cons_succ, hx]
          rw [e1, e2]
          simpa using sub_shiftS y d hd x 0 mv (hv x (List.mem_of_getElem? hx)) (by omega)
        | none =>
          have e1 : subT vs (d + 1) (.mk 0 (d + 1 + q) [] [] []) = vr (d + 1 + q - vs.length) := by simp only [subT, if_true]; rw [if_pos (by omega), n1, hx]
          have e2 : subT (y :: vs) d (.mk 0 (d + 1 + q) [] [] []) = vr (d + 1 + q - (vs.length + 1 : Nat)) := by simp only [subT, if_true]; rw [if_pos (by omega), n2, List.getElem?_cons_succ, hx, List.length_cons]
          rw [List.getElem?_eq_none_iff] at hx
          rw [e1, e2]
          simp only [vr, subT, if_true]
          rw [if_pos (by omega), List.getElem?_eq_none (by simp; omega)]
          simp only [List.length_singleton]
          congr 1; omega
      · have e1 : subT vs (d + 1) (.mk 0 i [] [] []) = .mk 0 i [] [] [] := by simp only [subT, if_true]; rw [if_neg hi]
        rw [e1]
        simp only [subT, if_true]
        by_cases h2 : d ≤ i
        · have : i = d := by omega
          subst this
          simp
        · rw [if_neg h2, if_neg h2]
    · simp only [subT, hk, if_false]
      rw [subL_step y vs mv hv ks d k m 0 h.2 hd]
theorem subL_step (y : Tm) (vs : List Tm) (mv : Int) (hv : ∀ v ∈ vs, v.ok mv) : ∀ (l : List Tm) (d k m : Int) (idx : Nat), Tm.oks m k idx l → 0 ≤ d → subL [y] d k idx (subL vs (d + 1) k idx l) = subL (y :: vs) d k idx l
  | [], _, _, _, _, _, _ => rfl
  | t :: ts, d, k, m, idx, h, hd => by
    simp only [Tm.oks] at h
    have hz := belowZ_01' k idx
    simp only [subL]
    have e := sub_step y vs mv hv t (d + belowZ k idx) _ h.1 (by omega)
    rw [show d + 1 + belowZ k idx = d + belowZ k idx + 1 by omega, e, subL_step y vs mv hv ts d k m (idx + 1) h.2 hd]
end
mutual
/-- No values: nothing is changed. -/
theorem sub_nil : ∀ (t : Tm) (d m : Int), t.ok m → subT [] d t = t
  | .mk k i n ls ks, d, m, h => by
    simp only [Tm.ok, Tm.okN] at h
    by_cases hk : k = 0
    · obtain ⟨_, _, rfl, rfl, rfl⟩ := h.1.1 hk
      subst hk
      simp [subT, vr]
    · simp only [subT, hk, if_false]
      rw [subL_nil ks d k m 0 h.2]
theorem subL_nil : ∀ (l : List Tm) (d k m : Int) (idx : Nat), Tm.oks m k idx l → subL [] d k idx l = l
  | [], _, _, _, _, _ => rfl
  | t :: ts, d, k, m, idx, h => by
    simp only [Tm.oks] at h
    simp only [subL]
    rw [sub_nil t _ _ h.1, subL_nil ts d k m (idx + 1) h.2]
end
mutual
/-- Shifted up by n beyond n, and the n variables put in again: the same, and nothing is bad. -/
theorem sub_vars (n : Nat) (vs : List Tm) (hl : vs.length = n) (hv : ∀ q : Nat, q < n → vs[q]? = some (vr q)) : ∀ (t : Tm) (d m : Int), t.ok m → 0 ≤ d → m + t.size ≤ 65536 →
    subT vs d (shiftT n n d t) = t ∧ subBad vs d (shiftT n n d t) = false
  | .mk k i nm ls ks, d, m, h, hd, hm => by
    simp only [Tm.size] at hm
    simp only [Tm.ok, Tm.okN] at h
    by_cases hk : k = 0
    · obtain ⟨h1, h2, rfl, rfl, rfl⟩ := h.1.1 hk
      subst hk
      by_cases hi : i < n + d
      · have e1 : shiftT n n d (.mk 0 i [] [] []) = .mk 0 i [] [] [] := by simp only [shiftT, if_true]; rw [if_pos (.inl hi)]
        rw [e1]
        by_cases h3 : d ≤ i
        · obtain ⟨q, hq⟩ : ∃ q : Nat, i = d + q := ⟨(i - d).toNat, by omega⟩
          subst hq
          have n1 : (d + (q : Int) - d).toNat = q := by omega
          have e2 := hv q (by omega)
          constructor
          · simp only [subT, if_true]
            rw [if_pos h3, n1, e2]
            simp only [vr, shiftT, if_true]
            rw [if_neg (by omega)]
            congr 1; omega
          · simp only [subBad, if_true]
            rw [if_pos h3, n1, e2]
            simp only [vr, shiftBad, if_true]
            simp; omega
        · constructor
          · simp only [subT, if_true]; rw [if_neg h3]
          · simp only [subBad, if_true]; rw [if_neg h3]
      · have e1 : shiftT n n d (.mk 0 i [] [] []) = vr (i + n) := by simp only [shiftT, if_true]; rw [if_neg (by omega)]
        rw [e1]
        constructor
        · simp only [vr, subT, if_true]
          rw [if_pos (by omega), List.getElem?_eq_none (by omega)]
          simp only [hl]
          congr 1; omega
        · simp only [vr, subBad, if_true]
          rw [if_pos (by omega), List.getElem?_eq_none (by omega)]
          simp only [hl]
          simp; omega
    · have := subL_vars n vs hl hv ks d k m 0 h.2 hd (by omega)
      simp only [shiftT, hk, if_false, subT, subBad]
      exact ⟨by rw [this.1], this.2⟩
theorem subL_vars (n : Nat) (vs : List Tm) (hl : vs.length = n) (hv : ∀ q : Nat, q < n → vs[q]? = some (vr q)) : ∀ (l : List Tm) (d k m : Int) (idx : Nat), Tm.oks m k idx l → 0 ≤ d → m + 1 + Tm.sizes l ≤ 65536 →
    subL vs d k idx (shiftL n n d k idx l) = l ∧ subBads vs d k idx (shiftL n n d k idx l) = false
  | [], _, _, _, _, _, _, _ => ⟨rfl, rfl⟩
  | t :: ts, d, k, m, idx, h, hd, hm => by
    simp only [Tm.oks] at h
    simp only [Tm.sizes] at hm
    have htp := t.size_pos
    have hz := belowZ_01' k idx
    have e1 := sub_vars n vs hl hv t (d + belowZ k idx) _ h.1 (by omega) (by omega)
    have e2 := subL_vars n vs hl hv ts d k m (idx + 1) h.2 hd (by omega)
    simp only [shiftL, subL, subBads]
    rw [e1.1, e1.2, e2.1, e2.2]
    exact ⟨rfl, rfl⟩
end

end Go.Proofs.Ytppgpabjcenjdaa
