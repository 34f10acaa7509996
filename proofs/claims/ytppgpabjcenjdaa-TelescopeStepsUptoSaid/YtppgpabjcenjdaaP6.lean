/-
  The plain laws of TelescopeSteps: how far indices go.
-/
import Derived.Test.YtppgpabjcenjdaaP5
namespace Go.Proofs.Ytppgpabjcenjdaa
open Go Go.AI

mutual
theorem shift_tight (d : Int) (hd : 0 ≤ d) : ∀ (x : Tm) (c m : Int), x.ok m → 0 ≤ c → (shiftT d 0 c x).ok (m + d)
  | .mk k i n ls ks, c, m, h, hc => by
    have h' := h
    simp only [Tm.ok, Tm.okN] at h
    by_cases hk : k = 0
    · obtain ⟨h1, h2, rfl, rfl, rfl⟩ := h.1.1 hk
      subst hk
      simp only [shiftT, if_true]
      by_cases hi : i < 0 + c ∨ i + d < 0 + c
      · rw [if_pos hi]; exact ok_mono _ _ _ h' (by omega)
      · rw [if_neg hi]
        simp only [vr, Tm.ok, Tm.okN, Tm.oks]
        exact ⟨⟨fun _ => ⟨by omega, by omega, trivial, trivial, trivial⟩, by simp, by simp, by simp⟩, trivial⟩
    · simp only [shiftT, hk, if_false, Tm.ok, Tm.okN]
      have hl : (shiftL d 0 c k 0 ks).length = ks.length := shiftL_len d c k ks 0
      refine ⟨⟨fun h0 => False.elim (by first | exact h0 | exact hk h0), h.1.2.1, h.1.2.2.1, by rw [hl]; exact h.1.2.2.2⟩, shiftL_tight d hd ks c k m 0 h.2 hc⟩
theorem shiftL_tight (d : Int) (hd : 0 ≤ d) : ∀ (l : List Tm) (c k m : Int) (idx : Nat), Tm.oks m k idx l → 0 ≤ c → Tm.oks (m + d) k idx (shiftL d 0 c k idx l)
  | [], _, _, _, _, _, _ => trivial
  | t :: ts, c, k, m, idx, h, hc => by
    simp only [Tm.oks] at h
    have hz := belowZ_01' k idx
    have e := shift_tight d hd t (c + belowZ k idx) _ h.1 (by omega)
    simp only [shiftL, Tm.oks]
    rw [show m + d + belowZ k idx = m + belowZ k idx + d by omega]
    exact ⟨e, shiftL_tight d hd ts c k m (idx + 1) h.2 hc⟩
theorem shiftL_len (d c k : Int) : ∀ (l : List Tm) (idx : Nat), (shiftL d 0 c k idx l).length = l.length
  | [], _ => rfl
  | t :: ts, idx => by simp [shiftL, shiftL_len d c k ts]
end
mutual
theorem sub_tight (vs : List Tm) (M : Int) (hM : 0 ≤ M) (hv : ∀ v ∈ vs, v.ok M) : ∀ (t : Tm) (d : Int), t.ok (M + vs.length + d) → 0 ≤ d → (subT vs d t).ok (M + d)
  | .mk k i n ls ks, d, h, hd => by
    have h' := h
    simp only [Tm.ok, Tm.okN] at h
    by_cases hk : k = 0
    · obtain ⟨h1, h2, rfl, rfl, rfl⟩ := h.1.1 hk
      subst hk
      simp only [subT, if_true]
      by_cases hi : d ≤ i
      · rw [if_pos hi]
        cases hx : vs[(i - d).toNat]? with
        | some x => simp only; exact shift_tight d hd x 0 M (hv x (List.mem_of_getElem? hx)) (by omega)
        | none =>
          rw [List.getElem?_eq_none_iff] at hx
          simp only [vr, Tm.ok, Tm.okN, Tm.oks]
          exact ⟨⟨fun _ => ⟨by omega, by omega, trivial, trivial, trivial⟩, by simp, by simp, by simp⟩, trivial⟩
      · rw [if_neg hi]
        simp only [Tm.ok, Tm.okN, Tm.oks]
        exact ⟨⟨fun _ => ⟨by omega, by omega, trivial, trivial, trivial⟩, by simp, by simp, by simp⟩, trivial⟩
    · simp only [subT, hk, if_false, Tm.ok, Tm.okN]
      have hl := subL_length vs d k ks 0
      refine ⟨⟨fun h0 => False.elim (by first | exact h0 | exact hk h0), h.1.2.1, h.1.2.2.1, by rw [hl]; exact h.1.2.2.2⟩, subL_tight vs M hM hv ks d k 0 h.2 hd⟩
theorem subL_tight (vs : List Tm) (M : Int) (hM : 0 ≤ M) (hv : ∀ v ∈ vs, v.ok M) : ∀ (l : List Tm) (d k : Int) (idx : Nat), Tm.oks (M + vs.length + d) k idx l → 0 ≤ d → Tm.oks (M + d) k idx (subL vs d k idx l)
  | [], _, _, _, _, _ => trivial
  | t :: ts, d, k, idx, h, hd => by
    simp only [Tm.oks] at h
    have hz := belowZ_01' k idx
    have e := sub_tight vs M hM hv t (d + belowZ k idx) (by rw [← Int.add_assoc]; exact h.1) (by omega)
    simp only [subL, Tm.oks]
    rw [Int.add_assoc]
    exact ⟨e, subL_tight vs M hM hv ts d k (idx + 1) h.2 hd⟩
end
mutual
theorem shift_notbad (d : Int) (hd : 0 ≤ d) : ∀ (x : Tm) (c m : Int), x.ok m → 0 ≤ c → m + d + x.size ≤ 65536 → shiftBad d 0 c x = false
  | .mk k i n ls ks, c, m, h, hc, hs => by
    simp only [Tm.ok, Tm.okN] at h
    simp only [Tm.size] at hs
    by_cases hk : k = 0
    · obtain ⟨h1, h2, rfl, rfl, rfl⟩ := h.1.1 hk
      subst hk
      simp only [shiftBad, if_true]
      by_cases hi : i < 0 + c
      · simp; omega
      · simp; omega
    · simp only [shiftBad, hk, if_false]
      exact shiftL_notbad d hd ks c k m 0 h.2 hc (by omega)
theorem shiftL_notbad (d : Int) (hd : 0 ≤ d) : ∀ (l : List Tm) (c k m : Int) (idx : Nat), Tm.oks m k idx l → 0 ≤ c → m + d + 1 + Tm.sizes l ≤ 65536 → shiftBads d 0 c k idx l = false
  | [], _, _, _, _, _, _, _ => rfl
  | t :: ts, c, k, m, idx, h, hc, hs => by
    simp only [Tm.oks] at h
    simp only [Tm.sizes] at hs
    have hz := belowZ_01' k idx
    have htp := t.size_pos
    simp only [shiftBads]
    rw [shift_notbad d hd t (c + belowZ k idx) _ h.1 (by omega) (by omega), shiftL_notbad d hd ts c k m (idx + 1) h.2 hc (by omega)]
    rfl
end
mutual
theorem sub_notbad (vs : List Tm) (M : Int) (S : Nat) (hv : ∀ v ∈ vs, v.ok M ∧ v.size ≤ S) : ∀ (t : Tm) (d m : Int), t.ok m → 0 ≤ d → m + t.size ≤ 65536 → M + S + d + t.size ≤ 65536 → subBad vs d t = false
  | .mk k i n ls ks, d, m, h, hd, hs, hs2 => by
    simp only [Tm.ok, Tm.okN] at h
    simp only [Tm.size] at hs hs2
    by_cases hk : k = 0
    · obtain ⟨h1, h2, rfl, rfl, rfl⟩ := h.1.1 hk
      subst hk
      simp only [subBad, if_true]
      by_cases hi : d ≤ i
      · rw [if_pos hi]
        cases hx : vs[(i - d).toNat]? with
        | some x =>
          have := hv x (List.mem_of_getElem? hx)
          simp only; exact shift_notbad d hd x 0 M this.1 (by omega) (by have := this.2; omega)
        | none => simp; omega
      · rw [if_neg hi]
    · simp only [subBad, hk, if_false]
      exact subL_notbad vs M S hv ks d k m 0 h.2 hd (by omega) (by omega)
theorem subL_notbad (vs : List Tm) (M : Int) (S : Nat) (hv : ∀ v ∈ vs, v.ok M ∧ v.size ≤ S) : ∀ (l : List Tm) (d k m : Int) (idx : Nat), Tm.oks m k idx l → 0 ≤ d → m + 1 + Tm.sizes l ≤ 65536 → M + S + d + 1 + Tm.sizes l ≤ 65536 → subBads vs d k idx l = false
  | [], _, _, _, _, _, _, _, _ => rfl
  | t :: ts, d, k, m, idx, h, hd, hs, hs2 => by
    simp only [Tm.oks] at h
    simp only [Tm.sizes] at hs hs2
    have hz := belowZ_01' k idx
    have htp := t.size_pos
    simp only [subBads]
    rw [sub_notbad vs M S hv t (d + belowZ k idx) _ h.1 (by omega) (by omega) (by omega), subL_notbad vs M S hv ts d k m (idx + 1) h.2 hd (by omega) (by omega)]
    rfl
end

theorem sub_bind (vs : List Tm) (d : Int) (a b : Tm) : subT vs d (.mk 6 0 [] [] [a, b]) = .mk 6 0 [] [] [subT vs d a, subT vs (d + 1) b] := by
  simp [subT, subL, belowZ]
theorem bind_ok (t : Tm) : ∀ (l : List Tm) (m : Int), 0 ≤ m → t.ok (m + l.length) → (∀ (j : Nat) (hj : j < l.length), l[j].ok (m + j)) → (bindT 6 l t).ok m
  | [], m, _, h, _ => by simpa [bindT] using h
  | a :: l, m, hm, h, hl => by
    have e : bindT 6 (a :: l) t = .mk 6 0 [] [] [a, bindT 6 l t] := rfl
    rw [e]
    have h0 := hl 0 (by simp)
    have ih := bind_ok t l (m + 1) (by omega) (by simp only [List.length_cons] at h; rw [show m + 1 + (l.length : Int) = m + ((l.length + 1 : Nat) : Int) by omega]; exact h) (fun j hj => by
      have := hl (j + 1) (by simpa using hj)
      simp only [List.getElem_cons_succ] at this
      rw [show m + 1 + (j : Int) = m + ((j + 1 : Nat) : Int) by omega]; exact this)
    simp only [List.getElem_cons_zero] at h0
    simp only [Tm.ok, Tm.okN, Tm.oks]
    refine ⟨⟨by simp, by simp, by simp, by simp⟩, ?_, ?_, trivial⟩
    · exact ok_mono a _ _ h0 (by simp [belowZ])
    · exact ok_mono _ _ _ ih (by simp [belowZ])
/-- One step's error: none, too many or too deep. -/
theorem resSub_err {t : Tm} {vs : List Tm} {d : Int} (hb : subBad vs d t = false) : (resSub t vs d).2 = 5 ∨ (resSub t vs d).2 = 7 ∨ ((resSub t vs d).2 = 0 ∧ (resSub t vs d).1 = subT vs d t) := by
  unfold resSub
  rw [hb]
  split
  · exact .inl rfl
  · simp only [Bool.false_eq_true, if_false]
    split
    · exact .inr (.inl rfl)
    · exact .inr (.inr ⟨rfl, rfl⟩)

end Go.Proofs.Ytppgpabjcenjdaa
