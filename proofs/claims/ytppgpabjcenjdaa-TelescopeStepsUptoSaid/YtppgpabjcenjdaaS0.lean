/-
  What the texts of the telescope want of S2, S3, P3 (never to be imported beside those).
-/
import Derived.Test.YtppgpabjcenjdaaR2
import Derived.Test.YtppgpabjcenjdaaE12
namespace Go.Proofs.Ytppgpabjcenjdaa
open Go Go.AI

theorem resRefUnder_ok (t : Tm) (vs : List Tm) (dp : Int) (hok : t.ok 65536) (hvo : ∀ v ∈ vs, v.ok 65536) : (resRefUnder t vs dp).1.lvs ∧ (resRefUnder t vs dp).1.size ≤ 4096 := by
  by_cases h0 : dp < 0
  · rw [resRefUnder, if_pos h0]
    exact ⟨by simp [zT, Tm.lvs, Tm.lvss], by simp [zT, Tm.size, Tm.sizes]⟩
  · rw [resRef_plain t vs dp (by omega)]
    have := resSub_ok t vs (capD dp) (by unfold capD; split <;> omega) hvo hok
    exact ⟨ok_lvs _ _ this.1, this.2⟩

theorem resRefShift_ok (by_ fr : Int) (t : Tm) (h : t.ok 65536) : (resRefShift by_ fr t).1.ok 65536 ∧ (resRefShift by_ fr t).1.size ≤ t.size := by
  have e : resRefShift by_ fr t = if fr < 0 ∨ by_ < -65536 ∨ 65536 < by_ then (zT, 2) else if shiftBad by_ (capD fr) 0 t = true then (zT, 24) else (shiftT by_ (capD fr) 0 t, 0) := rfl
  have hp := t.size_pos
  have hz : zT.ok 65536 ∧ zT.size ≤ t.size := ⟨zT_ok _ (by omega), by simpa [zT, Tm.size, Tm.sizes] using hp⟩
  rw [e]
  by_cases h1 : fr < 0 ∨ by_ < -65536 ∨ 65536 < by_
  · rw [if_pos h1]; exact hz
  · rw [if_neg h1]
    by_cases h2 : shiftBad by_ (capD fr) 0 t = true
    · rw [if_pos h2]; exact hz
    · rw [if_neg h2]
      exact ⟨shiftT_ok by_ (capD fr) (by unfold capD; split <;> omega) t 0 65536 65536 h (by omega) (by omega) (by omega) (by simpa using h2), by simp only; rw [shiftT_size by_ (capD fr) t 0 65536 h]; exact Nat.le_refl _⟩

theorem sameVar_eq {a b : Int × Int} (h : sameVar a b = true) : a = b := by
  obtain ⟨x, y⟩ := a
  obtain ⟨x', y'⟩ := b
  simp only [sameVar, Bool.and_eq_true, beq_iff_eq] at h
  rw [h.1, h.2]
theorem sameLv_eq' {a b : Lv} (h : sameLv a b = true) : a = b := by
  obtain ⟨c, vs⟩ := a
  obtain ⟨c', vs'⟩ := b
  simp only [sameLv, Bool.and_eq_true, Bool.not_eq_true', Bool.or_eq_false_iff, bne_eq_false_iff_eq] at h
  obtain ⟨⟨rfl, hl⟩, h⟩ := h
  have : vs = vs' := by
    apply List.ext_getElem (by omega)
    intro j h1 h2
    have := allTo_at h h1
    simp only [varsAt, List.getElem?_eq_getElem h1, List.getElem?_eq_getElem h2] at this
    exact sameVar_eq this
  rw [this]
theorem sameLvs_eq' {xs ys : List Lv} (h : sameLvs xs ys = true) : xs = ys := by
  simp only [sameLvs, Bool.and_eq_true, Bool.not_eq_true', bne_eq_false_iff_eq] at h
  apply List.ext_getElem (by omega)
  intro j h1 h2
  have := allTo_at h.2 h1
  simp only [lvsAt, List.getElem?_eq_getElem h1, List.getElem?_eq_getElem h2] at this
  exact sameLv_eq' this
mutual
theorem sameT_eq : ∀ (a b : Tm), sameT a b = true → a = b
  | .mk k i n ls ks, .mk k' i' n' ls' ks', h => by
    simp only [sameT, sameHead, Tm.kind, Tm.index, Tm.name, Tm.levels, Tm.kids, Bool.and_eq_true, Bool.not_eq_true', Bool.not_eq_false', Bool.or_eq_false_iff, bne_eq_false_iff_eq, beq_iff_eq] at h
    obtain ⟨⟨⟨⟨⟨h1, h2⟩, h3⟩, h4⟩, h5⟩, h6⟩ := h
    have h7 := sameLvs_eq' h4
    have h8 := sameTs_eq ks ks' (by omega) h6
    rw [h1, h2, h3, h7, h8]
theorem sameTs_eq : ∀ (xs ys : List Tm), xs.length = ys.length → sameTs xs ys = true → xs = ys
  | [], [], _, _ => rfl
  | [], _ :: _, h, _ => by simp at h
  | _ :: _, [], h, _ => by simp at h
  | x :: xs, y :: ys, h, hs => by
    simp only [sameTs, Bool.and_eq_true] at hs
    rw [sameT_eq x y hs.1, sameTs_eq xs ys (by simpa using h) hs.2]
end

end Go.Proofs.Ytppgpabjcenjdaa
