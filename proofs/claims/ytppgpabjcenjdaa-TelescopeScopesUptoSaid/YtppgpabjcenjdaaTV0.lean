/-
  euclidlaw05: what is few; sizes of what comes out.
-/
import Derived.Test.YtppgpabjcenjdaaTU1
namespace Go.Proofs.Ytppgpabjcenjdaa

open Go Go.AI

theorem few5_ok {vars : Int} {t : Tm} (hv : 0 ≤ vars) (hl : t.lvs) (h : few5 vars t = true) : t.ok vars ∧ t.size ≤ 120 ∧ t.depth ≤ 100 := by
  simp only [few5, Bool.and_eq_true, decide_eq_true_eq, beq_iff_eq, checkZ] at h
  rw [if_neg (by omega : ¬ vars < 0)] at h
  obtain ⟨⟨h1, h2⟩, h3⟩ := h
  by_cases hc : chk vars 8 100 100 0 t = 0
  · exact ⟨by simpa using chk_ok vars 8 100 100 t 0 hl hc, by omega, by omega⟩
  · rw [if_pos hc] at h3; exact absurd h3 hc

theorem fews5_ok {vars step : Int} {l : List Tm} (hv : 0 ≤ vars) (hv2 : vars ≤ 1000) (hs : 0 ≤ step) (hs2 : step ≤ 1) (hl : Tm.lvss l) (h : fews5 vars step l = true) : l.length ≤ 12 ∧ ∀ t ∈ l, t.ok 65536 ∧ t.size ≤ 120 := by
  obtain ⟨h1, h2⟩ := fews5_at h
  refine ⟨h1, fun t ht => ?_⟩
  obtain ⟨j, hj, rfl⟩ := List.getElem_of_mem ht
  have hb : 0 ≤ step * j ∧ step * j ≤ 12 := by
    rcases (by omega : step = 0 ∨ step = 1) with rfl | rfl
    · simp
    · omega
  have := few5_ok (by omega) (Tm.lvss_at hl _ (List.getElem_mem hj)) (h2 j hj)
  exact ⟨ok_mono _ _ _ this.1 (by omega), this.2.1⟩

end Go.Proofs.Ytppgpabjcenjdaa
