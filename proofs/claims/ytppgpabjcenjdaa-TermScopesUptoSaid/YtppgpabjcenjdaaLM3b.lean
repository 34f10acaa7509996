/-
  term: fits.
-/
import Derived.Test.YtppgpabjcenjdaaLP8
import Derived.Test.YtppgpabjcenjdaaLFM
namespace Go.Proofs.Ytppgpabjcenjdaa

open Go Go.AI

def lvZ (k : Int) : Int := if k = 2 then 1 else if k = 3 then -1 else 0

theorem usesL_row (k : Int) (h0 : 0 ≤ k) (h1 : k < 13) : (usesL.drop (k.toNat * 5)).take 5 = [bA (k == 0 || k == 12), bA (k == 3), iA (lvZ k), iA (kidsZ k), iA (belowK k)] := by
  have : k = 0 ∨ k = 1 ∨ k = 2 ∨ k = 3 ∨ k = 4 ∨ k = 5 ∨ k = 6 ∨ k = 7 ∨ k = 8 ∨ k = 9 ∨ k = 10 ∨ k = 11 ∨ k = 12 := by omega
  rcases this with rfl | rfl | rfl | rfl | rfl | rfl | rfl | rfl | rfl | rfl | rfl | rfl | rfl <;> rfl

theorem fit_form (k i : Int) (n : List UInt8) (a b : Int) (h0 : ¬ k < 0) (h1 : ¬ 13 ≤ k) : formN k i n a b = (((k == 0 || k == 12) || i == 0) && ((k == 3 || decide (n = [])) && ((decide (lvZ k < 0) || a == lvZ k) && b == kidsZ k))) := by
  unfold formN lvZ
  by_cases k2 : k = 2
  · subst k2; rw [Bool.eq_iff_iff]; simp; constructor <;> (intro h; simp_all)
  · by_cases k3 : k = 3
    · subst k3; rw [Bool.eq_iff_iff]; simp; constructor <;> (intro h; simp_all)
    · rw [Bool.eq_iff_iff]; simp [k2, k3, h0, h1]
      constructor
      · rintro ⟨⟨⟨q1, q2⟩, q3⟩, q4⟩
        refine ⟨?_, q3, q4, q1⟩
        rcases q2 with q | q
        · exact .inr q
        · left; omega
      · rintro ⟨q1, q2, q3, q4⟩
        refine ⟨⟨⟨q4, ?_⟩, q2⟩, q3⟩
        omega

set_option maxRecDepth 8000 in
set_option maxHeartbeats 4000000 in
theorem fits_any (h : Heap) (hh : WF h) (t : Tm) : ACalls Try.prog 192 [t.av] h fun o h' => o = .ret (bA (formB t)) ∧ h' = h := by
  obtain ⟨k, i, n, ls, ks⟩ := t
  refine ACalls.of_run Try.func192 rfl ?_
  simp only [Try.ntmps192, List.length_cons, List.length_nil, Tm.av, cells_mk, List.map]
  repeat (first | refine Run.seq ?_ | refine Run.block ?_ | refine Run.skip ?_ | refine Run.inBlock ?_ | refine Run.opsNil ?_)
  repeat (first | refine Run.seq ?_ | refine Run.block ?_ | refine Run.skip ?_ | refine Run.inBlock ?_ | refine Run.opsNil ?_)
  refine Run.reg fun K hK => ?_
  simp
  try (simp (disch := omega) only [wrap_id])
  refine hK _ _ _ ?_; clear hK K
  repeat (first | refine Run.seq ?_ | refine Run.block ?_ | refine Run.skip ?_ | refine Run.inBlock ?_ | refine Run.opsNil ?_)
  repeat (first | refine Run.seq ?_ | refine Run.block ?_ | refine Run.skip ?_ | refine Run.inBlock ?_ | refine Run.opsNil ?_)
  refine Run.regJ [1] 11 (decide (k < 0) || decide (13 ≤ k)) (fun K hK => ?_) ?_
  · simp
    repeat' (first | apply And.intro | intro _)
    all_goals
      try (simp (disch := omega) only [wrap_id])
      refine hK _ ?_
      simp
      repeat' (first | exact WeakL.nil | apply WeakL.cons)
      all_goals first | exact Weak.junk _ | (refine Weak.bool ?_; clear hK K; rw [Bool.eq_iff_iff]; simp; done) | (refine Weak.bool ?_; clear hK K; rw [Bool.eq_iff_iff]; simp; omega) | (refine Weak.bool ?_; clear hK K; simp_all; done) | (refine Weak.bool ?_; clear hK K; simp [*]; done) | (refine Weak.bool ?_; clear hK K; rw [Bool.eq_iff_iff]; simp [*]; omega) | exact Weak.refl _
  simp only [setMany, keepT, keepT.go, List.contains_cons, List.set_cons_succ, List.set_cons_zero]
  simp
  refine Run.condB rfl (fun h1 => ?_) (fun h1 => ?_)
  · repeat (first
      | refine Run.seq ?_ | refine Run.block ?_ | refine Run.skip ?_ | refine Run.inBlock ?_ | refine Run.opsNil ?_
      | (refine Run.reg fun K hK => ?_; simp; (try (simp (disch := omega) only [wrap_id])); refine hK _ _ _ ?_; clear hK K)
      | (refine Run.cond (b := true) rfl ?_; simp only [if_true])
      | (refine Run.cond (b := false) rfl ?_; simp only [Bool.false_eq_true, if_false])
      | refine Run.exit rfl ?_ | refine Run.ret ?_)
    exact Fin.ret' (h0 := h) (by simp) rfl hh rfl rfl rfl (Weak.refl _) rfl ⟨by simp [formB, formN, h1], rfl⟩
  have h0 : ¬ k < 0 := by simp at h1; omega
  have h13 : ¬ 13 ≤ k := by simp at h1; omega
  have hrow := usesL_row k (by omega) (by omega)
  have hff := fit_form k i n ls.length ks.length h0 h13
  repeat (first | refine Run.seq ?_ | refine Run.block ?_ | refine Run.skip ?_ | refine Run.inBlock ?_ | refine Run.opsNil ?_)
  repeat (first | refine Run.seq ?_ | refine Run.block ?_ | refine Run.skip ?_ | refine Run.inBlock ?_ | refine Run.opsNil ?_)
  refine PC.Run.drawP (pc := [0]) [0, 0, 0, 0, 0, 1] [0, 0, 0, 0, 0, 1] [0, 0, 2, 7, 0, 31] [4, 0, 1, 2, 3, 5] (by kernel_rfl) (by kernel_rfl) ?_
  refine PC.DR.go fun K hK => ?_
  simp
  try (simp (disch := omega) only [wrap_id])
  refine hK _ _ _ _ ?_; clear hK K
  refine PC.DR.pcall (args := []) rfl rfl rfl (by simp) rfl rfl (fun g hg => (uses_any) g ?_) ?_
  · simp at hg; (first | (rcases hg with rfl | rfl | rfl | rfl) | (rcases hg with rfl | rfl | rfl) | (rcases hg with rfl | rfl) | subst hg) <;> exact hh.app (by simp)
  refine PC.DR.go fun K hK => ?_
  simp [h0, hrow, show k < 13 by omega]
  try (simp (disch := omega) only [wrap_id])
  refine hK _ _ _ _ ?_; clear hK K
  change Run _ _ _ _ _ _ _ _
  repeat (first | refine Run.seq ?_ | refine Run.block ?_ | refine Run.skip ?_ | refine Run.inBlock ?_ | refine Run.opsNil ?_)
  rw [show formB (.mk k i n ls ks) = _ from hff]
  clear hff hrow h1 h0 h13
  generalize (k == 0 || k == 12) = ui
  generalize (k == 3) = un
  generalize lvZ k = lv
  generalize kidsZ k = kd
  obtain ⟨ne, hne⟩ : ∃ ne, ne = decide (n = []) := ⟨_, rfl⟩
  have hne2 : n.isEmpty = ne := by rw [hne, Bool.eq_iff_iff]; simp
  rw [← hne]
  repeat (first | refine Run.seq ?_ | refine Run.block ?_ | refine Run.skip ?_ | refine Run.inBlock ?_ | refine Run.opsNil ?_)
  refine Run.regPreJ 8 [1, 3] 23 (ui || i == 0) (fun K hK => ?_) ?_
  · simp only [List.take_succ_cons, List.take_zero]
    simp
    repeat' (first | apply And.intro | intro _)
    all_goals
      try (simp (disch := omega) only [wrap_id])
      refine hK _ ?_
      simp
      repeat' (first | exact WeakL.nil | apply WeakL.cons)
      all_goals first | exact Weak.junk _ | (refine Weak.bool ?_; clear hK K; rw [Bool.eq_iff_iff]; simp; done) | (refine Weak.bool ?_; clear hK K; rw [Bool.eq_iff_iff]; simp; omega) | (refine Weak.bool ?_; clear hK K; simp_all; done) | (refine Weak.bool ?_; clear hK K; simp [*]; done) | (refine Weak.bool ?_; clear hK K; rw [Bool.eq_iff_iff]; simp [*]; omega) | exact Weak.refl _
  simp only [setMany, keepT, keepT.go, List.contains_cons, List.set_cons_succ, List.set_cons_zero, List.drop_succ_cons, List.drop_zero]
  simp
  generalize (ui || i == 0) = a1
  refine Run.opsPreJ 9 [1, 3] 32 (a1 && (un || ne)) (fun K hK => ?_) ?_
  · simp only [List.take_succ_cons, List.take_zero]
    simp [hne2]
    repeat' (first | apply And.intro | intro _)
    all_goals
      try (simp (disch := omega) only [wrap_id])
      refine hK _ ?_
      simp
      repeat' (first | exact WeakL.nil | apply WeakL.cons)
      all_goals first | exact Weak.junk _ | (refine Weak.bool ?_; clear hK K; rw [Bool.eq_iff_iff]; simp; done) | (refine Weak.bool ?_; clear hK K; rw [Bool.eq_iff_iff]; simp; omega) | (refine Weak.bool ?_; clear hK K; simp_all; done) | (refine Weak.bool ?_; clear hK K; simp [*]; done) | (refine Weak.bool ?_; clear hK K; rw [Bool.eq_iff_iff]; simp [*]; omega) | exact Weak.refl _
  simp only [setMany, keepT, keepT.go, List.contains_cons, List.set_cons_succ, List.set_cons_zero, List.drop_succ_cons, List.drop_zero]
  simp
  rw [← Bool.and_assoc]
  generalize (a1 && (un || ne)) = a2
  refine Run.opsPreJ 13 [1, 3] 45 (a2 && (decide (lv < 0) || (ls.length : Int) == lv)) (fun K hK => ?_) ?_
  · simp only [List.take_succ_cons, List.take_zero]
    simp
    repeat' (first | apply And.intro | intro _)
    all_goals
      try (simp (disch := omega) only [wrap_id])
      refine hK _ ?_
      simp
      repeat' (first | exact WeakL.nil | apply WeakL.cons)
      all_goals first | exact Weak.junk _ | (refine Weak.bool ?_; clear hK K; rw [Bool.eq_iff_iff]; simp; done) | (refine Weak.bool ?_; clear hK K; rw [Bool.eq_iff_iff]; simp; omega) | (refine Weak.bool ?_; clear hK K; simp_all; done) | (refine Weak.bool ?_; clear hK K; simp [*]; done) | (refine Weak.bool ?_; clear hK K; rw [Bool.eq_iff_iff]; simp [*]; omega) | exact Weak.refl _
  simp only [setMany, keepT, keepT.go, List.contains_cons, List.set_cons_succ, List.set_cons_zero, List.drop_succ_cons, List.drop_zero]
  simp
  rw [← Bool.and_assoc]
  generalize (a2 && (decide (lv < 0) || (ls.length : Int) == lv)) = a3
  refine Run.opsJ [] 2 (a3 && (ks.length : Int) == kd) (fun K hK => ?_) ?_
  · simp
    repeat' (first | apply And.intro | intro _)
    all_goals
      try (simp (disch := omega) only [wrap_id])
      refine hK _ ?_
      simp
      repeat' (first | exact WeakL.nil | apply WeakL.cons)
      all_goals first | exact Weak.junk _ | (refine Weak.bool ?_; clear hK K; rw [Bool.eq_iff_iff]; simp; done) | (refine Weak.bool ?_; clear hK K; rw [Bool.eq_iff_iff]; simp; omega) | (refine Weak.bool ?_; clear hK K; simp_all; done) | (refine Weak.bool ?_; clear hK K; simp [*]; done) | (refine Weak.bool ?_; clear hK K; rw [Bool.eq_iff_iff]; simp [*]; omega) | exact Weak.refl _
  simp only [setMany, keepT, keepT.go, List.set_cons_succ, List.set_cons_zero]
  simp
  refine Run.ret ?_
  exact Fin.ret' (h0 := h) (by simp) rfl hh rfl (by simp; rfl) rfl (Weak.refl _) (by simp) ⟨rfl, rfl⟩

end Go.Proofs.Ytppgpabjcenjdaa
