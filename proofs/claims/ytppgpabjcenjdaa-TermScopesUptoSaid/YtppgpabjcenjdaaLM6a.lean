/-
  slices.Equal at []int.
-/
import Derived.Test.YtppgpabjcenjdaaLN1
import Derived.Test.YtppgpabjcenjdaaLFM
namespace Go.Proofs.Ytppgpabjcenjdaa

open Go Go.AI

set_option maxRecDepth 8000 in
set_option maxHeartbeats 4000000 in
theorem ieq_any (h : Heap) (hh : WF h) (a b : List Int) (hl : a.length ≤ 1099511627776) : ACalls Try.prog 84 [.p (.sl 1 (intPs a)), .p (.sl 1 (intPs b))] h fun o h' => o = .ret (bA (decide (a = b))) ∧ h' = h := by
  refine ACalls.of_run Try.func84 rfl ?_
  simp only [Try.ntmps84, List.length_cons, List.length_nil]
  repeat (first | refine Run.seq ?_ | refine Run.block ?_ | refine Run.skip ?_ | refine Run.inBlock ?_ | refine Run.opsNil ?_)
  repeat (first | refine Run.seq ?_ | refine Run.block ?_ | refine Run.skip ?_ | refine Run.inBlock ?_ | refine Run.opsNil ?_)
  refine Run.reg fun K hK => ?_
  simp
  try (simp (disch := omega) only [wrap_id])
  refine hK _ _ _ ?_; clear hK K
  repeat (first | refine Run.seq ?_ | refine Run.block ?_ | refine Run.skip ?_ | refine Run.inBlock ?_ | refine Run.opsNil ?_)
  repeat (first | refine Run.seq ?_ | refine Run.block ?_ | refine Run.skip ?_ | refine Run.inBlock ?_ | refine Run.opsNil ?_)
  refine Run.reg fun K hK => ?_
  simp
  try (simp (disch := omega) only [wrap_id])
  refine hK _ _ _ ?_; clear hK K
  repeat (first | refine Run.seq ?_ | refine Run.block ?_ | refine Run.skip ?_ | refine Run.inBlock ?_ | refine Run.opsNil ?_)
  by_cases hne : a.length = b.length
  · repeat (first | refine Run.seq ?_ | refine Run.block ?_ | refine Run.skip ?_ | refine Run.inBlock ?_ | refine Run.opsNil ?_)
    refine Run.cond (b := false) (by simp [hne]) ?_
    simp only [Bool.false_eq_true, if_false]
    repeat (first | refine Run.seq ?_ | refine Run.block ?_ | refine Run.skip ?_ | refine Run.inBlock ?_ | refine Run.opsNil ?_)
    repeat (first | refine Run.seq ?_ | refine Run.block ?_ | refine Run.skip ?_ | refine Run.inBlock ?_ | refine Run.opsNil ?_)
    refine Run.reg fun K hK => ?_
    simp
    try (simp (disch := omega) only [wrap_id])
    refine hK _ _ _ ?_; clear hK K
    repeat (first | refine Run.seq ?_ | refine Run.block ?_ | refine Run.skip ?_ | refine Run.inBlock ?_ | refine Run.opsNil ?_)
    refine Run.loopS [0, 1, 12] (fun j : Nat => j ≤ a.length ∧ a.take j = b.take j) (fun j => a.length - j) (fun j => [(13, iA j)]) (fun _ => _) 0 (by simp) ?_ rfl ?_
    · simp
      repeat' (first | exact WeakL.nil | apply WeakL.cons)
      all_goals first | exact Weak.junk _ | exact Weak.refl _ | exact Weak.nil _ | exact Weak.own _ _ _ | exact Weak.int (by omega)
    rintro j ⟨hj, hall⟩ IH
    simp
    repeat (first | refine Run.seq ?_ | refine Run.block ?_ | refine Run.skip ?_ | refine Run.inBlock ?_ | refine Run.opsNil ?_)
    refine Run.reg fun K hK => ?_
    simp
    try (simp (disch := omega) only [wrap_id])
    refine hK _ _ _ ?_; clear hK K
    repeat (first | refine Run.seq ?_ | refine Run.block ?_ | refine Run.skip ?_ | refine Run.inBlock ?_ | refine Run.opsNil ?_)
    by_cases hjl : j < a.length
    · have hg : a[j]? = some a[j] := List.getElem?_eq_getElem hjl
      have hjb : j < b.length := by omega
      have hg2 : b[j]? = some b[j] := List.getElem?_eq_getElem hjb
      have ha : a.take (j + 1) = a.take j ++ [a[j]] := List.take_succ_eq_append_getElem hjl
      have hb : b.take (j + 1) = b.take j ++ [b[j]] := List.take_succ_eq_append_getElem hjb
      generalize a[j] = x at hg ha
      generalize b[j] = y at hg2 hb
      repeat (first | refine Run.seq ?_ | refine Run.block ?_ | refine Run.skip ?_ | refine Run.inBlock ?_ | refine Run.opsNil ?_)
      refine Run.cond (b := true) (by simp [hjl]) ?_
      simp only [if_true]
      repeat (first | refine Run.seq ?_ | refine Run.block ?_ | refine Run.skip ?_ | refine Run.inBlock ?_ | refine Run.opsNil ?_)
      repeat (first | refine Run.seq ?_ | refine Run.block ?_ | refine Run.skip ?_ | refine Run.inBlock ?_ | refine Run.opsNil ?_)
      refine Run.reg fun K hK => ?_
      simp
      try (simp (disch := omega) only [wrap_id])
      refine hK _ _ _ ?_; clear hK K
      repeat (first | refine Run.seq ?_ | refine Run.block ?_ | refine Run.skip ?_ | refine Run.inBlock ?_ | refine Run.opsNil ?_)
      repeat (first | refine Run.seq ?_ | refine Run.block ?_ | refine Run.skip ?_ | refine Run.inBlock ?_ | refine Run.opsNil ?_)
      refine Run.draw [0, 0, 0, 0, 0, 0, 0, 0, 0] [0, 0, 0, 0, 0, 0, 0, 0, 0] [0, 0, 3, 7, 0, 0, 48, 112, 255] [0, 1, 2, 3, 4, 5, 6, 7, 8] (by kernel_rfl) (by kernel_rfl) ?_
      refine DR.go fun K hK => ?_
      simp [hg, hg2]
      try (simp (disch := omega) only [wrap_id])
      refine hK _ _ _ _ ?_; clear hK K
      change Run _ _ _ _ _ _ _ _
      repeat (first | refine Run.seq ?_ | refine Run.block ?_ | refine Run.skip ?_ | refine Run.inBlock ?_ | refine Run.opsNil ?_)
      by_cases hx : x = y
      · repeat (first | refine Run.seq ?_ | refine Run.block ?_ | refine Run.skip ?_ | refine Run.inBlock ?_ | refine Run.opsNil ?_)
        refine Run.cond (b := false) (by simp [hx]) ?_
        simp only [Bool.false_eq_true, if_false]
        repeat (first | refine Run.seq ?_ | refine Run.block ?_ | refine Run.skip ?_ | refine Run.inBlock ?_ | refine Run.opsNil ?_)
        repeat (first | refine Run.seq ?_ | refine Run.block ?_ | refine Run.skip ?_ | refine Run.inBlock ?_ | refine Run.opsNil ?_)
        refine Run.reg fun K hK => ?_
        simp
        try (simp (disch := omega) only [wrap_id])
        refine hK _ _ _ ?_; clear hK K
        repeat (first | refine Run.seq ?_ | refine Run.block ?_ | refine Run.skip ?_ | refine Run.inBlock ?_ | refine Run.opsNil ?_)
        refine IH (j + 1) _ _ ⟨by omega, by rw [ha, hb, hall, hx]⟩ (by omega) ?_ rfl
        simp
        repeat' (first | exact WeakL.nil | apply WeakL.cons)
        all_goals first | exact Weak.junk _ | exact Weak.refl _ | exact Weak.nil _ | exact Weak.own _ _ _ | exact Weak.int (by omega)
      · repeat (first | refine Run.seq ?_ | refine Run.block ?_ | refine Run.skip ?_ | refine Run.inBlock ?_ | refine Run.opsNil ?_)
        refine Run.cond (b := true) (by simp [hx]) ?_
        simp only [if_true]
        repeat (first | refine Run.seq ?_ | refine Run.block ?_ | refine Run.skip ?_ | refine Run.inBlock ?_ | refine Run.opsNil ?_)
        repeat (first
          | refine Run.seq ?_ | refine Run.block ?_ | refine Run.skip ?_ | refine Run.inBlock ?_ | refine Run.opsNil ?_
          | (refine Run.reg fun K hK => ?_; simp; (try (simp (disch := omega) only [wrap_id])); refine hK _ _ _ ?_; clear hK K)
          | (refine Run.cond (b := true) rfl ?_; simp only [if_true])
          | (refine Run.cond (b := false) rfl ?_; simp only [Bool.false_eq_true, if_false])
          | refine Run.exit rfl ?_ | refine Run.ret ?_)
        have : a ≠ b := by
          rintro rfl
          rw [hg] at hg2
          exact hx (Option.some.inj hg2)
        exact Fin.ret' (by simp) rfl hh (List.append_nil _).symm rfl rfl (Weak.refl _) rfl ⟨by simp [this], rfl⟩
    · have hje : j = a.length := by omega
      subst hje
      rw [List.take_length, hne, List.take_length] at hall
      repeat (first | refine Run.seq ?_ | refine Run.block ?_ | refine Run.skip ?_ | refine Run.inBlock ?_ | refine Run.opsNil ?_)
      refine Run.cond (b := false) (by simp) ?_
      simp only [Bool.false_eq_true, if_false]
      repeat (first | refine Run.seq ?_ | refine Run.block ?_ | refine Run.skip ?_ | refine Run.inBlock ?_ | refine Run.opsNil ?_)
      repeat (first | refine Run.seq ?_ | refine Run.block ?_ | refine Run.skip ?_ | refine Run.inBlock ?_ | refine Run.opsNil ?_)
      refine Run.exit rfl ?_
      repeat (first | refine Run.seq ?_ | refine Run.block ?_ | refine Run.skip ?_ | refine Run.inBlock ?_ | refine Run.opsNil ?_)
      repeat (first
        | refine Run.seq ?_ | refine Run.block ?_ | refine Run.skip ?_ | refine Run.inBlock ?_ | refine Run.opsNil ?_
        | (refine Run.reg fun K hK => ?_; simp; (try (simp (disch := omega) only [wrap_id])); refine hK _ _ _ ?_; clear hK K)
        | (refine Run.cond (b := true) rfl ?_; simp only [if_true])
        | (refine Run.cond (b := false) rfl ?_; simp only [Bool.false_eq_true, if_false])
        | refine Run.exit rfl ?_ | refine Run.ret ?_)
      exact Fin.ret' (by simp) rfl hh (List.append_nil _).symm rfl rfl (Weak.refl _) rfl ⟨by simp [hall], rfl⟩
  · have hne' : ¬ (a.length : Int) = b.length := by omega
    repeat (first | refine Run.seq ?_ | refine Run.block ?_ | refine Run.skip ?_ | refine Run.inBlock ?_ | refine Run.opsNil ?_)
    refine Run.cond (b := true) (by simp [hne']) ?_
    simp only [if_true]
    repeat (first | refine Run.seq ?_ | refine Run.block ?_ | refine Run.skip ?_ | refine Run.inBlock ?_ | refine Run.opsNil ?_)
    repeat (first
      | refine Run.seq ?_ | refine Run.block ?_ | refine Run.skip ?_ | refine Run.inBlock ?_ | refine Run.opsNil ?_
      | (refine Run.reg fun K hK => ?_; simp; (try (simp (disch := omega) only [wrap_id])); refine hK _ _ _ ?_; clear hK K)
      | (refine Run.cond (b := true) rfl ?_; simp only [if_true])
      | (refine Run.cond (b := false) rfl ?_; simp only [Bool.false_eq_true, if_false])
      | refine Run.exit rfl ?_ | refine Run.ret ?_)
    have : a ≠ b := by rintro rfl; exact hne rfl
    exact Fin.ret' (by simp) rfl hh (List.append_nil _).symm rfl rfl (Weak.refl _) rfl ⟨by simp [this], rfl⟩

end Go.Proofs.Ytppgpabjcenjdaa
