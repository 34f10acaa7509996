/-
  The reference's Check; the law's Good.
-/
import Derived.Test.YtppgpabjcenjdaaTD
import Derived.Test.YtppgpabjcenjdaaTE1
namespace Go.Proofs.Ytppgpabjcenjdaa

open Go Go.AI

def checkZ (vars params metas levels : Int) (t : Tm) : Int :=
  if chk (if vars < 0 then 0 else vars) params metas levels 0 t ≠ 0 then chk (if vars < 0 then 0 else vars) params metas levels 0 t
  else if 4096 < (t.size : Int) then 5 else if 200 < (t.depth : Int) then 7 else 0

set_option maxRecDepth 8000 in
set_option maxHeartbeats 4000000 in
theorem check_any (h : Heap) (hh : WF h) (t : Tm) (vars params metas levels : Int) (hsz : t.size ≤ 1099511627776) (hf : t.fit) :
    ACalls Try.prog 80 [t.av, iA vars, iA params, iA metas, iA levels] h fun o h' => o = .ret (iA (checkZ vars params metas levels t)) ∧ h' = h := by
  have hh1 : WF (h ++ [some (.cells (t.cells.map .p))]) := hh.app (by simp)
  have hc := chk_any (if vars < 0 then 0 else vars) params metas levels t.size t 0 _ (Nat.le_refl _) hf (by omega) (by omega) hh1
  have hs := size_any t.size t _ (Nat.le_refl _) hsz hh1
  have hd := depth_any t.size t _ (Nat.le_refl _) hsz hh1
  have hz : ∃ z, checkZ vars params metas levels t = z := ⟨_, rfl⟩
  obtain ⟨z, hz⟩ := hz
  rw [hz]
  unfold checkZ at hz
  generalize chk (if vars < 0 then 0 else vars) params metas levels 0 t = e at hc hz
  generalize t.size = sz at hs hz
  generalize t.depth = dp at hd hz
  obtain ⟨k, i, n, ls, ks⟩ := t
  refine ACalls.of_run Try.func80 rfl ?_
  simp only [Try.ntmps80, List.length_cons, List.length_nil, Tm.av, cells_mk, List.map]
  repeat (first | refine Run.seq ?_ | refine Run.block ?_ | refine Run.skip ?_ | refine Run.inBlock ?_ | refine Run.opsNil ?_)
  repeat (first | refine Run.seq ?_ | refine Run.block ?_ | refine Run.skip ?_ | refine Run.inBlock ?_ | refine Run.opsNil ?_)
  refine Run.reg fun K hK => ?_
  simp
  try (simp (disch := omega) only [wrap_id])
  refine hK _ _ _ ?_; clear hK K
  repeat (first | refine Run.seq ?_ | refine Run.block ?_ | refine Run.skip ?_ | refine Run.inBlock ?_ | refine Run.opsNil ?_)
  repeat (first | refine Run.seq ?_ | refine Run.block ?_ | refine Run.skip ?_ | refine Run.inBlock ?_ | refine Run.opsNil ?_)
  refine Run.reg fun K hK => ?_
  simp
  try (simp (disch := omega) only [wrap_id])
  refine hK _ _ _ ?_; clear hK K
  repeat (first | refine Run.seq ?_ | refine Run.block ?_ | refine Run.skip ?_ | refine Run.inBlock ?_ | refine Run.opsNil ?_)
  refine Run.call rfl rfl (by simp) rfl hc ?_ ?_
  rotate_left
  · rintro v h' ⟨hv, _⟩; cases hv
  rintro v h' ⟨hv, rfl⟩
  simp only [AOut.ret.injEq] at hv
  subst hv
  refine Run.ops fun K hK => ?_
  simp
  try (simp (disch := omega) only [wrap_id])
  refine hK _ _ _ ?_; clear hK K
  repeat (first | refine Run.seq ?_ | refine Run.block ?_ | refine Run.skip ?_ | refine Run.inBlock ?_ | refine Run.opsNil ?_)
  repeat (first | refine Run.seq ?_ | refine Run.block ?_ | refine Run.skip ?_ | refine Run.inBlock ?_ | refine Run.opsNil ?_)
  refine Run.reg fun K hK => ?_
  simp
  try (simp (disch := omega) only [wrap_id])
  refine hK _ _ _ ?_; clear hK K
  repeat (first | refine Run.seq ?_ | refine Run.block ?_ | refine Run.skip ?_ | refine Run.inBlock ?_ | refine Run.opsNil ?_)
  by_cases h1 : e = 0
  · rw [if_neg (by simp [h1])] at hz
    repeat (first | refine Run.seq ?_ | refine Run.block ?_ | refine Run.skip ?_ | refine Run.inBlock ?_ | refine Run.opsNil ?_)
    refine Run.cond (b := false) (by simp [h1]) ?_
    simp only [Bool.false_eq_true, if_false]
    repeat (first | refine Run.seq ?_ | refine Run.block ?_ | refine Run.skip ?_ | refine Run.inBlock ?_ | refine Run.opsNil ?_)
    repeat (first | refine Run.seq ?_ | refine Run.block ?_ | refine Run.skip ?_ | refine Run.inBlock ?_ | refine Run.opsNil ?_)
    refine Run.reg fun K hK => ?_
    simp
    try (simp (disch := omega) only [wrap_id])
    refine hK _ _ _ ?_; clear hK K
    repeat (first | refine Run.seq ?_ | refine Run.block ?_ | refine Run.skip ?_ | refine Run.inBlock ?_ | refine Run.opsNil ?_)
    refine Run.call rfl rfl (by simp) rfl hs ?_ ?_
    rotate_left
    · rintro v h' ⟨hv, _⟩; cases hv
    rintro v h' ⟨hv, rfl⟩
    simp only [AOut.ret.injEq] at hv
    subst hv
    refine Run.ops fun K hK => ?_
    simp
    try (simp (disch := omega) only [wrap_id])
    refine hK _ _ _ ?_; clear hK K
    repeat (first | refine Run.seq ?_ | refine Run.block ?_ | refine Run.skip ?_ | refine Run.inBlock ?_ | refine Run.opsNil ?_)
    by_cases h2 : 4096 < (sz : Int)
    · rw [if_pos h2] at hz
      repeat (first | refine Run.seq ?_ | refine Run.block ?_ | refine Run.skip ?_ | refine Run.inBlock ?_ | refine Run.opsNil ?_)
      refine Run.cond (b := true) (by simp [h2]) ?_
      simp only [if_true]
      repeat (first | refine Run.seq ?_ | refine Run.block ?_ | refine Run.skip ?_ | refine Run.inBlock ?_ | refine Run.opsNil ?_)
      repeat (first
        | refine Run.seq ?_ | refine Run.block ?_ | refine Run.skip ?_ | refine Run.inBlock ?_ | refine Run.opsNil ?_
        | (refine Run.reg fun K hK => ?_; simp; (try (simp (disch := omega) only [wrap_id])); refine hK _ _ _ ?_; clear hK K)
        | (refine Run.cond (b := true) rfl ?_; simp only [if_true])
        | (refine Run.cond (b := false) rfl ?_; simp only [Bool.false_eq_true, if_false])
        | refine Run.exit rfl ?_ | refine Run.ret ?_)
      exact Fin.ret' (by simp) rfl hh rfl rfl rfl (Weak.refl _) rfl ⟨by rw [← hz]; rfl, rfl⟩
    rw [if_neg h2] at hz
    repeat (first | refine Run.seq ?_ | refine Run.block ?_ | refine Run.skip ?_ | refine Run.inBlock ?_ | refine Run.opsNil ?_)
    refine Run.cond (b := false) (by simp [h2]) ?_
    simp only [Bool.false_eq_true, if_false]
    repeat (first | refine Run.seq ?_ | refine Run.block ?_ | refine Run.skip ?_ | refine Run.inBlock ?_ | refine Run.opsNil ?_)
    repeat (first | refine Run.seq ?_ | refine Run.block ?_ | refine Run.skip ?_ | refine Run.inBlock ?_ | refine Run.opsNil ?_)
    refine Run.reg fun K hK => ?_
    simp
    try (simp (disch := omega) only [wrap_id])
    refine hK _ _ _ ?_; clear hK K
    repeat (first | refine Run.seq ?_ | refine Run.block ?_ | refine Run.skip ?_ | refine Run.inBlock ?_ | refine Run.opsNil ?_)
    refine Run.call rfl rfl (by simp) rfl hd ?_ ?_
    rotate_left
    · rintro v h' ⟨hv, _⟩; cases hv
    rintro v h' ⟨hv, rfl⟩
    simp only [AOut.ret.injEq] at hv
    subst hv
    refine Run.ops fun K hK => ?_
    simp
    try (simp (disch := omega) only [wrap_id])
    refine hK _ _ _ ?_; clear hK K
    repeat (first | refine Run.seq ?_ | refine Run.block ?_ | refine Run.skip ?_ | refine Run.inBlock ?_ | refine Run.opsNil ?_)
    by_cases h3 : 200 < (dp : Int)
    · rw [if_pos h3] at hz
      repeat (first | refine Run.seq ?_ | refine Run.block ?_ | refine Run.skip ?_ | refine Run.inBlock ?_ | refine Run.opsNil ?_)
      refine Run.cond (b := true) (by simp [h3]) ?_
      simp only [if_true]
      repeat (first | refine Run.seq ?_ | refine Run.block ?_ | refine Run.skip ?_ | refine Run.inBlock ?_ | refine Run.opsNil ?_)
      repeat (first
        | refine Run.seq ?_ | refine Run.block ?_ | refine Run.skip ?_ | refine Run.inBlock ?_ | refine Run.opsNil ?_
        | (refine Run.reg fun K hK => ?_; simp; (try (simp (disch := omega) only [wrap_id])); refine hK _ _ _ ?_; clear hK K)
        | (refine Run.cond (b := true) rfl ?_; simp only [if_true])
        | (refine Run.cond (b := false) rfl ?_; simp only [Bool.false_eq_true, if_false])
        | refine Run.exit rfl ?_ | refine Run.ret ?_)
      exact Fin.ret' (by simp) rfl hh rfl rfl rfl (Weak.refl _) rfl ⟨by rw [← hz]; rfl, rfl⟩
    rw [if_neg h3] at hz
    repeat (first | refine Run.seq ?_ | refine Run.block ?_ | refine Run.skip ?_ | refine Run.inBlock ?_ | refine Run.opsNil ?_)
    refine Run.cond (b := false) (by simp [h3]) ?_
    simp only [Bool.false_eq_true, if_false]
    repeat (first | refine Run.seq ?_ | refine Run.block ?_ | refine Run.skip ?_ | refine Run.inBlock ?_ | refine Run.opsNil ?_)
    repeat (first
      | refine Run.seq ?_ | refine Run.block ?_ | refine Run.skip ?_ | refine Run.inBlock ?_ | refine Run.opsNil ?_
      | (refine Run.reg fun K hK => ?_; simp; (try (simp (disch := omega) only [wrap_id])); refine hK _ _ _ ?_; clear hK K)
      | (refine Run.cond (b := true) rfl ?_; simp only [if_true])
      | (refine Run.cond (b := false) rfl ?_; simp only [Bool.false_eq_true, if_false])
      | refine Run.exit rfl ?_ | refine Run.ret ?_)
    exact Fin.ret' (by simp) rfl hh rfl rfl rfl (Weak.refl _) rfl ⟨by rw [← hz]; rfl, rfl⟩
  · rw [if_pos h1] at hz
    repeat (first | refine Run.seq ?_ | refine Run.block ?_ | refine Run.skip ?_ | refine Run.inBlock ?_ | refine Run.opsNil ?_)
    refine Run.cond (b := true) (by simp [h1]) ?_
    simp only [if_true]
    repeat (first | refine Run.seq ?_ | refine Run.block ?_ | refine Run.skip ?_ | refine Run.inBlock ?_ | refine Run.opsNil ?_)
    repeat (first
      | refine Run.seq ?_ | refine Run.block ?_ | refine Run.skip ?_ | refine Run.inBlock ?_ | refine Run.opsNil ?_
      | (refine Run.reg fun K hK => ?_; simp; (try (simp (disch := omega) only [wrap_id])); refine hK _ _ _ ?_; clear hK K)
      | (refine Run.cond (b := true) rfl ?_; simp only [if_true])
      | (refine Run.cond (b := false) rfl ?_; simp only [Bool.false_eq_true, if_false])
      | refine Run.exit rfl ?_ | refine Run.ret ?_)
    exact Fin.ret' (by simp) rfl hh rfl rfl rfl (Weak.refl _) rfl ⟨by rw [← hz]; rfl, rfl⟩

end Go.Proofs.Ytppgpabjcenjdaa
