/-
  term: Depth, Same; slices' Equal, EqualFunc.
-/
import Derived.Test.YtppgpabjcenjdaaTD
import Derived.Test.YtppgpabjcenjdaaTE1
namespace Go.Proofs.Ytppgpabjcenjdaa

open Go Go.AI

set_option maxRecDepth 4000 in
set_option maxHeartbeats 4000000 in
theorem tdepth_any (N : Nat) : ∀ (t : Tm) (h : Heap), t.size ≤ N → t.size ≤ 1099511627776 → WF h → ACalls Try.prog 82 [t.av] h fun o h' => o = .ret (iA t.depth) ∧ h' = h := by
  induction N with
  | zero => intro t h hN; cases t; simp [Tm.size] at hN
  | succ N ih =>
  intro t h hN hsz hh
  obtain ⟨k, i, n, ls, ks⟩ := t
  simp only [Tm.size] at hN hsz
  have hll := length_le_sizes ks
  refine ACalls.of_run Try.func82 rfl ?_
  simp only [Try.ntmps82, List.length_cons, List.length_nil, Tm.av, cells_mk, List.map]
  repeat (first | refine Run.seq ?_ | refine Run.block ?_ | refine Run.skip ?_ | refine Run.inBlock ?_ | refine Run.opsNil ?_)
  repeat (first | refine Run.seq ?_ | refine Run.block ?_ | refine Run.skip ?_ | refine Run.inBlock ?_ | refine Run.opsNil ?_)
  refine Run.reg fun K hK => ?_
  simp
  try (simp (disch := omega) only [wrap_id])
  refine hK _ _ _ ?_; clear hK K
  repeat (first | refine Run.seq ?_ | refine Run.block ?_ | refine Run.skip ?_ | refine Run.inBlock ?_ | refine Run.opsNil ?_)
  repeat (first | refine Run.seq ?_ | refine Run.block ?_ | refine Run.skip ?_ | refine Run.inBlock ?_ | refine Run.opsNil ?_)
  refine Run.reg fun K hK => ?_
  simp
  try (simp (disch := omega) only [wrap_id])
  refine hK _ _ _ ?_; clear hK K
  repeat (first | refine Run.seq ?_ | refine Run.block ?_ | refine Run.skip ?_ | refine Run.inBlock ?_ | refine Run.opsNil ?_)
  repeat (first | refine Run.seq ?_ | refine Run.block ?_ | refine Run.skip ?_ | refine Run.inBlock ?_ | refine Run.opsNil ?_)
  refine Run.reg fun K hK => ?_
  simp
  try (simp (disch := omega) only [wrap_id])
  refine hK _ _ _ ?_; clear hK K
  repeat (first | refine Run.seq ?_ | refine Run.block ?_ | refine Run.skip ?_ | refine Run.inBlock ?_ | refine Run.opsNil ?_)
  refine Run.loopS [7, 8] (fun j : Nat => j ≤ ks.length) (fun j => ks.length - j) (fun j => [(3, iA (Tm.depths (ks.take j) : Nat)), (9, iA j)]) (fun _ => _) 0 (by simp) ?_ rfl ?_
  · simp [Tm.depths]
    repeat' (first | exact WeakL.nil | apply WeakL.cons)
    all_goals first | exact Weak.junk _ | exact Weak.refl _ | exact Weak.nil _ | exact Weak.own _ _ _ | exact Weak.int (by omega)
  · intro j hj IH
    simp
    repeat (first | refine Run.seq ?_ | refine Run.block ?_ | refine Run.skip ?_ | refine Run.inBlock ?_ | refine Run.opsNil ?_)
    refine Run.reg fun K hK => ?_
    simp
    try (simp (disch := omega) only [wrap_id])
    refine hK _ _ _ ?_; clear hK K
    repeat (first | refine Run.seq ?_ | refine Run.block ?_ | refine Run.skip ?_ | refine Run.inBlock ?_ | refine Run.opsNil ?_)
    by_cases hjl : j < ks.length
    · have hg : ks[j]? = some ks[j] := List.getElem?_eq_getElem hjl
      have hs := kid_size hjl
      have htk : ks.take (j + 1) = ks.take j ++ [ks[j]] := List.take_succ_eq_append_getElem hjl
      have hd1 := depth_le_size ks[j]
      have hd2 := depths_take_le ks j
      repeat (first | refine Run.seq ?_ | refine Run.block ?_ | refine Run.skip ?_ | refine Run.inBlock ?_ | refine Run.opsNil ?_)
      refine Run.cond (b := true) (by simp [hjl]) ?_
      simp only [if_true]
      repeat (first | refine Run.seq ?_ | refine Run.block ?_ | refine Run.skip ?_ | refine Run.inBlock ?_ | refine Run.opsNil ?_)
      repeat (first | refine Run.seq ?_ | refine Run.block ?_ | refine Run.skip ?_ | refine Run.inBlock ?_ | refine Run.opsNil ?_)
      refine Run.reg fun K hK => ?_
      simp [hg]
      try (simp (disch := omega) only [wrap_id])
      refine hK _ _ _ ?_; clear hK K
      repeat (first | refine Run.seq ?_ | refine Run.block ?_ | refine Run.skip ?_ | refine Run.inBlock ?_ | refine Run.opsNil ?_)
      repeat (first | refine Run.seq ?_ | refine Run.block ?_ | refine Run.skip ?_ | refine Run.inBlock ?_ | refine Run.opsNil ?_)
      refine Run.reg fun K hK => ?_
      simp
      try (simp (disch := omega) only [wrap_id])
      refine hK _ _ _ ?_; clear hK K
      repeat (first | refine Run.seq ?_ | refine Run.block ?_ | refine Run.skip ?_ | refine Run.inBlock ?_ | refine Run.opsNil ?_)
      refine Run.call (args := [ks[j].av]) rfl rfl (by simp) rfl (ih ks[j] _ (by omega) (by omega) (hh.app (by simp))) ?_ ?_
      · rintro v h' ⟨hv, rfl⟩
        simp only [AOut.ret.injEq] at hv
        subst hv
        refine Run.ops fun K hK => ?_
        simp
        try (simp (disch := omega) only [wrap_id])
        refine hK _ _ _ ?_; clear hK K
        repeat (first | refine Run.seq ?_ | refine Run.block ?_ | refine Run.skip ?_ | refine Run.inBlock ?_ | refine Run.opsNil ?_)
        repeat (first | refine Run.seq ?_ | refine Run.block ?_ | refine Run.skip ?_ | refine Run.inBlock ?_ | refine Run.opsNil ?_)
        refine Run.reg fun K hK => ?_
        simp
        try (simp (disch := omega) only [wrap_id])
        refine hK _ _ _ ?_; clear hK K
        repeat (first | refine Run.seq ?_ | refine Run.block ?_ | refine Run.skip ?_ | refine Run.inBlock ?_ | refine Run.opsNil ?_)
        refine Run.keep [3, 7, 8, 9] ?_
        simp
        refine Run.cutAt 1 hh rfl (by omega) (by simp) (by simp) (by simp) rfl ?_
        refine IH (j + 1) _ _ (by omega) (by omega) ?_ (by simp)
        rw [htk, depths_snoc]
        simp
        repeat' (first | exact WeakL.nil | apply WeakL.cons)
        all_goals first | exact Weak.junk _ | exact Weak.refl _ | exact Weak.int (by omega) | (refine Weak.int ?_; split <;> omega)
      · rintro v h' ⟨hv, _⟩; cases hv
    · have hje : j = ks.length := by omega
      subst hje
      rw [List.take_length]
      have hd2 := depths_le_sizes ks
      repeat (first | refine Run.seq ?_ | refine Run.block ?_ | refine Run.skip ?_ | refine Run.inBlock ?_ | refine Run.opsNil ?_)
      refine Run.cond (b := false) (by simp) ?_
      simp only [Bool.false_eq_true, if_false]
      repeat (first | refine Run.seq ?_ | refine Run.block ?_ | refine Run.skip ?_ | refine Run.inBlock ?_ | refine Run.opsNil ?_)
      repeat (first | refine Run.seq ?_ | refine Run.block ?_ | refine Run.skip ?_ | refine Run.inBlock ?_ | refine Run.opsNil ?_)
      refine Run.exit rfl ?_
      repeat (first | refine Run.seq ?_ | refine Run.block ?_ | refine Run.skip ?_ | refine Run.inBlock ?_ | refine Run.opsNil ?_)
      repeat (first
        | refine Run.seq ?_ | refine Run.block ?_ | refine Run.skip ?_ | refine Run.inBlock ?_ | refine Run.opsNil ?_
        | (refine Run.reg fun K hK => ?_; simp; (try (simp (disch := omega) only [wrap_id])); refine hK _ _ _ ?_; clear hK K)
        | (refine Run.cond (b := true) rfl ?_; simp only [if_true])
        | (refine Run.cond (b := false) rfl ?_; simp only [Bool.false_eq_true, if_false])
        | refine Run.exit rfl ?_ | refine Run.ret ?_)
      refine Fin.ret' (by simp) rfl hh rfl rfl rfl (Weak.refl _) rfl ⟨by simp [Tm.depth], rfl⟩

@[simp] theorem patch2 (a b : AV) (t : Lv) : patch [a, b] 0 (t.cells.map AV.p) = t.cells.map AV.p := by cases t; rfl

end Go.Proofs.Ytppgpabjcenjdaa
