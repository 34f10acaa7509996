/-
  telescope: Pis, Lams, Arrow, All.
-/
import Derived.Test.YtppgpabjcenjdaaTT6
namespace Go.Proofs.Ytppgpabjcenjdaa

open Go Go.AI

set_option maxRecDepth 8000 in
theorem over_any (h : Heap) (hh : WF h) (k : Int) : ACalls Try.prog 138 [iA k] h fun o h' => o = .ret (.fn (.func 172) [] [.ptr h.length 0]) ∧ h' = h ++ [some (.cells [iA k])] := by
  refine ACalls.of_run Try.func138 rfl ?_
  simp only [Try.ntmps138, List.length_cons, List.length_nil]
  repeat (first | refine Run.seq ?_ | refine Run.block ?_ | refine Run.skip ?_ | refine Run.inBlock ?_ | refine Run.opsNil ?_)
  repeat (first | refine Run.seq ?_ | refine Run.block ?_ | refine Run.skip ?_ | refine Run.inBlock ?_ | refine Run.opsNil ?_)
  refine Run.reg fun K hK => ?_
  simp
  try (simp (disch := omega) only [wrap_id])
  refine hK _ _ _ ?_; clear hK K
  repeat (first | refine Run.seq ?_ | refine Run.block ?_ | refine Run.skip ?_ | refine Run.inBlock ?_ | refine Run.opsNil ?_)
  repeat (first | refine Run.seq ?_ | refine Run.block ?_ | refine Run.skip ?_ | refine Run.inBlock ?_ | refine Run.opsNil ?_)
  refine Run.reg fun K hK => ?_
  simp
  try (simp (disch := omega) only [wrap_id])
  refine hK _ _ _ ?_; clear hK K
  repeat (first | refine Run.seq ?_ | refine Run.block ?_ | refine Run.skip ?_ | refine Run.inBlock ?_ | refine Run.opsNil ?_)
  refine Run.ret ?_
  refine Fin.retM (h0 := h ++ [some (.cells [iA k])]) (l := []) (by simp) (by simp) (hh.app (by simp)) (by simp) (by simp; rfl) rfl (Weak.refl _) (by simp) ⟨rfl, rfl⟩

set_option maxRecDepth 8000 in
set_option maxHeartbeats 4000000 in
theorem bind61_any (h : Heap) (hh : WF h) (ctx : List Tm) (t : Tm) (hl : ctx.length ≤ 1048576) : ACalls Try.prog 61 [.p (.sl 5 (tmPs ctx)), t.av] h fun o h' => o = .ret (bindT 6 ctx t).av ∧ h' = h := by
  have ho := over_any (h ++ [some (.cells (t.cells.map .p)), some (.cells zTm)]) (hh.app (by simp)) 6
  have hb := over1_any (h ++ [some (.cells (t.cells.map .p)), some (.cells zTm), some (.cells [iA 6])]) (hh.app (by simp)) 6 (h.length + 2) (by simp) ctx t hl
  generalize bindT 6 ctx t = r at hb ⊢
  obtain ⟨i0, i1, i2, i3, i4⟩ := t
  obtain ⟨r0, r1, r2, r3, r4⟩ := r
  simp only [cells_mk, List.map] at ho hb
  refine ACalls.of_run Try.func61 rfl ?_
  simp only [Try.ntmps61, List.length_cons, List.length_nil, Tm.av, cells_mk, List.map]
  repeat (first | refine Run.seq ?_ | refine Run.block ?_ | refine Run.skip ?_ | refine Run.inBlock ?_ | refine Run.opsNil ?_)
  repeat (first | refine Run.seq ?_ | refine Run.block ?_ | refine Run.skip ?_ | refine Run.inBlock ?_ | refine Run.opsNil ?_)
  refine Run.reg fun K hK => ?_
  simp
  try (simp (disch := omega) only [wrap_id])
  refine hK _ _ _ ?_; clear hK K
  repeat (first | refine Run.seq ?_ | refine Run.block ?_ | refine Run.skip ?_ | refine Run.inBlock ?_ | refine Run.opsNil ?_)
  repeat (first | refine Run.seq ?_ | refine Run.block ?_ | refine Run.skip ?_ | refine Run.inBlock ?_ | refine Run.opsNil ?_)
  refine Run.draw [0, 0, 0, 1, 2] [0, 0, 0, 1, 2] [0, 0, 0, 7, 15] [0, 1, 2, 3, 4] (by kernel_rfl) (by kernel_rfl) ?_
  refine DR.go fun K hK => ?_
  simp
  try (simp (disch := omega) only [wrap_id])
  refine hK _ _ _ _ ?_; clear hK K
  refine DR.call (args := [iA 6]) rfl rfl rfl (by simp) rfl (ho) ?_
  refine DR.go fun K hK => ?_
  simp
  try (simp (disch := omega) only [wrap_id])
  refine hK _ _ _ _ ?_; clear hK K
  refine DR.call (args := [.p (.sl 5 (tmPs ctx)), (Tm.mk i0 i1 i2 i3 i4).av, .ptr (h.length + 2) 0]) rfl rfl rfl (by simp) rfl (hb) ?_
  refine DR.go fun K hK => ?_
  simp
  try (simp (disch := omega) only [wrap_id])
  refine hK _ _ _ _ ?_; clear hK K
  change Run _ _ _ _ _ _ _ _
  repeat (first | refine Run.seq ?_ | refine Run.block ?_ | refine Run.skip ?_ | refine Run.inBlock ?_ | refine Run.opsNil ?_)
  refine Run.ret ?_
  refine Fin.ret' (h0 := h) (by simp) rfl hh rfl (by simp; rfl) rfl (Weak.refl _) (by simp) ⟨rfl, rfl⟩

/-- All binders of a kind are taken off. -/
def allF (k : Int) : Nat → List Tm → Tm → List Tm × Tm
  | 0, acc, t => (acc, t)
  | n + 1, acc, t => match isB k t with
    | some (a, b) => allF k n (acc ++ [a]) b
    | none => (acc, t)

end Go.Proofs.Ytppgpabjcenjdaa
