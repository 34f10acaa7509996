/-
  The contract of CasetreeLeaves.
-/
import Derived.Test.YtplomildbmcmfaaGreatBTB
import Derived.Test.YtplomildbmcmfaaGreatBKR6a

namespace Go.Proofs.YtplomildbmcmfaaGreat

open Go Go.AI
theorem awake10_any (h : Heap) : ACalls Tryz.prog 10 [] h fun o h' => o = .ret (bA true) ∧ h' = h := EV.ACalls.alone rfl rfl kq.pu154.2
set_option maxRecDepth 8000 in
set_option maxHeartbeats 8000000 in
theorem casetreeLeaves_any (t : Tr) (h : Heap) (hh : WF h) : ACalls Tryz.prog 4 [t.av] h fun o h' => o = .ret (bA true) ∧ h' = h := by
  have c1 := fun (g : Heap) (hg : WF g) => small17_any 12 t g (by omega) hg
  have c2 := fun (hs : smallB 12 t = true) (g : Heap) (hg : WF g) => leaves18_any 12 t g (by omega) hs hg
  have c3 := fun (hs : smallB 12 t = true) (g : Heap) (hg : WF g) => leaves19_any 12 t g (by omega) hs hg
  generalize smallB 12 t = b at c1 c2 c3
  generalize leavesZ t = z at c2 c3
  obtain ⟨k, ⟨b0, b1, b2, b3, b4⟩, v, bs⟩ := t
  simp only [Tr.av, Tr.cells, Tm.cells, List.cons_append, List.nil_append, List.map] at c1 c2 c3 ⊢
  cases b with
  | false =>
    refine ACalls.of_run Tryz.func4 rfl ?_
    simp only [Tryz.ntmps4, List.length_cons, List.length_nil]
    refine nv ?_
    refine Run.reg fun K hK => ?_
    simp
    try (simp (disch := omega) only [wrap_id])
    refine hK _ _ _ ?_; clear hK K
    refine nv ?_
    refine Run.reg fun K hK => ?_
    simp
    try (simp (disch := omega) only [wrap_id])
    refine hK _ _ _ ?_; clear hK K
    refine nv ?_
    refine Run.call rfl (by first | rfl | simp) (by simp) rfl (c1 _ (hh.app (by simp))) ?_ ?_
    rotate_left
    · rintro v h' ⟨hv, _⟩; cases hv
    rintro v h' ⟨hv, rfl⟩
    simp only [AOut.ret.injEq] at hv
    subst hv
    refine Run.ops fun K hK => ?_
    simp
    try (simp (disch := omega) only [wrap_id])
    refine hK _ _ _ ?_; clear hK K
    refine nv ?_
    refine Run.cond (b := true) (by simp) ?_
    simp only [if_true]
    refine nv ?_
    refine Run.reg fun K hK => ?_
    simp
    try (simp (disch := omega) only [wrap_id])
    refine hK _ _ _ ?_; clear hK K
    refine nv ?_
    refine Run.call (args := []) rfl (by first | rfl | simp) (by simp) rfl (awake10_any _) ?_ ?_
    rotate_left
    · rintro v h' ⟨hv, _⟩; cases hv
    rintro v h' ⟨hv, rfl⟩
    simp only [AOut.ret.injEq] at hv
    subst hv
    refine Run.ops fun K hK => ?_
    simp
    try (simp (disch := omega) only [wrap_id])
    refine hK _ _ _ ?_; clear hK K
    refine nv ?_
    refine Run.ret ?_
    refine Fin.ret' (h0 := h) (by simp) rfl hh rfl (by simp; rfl) rfl (Weak.refl _) (by simp) ⟨rfl, rfl⟩
  | true =>
    refine ACalls.of_run Tryz.func4 rfl ?_
    simp only [Tryz.ntmps4, List.length_cons, List.length_nil]
    refine nv ?_
    refine Run.reg fun K hK => ?_
    simp
    try (simp (disch := omega) only [wrap_id])
    refine hK _ _ _ ?_; clear hK K
    refine nv ?_
    refine Run.reg fun K hK => ?_
    simp
    try (simp (disch := omega) only [wrap_id])
    refine hK _ _ _ ?_; clear hK K
    refine nv ?_
    refine Run.call rfl (by first | rfl | simp) (by simp) rfl (c1 _ (hh.app (by simp))) ?_ ?_
    rotate_left
    · rintro v h' ⟨hv, _⟩; cases hv
    rintro v h' ⟨hv, rfl⟩
    simp only [AOut.ret.injEq] at hv
    subst hv
    refine Run.ops fun K hK => ?_
    simp
    try (simp (disch := omega) only [wrap_id])
    refine hK _ _ _ ?_; clear hK K
    refine nv ?_
    refine Run.cond (b := false) (by simp) ?_
    simp only [Bool.false_eq_true, if_false]
    refine nv ?_
    refine Run.draw [0, 1, 1, 1, 1, 2, 3, 3, 3] [0, 0, 0, 1, 0, 2, 0, 0, 0] [0, 1, 3, 7, 3, 31, 63, 127, 255] [0, 1, 2, 3, 4, 5, 6, 7, 8] (by kernel_rfl) (by kernel_rfl) ?_
    refine DR.call (args := []) rfl rfl rfl (by simp) rfl (awake10_any _) ?_
    refine DR.go fun K hK => ?_
    simp
    try (simp (disch := omega) only [wrap_id])
    refine hK _ _ _ _ ?_; clear hK K
    refine DR.call rfl rfl rfl (by simp) rfl (c2 rfl _ (hh.app (by simp))) ?_
    refine DR.go fun K hK => ?_
    simp
    try (simp (disch := omega) only [wrap_id])
    refine hK _ _ _ _ ?_; clear hK K
    refine DR.call rfl rfl rfl (by simp) rfl (c3 rfl _ (hh.app (by simp))) ?_
    refine DR.go fun K hK => ?_
    simp
    try (simp (disch := omega) only [wrap_id])
    refine hK _ _ _ _ ?_; clear hK K
    change Run _ _ _ _ _ _ _ _
    refine nv ?_
    refine Run.ret ?_
    refine Fin.ret' (h0 := h) (by simp) rfl hh rfl (by simp; rfl) rfl (Weak.refl _) (by simp) ⟨rfl, rfl⟩

end Go.Proofs.YtplomildbmcmfaaGreat
