/-
  euclidlaw03: awake.
-/
import Derived.Test.YtppgpabjcenjdaaLM5
import Derived.Test.YtppgpabjcenjdaaLM6b
import Derived.Test.YtppgpabjcenjdaaLE13
namespace Go.AI

open Go

/-- Of one slot more is forgotten. -/
theorem Run.weakAt {P : Program} {rd : Option Nat} {nb : Nat} {k : List It} {T : List AV} {h : Heap} {D : List AD} {Q : AX → List AV → Heap → List AD → Prop} (slot : Nat) (y : AV) (hw : Weak (tget T slot) y) (r : Run P rd nb k (T.set slot y) h D Q) : Run P rd nb k T h D Q := by
  refine Run.weak ?_ r
  intro E w vs hT
  have hv := hT.get slot
  rw [← tget_eq] at hv
  have hset := hT.set (hw E w _ hv) slot
  have hsame : vs.set slot (vs.getD slot undef) = vs := by
    apply List.ext_getElem?
    intro j
    rw [List.getElem?_set]
    split
    · rename_i e; subst e
      rcases Nat.lt_or_ge slot vs.length with l | l
      · simp [l]
      · have l' : ¬ slot < vs.length := by omega
        simp [l']
    · rfl
  rwa [hsame] at hset

end Go.AI

namespace Go.Proofs.Ytppgpabjcenjdaa.aw03

open Go Go.AI

abbrev nilP : PV := .prim (.slice none 0 0)

set_option maxRecDepth 8000 in
set_option maxHeartbeats 8000000 in
theorem walk (v0 v1 : Tm) (LT : List Tm) (LS : List Lv)
    (hv0 : ∀ g : Heap, WF g → ACalls Try.prog 143 [iA 0] g fun o h' => o = .ret v0.av ∧ h' = g)
    (hv1 : ∀ g : Heap, WF g → ACalls Try.prog 143 [iA 1] g fun o h' => o = .ret v1.av ∧ h' = g)
    (wT : Weak (.p (.sl 5 [[iP 3, iP 0, sP [78, 97, 116], nilP, nilP], [iP 4, iP 0, sP [], nilP, .sl 5 [v0.cells, v1.cells]]])) (.p (.sl 5 (tmPs LT))))
    (wS : Weak (.p (.sl 2 [[iP 0, .sl 2 [[iP 1, iP 0]]]])) (.p (.sl 2 (lvPs LS))))
    (n1 : ∀ g : Heap, WF g → ACalls Try.prog 76 [.p (sP [78, 97, 116, 46, 114, 101, 99])] g fun o h' => o = .ret (bA true) ∧ h' = g)
    (n2 : ∀ g : Heap, WF g → ACalls Try.prog 76 [.p (sP [120, 49])] g fun o h' => o = .ret (bA true) ∧ h' = g)
    (n3 : ∀ g : Heap, WF g → ACalls Try.prog 76 [.p (sP [95, 97, 46, 98, 39])] g fun o h' => o = .ret (bA true) ∧ h' = g)
    (n4 : ∀ g : Heap, WF g → ACalls Try.prog 76 [.p (sP [97, 46])] g fun o h' => o = .ret (bA false) ∧ h' = g)
    (n5 : ∀ g : Heap, WF g → ACalls Try.prog 76 [.p (sP [49, 97])] g fun o h' => o = .ret (bA false) ∧ h' = g)
    (n6 : ∀ g : Heap, WF g → ACalls Try.prog 76 [.p (sP [97, 46, 46, 98])] g fun o h' => o = .ret (bA false) ∧ h' = g)
    (n7 : ∀ g : Heap, WF g → ACalls Try.prog 76 [.p (sP [])] g fun o h' => o = .ret (bA false) ∧ h' = g)
    (c1 : ∀ g : Heap, WF g → ACalls Try.prog 81 [(Tm.mk 5 0 [] [] LT).av] g fun o h' => o = .ret (iA 5) ∧ h' = g)
    (c2 : ∀ g : Heap, WF g → ACalls Try.prog 82 [(Tm.mk 5 0 [] [] LT).av] g fun o h' => o = .ret (iA 3) ∧ h' = g)
    (c3 : ∀ g : Heap, WF g → ACalls Try.prog 85 [(Tm.mk 5 0 [] [] LT).av] g fun o h' => o = .ret (.p (.sl 1 [[iP 0]])) ∧ h' = g)
    (c4 : ∀ g : Heap, WF g → ACalls Try.prog 84 [.p (.sl 1 [[iP 0]]), .p (.sl 1 [[iP 0]])] g fun o h' => o = .ret (bA true) ∧ h' = g)
    (k1 : ∀ g : Heap, WF g → ACalls Try.prog 144 [(Tm.mk 5 0 [] [] LT).av, iA 1, iA 0, iA 0, iA 0] g fun o h' => o = .ret (iA 0) ∧ h' = g)
    (k2 : ∀ g : Heap, WF g → ACalls Try.prog 144 [(Tm.mk 5 0 [] [] LT).av, iA 0, iA 0, iA 0, iA 0] g fun o h' => o = .ret (iA 24) ∧ h' = g)
    (k3 : ∀ g : Heap, WF g → ACalls Try.prog 144 [.agg [iA 3, iA 0, .p (sP [78, 97, 116]), .p nilP, .p (.sl 5 [v0.cells])], iA 1, iA 0, iA 0, iA 0] g fun o h' => o = .ret (iA 3) ∧ h' = g)
    (k4 : ∀ g : Heap, WF g → ACalls Try.prog 144 [.agg [iA 0, iA 7, .p (sP [120]), .p nilP, .p nilP], iA 1, iA 0, iA 0, iA 0] g fun o h' => o = .ret (iA 3) ∧ h' = g)
    (k5 : ∀ g : Heap, WF g → ACalls Try.prog 144 [(Tm.mk 2 0 [] LS []).av, iA 0, iA 1, iA 0, iA 0] g fun o h' => o = .ret (iA 15) ∧ h' = g)
    (k6 : ∀ g : Heap, WF g → ACalls Try.prog 144 [(Tm.mk 2 0 [] LS []).av, iA 0, iA 2, iA 0, iA 0] g fun o h' => o = .ret (iA 0) ∧ h' = g)
    (h : Heap) (hh : WF h) : ACalls Try.prog 75 [] h fun o h' => o = .ret (bA true) ∧ h' = h := by
  simp only [Tm.av, cells_mk, List.map, show lvPs [] = [] from rfl, show tmPs [] = [] from rfl] at c1 c2 c3 k1 k2 k5 k6
  refine ACalls.of_run Try.func75 rfl ?_
  simp only [Try.ntmps75, List.length_nil]
  repeat (first | refine Run.seq ?_ | refine Run.block ?_ | refine Run.skip ?_ | refine Run.inBlock ?_ | refine Run.opsNil ?_)
  repeat (first | refine Run.seq ?_ | refine Run.block ?_ | refine Run.skip ?_ | refine Run.inBlock ?_ | refine Run.opsNil ?_)
  refine Run.reg fun K hK => ?_
  simp
  try (simp (disch := omega) only [wrap_id])
  refine hK _ _ _ ?_; clear hK K
  repeat (first | refine Run.seq ?_ | refine Run.block ?_ | refine Run.skip ?_ | refine Run.inBlock ?_ | refine Run.opsNil ?_)
  repeat (first | refine Run.seq ?_ | refine Run.block ?_ | refine Run.skip ?_ | refine Run.inBlock ?_ | refine Run.opsNil ?_)
  refine Run.reg fun K hK => ?_
  simp
  try (simp (disch := omega) only [wrap_id])
  refine hK _ _ _ ?_; clear hK K
  repeat (first | refine Run.seq ?_ | refine Run.block ?_ | refine Run.skip ?_ | refine Run.inBlock ?_ | refine Run.opsNil ?_)
  repeat (first | refine Run.seq ?_ | refine Run.block ?_ | refine Run.skip ?_ | refine Run.inBlock ?_ | refine Run.opsNil ?_)
  refine Run.reg fun K hK => ?_
  simp
  try (simp (disch := omega) only [wrap_id])
  refine hK _ _ _ ?_; clear hK K
  repeat (first | refine Run.seq ?_ | refine Run.block ?_ | refine Run.skip ?_ | refine Run.inBlock ?_ | refine Run.opsNil ?_)
  refine Run.call rfl (by first | rfl | simp) (by simp) rfl (hv0 _ hh) ?_ ?_
  rotate_left
  · rintro v h' ⟨hv, _⟩; cases hv
  rintro v h' ⟨hv, rfl⟩
  simp only [AOut.ret.injEq] at hv
  subst hv
  refine Run.ops fun K hK => ?_
  simp
  try (simp (disch := omega) only [wrap_id])
  refine hK _ _ _ ?_; clear hK K
  repeat (first | refine Run.seq ?_ | refine Run.block ?_ | refine Run.skip ?_ | refine Run.inBlock ?_ | refine Run.opsNil ?_)
  refine Run.call rfl (by first | rfl | simp) (by simp) rfl (hv1 _ hh) ?_ ?_
  rotate_left
  · rintro v h' ⟨hv, _⟩; cases hv
  rintro v h' ⟨hv, rfl⟩
  simp only [AOut.ret.injEq] at hv
  subst hv
  refine Run.opsPre 4 fun K hK => ?_
  simp only [List.take_succ_cons, List.take_zero]
  simp
  try (simp (disch := omega) only [wrap_id])
  refine hK _ _ _ ?_; clear hK K
  simp only [List.nil_append, List.drop_succ_cons, List.drop_zero]
  refine Run.weakAt 12 (.agg [iA 5, iA 0, .p (sP []), .p (.sl 2 []), .p (.sl 5 (tmPs LT))]) ?_ ?_
  · simp
    refine Weak.agg ?_
    repeat' (first | exact WeakL.nil | apply WeakL.cons)
    all_goals first | exact Weak.refl _ | exact Weak.nil _ | exact wT
  simp
  refine Run.ops fun K hK => ?_
  simp
  try (simp (disch := omega) only [wrap_id])
  refine hK _ _ _ ?_; clear hK K
  repeat (first | refine Run.seq ?_ | refine Run.block ?_ | refine Run.skip ?_ | refine Run.inBlock ?_ | refine Run.opsNil ?_)
  repeat (first | refine Run.seq ?_ | refine Run.block ?_ | refine Run.skip ?_ | refine Run.inBlock ?_ | refine Run.opsNil ?_)
  refine Run.regPre 5 fun K hK => ?_
  simp only [List.take_succ_cons, List.take_zero]
  simp
  try (simp (disch := omega) only [wrap_id])
  refine hK _ _ _ ?_; clear hK K
  simp only [List.nil_append, List.drop_succ_cons, List.drop_zero]
  refine Run.weakAt 17 (.agg [iA 2, iA 0, .p (sP []), .p (.sl 2 (lvPs LS)), .p (.sl 5 [])]) ?_ ?_
  · simp
    refine Weak.agg ?_
    repeat' (first | exact WeakL.nil | apply WeakL.cons)
    all_goals first | exact Weak.refl _ | exact Weak.nil _ | exact wS
  simp
  refine Run.ops fun K hK => ?_
  simp
  try (simp (disch := omega) only [wrap_id])
  refine hK _ _ _ ?_; clear hK K
  repeat (first | refine Run.seq ?_ | refine Run.block ?_ | refine Run.skip ?_ | refine Run.inBlock ?_ | refine Run.opsNil ?_)
  repeat (first | refine Run.seq ?_ | refine Run.block ?_ | refine Run.skip ?_ | refine Run.inBlock ?_ | refine Run.opsNil ?_)
  refine Run.reg fun K hK => ?_
  simp
  try (simp (disch := omega) only [wrap_id])
  refine hK _ _ _ ?_; clear hK K
  repeat (first | refine Run.seq ?_ | refine Run.block ?_ | refine Run.skip ?_ | refine Run.inBlock ?_ | refine Run.opsNil ?_)
  refine Run.call rfl (by first | rfl | simp) (by simp) rfl (n1 _ (hh.app (by simp))) ?_ ?_
  rotate_left
  · rintro v h' ⟨hv, _⟩; cases hv
  rintro v h' ⟨hv, rfl⟩
  simp only [AOut.ret.injEq] at hv
  subst hv
  refine Run.ops fun K hK => ?_
  simp
  try (simp (disch := omega) only [wrap_id])
  refine hK _ _ _ ?_; clear hK K
  repeat (first | refine Run.seq ?_ | refine Run.block ?_ | refine Run.skip ?_ | refine Run.inBlock ?_ | refine Run.opsNil ?_)
  refine Run.call rfl (by first | rfl | simp) (by simp) rfl (n2 _ (hh.app (by simp))) ?_ ?_
  rotate_left
  · rintro v h' ⟨hv, _⟩; cases hv
  rintro v h' ⟨hv, rfl⟩
  simp only [AOut.ret.injEq] at hv
  subst hv
  refine Run.ops fun K hK => ?_
  simp
  try (simp (disch := omega) only [wrap_id])
  refine hK _ _ _ ?_; clear hK K
  repeat (first | refine Run.seq ?_ | refine Run.block ?_ | refine Run.skip ?_ | refine Run.inBlock ?_ | refine Run.opsNil ?_)
  refine Run.call rfl (by first | rfl | simp) (by simp) rfl (n3 _ (hh.app (by simp))) ?_ ?_
  rotate_left
  · rintro v h' ⟨hv, _⟩; cases hv
  rintro v h' ⟨hv, rfl⟩
  simp only [AOut.ret.injEq] at hv
  subst hv
  refine Run.ops fun K hK => ?_
  simp
  try (simp (disch := omega) only [wrap_id])
  refine hK _ _ _ ?_; clear hK K
  repeat (first | refine Run.seq ?_ | refine Run.block ?_ | refine Run.skip ?_ | refine Run.inBlock ?_ | refine Run.opsNil ?_)
  refine Run.call rfl (by first | rfl | simp) (by simp) rfl (n4 _ (hh.app (by simp))) ?_ ?_
  rotate_left
  · rintro v h' ⟨hv, _⟩; cases hv
  rintro v h' ⟨hv, rfl⟩
  simp only [AOut.ret.injEq] at hv
  subst hv
  refine Run.ops fun K hK => ?_
  simp
  try (simp (disch := omega) only [wrap_id])
  refine hK _ _ _ ?_; clear hK K
  repeat (first | refine Run.seq ?_ | refine Run.block ?_ | refine Run.skip ?_ | refine Run.inBlock ?_ | refine Run.opsNil ?_)
  refine Run.call rfl (by first | rfl | simp) (by simp) rfl (n5 _ (hh.app (by simp))) ?_ ?_
  rotate_left
  · rintro v h' ⟨hv, _⟩; cases hv
  rintro v h' ⟨hv, rfl⟩
  simp only [AOut.ret.injEq] at hv
  subst hv
  refine Run.ops fun K hK => ?_
  simp
  try (simp (disch := omega) only [wrap_id])
  refine hK _ _ _ ?_; clear hK K
  repeat (first | refine Run.seq ?_ | refine Run.block ?_ | refine Run.skip ?_ | refine Run.inBlock ?_ | refine Run.opsNil ?_)
  refine Run.call rfl (by first | rfl | simp) (by simp) rfl (n6 _ (hh.app (by simp))) ?_ ?_
  rotate_left
  · rintro v h' ⟨hv, _⟩; cases hv
  rintro v h' ⟨hv, rfl⟩
  simp only [AOut.ret.injEq] at hv
  subst hv
  refine Run.ops fun K hK => ?_
  simp
  try (simp (disch := omega) only [wrap_id])
  refine hK _ _ _ ?_; clear hK K
  repeat (first | refine Run.seq ?_ | refine Run.block ?_ | refine Run.skip ?_ | refine Run.inBlock ?_ | refine Run.opsNil ?_)
  refine Run.call rfl (by first | rfl | simp) (by simp) rfl (n7 _ (hh.app (by simp))) ?_ ?_
  rotate_left
  · rintro v h' ⟨hv, _⟩; cases hv
  rintro v h' ⟨hv, rfl⟩
  simp only [AOut.ret.injEq] at hv
  subst hv
  refine Run.ops fun K hK => ?_
  simp
  try (simp (disch := omega) only [wrap_id])
  refine hK _ _ _ ?_; clear hK K
  repeat (first | refine Run.seq ?_ | refine Run.block ?_ | refine Run.skip ?_ | refine Run.inBlock ?_ | refine Run.opsNil ?_)
  repeat (first | refine Run.seq ?_ | refine Run.block ?_ | refine Run.skip ?_ | refine Run.inBlock ?_ | refine Run.opsNil ?_)
  refine Run.cond (b := false) (by simp) ?_
  simp only [Bool.false_eq_true, if_false]
  repeat (first | refine Run.seq ?_ | refine Run.block ?_ | refine Run.skip ?_ | refine Run.inBlock ?_ | refine Run.opsNil ?_)
  repeat (first | refine Run.seq ?_ | refine Run.block ?_ | refine Run.skip ?_ | refine Run.inBlock ?_ | refine Run.opsNil ?_)
  refine Run.reg fun K hK => ?_
  simp
  try (simp (disch := omega) only [wrap_id])
  refine hK _ _ _ ?_; clear hK K
  repeat (first | refine Run.seq ?_ | refine Run.block ?_ | refine Run.skip ?_ | refine Run.inBlock ?_ | refine Run.opsNil ?_)
  refine Run.call rfl (by first | rfl | simp) (by simp) rfl (c1 _ (hh.app (by simp))) ?_ ?_
  rotate_left
  · rintro v h' ⟨hv, _⟩; cases hv
  rintro v h' ⟨hv, rfl⟩
  simp only [AOut.ret.injEq] at hv
  subst hv
  refine Run.ops fun K hK => ?_
  simp
  try (simp (disch := omega) only [wrap_id])
  refine hK _ _ _ ?_; clear hK K
  repeat (first | refine Run.seq ?_ | refine Run.block ?_ | refine Run.skip ?_ | refine Run.inBlock ?_ | refine Run.opsNil ?_)
  refine Run.call rfl (by first | rfl | simp) (by simp) rfl (c2 _ (hh.app (by simp))) ?_ ?_
  rotate_left
  · rintro v h' ⟨hv, _⟩; cases hv
  rintro v h' ⟨hv, rfl⟩
  simp only [AOut.ret.injEq] at hv
  subst hv
  refine Run.ops fun K hK => ?_
  simp
  try (simp (disch := omega) only [wrap_id])
  refine hK _ _ _ ?_; clear hK K
  repeat (first | refine Run.seq ?_ | refine Run.block ?_ | refine Run.skip ?_ | refine Run.inBlock ?_ | refine Run.opsNil ?_)
  refine Run.call rfl (by first | rfl | simp) (by simp) rfl (c3 _ (hh.app (by simp))) ?_ ?_
  rotate_left
  · rintro v h' ⟨hv, _⟩; cases hv
  rintro v h' ⟨hv, rfl⟩
  simp only [AOut.ret.injEq] at hv
  subst hv
  refine Run.ops fun K hK => ?_
  simp
  try (simp (disch := omega) only [wrap_id])
  refine hK _ _ _ ?_; clear hK K
  repeat (first | refine Run.seq ?_ | refine Run.block ?_ | refine Run.skip ?_ | refine Run.inBlock ?_ | refine Run.opsNil ?_)
  refine Run.call rfl (by first | rfl | simp) (by simp) rfl (c4 _ (hh.app (by simp))) ?_ ?_
  rotate_left
  · rintro v h' ⟨hv, _⟩; cases hv
  rintro v h' ⟨hv, rfl⟩
  simp only [AOut.ret.injEq] at hv
  subst hv
  refine Run.ops fun K hK => ?_
  simp
  try (simp (disch := omega) only [wrap_id])
  refine hK _ _ _ ?_; clear hK K
  repeat (first | refine Run.seq ?_ | refine Run.block ?_ | refine Run.skip ?_ | refine Run.inBlock ?_ | refine Run.opsNil ?_)
  refine Run.call rfl (by first | rfl | simp) (by simp) rfl (k1 _ (hh.app (by simp))) ?_ ?_
  rotate_left
  · rintro v h' ⟨hv, _⟩; cases hv
  rintro v h' ⟨hv, rfl⟩
  simp only [AOut.ret.injEq] at hv
  subst hv
  refine Run.ops fun K hK => ?_
  simp
  try (simp (disch := omega) only [wrap_id])
  refine hK _ _ _ ?_; clear hK K
  repeat (first | refine Run.seq ?_ | refine Run.block ?_ | refine Run.skip ?_ | refine Run.inBlock ?_ | refine Run.opsNil ?_)
  refine Run.call rfl (by first | rfl | simp) (by simp) rfl (k2 _ (hh.app (by simp))) ?_ ?_
  rotate_left
  · rintro v h' ⟨hv, _⟩; cases hv
  rintro v h' ⟨hv, rfl⟩
  simp only [AOut.ret.injEq] at hv
  subst hv
  refine Run.ops fun K hK => ?_
  simp
  try (simp (disch := omega) only [wrap_id])
  refine hK _ _ _ ?_; clear hK K
  repeat (first | refine Run.seq ?_ | refine Run.block ?_ | refine Run.skip ?_ | refine Run.inBlock ?_ | refine Run.opsNil ?_)
  repeat (first | refine Run.seq ?_ | refine Run.block ?_ | refine Run.skip ?_ | refine Run.inBlock ?_ | refine Run.opsNil ?_)
  refine Run.cond (b := false) (by simp) ?_
  simp only [Bool.false_eq_true, if_false]
  repeat (first | refine Run.seq ?_ | refine Run.block ?_ | refine Run.skip ?_ | refine Run.inBlock ?_ | refine Run.opsNil ?_)
  repeat (first | refine Run.seq ?_ | refine Run.block ?_ | refine Run.skip ?_ | refine Run.inBlock ?_ | refine Run.opsNil ?_)
  refine Run.reg fun K hK => ?_
  simp
  try (simp (disch := omega) only [wrap_id])
  refine hK _ _ _ ?_; clear hK K
  repeat (first | refine Run.seq ?_ | refine Run.block ?_ | refine Run.skip ?_ | refine Run.inBlock ?_ | refine Run.opsNil ?_)
  refine Run.call rfl (by first | rfl | simp) (by simp) rfl (hv0 _ (hh.app (by simp))) ?_ ?_
  rotate_left
  · rintro v h' ⟨hv, _⟩; cases hv
  rintro v h' ⟨hv, rfl⟩
  simp only [AOut.ret.injEq] at hv
  subst hv
  refine Run.ops fun K hK => ?_
  simp
  try (simp (disch := omega) only [wrap_id])
  refine hK _ _ _ ?_; clear hK K
  repeat (first | refine Run.seq ?_ | refine Run.block ?_ | refine Run.skip ?_ | refine Run.inBlock ?_ | refine Run.opsNil ?_)
  refine Run.call rfl (by first | rfl | simp) (by simp) rfl (k3 _ (hh.app (by simp))) ?_ ?_
  rotate_left
  · rintro v h' ⟨hv, _⟩; cases hv
  rintro v h' ⟨hv, rfl⟩
  simp only [AOut.ret.injEq] at hv
  subst hv
  refine Run.ops fun K hK => ?_
  simp
  try (simp (disch := omega) only [wrap_id])
  refine hK _ _ _ ?_; clear hK K
  repeat (first | refine Run.seq ?_ | refine Run.block ?_ | refine Run.skip ?_ | refine Run.inBlock ?_ | refine Run.opsNil ?_)
  refine Run.call rfl (by first | rfl | simp) (by simp) rfl (k4 _ (hh.app (by simp))) ?_ ?_
  rotate_left
  · rintro v h' ⟨hv, _⟩; cases hv
  rintro v h' ⟨hv, rfl⟩
  simp only [AOut.ret.injEq] at hv
  subst hv
  refine Run.ops fun K hK => ?_
  simp
  try (simp (disch := omega) only [wrap_id])
  refine hK _ _ _ ?_; clear hK K
  repeat (first | refine Run.seq ?_ | refine Run.block ?_ | refine Run.skip ?_ | refine Run.inBlock ?_ | refine Run.opsNil ?_)
  refine Run.call rfl (by first | rfl | simp) (by simp) rfl (k5 _ (hh.app (by simp))) ?_ ?_
  rotate_left
  · rintro v h' ⟨hv, _⟩; cases hv
  rintro v h' ⟨hv, rfl⟩
  simp only [AOut.ret.injEq] at hv
  subst hv
  refine Run.ops fun K hK => ?_
  simp
  try (simp (disch := omega) only [wrap_id])
  refine hK _ _ _ ?_; clear hK K
  repeat (first | refine Run.seq ?_ | refine Run.block ?_ | refine Run.skip ?_ | refine Run.inBlock ?_ | refine Run.opsNil ?_)
  refine Run.call rfl (by first | rfl | simp) (by simp) rfl (k6 _ (hh.app (by simp))) ?_ ?_
  rotate_left
  · rintro v h' ⟨hv, _⟩; cases hv
  rintro v h' ⟨hv, rfl⟩
  simp only [AOut.ret.injEq] at hv
  subst hv
  refine Run.ops fun K hK => ?_
  simp
  try (simp (disch := omega) only [wrap_id])
  refine hK _ _ _ ?_; clear hK K
  repeat (first | refine Run.seq ?_ | refine Run.block ?_ | refine Run.skip ?_ | refine Run.inBlock ?_ | refine Run.opsNil ?_)
  refine Run.ret ?_
  exact Fin.ret' (by simp) rfl hh rfl (by simp; rfl) rfl (Weak.refl _) rfl ⟨rfl, rfl⟩

theorem var_any (h : Heap) (hh : WF h) (i : Int) : ACalls Try.prog 143 [iA i] h fun o h' => o = .ret (vr i).av ∧ h' = h := by
  refine ACalls.of_run Try.func143 rfl ?_
  simp only [Try.ntmps143, List.length_cons, List.length_nil, Tm.av]
  repeat (first | refine Run.seq ?_ | refine Run.block ?_ | refine Run.skip ?_ | refine Run.inBlock ?_ | refine Run.opsNil ?_)
  repeat (first | refine Run.seq ?_ | refine Run.block ?_ | refine Run.skip ?_ | refine Run.inBlock ?_ | refine Run.opsNil ?_)
  refine Run.reg fun K hK => ?_
  simp
  try (simp (disch := omega) only [wrap_id])
  refine hK _ _ _ ?_; clear hK K
  repeat (first | refine Run.seq ?_ | refine Run.block ?_ | refine Run.skip ?_ | refine Run.inBlock ?_ | refine Run.opsNil ?_)
  repeat (first | refine Run.seq ?_ | refine Run.block ?_ | refine Run.skip ?_ | refine Run.inBlock ?_ | refine Run.opsNil ?_)
  refine Run.reg fun K hK => ?_
  simp
  try (simp (disch := omega) only [wrap_id])
  refine hK _ _ _ ?_; clear hK K
  repeat (first | refine Run.seq ?_ | refine Run.block ?_ | refine Run.skip ?_ | refine Run.inBlock ?_ | refine Run.opsNil ?_)
  refine Run.ret ?_
  refine Fin.ret' (h0 := h) (by simp) rfl hh rfl (by simp; rfl) rfl ?_ (by simp) ⟨rfl, rfl⟩
  simp only [vr, cells_mk, List.map]
  refine Weak.agg ?_
  repeat' (first | exact WeakL.nil | apply WeakL.cons)
  all_goals first | exact Weak.junk _ | exact Weak.refl _ | exact Weak.nil _ | exact Weak.own _ _ _ | exact Weak.int (by omega)

def lt : List Tm := [.mk 3 0 [78, 97, 116] [] [], .mk 4 0 [] [] [vr 0, vr 1]]

def ls : List Lv := [⟨0, [(1, 0)]⟩]

def tT : Tm := .mk 5 0 [] [] lt

def tS : Tm := .mk 2 0 [] ls []

def t3 : Tm := .mk 3 0 [78, 97, 116] [] [vr 0]

def t4 : Tm := .mk 0 7 [120] [] []

theorem fitT : tT.fit ∧ tT.nm ∧ tT.size ≤ 1099511627776 := by simp [tT, lt, vr, Tm.fit, Tm.fits, Tm.nm, Tm.nms, Tm.size, Tm.sizes]

theorem fitS : tS.fit ∧ tS.nm ∧ tS.size ≤ 1099511627776 := by simp [tS, ls, Tm.fit, Tm.fits, Tm.nm, Tm.nms, Tm.size, Tm.sizes]

theorem fit3 : t3.fit ∧ t3.nm ∧ t3.size ≤ 1099511627776 := by simp [t3, vr, Tm.fit, Tm.fits, Tm.nm, Tm.nms, Tm.size, Tm.sizes]

theorem fit4 : t4.fit ∧ t4.nm ∧ t4.size ≤ 1099511627776 := by simp [t4, Tm.fit, Tm.fits, Tm.nm, Tm.nms, Tm.size, Tm.sizes]

theorem chkc {t : Tm} (hf : t.fit ∧ t.nm ∧ t.size ≤ 1099511627776) {v p m l e : Int} (he : checkZ v p m l t = e) (g : Heap) (hg : WF g) : ACalls Try.prog 144 [t.av, iA v, iA p, iA m, iA l] g fun o h' => o = .ret (iA e) ∧ h' = g := he ▸ tcheck_any g hg t v p m l hf.1 hf.2.1 hf.2.2

theorem namec (n : List UInt8) (b : Bool) (hn : n.length ≤ 1099511627776) (hb : nameP n = b) (g : Heap) (hg : WF g) : ACalls Try.prog 76 [.p (sP n)] g fun o h' => o = .ret (bA b) ∧ h' = g := hb ▸ tname_any g hg n hn

theorem sizec (g : Heap) (hg : WF g) : ACalls Try.prog 81 [tT.av] g fun o h' => o = .ret (iA 5) ∧ h' = g := tsize_any g hg tT fitT.2.2

theorem depthc (g : Heap) (hg : WF g) : ACalls Try.prog 82 [tT.av] g fun o h' => o = .ret (iA 3) ∧ h' = g := tdepth_any tT.size tT g (Nat.le_refl _) fitT.2.2 hg

theorem freec (g : Heap) (hg : WF g) : ACalls Try.prog 85 [tT.av] g fun o h' => o = .ret (.p (.sl 1 [[iP 0]])) ∧ h' = g := free_any g hg tT fitT.1 fitT.2.2

theorem eqc (g : Heap) (hg : WF g) : ACalls Try.prog 84 [.p (.sl 1 [[iP 0]]), .p (.sl 1 [[iP 0]])] g fun o h' => o = .ret (bA true) ∧ h' = g := ieq_any g hg [0] [0] (by simp)

theorem awake03_any (h : Heap) (hh : WF h) : ACalls Try.prog 75 [] h fun o h' => o = .ret (bA true) ∧ h' = h := by
  refine walk (vr 0) (vr 1) lt ls (fun g hg => var_any g hg 0) (fun g hg => var_any g hg 1) ?_ ?_
    (namec _ _ (by simp) (by kernel_rfl)) (namec _ _ (by simp) (by kernel_rfl)) (namec _ _ (by simp) (by kernel_rfl)) (namec _ _ (by simp) (by kernel_rfl)) (namec _ _ (by simp) (by kernel_rfl)) (namec _ _ (by simp) (by kernel_rfl)) (namec _ _ (by simp) (by kernel_rfl))
    sizec depthc freec eqc (chkc fitT (by kernel_rfl)) (chkc fitT (by kernel_rfl))
    (fun g hg => ACalls.weak ?_ (chkc fit3 (v := 1) (p := 0) (m := 0) (l := 0) (e := 3) (by kernel_rfl) g hg)) (fun g hg => ACalls.weak ?_ (chkc fit4 (v := 1) (p := 0) (m := 0) (l := 0) (e := 3) (by kernel_rfl) g hg))
    (chkc fitS (by kernel_rfl)) (chkc fitS (by kernel_rfl)) h hh
  · refine (WeakP.sl ?_).av
    simp only [lt, tmPs, cells_mk]
    repeat' (first | exact WeakPs.nil | apply WeakPs.cons | exact WeakPL.nil | apply WeakPL.cons)
    all_goals first | exact WeakP.refl _ | exact WeakP.nil _
  · exact Weak.refl _
  · simp only [t3, Tm.av, cells_mk, List.map]
    repeat' (first | exact WeakL.nil | apply WeakL.cons)
    all_goals first | exact Weak.refl _ | skip
    refine Weak.agg ?_
    repeat' (first | exact WeakL.nil | apply WeakL.cons)
    all_goals first | exact Weak.refl _ | exact Weak.nil _
  · simp only [t4, Tm.av, cells_mk, List.map]
    repeat' (first | exact WeakL.nil | apply WeakL.cons)
    all_goals first | exact Weak.refl _ | skip
    refine Weak.agg ?_
    repeat' (first | exact WeakL.nil | apply WeakL.cons)
    all_goals first | exact Weak.refl _ | exact Weak.nil _

end Go.Proofs.Ytppgpabjcenjdaa.aw03
