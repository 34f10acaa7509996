/-
  euclidlaw05: awake.
-/
import Derived.Test.YtppgpabjcenjdaaTT7
import Derived.Test.YtppgpabjcenjdaaTFG
namespace Go.Proofs.Ytppgpabjcenjdaa.aw05

open Go Go.AI

set_option maxRecDepth 8000 in
set_option maxHeartbeats 8000000 in
theorem walk (nat kv v0 vec ke v1 a1 eq ps zt lk z s it v2 v3 b1 : Tm)
    (f1 : ∀ g : Heap, WF g → ACalls Try.prog 129 [.p (sP [78, 97, 116])] g fun o h' => o = .ret (nat.av) ∧ h' = g)
    (f2 : ∀ g : Heap, WF g → ACalls Try.prog 129 [.p (sP [86, 101, 99])] g fun o h' => o = .ret (kv.av) ∧ h' = g)
    (f3 : ∀ g : Heap, WF g → ACalls Try.prog 131 [iA 0] g fun o h' => o = .ret (v0.av) ∧ h' = g)
    (f4 : ∀ g : Heap, WF g → ACalls Try.prog 130 [kv.av, v0.av] g fun o h' => o = .ret (vec.av) ∧ h' = g)
    (f5 : ∀ g : Heap, WF g → ACalls Try.prog 129 [.p (sP [69, 113])] g fun o h' => o = .ret (ke.av) ∧ h' = g)
    (f6 : ∀ g : Heap, WF g → ACalls Try.prog 131 [iA 1] g fun o h' => o = .ret (v1.av) ∧ h' = g)
    (f7 : ∀ g : Heap, WF g → ACalls Try.prog 130 [ke.av, v1.av] g fun o h' => o = .ret (a1.av) ∧ h' = g)
    (f8 : ∀ g : Heap, WF g → ACalls Try.prog 130 [a1.av, v0.av] g fun o h' => o = .ret (eq.av) ∧ h' = g)
    (f9 : ∀ g : Heap, WF g → ACalls Try.prog 61 [.p (.sl 5 [nat.cells, vec.cells]), eq.av] g fun o h' => o = .ret (ps.av) ∧ h' = g)
    (f10 : ∀ g : Heap, WF g → ACalls Try.prog 67 [ps.av, iA 2] g fun o h' => o = .ret (.tup [.p (.sl 5 [nat.cells, vec.cells]), eq.av, iA 0]) ∧ h' = g)
    (f11 : ∀ g : Heap, WF g → ACalls Try.prog 67 [ps.av, iA 3] g fun o h' => o = .ret (.tup [.p (.sl 5 []), zt.av, iA 13]) ∧ h' = g)
    (f12 : ∀ g : Heap, WF g → ACalls Try.prog 50 [.p (.sl 5 [nat.cells, vec.cells, nat.cells]), iA 1] g fun o h' => o = .ret (.tup [lk.av, iA 0]) ∧ h' = g)
    (f13 : ∀ g : Heap, WF g → ACalls Try.prog 129 [.p (sP [122, 101, 114, 111])] g fun o h' => o = .ret (z.av) ∧ h' = g)
    (f14 : ∀ g : Heap, WF g → ACalls Try.prog 129 [.p (sP [115, 111, 109, 101])] g fun o h' => o = .ret (s.av) ∧ h' = g)
    (f15 : ∀ g : Heap, WF g → ACalls Try.prog 57 [.p (.sl 5 [nat.cells, vec.cells]), eq.av, .p (.sl 5 [z.cells, s.cells])] g fun o h' => o = .ret (.tup [it.av, iA 0]) ∧ h' = g)
    (f16 : ∀ g : Heap, WF g → ACalls Try.prog 53 [iA 3, iA 1] g fun o h' => o = .ret (.p (.sl 5 [v3.cells, v2.cells, v1.cells])) ∧ h' = g)
    (f17 : ∀ g : Heap, WF g → ACalls Try.prog 52 [.p (.sl 5 [nat.cells, vec.cells]), .p (.sl 5 [nat.cells, vec.cells])] g fun o h' => o = .ret (bA true) ∧ h' = g)
    (f18 : ∀ g : Heap, WF g → ACalls Try.prog 33 [eq.av, eq.av] g fun o h' => o = .ret (bA true) ∧ h' = g)
    (f19 : ∀ g : Heap, WF g → ACalls Try.prog 131 [iA 2] g fun o h' => o = .ret (v2.av) ∧ h' = g)
    (f20 : ∀ g : Heap, WF g → ACalls Try.prog 130 [kv.av, v2.av] g fun o h' => o = .ret (lk.av) ∧ h' = g)
    (f21 : ∀ g : Heap, WF g → ACalls Try.prog 33 [lk.av, lk.av] g fun o h' => o = .ret (bA true) ∧ h' = g)
    (f22 : ∀ g : Heap, WF g → ACalls Try.prog 130 [ke.av, z.av] g fun o h' => o = .ret (b1.av) ∧ h' = g)
    (f23 : ∀ g : Heap, WF g → ACalls Try.prog 130 [b1.av, s.av] g fun o h' => o = .ret (it.av) ∧ h' = g)
    (f24 : ∀ g : Heap, WF g → ACalls Try.prog 33 [it.av, it.av] g fun o h' => o = .ret (bA true) ∧ h' = g)
    (f25 : ∀ g : Heap, WF g → ACalls Try.prog 131 [iA 3] g fun o h' => o = .ret (v3.av) ∧ h' = g)
    (f26 : ∀ g : Heap, WF g → ACalls Try.prog 52 [.p (.sl 5 [v3.cells, v2.cells, v1.cells]), .p (.sl 5 [v3.cells, v2.cells, v1.cells])] g fun o h' => o = .ret (bA true) ∧ h' = g)
    (h : Heap) (hh : WF h) : ACalls Try.prog 49 [] h fun o h' => o = .ret (bA true) ∧ h' = h := by
  refine ACalls.of_run Try.func49 rfl ?_
  simp only [Try.ntmps49, List.length_nil]
  repeat (first | refine Run.seq ?_ | refine Run.block ?_ | refine Run.skip ?_ | refine Run.inBlock ?_ | refine Run.opsNil ?_)
  repeat (first | refine Run.seq ?_ | refine Run.block ?_ | refine Run.skip ?_ | refine Run.inBlock ?_ | refine Run.opsNil ?_)
  refine Run.reg fun K hK => ?_
  simp
  try (simp (disch := omega) only [wrap_id])
  refine hK _ _ _ ?_; clear hK K
  repeat (first | refine Run.seq ?_ | refine Run.block ?_ | refine Run.skip ?_ | refine Run.inBlock ?_ | refine Run.opsNil ?_)
  repeat (first | refine Run.seq ?_ | refine Run.block ?_ | refine Run.skip ?_ | refine Run.inBlock ?_ | refine Run.opsNil ?_)
  refine Run.reg fun K hK => ?_
  simp
  try (simp (disch := omega) only [wrap_id])
  refine hK _ _ _ ?_; clear hK K
  repeat (first | refine Run.seq ?_ | refine Run.block ?_ | refine Run.skip ?_ | refine Run.inBlock ?_ | refine Run.opsNil ?_)
  refine Run.call (args := [.p (sP [78, 97, 116])]) rfl (by first | rfl | simp) (by simp) rfl (f1 _ hh) ?_ ?_
  rotate_left
  · rintro v h' ⟨hv, _⟩; cases hv
  rintro v h' ⟨hv, rfl⟩
  simp only [AOut.ret.injEq] at hv
  subst hv
  refine Run.ops fun K hK => ?_
  simp
  try (simp (disch := omega) only [wrap_id])
  refine hK _ _ _ ?_; clear hK K
  repeat (first | refine Run.seq ?_ | refine Run.block ?_ | refine Run.skip ?_ | refine Run.inBlock ?_ | refine Run.opsNil ?_)
  refine Run.call (args := [.p (sP [86, 101, 99])]) rfl (by first | rfl | simp) (by simp) rfl (f2 _ hh) ?_ ?_
  rotate_left
  · rintro v h' ⟨hv, _⟩; cases hv
  rintro v h' ⟨hv, rfl⟩
  simp only [AOut.ret.injEq] at hv
  subst hv
  refine Run.ops fun K hK => ?_
  simp
  try (simp (disch := omega) only [wrap_id])
  refine hK _ _ _ ?_; clear hK K
  repeat (first | refine Run.seq ?_ | refine Run.block ?_ | refine Run.skip ?_ | refine Run.inBlock ?_ | refine Run.opsNil ?_)
  refine Run.call (args := [iA 0]) rfl (by first | rfl | simp) (by simp) rfl (f3 _ hh) ?_ ?_
  rotate_left
  · rintro v h' ⟨hv, _⟩; cases hv
  rintro v h' ⟨hv, rfl⟩
  simp only [AOut.ret.injEq] at hv
  subst hv
  refine Run.ops fun K hK => ?_
  simp
  try (simp (disch := omega) only [wrap_id])
  refine hK _ _ _ ?_; clear hK K
  repeat (first | refine Run.seq ?_ | refine Run.block ?_ | refine Run.skip ?_ | refine Run.inBlock ?_ | refine Run.opsNil ?_)
  refine Run.call (args := [kv.av, v0.av]) rfl (by first | rfl | simp) (by simp) rfl (f4 _ hh) ?_ ?_
  rotate_left
  · rintro v h' ⟨hv, _⟩; cases hv
  rintro v h' ⟨hv, rfl⟩
  simp only [AOut.ret.injEq] at hv
  subst hv
  refine Run.ops fun K hK => ?_
  simp
  try (simp (disch := omega) only [wrap_id])
  refine hK _ _ _ ?_; clear hK K
  repeat (first | refine Run.seq ?_ | refine Run.block ?_ | refine Run.skip ?_ | refine Run.inBlock ?_ | refine Run.opsNil ?_)
  repeat (first | refine Run.seq ?_ | refine Run.block ?_ | refine Run.skip ?_ | refine Run.inBlock ?_ | refine Run.opsNil ?_)
  refine Run.reg fun K hK => ?_
  simp
  try (simp (disch := omega) only [wrap_id])
  refine hK _ _ _ ?_; clear hK K
  repeat (first | refine Run.seq ?_ | refine Run.block ?_ | refine Run.skip ?_ | refine Run.inBlock ?_ | refine Run.opsNil ?_)
  refine Run.call (args := [.p (sP [69, 113])]) rfl (by first | rfl | simp) (by simp) rfl (f5 _ (hh.app (by simp))) ?_ ?_
  rotate_left
  · rintro v h' ⟨hv, _⟩; cases hv
  rintro v h' ⟨hv, rfl⟩
  simp only [AOut.ret.injEq] at hv
  subst hv
  refine Run.ops fun K hK => ?_
  simp
  try (simp (disch := omega) only [wrap_id])
  refine hK _ _ _ ?_; clear hK K
  repeat (first | refine Run.seq ?_ | refine Run.block ?_ | refine Run.skip ?_ | refine Run.inBlock ?_ | refine Run.opsNil ?_)
  refine Run.call (args := [iA 1]) rfl (by first | rfl | simp) (by simp) rfl (f6 _ (hh.app (by simp))) ?_ ?_
  rotate_left
  · rintro v h' ⟨hv, _⟩; cases hv
  rintro v h' ⟨hv, rfl⟩
  simp only [AOut.ret.injEq] at hv
  subst hv
  refine Run.ops fun K hK => ?_
  simp
  try (simp (disch := omega) only [wrap_id])
  refine hK _ _ _ ?_; clear hK K
  repeat (first | refine Run.seq ?_ | refine Run.block ?_ | refine Run.skip ?_ | refine Run.inBlock ?_ | refine Run.opsNil ?_)
  refine Run.call (args := [ke.av, v1.av]) rfl (by first | rfl | simp) (by simp) rfl (f7 _ (hh.app (by simp))) ?_ ?_
  rotate_left
  · rintro v h' ⟨hv, _⟩; cases hv
  rintro v h' ⟨hv, rfl⟩
  simp only [AOut.ret.injEq] at hv
  subst hv
  refine Run.ops fun K hK => ?_
  simp
  try (simp (disch := omega) only [wrap_id])
  refine hK _ _ _ ?_; clear hK K
  repeat (first | refine Run.seq ?_ | refine Run.block ?_ | refine Run.skip ?_ | refine Run.inBlock ?_ | refine Run.opsNil ?_)
  refine Run.call (args := [iA 0]) rfl (by first | rfl | simp) (by simp) rfl (f3 _ (hh.app (by simp))) ?_ ?_
  rotate_left
  · rintro v h' ⟨hv, _⟩; cases hv
  rintro v h' ⟨hv, rfl⟩
  simp only [AOut.ret.injEq] at hv
  subst hv
  refine Run.ops fun K hK => ?_
  simp
  try (simp (disch := omega) only [wrap_id])
  refine hK _ _ _ ?_; clear hK K
  repeat (first | refine Run.seq ?_ | refine Run.block ?_ | refine Run.skip ?_ | refine Run.inBlock ?_ | refine Run.opsNil ?_)
  refine Run.call (args := [a1.av, v0.av]) rfl (by first | rfl | simp) (by simp) rfl (f8 _ (hh.app (by simp))) ?_ ?_
  rotate_left
  · rintro v h' ⟨hv, _⟩; cases hv
  rintro v h' ⟨hv, rfl⟩
  simp only [AOut.ret.injEq] at hv
  subst hv
  refine Run.ops fun K hK => ?_
  simp
  try (simp (disch := omega) only [wrap_id])
  refine hK _ _ _ ?_; clear hK K
  repeat (first | refine Run.seq ?_ | refine Run.block ?_ | refine Run.skip ?_ | refine Run.inBlock ?_ | refine Run.opsNil ?_)
  repeat (first | refine Run.seq ?_ | refine Run.block ?_ | refine Run.skip ?_ | refine Run.inBlock ?_ | refine Run.opsNil ?_)
  refine Run.reg fun K hK => ?_
  simp
  try (simp (disch := omega) only [wrap_id])
  refine hK _ _ _ ?_; clear hK K
  repeat (first | refine Run.seq ?_ | refine Run.block ?_ | refine Run.skip ?_ | refine Run.inBlock ?_ | refine Run.opsNil ?_)
  refine Run.call (args := [.p (.sl 5 [nat.cells, vec.cells]), eq.av]) rfl (by first | rfl | simp) (by simp) rfl (f9 _ (hh.app (by simp))) ?_ ?_
  rotate_left
  · rintro v h' ⟨hv, _⟩; cases hv
  rintro v h' ⟨hv, rfl⟩
  simp only [AOut.ret.injEq] at hv
  subst hv
  refine Run.ops fun K hK => ?_
  simp
  try (simp (disch := omega) only [wrap_id])
  refine hK _ _ _ ?_; clear hK K
  repeat (first | refine Run.seq ?_ | refine Run.block ?_ | refine Run.skip ?_ | refine Run.inBlock ?_ | refine Run.opsNil ?_)
  repeat (first | refine Run.seq ?_ | refine Run.block ?_ | refine Run.skip ?_ | refine Run.inBlock ?_ | refine Run.opsNil ?_)
  refine Run.reg fun K hK => ?_
  simp
  try (simp (disch := omega) only [wrap_id])
  refine hK _ _ _ ?_; clear hK K
  repeat (first | refine Run.seq ?_ | refine Run.block ?_ | refine Run.skip ?_ | refine Run.inBlock ?_ | refine Run.opsNil ?_)
  refine Run.call (args := [ps.av, iA 2]) rfl (by first | rfl | simp) (by simp) rfl (f10 _ (hh.app (by simp))) ?_ ?_
  rotate_left
  · rintro v h' ⟨hv, _⟩; cases hv
  rintro v h' ⟨hv, rfl⟩
  simp only [AOut.ret.injEq] at hv
  subst hv
  refine Run.ops fun K hK => ?_
  simp
  try (simp (disch := omega) only [wrap_id])
  refine hK _ _ _ ?_; clear hK K
  repeat (first | refine Run.seq ?_ | refine Run.block ?_ | refine Run.skip ?_ | refine Run.inBlock ?_ | refine Run.opsNil ?_)
  repeat (first | refine Run.seq ?_ | refine Run.block ?_ | refine Run.skip ?_ | refine Run.inBlock ?_ | refine Run.opsNil ?_)
  refine Run.reg fun K hK => ?_
  simp
  try (simp (disch := omega) only [wrap_id])
  refine hK _ _ _ ?_; clear hK K
  repeat (first | refine Run.seq ?_ | refine Run.block ?_ | refine Run.skip ?_ | refine Run.inBlock ?_ | refine Run.opsNil ?_)
  refine Run.call (args := [ps.av, iA 3]) rfl (by first | rfl | simp) (by simp) rfl (f11 _ (hh.app (by simp))) ?_ ?_
  rotate_left
  · rintro v h' ⟨hv, _⟩; cases hv
  rintro v h' ⟨hv, rfl⟩
  simp only [AOut.ret.injEq] at hv
  subst hv
  refine Run.ops fun K hK => ?_
  simp
  try (simp (disch := omega) only [wrap_id])
  refine hK _ _ _ ?_; clear hK K
  repeat (first | refine Run.seq ?_ | refine Run.block ?_ | refine Run.skip ?_ | refine Run.inBlock ?_ | refine Run.opsNil ?_)
  repeat (first | refine Run.seq ?_ | refine Run.block ?_ | refine Run.skip ?_ | refine Run.inBlock ?_ | refine Run.opsNil ?_)
  refine Run.reg fun K hK => ?_
  simp
  try (simp (disch := omega) only [wrap_id])
  refine hK _ _ _ ?_; clear hK K
  repeat (first | refine Run.seq ?_ | refine Run.block ?_ | refine Run.skip ?_ | refine Run.inBlock ?_ | refine Run.opsNil ?_)
  refine Run.call (args := [.p (.sl 5 [nat.cells, vec.cells, nat.cells]), iA 1]) rfl (by first | rfl | simp) (by simp) rfl (f12 _ (hh.app (by simp))) ?_ ?_
  rotate_left
  · rintro v h' ⟨hv, _⟩; cases hv
  rintro v h' ⟨hv, rfl⟩
  simp only [AOut.ret.injEq] at hv
  subst hv
  refine Run.ops fun K hK => ?_
  simp
  try (simp (disch := omega) only [wrap_id])
  refine hK _ _ _ ?_; clear hK K
  repeat (first | refine Run.seq ?_ | refine Run.block ?_ | refine Run.skip ?_ | refine Run.inBlock ?_ | refine Run.opsNil ?_)
  repeat (first | refine Run.seq ?_ | refine Run.block ?_ | refine Run.skip ?_ | refine Run.inBlock ?_ | refine Run.opsNil ?_)
  refine PC.Run.drawP (pc := [2, 3, 5]) [0, 0, 0, 0, 0, 0, 0, 0, 0, 0, 1, 2] [0, 0, 0, 0, 0, 0, 0, 0, 0, 0, 1, 0] [0, 0, 0, 4, 12, 31, 63, 127, 127, 0, 767, 2047] [9, 0, 1, 2, 3, 4, 5, 6, 7, 10, 8, 11] (by kernel_rfl) (by kernel_rfl) ?_
  refine PC.DR.go fun K hK => ?_
  simp
  try (simp (disch := omega) only [wrap_id])
  refine hK _ _ _ _ ?_; clear hK K
  refine PC.DR.pcall (args := [.p (sP [122, 101, 114, 111])]) rfl rfl rfl (by simp) rfl rfl (fun g hg => (f13) g ?_) ?_
  · simp at hg; (first | (rcases hg with rfl | rfl | rfl | rfl) | (rcases hg with rfl | rfl | rfl) | (rcases hg with rfl | rfl) | subst hg) <;> exact hh.app (by simp)
  refine PC.DR.go fun K hK => ?_
  simp
  try (simp (disch := omega) only [wrap_id])
  refine hK _ _ _ _ ?_; clear hK K
  refine PC.DR.pcall (args := [.p (sP [115, 111, 109, 101])]) rfl rfl rfl (by simp) rfl rfl (fun g hg => (f14) g ?_) ?_
  · simp at hg; (first | (rcases hg with rfl | rfl | rfl | rfl) | (rcases hg with rfl | rfl | rfl) | (rcases hg with rfl | rfl) | subst hg) <;> exact hh.app (by simp)
  refine PC.DR.go fun K hK => ?_
  simp
  try (simp (disch := omega) only [wrap_id])
  refine hK _ _ _ _ ?_; clear hK K
  refine PC.DR.pcall (args := [.p (.sl 5 [nat.cells, vec.cells]), eq.av, .p (.sl 5 [z.cells, s.cells])]) rfl rfl rfl (by simp) rfl rfl (fun g hg => (f15) g ?_) ?_
  · simp at hg; (first | (rcases hg with rfl | rfl | rfl | rfl) | (rcases hg with rfl | rfl | rfl) | (rcases hg with rfl | rfl) | subst hg) <;> exact hh.app (by simp)
  refine PC.DR.go fun K hK => ?_
  simp
  try (simp (disch := omega) only [wrap_id])
  refine hK _ _ _ _ ?_; clear hK K
  change Run _ _ _ _ _ _ _ _
  repeat (first | refine Run.seq ?_ | refine Run.block ?_ | refine Run.skip ?_ | refine Run.inBlock ?_ | refine Run.opsNil ?_)
  repeat (first | refine Run.seq ?_ | refine Run.block ?_ | refine Run.skip ?_ | refine Run.inBlock ?_ | refine Run.opsNil ?_)
  refine Run.reg fun K hK => ?_
  simp
  try (simp (disch := omega) only [wrap_id])
  refine hK _ _ _ ?_; clear hK K
  repeat (first | refine Run.seq ?_ | refine Run.block ?_ | refine Run.skip ?_ | refine Run.inBlock ?_ | refine Run.opsNil ?_)
  refine Run.call (args := [iA 3, iA 1]) rfl (by first | rfl | simp) (by simp) rfl (f16 _ (hh.app (by simp))) ?_ ?_
  rotate_left
  · rintro v h' ⟨hv, _⟩; cases hv
  rintro v h' ⟨hv, rfl⟩
  simp only [AOut.ret.injEq] at hv
  subst hv
  refine Run.ops fun K hK => ?_
  simp
  try (simp (disch := omega) only [wrap_id])
  refine hK _ _ _ ?_; clear hK K
  repeat (first | refine Run.seq ?_ | refine Run.block ?_ | refine Run.skip ?_ | refine Run.inBlock ?_ | refine Run.opsNil ?_)
  repeat (first | refine Run.seq ?_ | refine Run.block ?_ | refine Run.skip ?_ | refine Run.inBlock ?_ | refine Run.opsNil ?_)
  refine Run.draw [0, 0, 0, 0, 0, 0, 0, 0, 1, 1, 1, 1, 1, 2, 2, 2, 2, 2, 2, 2, 2, 2, 2, 2, 2, 3, 4, 5, 6, 6, 6, 6, 6, 6, 6, 6, 7, 8, 9, 10, 11, 12, 12, 12, 12, 13, 14, 15, 15, 16, 16] [0, 0, 0, 0, 0, 0, 0, 0, 0, 0, 0, 0, 1, 0, 0, 0, 0, 0, 0, 0, 0, 0, 0, 0, 2, 3, 4, 5, 0, 0, 0, 0, 0, 0, 0, 6, 7, 8, 9, 10, 11, 0, 0, 0, 12, 13, 14, 0, 15, 0, 0] [0, 1, 3, 7, 7, 7, 55, 127, 255, 511, 1023, 1023, 4095, 8191, 16383, 32767, 65535, 131071, 262143, 524287, 1048575, 2097151, 4194303, 8388607, 8388607, 25165823, 58720255, 134217727, 268435455, 536870911, 1073741823, 2147483647, 4294967295, 8589934591, 17179869183, 17179869183, 51539607551, 120259084287, 257698037759, 532575944703, 1099511627775, 2199023255551, 4398046511103, 8796093022207, 8796093022207, 26388279066623, 61572651155455, 131941395333119, 281474976710655, 562949953421311, 1125899906842623] [0, 1, 2, 3, 4, 5, 6, 7, 8, 9, 10, 11, 12, 13, 14, 15, 16, 17, 18, 19, 20, 21, 22, 24, 25, 26, 23, 27, 28, 29, 30, 31, 32, 33, 35, 36, 37, 38, 39, 34, 40, 41, 42, 44, 45, 46, 43, 47, 48, 49, 50] (by kernel_rfl) (by kernel_rfl) ?_
  refine DR.go fun K hK => ?_
  simp
  try (simp (disch := omega) only [wrap_id])
  refine hK _ _ _ _ ?_; clear hK K
  refine DR.call (args := [.p (.sl 5 [nat.cells, vec.cells]), .p (.sl 5 [nat.cells, vec.cells])]) rfl rfl rfl (by simp) rfl (f17 _ (hh.app (by simp))) ?_
  refine DR.go fun K hK => ?_
  simp
  try (simp (disch := omega) only [wrap_id])
  refine hK _ _ _ _ ?_; clear hK K
  refine DR.call (args := [eq.av, eq.av]) rfl rfl rfl (by simp) rfl (f18 _ (hh.app (by simp))) ?_
  refine DR.go fun K hK => ?_
  simp
  try (simp (disch := omega) only [wrap_id])
  refine hK _ _ _ _ ?_; clear hK K
  refine DR.call (args := [.p (sP [86, 101, 99])]) rfl rfl rfl (by simp) rfl (f2 _ (hh.app (by simp))) ?_
  refine DR.go fun K hK => ?_
  simp
  try (simp (disch := omega) only [wrap_id])
  refine hK _ _ _ _ ?_; clear hK K
  refine DR.call (args := [iA 2]) rfl rfl rfl (by simp) rfl (f19 _ (hh.app (by simp))) ?_
  refine DR.go fun K hK => ?_
  simp
  try (simp (disch := omega) only [wrap_id])
  refine hK _ _ _ _ ?_; clear hK K
  refine DR.call (args := [kv.av, v2.av]) rfl rfl rfl (by simp) rfl (f20 _ (hh.app (by simp))) ?_
  refine DR.go fun K hK => ?_
  simp
  try (simp (disch := omega) only [wrap_id])
  refine hK _ _ _ _ ?_; clear hK K
  refine DR.call (args := [lk.av, lk.av]) rfl rfl rfl (by simp) rfl (f21 _ (hh.app (by simp))) ?_
  refine DR.go fun K hK => ?_
  simp
  try (simp (disch := omega) only [wrap_id])
  refine hK _ _ _ _ ?_; clear hK K
  refine DR.call (args := [.p (sP [69, 113])]) rfl rfl rfl (by simp) rfl (f5 _ (hh.app (by simp))) ?_
  refine DR.go fun K hK => ?_
  simp
  try (simp (disch := omega) only [wrap_id])
  refine hK _ _ _ _ ?_; clear hK K
  refine DR.call (args := [.p (sP [122, 101, 114, 111])]) rfl rfl rfl (by simp) rfl (f13 _ (hh.app (by simp))) ?_
  refine DR.go fun K hK => ?_
  simp
  try (simp (disch := omega) only [wrap_id])
  refine hK _ _ _ _ ?_; clear hK K
  refine DR.call (args := [ke.av, z.av]) rfl rfl rfl (by simp) rfl (f22 _ (hh.app (by simp))) ?_
  refine DR.go fun K hK => ?_
  simp
  try (simp (disch := omega) only [wrap_id])
  refine hK _ _ _ _ ?_; clear hK K
  refine DR.call (args := [.p (sP [115, 111, 109, 101])]) rfl rfl rfl (by simp) rfl (f14 _ (hh.app (by simp))) ?_
  refine DR.go fun K hK => ?_
  simp
  try (simp (disch := omega) only [wrap_id])
  refine hK _ _ _ _ ?_; clear hK K
  refine DR.call (args := [b1.av, s.av]) rfl rfl rfl (by simp) rfl (f23 _ (hh.app (by simp))) ?_
  refine DR.go fun K hK => ?_
  simp
  try (simp (disch := omega) only [wrap_id])
  refine hK _ _ _ _ ?_; clear hK K
  refine DR.call (args := [it.av, it.av]) rfl rfl rfl (by simp) rfl (f24 _ (hh.app (by simp))) ?_
  refine DR.go fun K hK => ?_
  simp
  try (simp (disch := omega) only [wrap_id])
  refine hK _ _ _ _ ?_; clear hK K
  refine DR.call (args := [iA 3]) rfl rfl rfl (by simp) rfl (f25 _ (hh.app (by simp))) ?_
  refine DR.go fun K hK => ?_
  simp
  try (simp (disch := omega) only [wrap_id])
  refine hK _ _ _ _ ?_; clear hK K
  refine DR.call (args := [iA 2]) rfl rfl rfl (by simp) rfl (f19 _ (hh.app (by simp))) ?_
  refine DR.go fun K hK => ?_
  simp
  try (simp (disch := omega) only [wrap_id])
  refine hK _ _ _ _ ?_; clear hK K
  refine DR.call (args := [iA 1]) rfl rfl rfl (by simp) rfl (f6 _ (hh.app (by simp))) ?_
  refine DR.go fun K hK => ?_
  simp
  try (simp (disch := omega) only [wrap_id])
  refine hK _ _ _ _ ?_; clear hK K
  refine DR.call (args := [.p (.sl 5 [v3.cells, v2.cells, v1.cells]), .p (.sl 5 [v3.cells, v2.cells, v1.cells])]) rfl rfl rfl (by simp) rfl (f26 _ (hh.app (by simp))) ?_
  refine DR.go fun K hK => ?_
  simp
  try (simp (disch := omega) only [wrap_id])
  refine hK _ _ _ _ ?_; clear hK K
  change Run _ _ _ _ _ _ _ _
  repeat (first | refine Run.seq ?_ | refine Run.block ?_ | refine Run.skip ?_ | refine Run.inBlock ?_ | refine Run.opsNil ?_)
  refine Run.ret ?_
  exact Fin.ret' (by simp) rfl hh rfl (by simp; rfl) rfl (Weak.refl _) rfl ⟨rfl, rfl⟩

def nat : Tm := conT [78, 97, 116]

def kv : Tm := conT [86, 101, 99]

def ke : Tm := conT [69, 113]

def z : Tm := conT [122, 101, 114, 111]

def s : Tm := conT [115, 111, 109, 101]

def vec : Tm := appT kv (vr 0)

def eq : Tm := appT (appT ke (vr 1)) (vr 0)

def ps : Tm := bindT 6 [nat, vec] eq

def lk : Tm := appT kv (vr 2)

def it : Tm := appT (appT ke z) s

theorem r1 : resOpen ps 2 = ([nat, vec], eq, 0) := by kernel_rfl

theorem r2 : resOpen ps 3 = ([], zT, 13) := by kernel_rfl

theorem r3 : resLook [nat, vec, nat] 1 = (lk, 0) := by kernel_rfl

theorem r4 : resInst [nat, vec] eq [z, s] = (it, 0) := by kernel_rfl

theorem r5 : varL 3 1 = [vr 3, vr 2, vr 1] := by kernel_rfl

theorem o1 : nat.ok 65536 ∧ nat.size ≤ 1048576 := by simp [nat, conT, Tm.ok, Tm.oks, Tm.okN, Tm.size, Tm.sizes]

theorem o2 : vec.ok 65536 ∧ vec.size ≤ 1048576 := by simp [vec, kv, appT, conT, vr, Tm.ok, Tm.oks, Tm.okN, Tm.size, Tm.sizes, belowZ]

theorem o3 : eq.ok 65536 ∧ eq.size ≤ 4096 := by simp [eq, ke, appT, conT, vr, Tm.ok, Tm.oks, Tm.okN, Tm.size, Tm.sizes, belowZ]

theorem o4 : z.ok 65536 ∧ z.size ≤ 4096 := by simp [z, conT, Tm.ok, Tm.oks, Tm.okN, Tm.size, Tm.sizes]

theorem o5 : s.ok 65536 ∧ s.size ≤ 4096 := by simp [s, conT, Tm.ok, Tm.oks, Tm.okN, Tm.size, Tm.sizes]

theorem o6 : ps.size ≤ 1048576 := by simp [ps, bindT, nat, vec, kv, eq, ke, appT, conT, vr, Tm.size, Tm.sizes]

theorem o7 : lk.ok 65536 ∧ lk.size ≤ 4096 := by simp [lk, kv, appT, conT, vr, Tm.ok, Tm.oks, Tm.okN, Tm.size, Tm.sizes, belowZ]

theorem o8 : it.ok 65536 ∧ it.size ≤ 4096 := by simp [it, ke, z, s, appT, conT, Tm.ok, Tm.oks, Tm.okN, Tm.size, Tm.sizes, belowZ]

theorem ov (i : Int) (h0 : 0 ≤ i) (h1 : i < 65536) : (vr i).ok 65536 ∧ (vr i).size ≤ 4096 := by
  simp [vr, Tm.ok, Tm.oks, Tm.okN, Tm.size, Tm.sizes]; exact ⟨h0, h1⟩

theorem op2 (g : Heap) (hg : WF g) : ACalls Try.prog 67 [ps.av, iA 2] g fun o h' => o = .ret (.tup [.p (.sl 5 [nat.cells, vec.cells]), eq.av, iA 0]) ∧ h' = g := by
  have := open67_any g hg ps 2 o6 (by omega)
  rw [r1] at this
  exact this

theorem op3 (g : Heap) (hg : WF g) : ACalls Try.prog 67 [ps.av, iA 3] g fun o h' => o = .ret (.tup [.p (.sl 5 []), zT.av, iA 13]) ∧ h' = g := by
  have := open67_any g hg ps 3 o6 (by omega)
  rw [r2] at this
  exact this

theorem lk1 (g : Heap) (hg : WF g) : ACalls Try.prog 50 [.p (.sl 5 [nat.cells, vec.cells, nat.cells]), iA 1] g fun o h' => o = .ret (.tup [lk.av, iA 0]) ∧ h' = g := by
  have := look50_any g hg [nat, vec, nat] 1 (by simp) (by omega) (by omega) (by intro t ht; simp at ht; rcases ht with rfl | rfl | rfl <;> first | exact o1 | exact o2)
  rw [r3] at this
  exact this

theorem in1 (g : Heap) (hg : WF g) : ACalls Try.prog 57 [.p (.sl 5 [nat.cells, vec.cells]), eq.av, .p (.sl 5 [z.cells, s.cells])] g fun o h' => o = .ret (.tup [it.av, iA 0]) ∧ h' = g := by
  have := inst57_any g hg [nat, vec] eq [z, s] (by simp) o3.1 o3.2 (by intro t ht; simp at ht; rcases ht with rfl | rfl; exact o4; exact o5)
  rw [r4] at this
  exact this

theorem va1 (g : Heap) (hg : WF g) : ACalls Try.prog 53 [iA 3, iA 1] g fun o h' => o = .ret (.p (.sl 5 [(vr 3).cells, (vr 2).cells, (vr 1).cells])) ∧ h' = g := by
  have := vars53_any g hg 3 1 (by omega) (by omega) (by omega)
  rw [r5] at this
  exact this

theorem sm (t : Tm) (ht : t.ok 65536 ∧ t.size ≤ 4096) (g : Heap) (hg : WF g) : ACalls Try.prog 33 [t.av, t.av] g fun o h' => o = .ret (bA true) ∧ h' = g := by
  have := same_any t.size t t g (Nat.le_refl _) (by have := ht.2; omega) (ok_lvs _ _ ht.1) hg
  rwa [sameT_refl] at this

theorem sl (l : List Tm) (hl : l.length ≤ 100) (hx : ∀ t ∈ l, t.ok 65536 ∧ t.size ≤ 1048576) (g : Heap) (hg : WF g) : ACalls Try.prog 52 [.p (.sl 5 (tmPs l)), .p (.sl 5 (tmPs l))] g fun o h' => o = .ret (bA true) ∧ h' = g := by
  have := sameL_any g hg l l (by omega) (fun u hu => ⟨ok_lvs _ _ (hx u hu).1, by have := (hx u hu).2; omega⟩)
  rwa [sameL_refl] at this

theorem awake05_any (h : Heap) (hh : WF h) : ACalls Try.prog 49 [] h fun o h' => o = .ret (bA true) ∧ h' = h :=
  walk nat kv (vr 0) vec ke (vr 1) (appT ke (vr 1)) eq ps zT lk z s it (vr 2) (vr 3) (appT ke z)
    (fun g hg => con5_any g hg _)
    (fun g hg => con5_any g hg _)
    (fun g hg => var5_any g hg 0)
    (fun g hg => app5_any g hg _ _)
    (fun g hg => con5_any g hg _)
    (fun g hg => var5_any g hg 1)
    (fun g hg => app5_any g hg _ _)
    (fun g hg => app5_any g hg _ _)
    (fun g hg => bind61_any g hg [_, _] _ (by simp))
    (fun g hg => op2 g hg)
    (fun g hg => op3 g hg)
    (fun g hg => lk1 g hg)
    (fun g hg => con5_any g hg _)
    (fun g hg => con5_any g hg _)
    (fun g hg => in1 g hg)
    (fun g hg => va1 g hg)
    (fun g hg => sl [nat, vec] (by simp) (by intro t ht; simp at ht; rcases ht with rfl | rfl; exact o1; exact o2) g hg)
    (fun g hg => sm eq o3 g hg)
    (fun g hg => var5_any g hg 2)
    (fun g hg => app5_any g hg _ _)
    (fun g hg => sm lk o7 g hg)
    (fun g hg => app5_any g hg _ _)
    (fun g hg => app5_any g hg _ _)
    (fun g hg => sm it o8 g hg)
    (fun g hg => var5_any g hg 3)
    (fun g hg => sl [vr 3, vr 2, vr 1] (by simp) (by intro t ht; simp at ht; rcases ht with rfl | rfl | rfl <;> (have := ov 3 (by omega) (by omega); have := ov 2 (by omega) (by omega); have := ov 1 (by omega) (by omega); exact ⟨by simp_all, by simp [vr, Tm.size, Tm.sizes]⟩)) g hg)
    h hh

end Go.Proofs.Ytppgpabjcenjdaa.aw05
