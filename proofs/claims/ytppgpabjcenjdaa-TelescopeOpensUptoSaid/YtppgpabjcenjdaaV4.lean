/-
  euclidlaw05: the contract of TelescopeOpens.
-/
import Derived.Test.YtppgpabjcenjdaaV0
namespace Go.Proofs.Ytppgpabjcenjdaa
open Go Go.AI

set_option maxRecDepth 8000 in
set_option maxHeartbeats 8000000 in
theorem teleOpens_any (h : Heap) (hh : WF h) (t : Tm) (n : Int) (hsz : t.size ≤ 1048576) (hlv : t.lvs) (hf : t.fit) (hn2 : n ≤ 9223372036854775807) :
    ACalls Try.prog 15 [t.av, iA n] h fun o h' => o = .ret (bA true) ∧ h' = h := by
  have hfew := fun (g : Heap) (hg : WF g) => few5_any g hg t 10 (by omega) hf
  have o1 := fun (g : Heap) (hg : WF g) => open67_any g hg t n hsz hn2
  have o2 := fun (g : Heap) (hg : WF g) => open68_any g hg t n hsz hn2
  have a1 := fun (g : Heap) (hg : WF g) => all69_any g hg t hsz
  have a2 := fun (g : Heap) (hg : WF g) => all70_any g hg t hsz
  have k1 := resOpen_ok t n hlv
  have k2 := resAll_ok t hlv
  generalize resOpen t n = r at o1 o2 k1
  generalize resAll t = r2 at a1 a2 k2
  obtain ⟨l, q, e⟩ := r
  obtain ⟨l2, q2⟩ := r2
  simp only at k1 k2
  have s1 := sameLS l (by omega) (fun u hu => ⟨(k1.1 u hu).1, by have := (k1.1 u hu).2; omega⟩)
  have s2 := sameS q k1.2.1 (by omega)
  have s3 := sameLS l2 (by omega) (fun u hu => ⟨(k2.1 u hu).1, by have := (k2.1 u hu).2; omega⟩)
  have s4 := sameS q2 k2.2.1 (by omega)
  obtain ⟨i0, i1, i2, i3, i4⟩ := t
  cases hb : few5 10 (Tm.mk i0 i1 i2 i3 i4) with
  | false =>
    rw [hb] at hfew
    refine ACalls.of_run Try.func15 rfl ?_
    simp only [Try.ntmps15, List.length_cons, List.length_nil, Tm.av, cells_mk, List.map]
    repeat (first | refine Run.seq ?_ | refine Run.block ?_ | refine Run.skip ?_ | refine Run.inBlock ?_ | refine Run.opsNil ?_)
    repeat (first | refine Run.seq ?_ | refine Run.block ?_ | refine Run.skip ?_ | refine Run.inBlock ?_ | refine Run.opsNil ?_)
    refine Run.reg fun K hK => ?_
    simp
    try (simp (disch := omega) only [wrap_id])
    refine hK _ _ _ ?_; clear hK K
    repeat (first | refine Run.seq ?_ | refine Run.block ?_ | refine Run.skip ?_ | refine Run.inBlock ?_ | refine Run.opsNil ?_)
    repeat (first | refine Run.seq ?_ | refine Run.block ?_ | refine Run.skip ?_ | refine Run.inBlock ?_ | refine Run.opsNil ?_)
    refine Run.reg fun K hK => ?_
    simp
    try (simp (disch := omega) only [wrap_id])
    refine hK _ _ _ ?_; clear hK K
    repeat (first | refine Run.seq ?_ | refine Run.block ?_ | refine Run.skip ?_ | refine Run.inBlock ?_ | refine Run.opsNil ?_)
    refine Run.call (args := [(Tm.mk i0 i1 i2 i3 i4).av, iA 10]) rfl (by first | rfl | simp) (by simp) rfl (hfew _ (hh.app (by simp))) ?_ ?_
    rotate_left
    · rintro v h' ⟨hv, _⟩; cases hv
    rintro v h' ⟨hv, rfl⟩
    simp only [AOut.ret.injEq] at hv
    subst hv
    refine Run.ops fun K hK => ?_
    simp
    try (simp (disch := omega) only [wrap_id])
    refine hK _ _ _ ?_; clear hK K
    repeat (first | refine Run.seq ?_ | refine Run.block ?_ | refine Run.skip ?_ | refine Run.inBlock ?_ | refine Run.opsNil ?_)
    repeat (first | refine Run.seq ?_ | refine Run.block ?_ | refine Run.skip ?_ | refine Run.inBlock ?_ | refine Run.opsNil ?_)
    refine Run.cond (b := true) (by simp) ?_
    simp only [if_true]
    repeat (first | refine Run.seq ?_ | refine Run.block ?_ | refine Run.skip ?_ | refine Run.inBlock ?_ | refine Run.opsNil ?_)
    repeat (first | refine Run.seq ?_ | refine Run.block ?_ | refine Run.skip ?_ | refine Run.inBlock ?_ | refine Run.opsNil ?_)
    refine Run.reg fun K hK => ?_
    simp
    try (simp (disch := omega) only [wrap_id])
    refine hK _ _ _ ?_; clear hK K
    repeat (first | refine Run.seq ?_ | refine Run.block ?_ | refine Run.skip ?_ | refine Run.inBlock ?_ | refine Run.opsNil ?_)
    refine Run.call (args := []) rfl (by first | rfl | simp) (by simp) rfl (aw05.awake05_any _ (hh.app (by simp))) ?_ ?_
    rotate_left
    · rintro v h' ⟨hv, _⟩; cases hv
    rintro v h' ⟨hv, rfl⟩
    simp only [AOut.ret.injEq] at hv
    subst hv
    refine Run.ops fun K hK => ?_
    simp
    try (simp (disch := omega) only [wrap_id])
    refine hK _ _ _ ?_; clear hK K
    repeat (first | refine Run.seq ?_ | refine Run.block ?_ | refine Run.skip ?_ | refine Run.inBlock ?_ | refine Run.opsNil ?_)
    refine Run.ret ?_
    refine Fin.ret' (h0 := h) (by simp) rfl hh rfl (by simp; rfl) rfl (Weak.refl _) (by simp) ⟨rfl, rfl⟩
  | true =>
    rw [hb] at hfew
    refine ACalls.of_run Try.func15 rfl ?_
    simp only [Try.ntmps15, List.length_cons, List.length_nil, Tm.av, cells_mk, List.map]
    repeat (first | refine Run.seq ?_ | refine Run.block ?_ | refine Run.skip ?_ | refine Run.inBlock ?_ | refine Run.opsNil ?_)
    repeat (first | refine Run.seq ?_ | refine Run.block ?_ | refine Run.skip ?_ | refine Run.inBlock ?_ | refine Run.opsNil ?_)
    refine Run.reg fun K hK => ?_
    simp
    try (simp (disch := omega) only [wrap_id])
    refine hK _ _ _ ?_; clear hK K
    repeat (first | refine Run.seq ?_ | refine Run.block ?_ | refine Run.skip ?_ | refine Run.inBlock ?_ | refine Run.opsNil ?_)
    repeat (first | refine Run.seq ?_ | refine Run.block ?_ | refine Run.skip ?_ | refine Run.inBlock ?_ | refine Run.opsNil ?_)
    refine Run.reg fun K hK => ?_
    simp
    try (simp (disch := omega) only [wrap_id])
    refine hK _ _ _ ?_; clear hK K
    repeat (first | refine Run.seq ?_ | refine Run.block ?_ | refine Run.skip ?_ | refine Run.inBlock ?_ | refine Run.opsNil ?_)
    refine Run.call (args := [(Tm.mk i0 i1 i2 i3 i4).av, iA 10]) rfl (by first | rfl | simp) (by simp) rfl (hfew _ (hh.app (by simp))) ?_ ?_
    rotate_left
    · rintro v h' ⟨hv, _⟩; cases hv
    rintro v h' ⟨hv, rfl⟩
    simp only [AOut.ret.injEq] at hv
    subst hv
    refine Run.ops fun K hK => ?_
    simp
    try (simp (disch := omega) only [wrap_id])
    refine hK _ _ _ ?_; clear hK K
    repeat (first | refine Run.seq ?_ | refine Run.block ?_ | refine Run.skip ?_ | refine Run.inBlock ?_ | refine Run.opsNil ?_)
    repeat (first | refine Run.seq ?_ | refine Run.block ?_ | refine Run.skip ?_ | refine Run.inBlock ?_ | refine Run.opsNil ?_)
    refine Run.cond (b := false) (by simp) ?_
    simp only [Bool.false_eq_true, if_false]
    repeat (first | refine Run.seq ?_ | refine Run.block ?_ | refine Run.skip ?_ | refine Run.inBlock ?_ | refine Run.opsNil ?_)
    repeat (first | refine Run.seq ?_ | refine Run.block ?_ | refine Run.skip ?_ | refine Run.inBlock ?_ | refine Run.opsNil ?_)
    refine Run.reg fun K hK => ?_
    simp
    try (simp (disch := omega) only [wrap_id])
    refine hK _ _ _ ?_; clear hK K
    repeat (first | refine Run.seq ?_ | refine Run.block ?_ | refine Run.skip ?_ | refine Run.inBlock ?_ | refine Run.opsNil ?_)
    refine Run.call (args := [(Tm.mk i0 i1 i2 i3 i4).av, iA n]) rfl (by first | rfl | simp) (by simp) rfl (o1 _ (hh.app (by simp))) ?_ ?_
    rotate_left
    · rintro v h' ⟨hv, _⟩; cases hv
    rintro v h' ⟨hv, rfl⟩
    simp only [AOut.ret.injEq] at hv
    subst hv
    refine Run.ops fun K hK => ?_
    simp
    try (simp (disch := omega) only [wrap_id])
    refine hK _ _ _ ?_; clear hK K
    repeat (first | refine Run.seq ?_ | refine Run.block ?_ | refine Run.skip ?_ | refine Run.inBlock ?_ | refine Run.opsNil ?_)
    repeat (first | refine Run.seq ?_ | refine Run.block ?_ | refine Run.skip ?_ | refine Run.inBlock ?_ | refine Run.opsNil ?_)
    refine Run.reg fun K hK => ?_
    simp
    try (simp (disch := omega) only [wrap_id])
    refine hK _ _ _ ?_; clear hK K
    repeat (first | refine Run.seq ?_ | refine Run.block ?_ | refine Run.skip ?_ | refine Run.inBlock ?_ | refine Run.opsNil ?_)
    refine Run.call (args := [(Tm.mk i0 i1 i2 i3 i4).av, iA n]) rfl (by first | rfl | simp) (by simp) rfl (o2 _ (hh.app (by simp))) ?_ ?_
    rotate_left
    · rintro v h' ⟨hv, _⟩; cases hv
    rintro v h' ⟨hv, rfl⟩
    simp only [AOut.ret.injEq] at hv
    subst hv
    refine Run.ops fun K hK => ?_
    simp
    try (simp (disch := omega) only [wrap_id])
    refine hK _ _ _ ?_; clear hK K
    repeat (first | refine Run.seq ?_ | refine Run.block ?_ | refine Run.skip ?_ | refine Run.inBlock ?_ | refine Run.opsNil ?_)
    repeat (first | refine Run.seq ?_ | refine Run.block ?_ | refine Run.skip ?_ | refine Run.inBlock ?_ | refine Run.opsNil ?_)
    refine Run.reg fun K hK => ?_
    simp
    try (simp (disch := omega) only [wrap_id])
    refine hK _ _ _ ?_; clear hK K
    repeat (first | refine Run.seq ?_ | refine Run.block ?_ | refine Run.skip ?_ | refine Run.inBlock ?_ | refine Run.opsNil ?_)
    refine Run.call (args := [(Tm.mk i0 i1 i2 i3 i4).av]) rfl (by first | rfl | simp) (by simp) rfl (a1 _ (hh.app (by simp))) ?_ ?_
    rotate_left
    · rintro v h' ⟨hv, _⟩; cases hv
    rintro v h' ⟨hv, rfl⟩
    simp only [AOut.ret.injEq] at hv
    subst hv
    refine Run.ops fun K hK => ?_
    simp
    try (simp (disch := omega) only [wrap_id])
    refine hK _ _ _ ?_; clear hK K
    repeat (first | refine Run.seq ?_ | refine Run.block ?_ | refine Run.skip ?_ | refine Run.inBlock ?_ | refine Run.opsNil ?_)
    repeat (first | refine Run.seq ?_ | refine Run.block ?_ | refine Run.skip ?_ | refine Run.inBlock ?_ | refine Run.opsNil ?_)
    refine Run.reg fun K hK => ?_
    simp
    try (simp (disch := omega) only [wrap_id])
    refine hK _ _ _ ?_; clear hK K
    repeat (first | refine Run.seq ?_ | refine Run.block ?_ | refine Run.skip ?_ | refine Run.inBlock ?_ | refine Run.opsNil ?_)
    refine Run.call (args := [(Tm.mk i0 i1 i2 i3 i4).av]) rfl (by first | rfl | simp) (by simp) rfl (a2 _ (hh.app (by simp))) ?_ ?_
    rotate_left
    · rintro v h' ⟨hv, _⟩; cases hv
    rintro v h' ⟨hv, rfl⟩
    simp only [AOut.ret.injEq] at hv
    subst hv
    refine Run.ops fun K hK => ?_
    simp
    try (simp (disch := omega) only [wrap_id])
    refine hK _ _ _ ?_; clear hK K
    repeat (first | refine Run.seq ?_ | refine Run.block ?_ | refine Run.skip ?_ | refine Run.inBlock ?_ | refine Run.opsNil ?_)
    repeat (first | refine Run.seq ?_ | refine Run.block ?_ | refine Run.skip ?_ | refine Run.inBlock ?_ | refine Run.opsNil ?_)
    refine Run.reg fun K hK => ?_
    simp
    try (simp (disch := omega) only [wrap_id])
    refine hK _ _ _ ?_; clear hK K
    repeat (first | refine Run.seq ?_ | refine Run.block ?_ | refine Run.skip ?_ | refine Run.inBlock ?_ | refine Run.opsNil ?_)
    refine Run.call (args := []) rfl (by first | rfl | simp) (by simp) rfl (aw05.awake05_any _ (hh.app (by simp))) ?_ ?_
    rotate_left
    · rintro v h' ⟨hv, _⟩; cases hv
    rintro v h' ⟨hv, rfl⟩
    simp only [AOut.ret.injEq] at hv
    subst hv
    refine Run.ops fun K hK => ?_
    simp
    try (simp (disch := omega) only [wrap_id])
    refine hK _ _ _ ?_; clear hK K
    repeat (first | refine Run.seq ?_ | refine Run.block ?_ | refine Run.skip ?_ | refine Run.inBlock ?_ | refine Run.opsNil ?_)
    refine Run.call (args := [.p (.sl 5 (tmPs l)), .p (.sl 5 (tmPs l))]) rfl (by first | rfl | simp) (by simp) rfl (s1 _ (hh.app (by simp))) ?_ ?_
    rotate_left
    · rintro v h' ⟨hv, _⟩; cases hv
    rintro v h' ⟨hv, rfl⟩
    simp only [AOut.ret.injEq] at hv
    subst hv
    refine Run.ops fun K hK => ?_
    simp
    try (simp (disch := omega) only [wrap_id])
    refine hK _ _ _ ?_; clear hK K
    repeat (first | refine Run.seq ?_ | refine Run.block ?_ | refine Run.skip ?_ | refine Run.inBlock ?_ | refine Run.opsNil ?_)
    refine Run.call (args := [q.av, q.av]) rfl (by first | rfl | simp) (by simp) rfl (s2 _ (hh.app (by simp))) ?_ ?_
    rotate_left
    · rintro v h' ⟨hv, _⟩; cases hv
    rintro v h' ⟨hv, rfl⟩
    simp only [AOut.ret.injEq] at hv
    subst hv
    refine Run.ops fun K hK => ?_
    simp
    try (simp (disch := omega) only [wrap_id])
    refine hK _ _ _ ?_; clear hK K
    repeat (first | refine Run.seq ?_ | refine Run.block ?_ | refine Run.skip ?_ | refine Run.inBlock ?_ | refine Run.opsNil ?_)
    refine Run.call (args := [.p (.sl 5 (tmPs l2)), .p (.sl 5 (tmPs l2))]) rfl (by first | rfl | simp) (by simp) rfl (s3 _ (hh.app (by simp))) ?_ ?_
    rotate_left
    · rintro v h' ⟨hv, _⟩; cases hv
    rintro v h' ⟨hv, rfl⟩
    simp only [AOut.ret.injEq] at hv
    subst hv
    refine Run.ops fun K hK => ?_
    simp
    try (simp (disch := omega) only [wrap_id])
    refine hK _ _ _ ?_; clear hK K
    repeat (first | refine Run.seq ?_ | refine Run.block ?_ | refine Run.skip ?_ | refine Run.inBlock ?_ | refine Run.opsNil ?_)
    refine Run.call (args := [q2.av, q2.av]) rfl (by first | rfl | simp) (by simp) rfl (s4 _ (hh.app (by simp))) ?_ ?_
    rotate_left
    · rintro v h' ⟨hv, _⟩; cases hv
    rintro v h' ⟨hv, rfl⟩
    simp only [AOut.ret.injEq] at hv
    subst hv
    refine Run.ops fun K hK => ?_
    simp
    try (simp (disch := omega) only [wrap_id])
    refine hK _ _ _ ?_; clear hK K
    repeat (first | refine Run.seq ?_ | refine Run.block ?_ | refine Run.skip ?_ | refine Run.inBlock ?_ | refine Run.opsNil ?_)
    refine Run.ret ?_
    refine Fin.ret' (h0 := h) (by simp) rfl hh rfl (by simp; rfl) rfl (Weak.refl _) (by simp) ⟨rfl, rfl⟩

end Go.Proofs.Ytppgpabjcenjdaa
