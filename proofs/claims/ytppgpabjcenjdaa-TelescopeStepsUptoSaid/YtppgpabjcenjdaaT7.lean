/-
  telescope: Pis, Lams, Arrow, All.
-/
import Derived.Test.YtppgpabjcenjdaaT6
namespace Go.Proofs.Ytppgpabjcenjdaa
open Go Go.AI

set_option maxRecDepth 8000 in
theorem over_any (h : Heap) (hh : WF h) (k : Int) : ACalls Try.prog 138 [iA k] h fun o h' => o = .ret (.fn (.func 172) [] [.ptr h.length 0]) ∧ h' = h ++ [some (.cells [iA k])] := by
  refine ACalls.of_run Try.func138 rfl ?_
  simp only [Try.ntmps138, List.length_cons, List.length_nil]
  repeat (first | refine Run.seq ?_ | refine Run.block ?_ | refine Run.skip ?_ | refine Run.inBlock ?_ | refine Run.opsNil ?_)
  repeat (first | refine Run.seq ?_ | refine Run.block ?_ | refine Run.skip ?_ | refine Run.inBlock ?_ | refine Run.opsNil ?_)
  refine Run.reg fun K hK => ?_
  simp
  try (simp (disch := omega) only [wrap_id])
  refine hK _ _ _ ?_; clear hK K
  repeat (first | refine Run.seq ?_ | refine Run.block ?_ | refine Run.skip ?_ | refine Run.inBlock ?_ | refine Run.opsNil ?_)
  repeat (first | refine Run.seq ?_ | refine Run.block ?_ | refine Run.skip ?_ | refine Run.inBlock ?_ | refine Run.opsNil ?_)
  refine Run.reg fun K hK => ?_
  simp
  try (simp (disch := omega) only [wrap_id])
  refine hK _ _ _ ?_; clear hK K
  repeat (first | refine Run.seq ?_ | refine Run.block ?_ | refine Run.skip ?_ | refine Run.inBlock ?_ | refine Run.opsNil ?_)
  refine Run.ret ?_
  refine Fin.retM (h0 := h ++ [some (.cells [iA k])]) (l := []) (by simp) (by simp) (hh.app (by simp)) (by simp) (by simp; rfl) rfl (Weak.refl _) (by simp) ⟨rfl, rfl⟩

set_option maxRecDepth 8000 in
set_option maxHeartbeats 4000000 in
theorem bind61_any (h : Heap) (hh : WF h) (ctx : List Tm) (t : Tm) (hl : ctx.length ≤ 1048576) : ACalls Try.prog 61 [.p (.sl 5 (tmPs ctx)), t.av] h fun o h' => o = .ret (bindT 6 ctx t).av ∧ h' = h := by
  have ho := over_any (h ++ [some (.cells (t.cells.map .p)), some (.cells zTm)]) (hh.app (by simp)) 6
  have hb := over1_any (h ++ [some (.cells (t.cells.map .p)), some (.cells zTm), some (.cells [iA 6])]) (hh.app (by simp)) 6 (h.length + 2) (by simp) ctx t hl
  generalize bindT 6 ctx t = r at hb ⊢
  obtain ⟨i0, i1, i2, i3, i4⟩ := t
  obtain ⟨r0, r1, r2, r3, r4⟩ := r
  simp only [cells_mk, List.map] at ho hb
  refine ACalls.of_run Try.func61 rfl ?_
  simp only [Try.ntmps61, List.length_cons, List.length_nil, Tm.av, cells_mk, List.map]
  repeat (first | refine Run.seq ?_ | refine Run.block ?_ | refine Run.skip ?_ | refine Run.inBlock ?_ | refine Run.opsNil ?_)
  repeat (first | refine Run.seq ?_ | refine Run.block ?_ | refine Run.skip ?_ | refine Run.inBlock ?_ | refine Run.opsNil ?_)
  refine Run.reg fun K hK => ?_
  simp
  try (simp (disch := omega) only [wrap_id])
  refine hK _ _ _ ?_; clear hK K
  repeat (first | refine Run.seq ?_ | refine Run.block ?_ | refine Run.skip ?_ | refine Run.inBlock ?_ | refine Run.opsNil ?_)
  repeat (first | refine Run.seq ?_ | refine Run.block ?_ | refine Run.skip ?_ | refine Run.inBlock ?_ | refine Run.opsNil ?_)
  refine Run.draw [0, 0, 0, 1, 2] [0, 0, 0, 1, 2] [0, 0, 0, 7, 15] [0, 1, 2, 3, 4] (by kernel_rfl) (by kernel_rfl) ?_
  refine DR.go fun K hK => ?_
  simp
  try (simp (disch := omega) only [wrap_id])
  refine hK _ _ _ _ ?_; clear hK K
  refine DR.call (args := [iA 6]) rfl rfl rfl (by simp) rfl (ho) ?_
  refine DR.go fun K hK => ?_
  simp
  try (simp (disch := omega) only [wrap_id])
  refine hK _ _ _ _ ?_; clear hK K
  refine DR.call (args := [.p (.sl 5 (tmPs ctx)), (Tm.mk i0 i1 i2 i3 i4).av, .ptr (h.length + 2) 0]) rfl rfl rfl (by simp) rfl (hb) ?_
  refine DR.go fun K hK => ?_
  simp
  try (simp (disch := omega) only [wrap_id])
  refine hK _ _ _ _ ?_; clear hK K
  change Run _ _ _ _ _ _ _ _
  repeat (first | refine Run.seq ?_ | refine Run.block ?_ | refine Run.skip ?_ | refine Run.inBlock ?_ | refine Run.opsNil ?_)
  refine Run.ret ?_
  refine Fin.ret' (h0 := h) (by simp) rfl hh rfl (by simp; rfl) rfl (Weak.refl _) (by simp) ⟨rfl, rfl⟩

set_option maxRecDepth 8000 in
set_option maxHeartbeats 4000000 in
theorem bind63_any (h : Heap) (hh : WF h) (ctx : List Tm) (t : Tm) (hl : ctx.length ≤ 1048576) : ACalls Try.prog 63 [.p (.sl 5 (tmPs ctx)), t.av] h fun o h' => o = .ret (bindT 5 ctx t).av ∧ h' = h := by
  have ho := over_any (h ++ [some (.cells (t.cells.map .p)), some (.cells zTm)]) (hh.app (by simp)) 5
  have hb := over1_any (h ++ [some (.cells (t.cells.map .p)), some (.cells zTm), some (.cells [iA 5])]) (hh.app (by simp)) 5 (h.length + 2) (by simp) ctx t hl
  generalize bindT 5 ctx t = r at hb ⊢
  obtain ⟨i0, i1, i2, i3, i4⟩ := t
  obtain ⟨r0, r1, r2, r3, r4⟩ := r
  simp only [cells_mk, List.map] at ho hb
  refine ACalls.of_run Try.func63 rfl ?_
  simp only [Try.ntmps63, List.length_cons, List.length_nil, Tm.av, cells_mk, List.map]
  repeat (first | refine Run.seq ?_ | refine Run.block ?_ | refine Run.skip ?_ | refine Run.inBlock ?_ | refine Run.opsNil ?_)
  repeat (first | refine Run.seq ?_ | refine Run.block ?_ | refine Run.skip ?_ | refine Run.inBlock ?_ | refine Run.opsNil ?_)
  refine Run.reg fun K hK => ?_
  simp
  try (simp (disch := omega) only [wrap_id])
  refine hK _ _ _ ?_; clear hK K
  repeat (first | refine Run.seq ?_ | refine Run.block ?_ | refine Run.skip ?_ | refine Run.inBlock ?_ | refine Run.opsNil ?_)
  repeat (first | refine Run.seq ?_ | refine Run.block ?_ | refine Run.skip ?_ | refine Run.inBlock ?_ | refine Run.opsNil ?_)
  refine Run.draw [0, 0, 0, 1, 2] [0, 0, 0, 1, 2] [0, 0, 0, 7, 15] [0, 1, 2, 3, 4] (by kernel_rfl) (by kernel_rfl) ?_
  refine DR.go fun K hK => ?_
  simp
  try (simp (disch := omega) only [wrap_id])
  refine hK _ _ _ _ ?_; clear hK K
  refine DR.call (args := [iA 5]) rfl rfl rfl (by simp) rfl (ho) ?_
  refine DR.go fun K hK => ?_
  simp
  try (simp (disch := omega) only [wrap_id])
  refine hK _ _ _ _ ?_; clear hK K
  refine DR.call (args := [.p (.sl 5 (tmPs ctx)), (Tm.mk i0 i1 i2 i3 i4).av, .ptr (h.length + 2) 0]) rfl rfl rfl (by simp) rfl (hb) ?_
  refine DR.go fun K hK => ?_
  simp
  try (simp (disch := omega) only [wrap_id])
  refine hK _ _ _ _ ?_; clear hK K
  change Run _ _ _ _ _ _ _ _
  repeat (first | refine Run.seq ?_ | refine Run.block ?_ | refine Run.skip ?_ | refine Run.inBlock ?_ | refine Run.opsNil ?_)
  refine Run.ret ?_
  refine Fin.ret' (h0 := h) (by simp) rfl hh rfl (by simp; rfl) rfl (Weak.refl _) (by simp) ⟨rfl, rfl⟩

set_option maxRecDepth 8000 in
set_option maxHeartbeats 8000000 in
theorem bind139_any (h : Heap) (hh : WF h) (k : Int) (ctx : List Tm) (t : Tm) (hl : ctx.length ≤ 1048576) : ACalls Try.prog 139 [iA k, .p (.sl 5 (tmPs ctx)), t.av] h fun o h' => o = .ret (bindT k ctx t).av ∧ h' = h := by
  have hw0 : IntKind.i64.wrap ((ctx.length : Int) - 1) = (ctx.length : Int) - 1 := wrap_id (by omega) (by omega)
  obtain ⟨tc, htc⟩ : ∃ tc, tc = t.cells.map AV.p := ⟨_, rfl⟩
  simp only [Tm.av]
  rw [← htc]
  have htl : tc.length = 5 := by rw [htc]; simp
  refine ACalls.of_run Try.func139 rfl ?_
  simp only [Try.ntmps139, List.length_cons, List.length_nil]
  repeat (first | refine Run.seq ?_ | refine Run.block ?_ | refine Run.skip ?_ | refine Run.inBlock ?_ | refine Run.opsNil ?_)
  refine Run.reg fun K hK => ?_
  simp
  try (simp (disch := omega) only [wrap_id])
  refine hK _ _ _ ?_; clear hK K
  repeat (first | refine Run.seq ?_ | refine Run.block ?_ | refine Run.skip ?_ | refine Run.inBlock ?_ | refine Run.opsNil ?_)
  repeat (first | refine Run.seq ?_ | refine Run.block ?_ | refine Run.skip ?_ | refine Run.inBlock ?_ | refine Run.opsNil ?_)
  refine Run.reg fun K hK => ?_
  simp [hw0]
  try (simp (disch := omega) only [wrap_id])
  refine hK _ _ _ ?_; clear hK K
  repeat (first | refine Run.seq ?_ | refine Run.block ?_ | refine Run.skip ?_ | refine Run.inBlock ?_ | refine Run.opsNil ?_)
  rw [htc]
  refine Run.loopS (ι := Nat × Tm) [0, 1, 5, 6] (fun p => p.1 ≤ ctx.length ∧ p.2 = bindT k (ctx.drop (ctx.length - p.1)) t) (fun p => ctx.length - p.1) (fun p => [(7, iA ((ctx.length : Int) - 1 - p.1))]) (fun p => h ++ [some (.cells (p.2.cells.map .p)), some (.cells zTm)]) (0, t) ⟨by simp, by simp [bindT]⟩ ?_ (by simp) ?_
  · simp
    repeat' (first | exact WeakL.nil | apply WeakL.cons)
    all_goals first | exact Weak.junk _ | exact Weak.refl _ | exact Weak.nil _ | exact Weak.own _ _ _ | exact Weak.int (by omega)
  rintro ⟨j, cur⟩ ⟨hj, hcur⟩ IH
  simp only at hj hcur
  simp
  by_cases hjl : j < ctx.length
  · obtain ⟨i, hi⟩ : ∃ i : Nat, i = ctx.length - 1 - j := ⟨_, rfl⟩
    have hie : (ctx.length : Int) - 1 - j = (i : Int) := by omega
    rw [hie]
    have hlt : i < ctx.length := by omega
    have hg : ctx[i]? = some ctx[i] := List.getElem?_eq_getElem hlt
    have hdr : ctx.drop (ctx.length - (j + 1)) = ctx[i] :: ctx.drop (ctx.length - j) := by
      rw [show ctx.length - (j + 1) = i by omega, List.drop_eq_getElem_cons hlt, show i + 1 = ctx.length - j by omega]
    generalize ctx[i] = u at hg hdr
    have hw2 : IntKind.i64.wrap ((i : Int) - 1) = (i : Int) - 1 := wrap_id (by omega) (by omega)
    obtain ⟨k0, k1, k2, k3, k4⟩ := cur
    repeat (first | refine Run.seq ?_ | refine Run.block ?_ | refine Run.skip ?_ | refine Run.inBlock ?_ | refine Run.opsNil ?_)
    refine Run.reg fun K hK => ?_
    simp
    try (simp (disch := omega) only [wrap_id])
    refine hK _ _ _ ?_; clear hK K
    repeat (first | refine Run.seq ?_ | refine Run.block ?_ | refine Run.skip ?_ | refine Run.inBlock ?_ | refine Run.opsNil ?_)
    repeat (first | refine Run.seq ?_ | refine Run.block ?_ | refine Run.skip ?_ | refine Run.inBlock ?_ | refine Run.opsNil ?_)
    refine Run.cond (b := true) (by simp) ?_
    simp only [if_true]
    repeat (first | refine Run.seq ?_ | refine Run.block ?_ | refine Run.skip ?_ | refine Run.inBlock ?_ | refine Run.opsNil ?_)
    repeat (first | refine Run.seq ?_ | refine Run.block ?_ | refine Run.skip ?_ | refine Run.inBlock ?_ | refine Run.opsNil ?_)
    refine Run.draw [0, 0, 0, 0, 0, 0, 0, 0, 0] [0, 0, 0, 0, 0, 0, 0, 0, 0] [0, 0, 0, 6, 14, 0, 62, 127, 255] [0, 1, 2, 3, 4, 5, 6, 7, 8] (by kernel_rfl) (by kernel_rfl) ?_
    refine DR.go fun K hK => ?_
    simp [hg]
    try (simp (disch := omega) only [wrap_id])
    refine hK _ _ _ _ ?_; clear hK K
    change Run _ _ _ _ _ _ _ _
    repeat (first | refine Run.seq ?_ | refine Run.block ?_ | refine Run.skip ?_ | refine Run.inBlock ?_ | refine Run.opsNil ?_)
    repeat (first | refine Run.seq ?_ | refine Run.block ?_ | refine Run.skip ?_ | refine Run.inBlock ?_ | refine Run.opsNil ?_)
    refine Run.reg fun K hK => ?_
    simp [hw2]
    try (simp (disch := omega) only [wrap_id])
    refine hK _ _ _ ?_; clear hK K
    repeat (first | refine Run.seq ?_ | refine Run.block ?_ | refine Run.skip ?_ | refine Run.inBlock ?_ | refine Run.opsNil ?_)
    refine Run.weakH h.length (cs' := ((Tm.mk k 0 [] [] [u, Tm.mk k0 k1 k2 k3 k4]).cells.map .p)) (by simp only [Heap.at]; rw [get_last0]; rfl) ?_ ?_
    · simp only [cells_mk, List.map, lvPs, tmPs]
      repeat' (first | exact WeakL.nil | apply WeakL.cons)
      all_goals first | exact Weak.refl _ | exact Weak.nil _
    rw [set_last0]
    refine IH (j + 1, Tm.mk k 0 [] [] [u, Tm.mk k0 k1 k2 k3 k4]) _ _ ⟨by simp only; omega, ?_⟩ (by simp only; omega) ?_ ?_
    · simp only
      rw [hdr]
      show _ = Tm.mk k 0 [] [] [u, bindT k _ t]
      rw [← hcur]
    · simp
      repeat' (first | exact WeakL.nil | apply WeakL.cons)
      all_goals first | exact Weak.junk _ | exact Weak.refl _ | exact Weak.int (by omega)
    · simp
  · have hje : j = ctx.length := by omega
    subst hje
    have c4 : (ctx.length : Int) - 1 < ctx.length := by omega
    rw [Nat.sub_self, List.drop_zero] at hcur
    rw [← hcur]
    obtain ⟨k0, k1, k2, k3, k4⟩ := cur
    repeat (first | refine Run.seq ?_ | refine Run.block ?_ | refine Run.skip ?_ | refine Run.inBlock ?_ | refine Run.opsNil ?_)
    refine Run.reg fun K hK => ?_
    simp
    try (simp (disch := omega) only [wrap_id])
    refine hK _ _ _ ?_; clear hK K
    repeat (first | refine Run.seq ?_ | refine Run.block ?_ | refine Run.skip ?_ | refine Run.inBlock ?_ | refine Run.opsNil ?_)
    repeat (first | refine Run.seq ?_ | refine Run.block ?_ | refine Run.skip ?_ | refine Run.inBlock ?_ | refine Run.opsNil ?_)
    refine Run.cond (b := false) (by simp [c4]) ?_
    simp only [Bool.false_eq_true, if_false]
    repeat (first | refine Run.seq ?_ | refine Run.block ?_ | refine Run.skip ?_ | refine Run.inBlock ?_ | refine Run.opsNil ?_)
    repeat (first | refine Run.seq ?_ | refine Run.block ?_ | refine Run.skip ?_ | refine Run.inBlock ?_ | refine Run.opsNil ?_)
    refine Run.exit rfl ?_
    repeat (first | refine Run.seq ?_ | refine Run.block ?_ | refine Run.skip ?_ | refine Run.inBlock ?_ | refine Run.opsNil ?_)
    repeat (first | refine Run.seq ?_ | refine Run.block ?_ | refine Run.skip ?_ | refine Run.inBlock ?_ | refine Run.opsNil ?_)
    refine Run.reg fun K hK => ?_
    simp
    try (simp (disch := omega) only [wrap_id])
    refine hK _ _ _ ?_; clear hK K
    repeat (first | refine Run.seq ?_ | refine Run.block ?_ | refine Run.skip ?_ | refine Run.inBlock ?_ | refine Run.opsNil ?_)
    refine Run.ret ?_
    refine Fin.ret' (h0 := h) (by simp) rfl hh rfl (by simp; rfl) rfl (Weak.refl _) (by simp) ⟨rfl, rfl⟩

set_option maxRecDepth 8000 in
set_option maxHeartbeats 4000000 in
theorem bind62_any (h : Heap) (hh : WF h) (ctx : List Tm) (t : Tm) (hl : ctx.length ≤ 1048576) : ACalls Try.prog 62 [.p (.sl 5 (tmPs ctx)), t.av] h fun o h' => o = .ret (bindT 6 ctx t).av ∧ h' = h := by
  have hb := fun (g : Heap) (hg : WF g) => bind139_any g hg 6 ctx t hl
  generalize bindT 6 ctx t = r at hb ⊢
  obtain ⟨i0, i1, i2, i3, i4⟩ := t
  obtain ⟨r0, r1, r2, r3, r4⟩ := r
  refine ACalls.of_run Try.func62 rfl ?_
  simp only [Try.ntmps62, List.length_cons, List.length_nil, Tm.av, cells_mk, List.map]
  repeat (first | refine Run.seq ?_ | refine Run.block ?_ | refine Run.skip ?_ | refine Run.inBlock ?_ | refine Run.opsNil ?_)
  repeat (first | refine Run.seq ?_ | refine Run.block ?_ | refine Run.skip ?_ | refine Run.inBlock ?_ | refine Run.opsNil ?_)
  refine Run.reg fun K hK => ?_
  simp
  try (simp (disch := omega) only [wrap_id])
  refine hK _ _ _ ?_; clear hK K
  repeat (first | refine Run.seq ?_ | refine Run.block ?_ | refine Run.skip ?_ | refine Run.inBlock ?_ | refine Run.opsNil ?_)
  repeat (first | refine Run.seq ?_ | refine Run.block ?_ | refine Run.skip ?_ | refine Run.inBlock ?_ | refine Run.opsNil ?_)
  refine Run.reg fun K hK => ?_
  simp
  try (simp (disch := omega) only [wrap_id])
  refine hK _ _ _ ?_; clear hK K
  repeat (first | refine Run.seq ?_ | refine Run.block ?_ | refine Run.skip ?_ | refine Run.inBlock ?_ | refine Run.opsNil ?_)
  refine Run.call (args := [iA 6, .p (.sl 5 (tmPs ctx)), (Tm.mk i0 i1 i2 i3 i4).av]) rfl (by first | rfl | simp) (by simp) rfl (hb _ (hh.app (by simp))) ?_ ?_
  rotate_left
  · rintro v h' ⟨hv, _⟩; cases hv
  rintro v h' ⟨hv, rfl⟩
  simp only [AOut.ret.injEq] at hv
  subst hv
  refine Run.ops fun K hK => ?_
  simp
  try (simp (disch := omega) only [wrap_id])
  refine hK _ _ _ ?_; clear hK K
  repeat (first | refine Run.seq ?_ | refine Run.block ?_ | refine Run.skip ?_ | refine Run.inBlock ?_ | refine Run.opsNil ?_)
  refine Run.ret ?_
  refine Fin.ret' (h0 := h) (by simp) rfl hh rfl (by simp; rfl) rfl (Weak.refl _) (by simp) ⟨rfl, rfl⟩

set_option maxRecDepth 8000 in
set_option maxHeartbeats 4000000 in
theorem bind64_any (h : Heap) (hh : WF h) (ctx : List Tm) (t : Tm) (hl : ctx.length ≤ 1048576) : ACalls Try.prog 64 [.p (.sl 5 (tmPs ctx)), t.av] h fun o h' => o = .ret (bindT 5 ctx t).av ∧ h' = h := by
  have hb := fun (g : Heap) (hg : WF g) => bind139_any g hg 5 ctx t hl
  generalize bindT 5 ctx t = r at hb ⊢
  obtain ⟨i0, i1, i2, i3, i4⟩ := t
  obtain ⟨r0, r1, r2, r3, r4⟩ := r
  refine ACalls.of_run Try.func64 rfl ?_
  simp only [Try.ntmps64, List.length_cons, List.length_nil, Tm.av, cells_mk, List.map]
  repeat (first | refine Run.seq ?_ | refine Run.block ?_ | refine Run.skip ?_ | refine Run.inBlock ?_ | refine Run.opsNil ?_)
  repeat (first | refine Run.seq ?_ | refine Run.block ?_ | refine Run.skip ?_ | refine Run.inBlock ?_ | refine Run.opsNil ?_)
  refine Run.reg fun K hK => ?_
  simp
  try (simp (disch := omega) only [wrap_id])
  refine hK _ _ _ ?_; clear hK K
  repeat (first | refine Run.seq ?_ | refine Run.block ?_ | refine Run.skip ?_ | refine Run.inBlock ?_ | refine Run.opsNil ?_)
  repeat (first | refine Run.seq ?_ | refine Run.block ?_ | refine Run.skip ?_ | refine Run.inBlock ?_ | refine Run.opsNil ?_)
  refine Run.reg fun K hK => ?_
  simp
  try (simp (disch := omega) only [wrap_id])
  refine hK _ _ _ ?_; clear hK K
  repeat (first | refine Run.seq ?_ | refine Run.block ?_ | refine Run.skip ?_ | refine Run.inBlock ?_ | refine Run.opsNil ?_)
  refine Run.call (args := [iA 5, .p (.sl 5 (tmPs ctx)), (Tm.mk i0 i1 i2 i3 i4).av]) rfl (by first | rfl | simp) (by simp) rfl (hb _ (hh.app (by simp))) ?_ ?_
  rotate_left
  · rintro v h' ⟨hv, _⟩; cases hv
  rintro v h' ⟨hv, rfl⟩
  simp only [AOut.ret.injEq] at hv
  subst hv
  refine Run.ops fun K hK => ?_
  simp
  try (simp (disch := omega) only [wrap_id])
  refine hK _ _ _ ?_; clear hK K
  repeat (first | refine Run.seq ?_ | refine Run.block ?_ | refine Run.skip ?_ | refine Run.inBlock ?_ | refine Run.opsNil ?_)
  refine Run.ret ?_
  refine Fin.ret' (h0 := h) (by simp) rfl hh rfl (by simp; rfl) rfl (Weak.refl _) (by simp) ⟨rfl, rfl⟩

/-- The type of functions that do not depend on their argument. -/
def arrowT (a b : Tm) : Tm := .mk 6 0 [] [] [a, (resRefShift 1 0 b).1]

set_option maxRecDepth 8000 in
set_option maxHeartbeats 4000000 in
theorem arrow65_any (h : Heap) (hh : WF h) (a b : Tm) (hok : b.ok 65536) (hsz : b.size ≤ 1048576) : ACalls Try.prog 65 [a.av, b.av] h fun o h' => o = .ret (arrowT a b).av ∧ h' = h := by
  have hs := fun (g : Heap) (hg : WF g) => shift_any g hg b 1 0 (by omega) (by omega) (by omega) ⟨by simpa using hok, by omega, by omega⟩
  rw [res_shift 1 0 b hok] at hs
  unfold arrowT
  generalize resRefShift 1 0 b = r at hs ⊢
  obtain ⟨⟨r0, r1, r2, r3, r4⟩, e⟩ := r
  obtain ⟨i0, i1, i2, i3, i4⟩ := a
  obtain ⟨j0, j1, j2, j3, j4⟩ := b
  refine ACalls.of_run Try.func65 rfl ?_
  simp only [Try.ntmps65, List.length_cons, List.length_nil, Tm.av, cells_mk, List.map]
  repeat (first | refine Run.seq ?_ | refine Run.block ?_ | refine Run.skip ?_ | refine Run.inBlock ?_ | refine Run.opsNil ?_)
  repeat (first | refine Run.seq ?_ | refine Run.block ?_ | refine Run.skip ?_ | refine Run.inBlock ?_ | refine Run.opsNil ?_)
  refine Run.reg fun K hK => ?_
  simp
  try (simp (disch := omega) only [wrap_id])
  refine hK _ _ _ ?_; clear hK K
  repeat (first | refine Run.seq ?_ | refine Run.block ?_ | refine Run.skip ?_ | refine Run.inBlock ?_ | refine Run.opsNil ?_)
  repeat (first | refine Run.seq ?_ | refine Run.block ?_ | refine Run.skip ?_ | refine Run.inBlock ?_ | refine Run.opsNil ?_)
  refine Run.reg fun K hK => ?_
  simp
  try (simp (disch := omega) only [wrap_id])
  refine hK _ _ _ ?_; clear hK K
  repeat (first | refine Run.seq ?_ | refine Run.block ?_ | refine Run.skip ?_ | refine Run.inBlock ?_ | refine Run.opsNil ?_)
  refine Run.call (args := [(Tm.mk j0 j1 j2 j3 j4).av, iA 1, iA 0]) rfl (by first | rfl | simp) (by simp) rfl (hs _ (hh.app (by simp))) ?_ ?_
  rotate_left
  · rintro v h' ⟨hv, _⟩; cases hv
  rintro v h' ⟨hv, rfl⟩
  simp only [AOut.ret.injEq] at hv
  subst hv
  refine Run.ops fun K hK => ?_
  simp
  try (simp (disch := omega) only [wrap_id])
  refine hK _ _ _ ?_; clear hK K
  repeat (first | refine Run.seq ?_ | refine Run.block ?_ | refine Run.skip ?_ | refine Run.inBlock ?_ | refine Run.opsNil ?_)
  repeat (first | refine Run.seq ?_ | refine Run.block ?_ | refine Run.skip ?_ | refine Run.inBlock ?_ | refine Run.opsNil ?_)
  refine Run.reg fun K hK => ?_
  simp
  try (simp (disch := omega) only [wrap_id])
  refine hK _ _ _ ?_; clear hK K
  repeat (first | refine Run.seq ?_ | refine Run.block ?_ | refine Run.skip ?_ | refine Run.inBlock ?_ | refine Run.opsNil ?_)
  refine Run.ret ?_
  refine Fin.ret' (h0 := h) (by simp) rfl hh rfl (by simp; rfl) rfl ?_ (by simp) ⟨rfl, rfl⟩
  simp only [cells_mk, List.map, tmPs, lvPs]
  refine Weak.agg ?_
  repeat' (first | exact WeakL.nil | apply WeakL.cons)
  all_goals first | exact Weak.refl _ | exact Weak.nil _

set_option maxRecDepth 8000 in
set_option maxHeartbeats 4000000 in
theorem arrow66_any (h : Heap) (hh : WF h) (a b : Tm) (hok : b.ok 65536) (hsz : b.size ≤ 1048576) : ACalls Try.prog 66 [a.av, b.av] h fun o h' => o = .ret (arrowT a b).av ∧ h' = h := by
  have hs := fun (g : Heap) (hg : WF g) => refShift_any g hg b 1 0 (by omega) (by omega) (by omega) (ok_idx b 65536 hok (by omega))
  unfold arrowT
  generalize resRefShift 1 0 b = r at hs ⊢
  obtain ⟨⟨r0, r1, r2, r3, r4⟩, e⟩ := r
  obtain ⟨i0, i1, i2, i3, i4⟩ := a
  obtain ⟨j0, j1, j2, j3, j4⟩ := b
  refine ACalls.of_run Try.func66 rfl ?_
  simp only [Try.ntmps66, List.length_cons, List.length_nil, Tm.av, cells_mk, List.map]
  repeat (first | refine Run.seq ?_ | refine Run.block ?_ | refine Run.skip ?_ | refine Run.inBlock ?_ | refine Run.opsNil ?_)
  repeat (first | refine Run.seq ?_ | refine Run.block ?_ | refine Run.skip ?_ | refine Run.inBlock ?_ | refine Run.opsNil ?_)
  refine Run.reg fun K hK => ?_
  simp
  try (simp (disch := omega) only [wrap_id])
  refine hK _ _ _ ?_; clear hK K
  repeat (first | refine Run.seq ?_ | refine Run.block ?_ | refine Run.skip ?_ | refine Run.inBlock ?_ | refine Run.opsNil ?_)
  repeat (first | refine Run.seq ?_ | refine Run.block ?_ | refine Run.skip ?_ | refine Run.inBlock ?_ | refine Run.opsNil ?_)
  refine Run.reg fun K hK => ?_
  simp
  try (simp (disch := omega) only [wrap_id])
  refine hK _ _ _ ?_; clear hK K
  repeat (first | refine Run.seq ?_ | refine Run.block ?_ | refine Run.skip ?_ | refine Run.inBlock ?_ | refine Run.opsNil ?_)
  refine Run.call (args := [(Tm.mk j0 j1 j2 j3 j4).av, iA 1, iA 0]) rfl (by first | rfl | simp) (by simp) rfl (hs _ (hh.app (by simp))) ?_ ?_
  rotate_left
  · rintro v h' ⟨hv, _⟩; cases hv
  rintro v h' ⟨hv, rfl⟩
  simp only [AOut.ret.injEq] at hv
  subst hv
  refine Run.ops fun K hK => ?_
  simp
  try (simp (disch := omega) only [wrap_id])
  refine hK _ _ _ ?_; clear hK K
  repeat (first | refine Run.seq ?_ | refine Run.block ?_ | refine Run.skip ?_ | refine Run.inBlock ?_ | refine Run.opsNil ?_)
  repeat (first | refine Run.seq ?_ | refine Run.block ?_ | refine Run.skip ?_ | refine Run.inBlock ?_ | refine Run.opsNil ?_)
  refine Run.reg fun K hK => ?_
  simp
  try (simp (disch := omega) only [wrap_id])
  refine hK _ _ _ ?_; clear hK K
  repeat (first | refine Run.seq ?_ | refine Run.block ?_ | refine Run.skip ?_ | refine Run.inBlock ?_ | refine Run.opsNil ?_)
  refine Run.ret ?_
  refine Fin.ret' (h0 := h) (by simp) rfl hh rfl (by simp; rfl) rfl ?_ (by simp) ⟨rfl, rfl⟩
  simp only [cells_mk, List.map, tmPs, lvPs]
  refine Weak.agg ?_
  repeat' (first | exact WeakL.nil | apply WeakL.cons)
  all_goals first | exact Weak.refl _ | exact Weak.nil _

/-- All binders of a kind are taken off. -/
def allF (k : Int) : Nat → List Tm → Tm → List Tm × Tm
  | 0, acc, t => (acc, t)
  | n + 1, acc, t => match isB k t with
    | some (a, b) => allF k n (acc ++ [a]) b
    | none => (acc, t)
def resAll (t : Tm) : List Tm × Tm := allF 6 t.size [] t

set_option maxRecDepth 8000 in
set_option maxHeartbeats 8000000 in
theorem all69_any (h : Heap) (hh : WF h) (t : Tm) (hsz : t.size ≤ 1048576) :
    ACalls Try.prog 69 [t.av] h fun o h' => o = .ret (.tup [.p (.sl 5 (tmPs (resAll t).1)), (resAll t).2.av]) ∧ h' = h := by
  obtain ⟨r, hr⟩ : ∃ r, r = resAll t := ⟨_, rfl⟩
  rw [← hr]
  unfold resAll at hr
  obtain ⟨tc, htc⟩ : ∃ tc, tc = t.cells.map AV.p := ⟨_, rfl⟩
  simp only [Tm.av]
  rw [← htc]
  have htl : tc.length = 5 := by rw [htc]; simp
  refine ACalls.of_run Try.func69 rfl ?_
  simp only [Try.ntmps69, List.length_cons, List.length_nil]
  repeat (first | refine Run.seq ?_ | refine Run.block ?_ | refine Run.skip ?_ | refine Run.inBlock ?_ | refine Run.opsNil ?_)
  refine Run.reg fun K hK => ?_
  simp
  try (simp (disch := omega) only [wrap_id])
  refine hK _ _ _ ?_; clear hK K
  repeat (first | refine Run.seq ?_ | refine Run.block ?_ | refine Run.skip ?_ | refine Run.inBlock ?_ | refine Run.opsNil ?_)
  repeat (first | refine Run.seq ?_ | refine Run.block ?_ | refine Run.skip ?_ | refine Run.inBlock ?_ | refine Run.opsNil ?_)
  refine Run.reg fun K hK => ?_
  simp
  try (simp (disch := omega) only [wrap_id])
  refine hK _ _ _ ?_; clear hK K
  repeat (first | refine Run.seq ?_ | refine Run.block ?_ | refine Run.skip ?_ | refine Run.inBlock ?_ | refine Run.opsNil ?_)
  refine Run.tok 4 5 (by simp) ?_
  simp
  rw [htc]
  refine Run.loopS (ι := Nat × List Tm × Tm) [1, 3] (fun p => p.2.1.length + p.2.2.size ≤ t.size ∧ p.2.2.size ≤ p.1 ∧ r = allF 6 p.1 p.2.1 p.2.2) (fun p => p.2.2.size) (fun p => [(4, .own (h.length + 2) 5 (tmPs p.2.1))])
    (fun p => h ++ [some (.cells (p.2.2.cells.map .p)), some (.cells zTm), some (.tok p.2.1.length 5)]) (t.size, [], t) ⟨by simp, by simp, hr⟩ ?_ (by simp) ?_
  · simp [tmPs]
    repeat' (first | exact WeakL.nil | apply WeakL.cons)
    all_goals first | exact Weak.junk _ | exact Weak.refl _ | exact Weak.nil _ | exact Weak.own _ _ _ | exact Weak.int (by omega)
  rintro ⟨N, acc, cur⟩ ⟨hs, hle, hra⟩ IH
  simp only at hs hle hra
  simp
  obtain ⟨m, rfl⟩ : ∃ m, N = m + 1 := ⟨N - 1, by have := cur.size_pos; omega⟩
  simp only [allF] at hra
  obtain ⟨k, i, nm, ls, ks⟩ := cur
  by_cases hk : k = 6
  · subst hk
    by_cases hks : ks.length = 2
    · obtain ⟨a, b, rfl⟩ : ∃ a b, ks = [a, b] := by
        match ks, hks with
        | [a, b], _ => exact ⟨a, b, rfl⟩
      simp only [isB, if_true] at hra
      simp only [Tm.size, Tm.sizes] at hs hle
      have hb1 : (acc.length + 1) * 80 ≤ 140737488355328 := by have := t.size_pos; omega
      have hb2 : acc.length + 1 ≤ 9223372036854775807 := by omega
      repeat (first | refine Run.seq ?_ | refine Run.block ?_ | refine Run.skip ?_ | refine Run.inBlock ?_ | refine Run.opsNil ?_)
      refine Run.reg fun K hK => ?_
      simp
      try (simp (disch := omega) only [wrap_id])
      refine hK _ _ _ ?_; clear hK K
      repeat (first | refine Run.seq ?_ | refine Run.block ?_ | refine Run.skip ?_ | refine Run.inBlock ?_ | refine Run.opsNil ?_)
      repeat (first | refine Run.seq ?_ | refine Run.block ?_ | refine Run.skip ?_ | refine Run.inBlock ?_ | refine Run.opsNil ?_)
      refine Run.cond (b := true) (by simp) ?_
      simp only [if_true]
      repeat (first | refine Run.seq ?_ | refine Run.block ?_ | refine Run.skip ?_ | refine Run.inBlock ?_ | refine Run.opsNil ?_)
      repeat (first | refine Run.seq ?_ | refine Run.block ?_ | refine Run.skip ?_ | refine Run.inBlock ?_ | refine Run.opsNil ?_)
      refine Run.reg fun K hK => ?_
      simp [tmPs, hb1, hb2]
      try (simp (disch := omega) only [wrap_id])
      refine hK _ _ _ ?_; clear hK K
      repeat (first | refine Run.seq ?_ | refine Run.block ?_ | refine Run.skip ?_ | refine Run.inBlock ?_ | refine Run.opsNil ?_)
      repeat (first | refine Run.seq ?_ | refine Run.block ?_ | refine Run.skip ?_ | refine Run.inBlock ?_ | refine Run.opsNil ?_)
      refine Run.reg fun K hK => ?_
      simp
      try (simp (disch := omega) only [wrap_id])
      refine hK _ _ _ ?_; clear hK K
      repeat (first | refine Run.seq ?_ | refine Run.block ?_ | refine Run.skip ?_ | refine Run.inBlock ?_ | refine Run.opsNil ?_)
      refine IH (m, acc ++ [a], b) _ _ ⟨by simp only [List.length_append, List.length_singleton]; have := a.size_pos; omega, by simp only; have := a.size_pos; omega, hra⟩ (by simp only [Tm.size, Tm.sizes]; have := a.size_pos; omega) ?_ ?_
      · simp [tmPs_snoc]
        repeat' (first | exact WeakL.nil | apply WeakL.cons)
        all_goals first | exact Weak.junk _ | exact Weak.refl _ | exact Weak.nil _ | exact Weak.own _ _ _ | exact Weak.int (by omega)
      · simp
    · have hk2 : ((ks.length : Int) == 2) = false := by simp; omega
      have hib : isB 6 (Tm.mk 6 i nm ls ks) = none := by
        match ks, hks with
        | [], _ => rfl
        | [_], _ => rfl
        | _ :: _ :: _ :: _, _ => rfl
      rw [hib] at hra
      simp only at hra
      subst hra
      repeat (first | refine Run.seq ?_ | refine Run.block ?_ | refine Run.skip ?_ | refine Run.inBlock ?_ | refine Run.opsNil ?_)
      refine Run.reg fun K hK => ?_
      simp [hk2]
      try (simp (disch := omega) only [wrap_id])
      refine hK _ _ _ ?_; clear hK K
      repeat (first | refine Run.seq ?_ | refine Run.block ?_ | refine Run.skip ?_ | refine Run.inBlock ?_ | refine Run.opsNil ?_)
      repeat (first | refine Run.seq ?_ | refine Run.block ?_ | refine Run.skip ?_ | refine Run.inBlock ?_ | refine Run.opsNil ?_)
      refine Run.cond (b := false) (by simp) ?_
      simp only [Bool.false_eq_true, if_false]
      repeat (first | refine Run.seq ?_ | refine Run.block ?_ | refine Run.skip ?_ | refine Run.inBlock ?_ | refine Run.opsNil ?_)
      repeat (first | refine Run.seq ?_ | refine Run.block ?_ | refine Run.skip ?_ | refine Run.inBlock ?_ | refine Run.opsNil ?_)
      refine Run.exit rfl ?_
      repeat (first | refine Run.seq ?_ | refine Run.block ?_ | refine Run.skip ?_ | refine Run.inBlock ?_ | refine Run.opsNil ?_)
      repeat (first | refine Run.seq ?_ | refine Run.block ?_ | refine Run.skip ?_ | refine Run.inBlock ?_ | refine Run.opsNil ?_)
      refine Run.draw [0, 0, 0, 0] [0, 0, 0, 0] [0, 0, 1, 7] [0, 1, 2, 3] (by kernel_rfl) (by kernel_rfl) ?_
      refine DR.go fun K hK => ?_
      simp
      try (simp (disch := omega) only [wrap_id])
      refine hK _ _ _ _ ?_; clear hK K
      change Run _ _ _ _ _ _ _ _
      repeat (first | refine Run.seq ?_ | refine Run.block ?_ | refine Run.skip ?_ | refine Run.inBlock ?_ | refine Run.opsNil ?_)
      refine Run.ret ?_
      refine Fin.ret' (h0 := h) (xs := [.own (h.length + 2) 5 (tmPs acc), (Tm.mk 6 i nm ls ks).av]) (by simp) rfl hh rfl (by simp) rfl (Weak.tup (WeakL.cons (Weak.own _ _ _) (WeakL.refl _))) (by simp) ⟨rfl, rfl⟩
  · have hkb : (k == 6) = false := by simpa using hk
    have hib : isB 6 (Tm.mk k i nm ls ks) = none := by
      match ks with
      | [] => rfl
      | [_] => rfl
      | [_, _] => simp [isB, hk]
      | _ :: _ :: _ :: _ => rfl
    rw [hib] at hra
    simp only at hra
    subst hra
    repeat (first | refine Run.seq ?_ | refine Run.block ?_ | refine Run.skip ?_ | refine Run.inBlock ?_ | refine Run.opsNil ?_)
    refine Run.reg fun K hK => ?_
    simp [hkb]
    try (simp (disch := omega) only [wrap_id])
    refine hK _ _ _ ?_; clear hK K
    repeat (first | refine Run.seq ?_ | refine Run.block ?_ | refine Run.skip ?_ | refine Run.inBlock ?_ | refine Run.opsNil ?_)
    repeat (first | refine Run.seq ?_ | refine Run.block ?_ | refine Run.skip ?_ | refine Run.inBlock ?_ | refine Run.opsNil ?_)
    refine Run.cond (b := false) (by simp) ?_
    simp only [Bool.false_eq_true, if_false]
    repeat (first | refine Run.seq ?_ | refine Run.block ?_ | refine Run.skip ?_ | refine Run.inBlock ?_ | refine Run.opsNil ?_)
    repeat (first | refine Run.seq ?_ | refine Run.block ?_ | refine Run.skip ?_ | refine Run.inBlock ?_ | refine Run.opsNil ?_)
    refine Run.exit rfl ?_
    repeat (first | refine Run.seq ?_ | refine Run.block ?_ | refine Run.skip ?_ | refine Run.inBlock ?_ | refine Run.opsNil ?_)
    repeat (first | refine Run.seq ?_ | refine Run.block ?_ | refine Run.skip ?_ | refine Run.inBlock ?_ | refine Run.opsNil ?_)
    refine Run.draw [0, 0, 0, 0] [0, 0, 0, 0] [0, 0, 1, 7] [0, 1, 2, 3] (by kernel_rfl) (by kernel_rfl) ?_
    refine DR.go fun K hK => ?_
    simp
    try (simp (disch := omega) only [wrap_id])
    refine hK _ _ _ _ ?_; clear hK K
    change Run _ _ _ _ _ _ _ _
    repeat (first | refine Run.seq ?_ | refine Run.block ?_ | refine Run.skip ?_ | refine Run.inBlock ?_ | refine Run.opsNil ?_)
    refine Run.ret ?_
    refine Fin.ret' (h0 := h) (xs := [.own (h.length + 2) 5 (tmPs acc), (Tm.mk k i nm ls ks).av]) (by simp) rfl hh rfl (by simp) rfl (Weak.tup (WeakL.cons (Weak.own _ _ _) (WeakL.refl _))) (by simp) ⟨rfl, rfl⟩

set_option maxRecDepth 8000 in
set_option maxHeartbeats 8000000 in
theorem all70_any (h : Heap) (hh : WF h) (t : Tm) (hsz : t.size ≤ 1048576) :
    ACalls Try.prog 70 [t.av] h fun o h' => o = .ret (.tup [.p (.sl 5 (tmPs (resAll t).1)), (resAll t).2.av]) ∧ h' = h := by
  obtain ⟨r, hr⟩ : ∃ r, r = resAll t := ⟨_, rfl⟩
  rw [← hr]
  unfold resAll at hr
  obtain ⟨tc, htc⟩ : ∃ tc, tc = t.cells.map AV.p := ⟨_, rfl⟩
  simp only [Tm.av]
  rw [← htc]
  have htl : tc.length = 5 := by rw [htc]; simp
  refine ACalls.of_run Try.func70 rfl ?_
  simp only [Try.ntmps70, List.length_cons, List.length_nil]
  repeat (first | refine Run.seq ?_ | refine Run.block ?_ | refine Run.skip ?_ | refine Run.inBlock ?_ | refine Run.opsNil ?_)
  refine Run.reg fun K hK => ?_
  simp
  try (simp (disch := omega) only [wrap_id])
  refine hK _ _ _ ?_; clear hK K
  repeat (first | refine Run.seq ?_ | refine Run.block ?_ | refine Run.skip ?_ | refine Run.inBlock ?_ | refine Run.opsNil ?_)
  repeat (first | refine Run.seq ?_ | refine Run.block ?_ | refine Run.skip ?_ | refine Run.inBlock ?_ | refine Run.opsNil ?_)
  refine Run.reg fun K hK => ?_
  simp
  try (simp (disch := omega) only [wrap_id])
  refine hK _ _ _ ?_; clear hK K
  repeat (first | refine Run.seq ?_ | refine Run.block ?_ | refine Run.skip ?_ | refine Run.inBlock ?_ | refine Run.opsNil ?_)
  refine Run.tok 4 5 (by simp) ?_
  simp
  rw [htc]
  refine Run.loopS (ι := Nat × List Tm × Tm) [1, 3] (fun p => p.2.1.length + p.2.2.size ≤ t.size ∧ p.2.2.size ≤ p.1 ∧ r = allF 6 p.1 p.2.1 p.2.2) (fun p => p.2.2.size) (fun p => [(4, .own (h.length + 2) 5 (tmPs p.2.1))])
    (fun p => h ++ [some (.cells (p.2.2.cells.map .p)), some (.cells zTm), some (.tok p.2.1.length 5)]) (t.size, [], t) ⟨by simp, by simp, hr⟩ ?_ (by simp) ?_
  · simp [tmPs]
    repeat' (first | exact WeakL.nil | apply WeakL.cons)
    all_goals first | exact Weak.junk _ | exact Weak.refl _ | exact Weak.nil _ | exact Weak.own _ _ _ | exact Weak.int (by omega)
  rintro ⟨N, acc, cur⟩ ⟨hs, hle, hra⟩ IH
  simp only at hs hle hra
  simp
  obtain ⟨m, rfl⟩ : ∃ m, N = m + 1 := ⟨N - 1, by have := cur.size_pos; omega⟩
  simp only [allF] at hra
  obtain ⟨k, i, nm, ls, ks⟩ := cur
  by_cases hk : k = 6
  · subst hk
    by_cases hks : ks.length = 2
    · obtain ⟨a, b, rfl⟩ : ∃ a b, ks = [a, b] := by
        match ks, hks with
        | [a, b], _ => exact ⟨a, b, rfl⟩
      simp only [isB, if_true] at hra
      simp only [Tm.size, Tm.sizes] at hs hle
      have hb1 : (acc.length + 1) * 80 ≤ 140737488355328 := by have := t.size_pos; omega
      have hb2 : acc.length + 1 ≤ 9223372036854775807 := by omega
      repeat (first | refine Run.seq ?_ | refine Run.block ?_ | refine Run.skip ?_ | refine Run.inBlock ?_ | refine Run.opsNil ?_)
      refine Run.reg fun K hK => ?_
      simp
      try (simp (disch := omega) only [wrap_id])
      refine hK _ _ _ ?_; clear hK K
      repeat (first | refine Run.seq ?_ | refine Run.block ?_ | refine Run.skip ?_ | refine Run.inBlock ?_ | refine Run.opsNil ?_)
      repeat (first | refine Run.seq ?_ | refine Run.block ?_ | refine Run.skip ?_ | refine Run.inBlock ?_ | refine Run.opsNil ?_)
      refine Run.cond (b := true) (by simp) ?_
      simp only [if_true]
      repeat (first | refine Run.seq ?_ | refine Run.block ?_ | refine Run.skip ?_ | refine Run.inBlock ?_ | refine Run.opsNil ?_)
      repeat (first | refine Run.seq ?_ | refine Run.block ?_ | refine Run.skip ?_ | refine Run.inBlock ?_ | refine Run.opsNil ?_)
      refine Run.reg fun K hK => ?_
      simp [tmPs, hb1, hb2]
      try (simp (disch := omega) only [wrap_id])
      refine hK _ _ _ ?_; clear hK K
      repeat (first | refine Run.seq ?_ | refine Run.block ?_ | refine Run.skip ?_ | refine Run.inBlock ?_ | refine Run.opsNil ?_)
      repeat (first | refine Run.seq ?_ | refine Run.block ?_ | refine Run.skip ?_ | refine Run.inBlock ?_ | refine Run.opsNil ?_)
      refine Run.reg fun K hK => ?_
      simp
      try (simp (disch := omega) only [wrap_id])
      refine hK _ _ _ ?_; clear hK K
      repeat (first | refine Run.seq ?_ | refine Run.block ?_ | refine Run.skip ?_ | refine Run.inBlock ?_ | refine Run.opsNil ?_)
      refine IH (m, acc ++ [a], b) _ _ ⟨by simp only [List.length_append, List.length_singleton]; have := a.size_pos; omega, by simp only; have := a.size_pos; omega, hra⟩ (by simp only [Tm.size, Tm.sizes]; have := a.size_pos; omega) ?_ ?_
      · simp [tmPs_snoc]
        repeat' (first | exact WeakL.nil | apply WeakL.cons)
        all_goals first | exact Weak.junk _ | exact Weak.refl _ | exact Weak.nil _ | exact Weak.own _ _ _ | exact Weak.int (by omega)
      · simp
    · have hk2 : ((ks.length : Int) == 2) = false := by simp; omega
      have hib : isB 6 (Tm.mk 6 i nm ls ks) = none := by
        match ks, hks with
        | [], _ => rfl
        | [_], _ => rfl
        | _ :: _ :: _ :: _, _ => rfl
      rw [hib] at hra
      simp only at hra
      subst hra
      repeat (first | refine Run.seq ?_ | refine Run.block ?_ | refine Run.skip ?_ | refine Run.inBlock ?_ | refine Run.opsNil ?_)
      refine Run.reg fun K hK => ?_
      simp [hk2]
      try (simp (disch := omega) only [wrap_id])
      refine hK _ _ _ ?_; clear hK K
      repeat (first | refine Run.seq ?_ | refine Run.block ?_ | refine Run.skip ?_ | refine Run.inBlock ?_ | refine Run.opsNil ?_)
      repeat (first | refine Run.seq ?_ | refine Run.block ?_ | refine Run.skip ?_ | refine Run.inBlock ?_ | refine Run.opsNil ?_)
      refine Run.cond (b := false) (by simp) ?_
      simp only [Bool.false_eq_true, if_false]
      repeat (first | refine Run.seq ?_ | refine Run.block ?_ | refine Run.skip ?_ | refine Run.inBlock ?_ | refine Run.opsNil ?_)
      repeat (first | refine Run.seq ?_ | refine Run.block ?_ | refine Run.skip ?_ | refine Run.inBlock ?_ | refine Run.opsNil ?_)
      refine Run.exit rfl ?_
      repeat (first | refine Run.seq ?_ | refine Run.block ?_ | refine Run.skip ?_ | refine Run.inBlock ?_ | refine Run.opsNil ?_)
      repeat (first | refine Run.seq ?_ | refine Run.block ?_ | refine Run.skip ?_ | refine Run.inBlock ?_ | refine Run.opsNil ?_)
      refine Run.draw [0, 0, 0, 0] [0, 0, 0, 0] [0, 0, 1, 7] [0, 1, 2, 3] (by kernel_rfl) (by kernel_rfl) ?_
      refine DR.go fun K hK => ?_
      simp
      try (simp (disch := omega) only [wrap_id])
      refine hK _ _ _ _ ?_; clear hK K
      change Run _ _ _ _ _ _ _ _
      repeat (first | refine Run.seq ?_ | refine Run.block ?_ | refine Run.skip ?_ | refine Run.inBlock ?_ | refine Run.opsNil ?_)
      refine Run.ret ?_
      refine Fin.ret' (h0 := h) (xs := [.own (h.length + 2) 5 (tmPs acc), (Tm.mk 6 i nm ls ks).av]) (by simp) rfl hh rfl (by simp) rfl (Weak.tup (WeakL.cons (Weak.own _ _ _) (WeakL.refl _))) (by simp) ⟨rfl, rfl⟩
  · have hkb : (k == 6) = false := by simpa using hk
    have hib : isB 6 (Tm.mk k i nm ls ks) = none := by
      match ks with
      | [] => rfl
      | [_] => rfl
      | [_, _] => simp [isB, hk]
      | _ :: _ :: _ :: _ => rfl
    rw [hib] at hra
    simp only at hra
    subst hra
    repeat (first | refine Run.seq ?_ | refine Run.block ?_ | refine Run.skip ?_ | refine Run.inBlock ?_ | refine Run.opsNil ?_)
    refine Run.reg fun K hK => ?_
    simp [hkb]
    try (simp (disch := omega) only [wrap_id])
    refine hK _ _ _ ?_; clear hK K
    repeat (first | refine Run.seq ?_ | refine Run.block ?_ | refine Run.skip ?_ | refine Run.inBlock ?_ | refine Run.opsNil ?_)
    repeat (first | refine Run.seq ?_ | refine Run.block ?_ | refine Run.skip ?_ | refine Run.inBlock ?_ | refine Run.opsNil ?_)
    refine Run.cond (b := false) (by simp) ?_
    simp only [Bool.false_eq_true, if_false]
    repeat (first | refine Run.seq ?_ | refine Run.block ?_ | refine Run.skip ?_ | refine Run.inBlock ?_ | refine Run.opsNil ?_)
    repeat (first | refine Run.seq ?_ | refine Run.block ?_ | refine Run.skip ?_ | refine Run.inBlock ?_ | refine Run.opsNil ?_)
    refine Run.exit rfl ?_
    repeat (first | refine Run.seq ?_ | refine Run.block ?_ | refine Run.skip ?_ | refine Run.inBlock ?_ | refine Run.opsNil ?_)
    repeat (first | refine Run.seq ?_ | refine Run.block ?_ | refine Run.skip ?_ | refine Run.inBlock ?_ | refine Run.opsNil ?_)
    refine Run.draw [0, 0, 0, 0] [0, 0, 0, 0] [0, 0, 1, 7] [0, 1, 2, 3] (by kernel_rfl) (by kernel_rfl) ?_
    refine DR.go fun K hK => ?_
    simp
    try (simp (disch := omega) only [wrap_id])
    refine hK _ _ _ _ ?_; clear hK K
    change Run _ _ _ _ _ _ _ _
    repeat (first | refine Run.seq ?_ | refine Run.block ?_ | refine Run.skip ?_ | refine Run.inBlock ?_ | refine Run.opsNil ?_)
    refine Run.ret ?_
    refine Fin.ret' (h0 := h) (xs := [.own (h.length + 2) 5 (tmPs acc), (Tm.mk k i nm ls ks).av]) (by simp) rfl hh rfl (by simp) rfl (Weak.tup (WeakL.cons (Weak.own _ _ _) (WeakL.refl _))) (by simp) ⟨rfl, rfl⟩

end Go.Proofs.Ytppgpabjcenjdaa
