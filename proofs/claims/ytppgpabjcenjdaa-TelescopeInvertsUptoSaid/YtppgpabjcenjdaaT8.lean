/-
  telescope: Apply, Spine.
-/
import Derived.Test.YtppgpabjcenjdaaT7
namespace Go.Proofs.Ytppgpabjcenjdaa
open Go Go.AI

/-- A function applied to arguments. -/
def applyT (t : Tm) (args : List Tm) : Tm := args.foldl appT t

theorem appT_weak (a b : Tm) : WeakL [AV.p (iP 4), AV.p (iP 0), AV.p (sP []), AV.p (.prim (.slice none 0 0)), AV.p (.sl 5 [a.cells, b.cells])] ((appT a b).cells.map .p) := by
  simp only [appT, cells_mk, List.map, lvPs, tmPs]
  repeat' (first | exact WeakL.nil | apply WeakL.cons)
  all_goals first | exact Weak.refl _ | exact Weak.nil _

set_option maxRecDepth 8000 in
set_option maxHeartbeats 8000000 in
theorem apply71_any (h : Heap) (hh : WF h) (t : Tm) (args : List Tm) (hl : args.length ≤ 1048576) : ACalls Try.prog 71 [t.av, .p (.sl 5 (tmPs args))] h fun o h' => o = .ret (applyT t args).av ∧ h' = h := by
  obtain ⟨tc, htc⟩ : ∃ tc, tc = t.cells.map AV.p := ⟨_, rfl⟩
  simp only [Tm.av]
  rw [← htc]
  have htl : tc.length = 5 := by rw [htc]; simp
  refine ACalls.of_run Try.func71 rfl ?_
  simp only [Try.ntmps71, List.length_cons, List.length_nil]
  repeat (first | refine Run.seq ?_ | refine Run.block ?_ | refine Run.skip ?_ | refine Run.inBlock ?_ | refine Run.opsNil ?_)
  refine Run.reg fun K hK => ?_
  simp
  try (simp (disch := omega) only [wrap_id])
  refine hK _ _ _ ?_; clear hK K
  repeat (first | refine Run.seq ?_ | refine Run.block ?_ | refine Run.skip ?_ | refine Run.inBlock ?_ | refine Run.opsNil ?_)
  repeat (first | refine Run.seq ?_ | refine Run.block ?_ | refine Run.skip ?_ | refine Run.inBlock ?_ | refine Run.opsNil ?_)
  refine Run.reg fun K hK => ?_
  simp
  try (simp (disch := omega) only [wrap_id])
  refine hK _ _ _ ?_; clear hK K
  repeat (first | refine Run.seq ?_ | refine Run.block ?_ | refine Run.skip ?_ | refine Run.inBlock ?_ | refine Run.opsNil ?_)
  rw [htc]
  refine Run.loopS [2, 4, 7, 8] (fun j : Nat => j ≤ args.length) (fun j => args.length - j) (fun j => [(9, iA j)]) (fun j => h ++ [some (.cells ((applyT t (args.take j)).cells.map .p)), some (.cells zTm)]) 0 (by simp) ?_ (by simp [applyT]) ?_
  · simp
    repeat' (first | exact WeakL.nil | apply WeakL.cons)
    all_goals first | exact Weak.junk _ | exact Weak.refl _ | exact Weak.nil _ | exact Weak.own _ _ _ | exact Weak.int (by omega)
  intro j hj IH
  simp
  repeat (first | refine Run.seq ?_ | refine Run.block ?_ | refine Run.skip ?_ | refine Run.inBlock ?_ | refine Run.opsNil ?_)
  refine Run.reg fun K hK => ?_
  simp
  try (simp (disch := omega) only [wrap_id])
  refine hK _ _ _ ?_; clear hK K
  repeat (first | refine Run.seq ?_ | refine Run.block ?_ | refine Run.skip ?_ | refine Run.inBlock ?_ | refine Run.opsNil ?_)
  by_cases hjl : j < args.length
  · have hg : args[j]? = some args[j] := List.getElem?_eq_getElem hjl
    have htk : applyT t (args.take (j + 1)) = appT (applyT t (args.take j)) args[j] := by
      rw [List.take_succ_eq_append_getElem hjl, applyT, List.foldl_append]; rfl
    generalize args[j] = u at hg htk
    generalize applyT t (args.take j) = c at htk
    obtain ⟨k0, k1, k2, k3, k4⟩ := c
    repeat (first | refine Run.seq ?_ | refine Run.block ?_ | refine Run.skip ?_ | refine Run.inBlock ?_ | refine Run.opsNil ?_)
    refine Run.cond (b := true) (by simp [hjl]) ?_
    simp only [if_true]
    repeat (first | refine Run.seq ?_ | refine Run.block ?_ | refine Run.skip ?_ | refine Run.inBlock ?_ | refine Run.opsNil ?_)
    repeat (first | refine Run.seq ?_ | refine Run.block ?_ | refine Run.skip ?_ | refine Run.inBlock ?_ | refine Run.opsNil ?_)
    refine Run.reg fun K hK => ?_
    simp [hg]
    try (simp (disch := omega) only [wrap_id])
    refine hK _ _ _ ?_; clear hK K
    repeat (first | refine Run.seq ?_ | refine Run.block ?_ | refine Run.skip ?_ | refine Run.inBlock ?_ | refine Run.opsNil ?_)
    repeat (first | refine Run.seq ?_ | refine Run.block ?_ | refine Run.skip ?_ | refine Run.inBlock ?_ | refine Run.opsNil ?_)
    refine Run.reg fun K hK => ?_
    simp
    try (simp (disch := omega) only [wrap_id])
    refine hK _ _ _ ?_; clear hK K
    repeat (first | refine Run.seq ?_ | refine Run.block ?_ | refine Run.skip ?_ | refine Run.inBlock ?_ | refine Run.opsNil ?_)
    refine Run.weakH h.length (cs' := (appT (Tm.mk k0 k1 k2 k3 k4) u).cells.map .p) (by simp only [Heap.at]; rw [get_last0]; rfl) (appT_weak _ _) ?_
    rw [set_last0]
    repeat (first | refine Run.seq ?_ | refine Run.block ?_ | refine Run.skip ?_ | refine Run.inBlock ?_ | refine Run.opsNil ?_)
    refine Run.reg fun K hK => ?_
    simp
    try (simp (disch := omega) only [wrap_id])
    refine hK _ _ _ ?_; clear hK K
    repeat (first | refine Run.seq ?_ | refine Run.block ?_ | refine Run.skip ?_ | refine Run.inBlock ?_ | refine Run.opsNil ?_)
    refine Run.keep [2, 4, 7, 8, 9] ?_
    simp
    refine Run.cutAt 2 hh rfl (by omega) (by simp) (by simp) (by simp) (by simp [underD]) ?_
    refine IH (j + 1) _ _ (by omega) (by omega) ?_ ?_
    · simp
      repeat' (first | exact WeakL.nil | apply WeakL.cons)
      all_goals first | exact Weak.junk _ | exact Weak.refl _ | exact Weak.nil _ | exact Weak.own _ _ _ | exact Weak.int (by omega)
    · rw [htk]; simp
  · have hje : j = args.length := by omega
    subst hje
    rw [List.take_length]
    generalize applyT t args = c
    obtain ⟨k0, k1, k2, k3, k4⟩ := c
    repeat (first | refine Run.seq ?_ | refine Run.block ?_ | refine Run.skip ?_ | refine Run.inBlock ?_ | refine Run.opsNil ?_)
    refine Run.cond (b := false) (by simp) ?_
    simp only [Bool.false_eq_true, if_false]
    repeat (first | refine Run.seq ?_ | refine Run.block ?_ | refine Run.skip ?_ | refine Run.inBlock ?_ | refine Run.opsNil ?_)
    repeat (first | refine Run.seq ?_ | refine Run.block ?_ | refine Run.skip ?_ | refine Run.inBlock ?_ | refine Run.opsNil ?_)
    refine Run.exit rfl ?_
    repeat (first | refine Run.seq ?_ | refine Run.block ?_ | refine Run.skip ?_ | refine Run.inBlock ?_ | refine Run.opsNil ?_)
    repeat (first | refine Run.seq ?_ | refine Run.block ?_ | refine Run.skip ?_ | refine Run.inBlock ?_ | refine Run.opsNil ?_)
    refine Run.reg fun K hK => ?_
    simp
    try (simp (disch := omega) only [wrap_id])
    refine hK _ _ _ ?_; clear hK K
    repeat (first | refine Run.seq ?_ | refine Run.block ?_ | refine Run.skip ?_ | refine Run.inBlock ?_ | refine Run.opsNil ?_)
    refine Run.ret ?_
    refine Fin.ret' (h0 := h) (by simp) rfl hh rfl (by simp; rfl) rfl (Weak.refl _) (by simp) ⟨rfl, rfl⟩

set_option maxRecDepth 8000 in
set_option maxHeartbeats 8000000 in
theorem apply73_any (h : Heap) (hh : WF h) (t : Tm) (args : List Tm) (hl : args.length ≤ 1048576) : ACalls Try.prog 73 [t.av, .p (.sl 5 (tmPs args))] h fun o h' => o = .ret (applyT t args).av ∧ h' = h := by
  obtain ⟨tc, htc⟩ : ∃ tc, tc = t.cells.map AV.p := ⟨_, rfl⟩
  simp only [Tm.av]
  rw [← htc]
  have htl : tc.length = 5 := by rw [htc]; simp
  refine ACalls.of_run Try.func73 rfl ?_
  simp only [Try.ntmps73, List.length_cons, List.length_nil]
  repeat (first | refine Run.seq ?_ | refine Run.block ?_ | refine Run.skip ?_ | refine Run.inBlock ?_ | refine Run.opsNil ?_)
  refine Run.reg fun K hK => ?_
  simp
  try (simp (disch := omega) only [wrap_id])
  refine hK _ _ _ ?_; clear hK K
  repeat (first | refine Run.seq ?_ | refine Run.block ?_ | refine Run.skip ?_ | refine Run.inBlock ?_ | refine Run.opsNil ?_)
  repeat (first | refine Run.seq ?_ | refine Run.block ?_ | refine Run.skip ?_ | refine Run.inBlock ?_ | refine Run.opsNil ?_)
  refine Run.reg fun K hK => ?_
  simp
  try (simp (disch := omega) only [wrap_id])
  refine hK _ _ _ ?_; clear hK K
  repeat (first | refine Run.seq ?_ | refine Run.block ?_ | refine Run.skip ?_ | refine Run.inBlock ?_ | refine Run.opsNil ?_)
  rw [htc]
  refine Run.loopS [1, 2, 4] (fun j : Nat => j ≤ args.length) (fun j => args.length - j) (fun j => [(5, iA j)]) (fun j => h ++ [some (.cells ((applyT t (args.take j)).cells.map .p)), some (.cells zTm)]) 0 (by simp) ?_ (by simp [applyT]) ?_
  · simp
    repeat' (first | exact WeakL.nil | apply WeakL.cons)
    all_goals first | exact Weak.junk _ | exact Weak.refl _ | exact Weak.nil _ | exact Weak.own _ _ _ | exact Weak.int (by omega)
  intro j hj IH
  simp
  repeat (first | refine Run.seq ?_ | refine Run.block ?_ | refine Run.skip ?_ | refine Run.inBlock ?_ | refine Run.opsNil ?_)
  refine Run.reg fun K hK => ?_
  simp
  try (simp (disch := omega) only [wrap_id])
  refine hK _ _ _ ?_; clear hK K
  repeat (first | refine Run.seq ?_ | refine Run.block ?_ | refine Run.skip ?_ | refine Run.inBlock ?_ | refine Run.opsNil ?_)
  by_cases hjl : j < args.length
  · have hg : args[j]? = some args[j] := List.getElem?_eq_getElem hjl
    have htk : applyT t (args.take (j + 1)) = appT (applyT t (args.take j)) args[j] := by
      rw [List.take_succ_eq_append_getElem hjl, applyT, List.foldl_append]; rfl
    generalize args[j] = u at hg htk
    generalize applyT t (args.take j) = c at htk
    obtain ⟨k0, k1, k2, k3, k4⟩ := c
    repeat (first | refine Run.seq ?_ | refine Run.block ?_ | refine Run.skip ?_ | refine Run.inBlock ?_ | refine Run.opsNil ?_)
    refine Run.cond (b := true) (by simp [hjl]) ?_
    simp only [if_true]
    repeat (first | refine Run.seq ?_ | refine Run.block ?_ | refine Run.skip ?_ | refine Run.inBlock ?_ | refine Run.opsNil ?_)
    repeat (first | refine Run.seq ?_ | refine Run.block ?_ | refine Run.skip ?_ | refine Run.inBlock ?_ | refine Run.opsNil ?_)
    refine Run.draw [0, 0, 0, 0, 0, 0, 0, 0] [0, 0, 0, 0, 0, 0, 0, 0] [0, 0, 0, 6, 14, 31, 63, 127] [0, 1, 2, 3, 4, 5, 6, 7] (by kernel_rfl) (by kernel_rfl) ?_
    refine DR.go fun K hK => ?_
    simp [hg]
    try (simp (disch := omega) only [wrap_id])
    refine hK _ _ _ _ ?_; clear hK K
    change Run _ _ _ _ _ _ _ _
    repeat (first | refine Run.seq ?_ | refine Run.block ?_ | refine Run.skip ?_ | refine Run.inBlock ?_ | refine Run.opsNil ?_)
    repeat (first | refine Run.seq ?_ | refine Run.block ?_ | refine Run.skip ?_ | refine Run.inBlock ?_ | refine Run.opsNil ?_)
    refine Run.reg fun K hK => ?_
    simp
    try (simp (disch := omega) only [wrap_id])
    refine hK _ _ _ ?_; clear hK K
    repeat (first | refine Run.seq ?_ | refine Run.block ?_ | refine Run.skip ?_ | refine Run.inBlock ?_ | refine Run.opsNil ?_)
    refine Run.weakH h.length (cs' := (appT (Tm.mk k0 k1 k2 k3 k4) u).cells.map .p) (by simp only [Heap.at]; rw [get_last0]; rfl) (appT_weak _ _) ?_
    rw [set_last0]
    refine IH (j + 1) _ _ (by omega) (by omega) ?_ ?_
    · simp
      repeat' (first | exact WeakL.nil | apply WeakL.cons)
      all_goals first | exact Weak.junk _ | exact Weak.refl _ | exact Weak.nil _ | exact Weak.own _ _ _ | exact Weak.int (by omega)
    · rw [htk]; simp
  · have hje : j = args.length := by omega
    subst hje
    rw [List.take_length]
    generalize applyT t args = c
    obtain ⟨k0, k1, k2, k3, k4⟩ := c
    repeat (first | refine Run.seq ?_ | refine Run.block ?_ | refine Run.skip ?_ | refine Run.inBlock ?_ | refine Run.opsNil ?_)
    refine Run.cond (b := false) (by simp) ?_
    simp only [Bool.false_eq_true, if_false]
    repeat (first | refine Run.seq ?_ | refine Run.block ?_ | refine Run.skip ?_ | refine Run.inBlock ?_ | refine Run.opsNil ?_)
    repeat (first | refine Run.seq ?_ | refine Run.block ?_ | refine Run.skip ?_ | refine Run.inBlock ?_ | refine Run.opsNil ?_)
    refine Run.exit rfl ?_
    repeat (first | refine Run.seq ?_ | refine Run.block ?_ | refine Run.skip ?_ | refine Run.inBlock ?_ | refine Run.opsNil ?_)
    repeat (first | refine Run.seq ?_ | refine Run.block ?_ | refine Run.skip ?_ | refine Run.inBlock ?_ | refine Run.opsNil ?_)
    refine Run.reg fun K hK => ?_
    simp
    try (simp (disch := omega) only [wrap_id])
    refine hK _ _ _ ?_; clear hK K
    repeat (first | refine Run.seq ?_ | refine Run.block ?_ | refine Run.skip ?_ | refine Run.inBlock ?_ | refine Run.opsNil ?_)
    refine Run.ret ?_
    refine Fin.ret' (h0 := h) (by simp) rfl hh rfl (by simp; rfl) rfl (Weak.refl _) (by simp) ⟨rfl, rfl⟩

/-- The head of a term, and its arguments. -/
def spG : Nat → Tm → Tm × List Tm
  | 0, t => (t, [])
  | n + 1, t => match isB 4 t with
    | some (f, a) => ((spG n f).1, (spG n f).2 ++ [a])
    | none => (t, [])
def resSpine (t : Tm) : Tm × List Tm := spG t.size t

theorem isB_size {k : Int} {t a b : Tm} (h : isB k t = some (a, b)) : a.size + b.size + 1 ≤ t.size := by
  obtain ⟨k', i, n, ls, ks⟩ := t
  match ks, h with
  | [x, y], h =>
    simp only [isB] at h
    split at h
    · injection h with h; injection h with h1 h2
      subst h1; subst h2
      simp only [Tm.size, Tm.sizes]; omega
    · cases h
theorem spG_fuel : ∀ (n m : Nat) (t : Tm), t.size ≤ n → t.size ≤ m → spG n t = spG m t
  | 0, _, t, h, _ => by have := t.size_pos; omega
  | _ + 1, 0, t, _, h => by have := t.size_pos; omega
  | n + 1, m + 1, t, h1, h2 => by
    simp only [spG]
    cases hb : isB 4 t with
    | none => rfl
    | some p =>
      obtain ⟨f, a⟩ := p
      have := isB_size hb
      have := a.size_pos
      simp only
      rw [spG_fuel n m f (by omega) (by omega)]
theorem resSpine_step {t f a : Tm} (h : isB 4 t = some (f, a)) : resSpine t = ((resSpine f).1, (resSpine f).2 ++ [a]) := by
  have hs := isB_size h
  have ha := a.size_pos
  obtain ⟨m, hm⟩ : ∃ m, t.size = m + 1 := ⟨t.size - 1, by have := t.size_pos; omega⟩
  unfold resSpine
  rw [hm, spG, h]
  simp only
  rw [spG_fuel m f.size f (by omega) (Nat.le_refl _)]
theorem resSpine_end {t : Tm} (h : isB 4 t = none) : resSpine t = (t, []) := by
  obtain ⟨m, hm⟩ : ∃ m, t.size = m + 1 := ⟨t.size - 1, by have := t.size_pos; omega⟩
  unfold resSpine
  rw [hm, spG, h]

end Go.Proofs.Ytppgpabjcenjdaa
