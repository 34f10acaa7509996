/-
  The reference's Subst, Under.
-/
import Derived.Test.YtppgpabjcenjdaaTP1
namespace Go.Proofs.Ytppgpabjcenjdaa

open Go Go.AI

mutual
theorem rsub_nn (vs : List Tm) : ∀ (t : Tm) (e n d : Int), 0 ≤ n → 0 ≤ (rsub vs e n d t).2.2
  | .mk k i nm ls ks, e, n, d, h => by
    simp only [rsub]
    split
    · exact h
    · split
      · split
        · split
          · simp only; omega
          · simp only; omega
        · simp only; omega
      · exact rsubL_nn vs ks e (n + 1) d k 0 (by omega)
theorem rsubL_nn (vs : List Tm) : ∀ (l : List Tm) (e n d k : Int) (idx : Nat), 0 ≤ n → 0 ≤ (rsubL vs e n d k idx l).2.2
  | [], e, n, d, k, idx, h => h
  | t :: ts, e, n, d, k, idx, h => by
    simp only [rsubL]
    exact rsubL_nn vs ts _ _ d k (idx + 1) (rsub_nn vs t e n _ h)
end

set_option maxRecDepth 8000 in
set_option maxHeartbeats 8000000 in
theorem wsub_any (vs : List Tm) (hvl : vs.length ≤ 1048576) (hvs : ∀ v ∈ vs, v.size ≤ 1048576 ∧ v.idx) (N : Nat) :
    ∀ (t : Tm) (depth err nodes : Int) (h : Heap) (id : Nat), t.size ≤ N → t.size ≤ 1048576 → t.idx → 0 ≤ depth → depth + t.size ≤ 1099511627776 → 0 ≤ nodes → WF h → h[id]? = some (wk err nodes) →
    ACalls Try.prog 109 [.ptr id 0, t.av, .p (.sl 5 (tmPs vs)), iA depth] h fun o h' => o = .ret (rsub vs err nodes depth t).1.av ∧ h' = h.set id (wk (rsub vs err nodes depth t).2.1 (rsub vs err nodes depth t).2.2) := by
  induction N with
  | zero => intro t _ _ _ _ _ hN; have := t.size_pos; omega
  | succ N ih =>
  intro t depth err nodes h id hN hB hidx hdp hdB hn0 hh hid
  obtain ⟨g1, g2, g3, g4, g5, hlt⟩ := idf hid
  obtain ⟨r, hr⟩ : ∃ r, r = rsub vs err nodes depth t := ⟨_, rfl⟩
  rw [← hr]
  obtain ⟨k, i, n, ls, ks⟩ := t
  simp only [rsub] at hr
  simp only [Tm.size] at hN hB hdB
  simp only [Tm.idx] at hidx
  refine ACalls.of_run Try.func109 rfl ?_
  simp only [Try.ntmps109, List.length_cons, List.length_nil, Tm.av, cells_mk, List.map]
  repeat (first | refine Run.seq ?_ | refine Run.block ?_ | refine Run.skip ?_ | refine Run.inBlock ?_ | refine Run.opsNil ?_)
  repeat (first | refine Run.seq ?_ | refine Run.block ?_ | refine Run.skip ?_ | refine Run.inBlock ?_ | refine Run.opsNil ?_)
  refine Run.reg fun K hK => ?_
  simp
  try (simp (disch := omega) only [wrap_id])
  refine hK _ _ _ ?_; clear hK K
  repeat (first | refine Run.seq ?_ | refine Run.block ?_ | refine Run.skip ?_ | refine Run.inBlock ?_ | refine Run.opsNil ?_)
  repeat (first | refine Run.seq ?_ | refine Run.block ?_ | refine Run.skip ?_ | refine Run.inBlock ?_ | refine Run.opsNil ?_)
  refine Run.reg fun K hK => ?_
  simp [g1]
  try (simp (disch := omega) only [wrap_id])
  refine hK _ _ _ ?_; clear hK K
  repeat (first | refine Run.seq ?_ | refine Run.block ?_ | refine Run.skip ?_ | refine Run.inBlock ?_ | refine Run.opsNil ?_)
  by_cases hn4 : 4096 < nodes
  · rw [if_pos hn4] at hr
    subst hr
    repeat (first | refine Run.seq ?_ | refine Run.block ?_ | refine Run.skip ?_ | refine Run.inBlock ?_ | refine Run.opsNil ?_)
    refine Run.cond (b := true) (by simp [hn4]) ?_
    simp only [if_true]
    repeat (first | refine Run.seq ?_ | refine Run.block ?_ | refine Run.skip ?_ | refine Run.inBlock ?_ | refine Run.opsNil ?_)
    repeat (first | refine Run.seq ?_ | refine Run.block ?_ | refine Run.skip ?_ | refine Run.inBlock ?_ | refine Run.opsNil ?_)
    refine Run.reg fun K hK => ?_
    simp
    try (simp (disch := omega) only [wrap_id])
    refine hK _ _ _ ?_; clear hK K
    repeat (first | refine Run.seq ?_ | refine Run.block ?_ | refine Run.skip ?_ | refine Run.inBlock ?_ | refine Run.opsNil ?_)
    refine Run.ret ?_
    refine Fin.ret' (h0 := h) (by simp) rfl hh rfl (by simp; rfl) rfl (Weak.of_eq (by simp)) (by simp) ⟨rfl, by simp [set_same hid]⟩
  rw [if_neg hn4] at hr
  repeat (first | refine Run.seq ?_ | refine Run.block ?_ | refine Run.skip ?_ | refine Run.inBlock ?_ | refine Run.opsNil ?_)
  refine Run.cond (b := false) (by simp [hn4]) ?_
  simp only [Bool.false_eq_true, if_false]
  repeat (first | refine Run.seq ?_ | refine Run.block ?_ | refine Run.skip ?_ | refine Run.inBlock ?_ | refine Run.opsNil ?_)
  have hw1 : IntKind.i64.wrap (nodes + 1) = nodes + 1 := wrap_id (by omega) (by omega)
  by_cases hk0 : k = 0
  · subst hk0
    obtain ⟨hi1, hi2⟩ := hidx.1 rfl
    rw [if_pos rfl] at hr
    have hwi : IntKind.i64.wrap (i - depth) = i - depth := wrap_id (by omega) (by omega)
    by_cases hdi : depth ≤ i
    · rw [if_pos hdi] at hr
      have hz0 : ¬ i - depth < 0 := by omega
      cases hx : vs[(i - depth).toNat]? with
      | some x =>
        rw [hx] at hr
        simp only at hr
        have hxm := hvs x (List.mem_of_getElem? hx)
        have hxl := (List.getElem?_eq_some_iff.1 hx).1
        have hlt2 : i - depth < vs.length := by omega
        have hsz := fun (g : Heap) (hg : WF g) => size_any x.size x g (Nat.le_refl _) (by omega) hg
        have hsh := fun (g : Heap) (hg : WF g) (hy : g[id]? = some (wk err (nodes + x.size))) => wshift_any depth 0 (by omega) (by omega) (by omega) (by omega) (nodes + x.size) x.size x 0 err g id (Nat.le_refl _) hxm.1 hxm.2 (by omega) (by omega) hg hy
        have hws : IntKind.i64.wrap (nodes + x.size) = nodes + x.size := wrap_id (by omega) (by omega)
        generalize shiftT depth 0 0 x = q at hr hsh
        generalize shiftBad depth 0 0 x = bad at hr hsh
        generalize x.size = z at hr hsz hsh hws
        subst hr
        obtain ⟨qk, qi, qn, qls, qks⟩ := q
        obtain ⟨xk, xi, xn, xls, xks⟩ := x
        repeat (first | refine Run.seq ?_ | refine Run.block ?_ | refine Run.skip ?_ | refine Run.inBlock ?_ | refine Run.opsNil ?_)
        refine Run.reg fun K hK => ?_
        simp [hdi, hwi, hlt2]
        try (simp (disch := omega) only [wrap_id])
        refine hK _ _ _ ?_; clear hK K
        repeat (first | refine Run.seq ?_ | refine Run.block ?_ | refine Run.skip ?_ | refine Run.inBlock ?_ | refine Run.opsNil ?_)
        repeat (first | refine Run.seq ?_ | refine Run.block ?_ | refine Run.skip ?_ | refine Run.inBlock ?_ | refine Run.opsNil ?_)
        refine Run.cond (b := true) (by simp) ?_
        simp only [if_true]
        repeat (first | refine Run.seq ?_ | refine Run.block ?_ | refine Run.skip ?_ | refine Run.inBlock ?_ | refine Run.opsNil ?_)
        repeat (first | refine Run.seq ?_ | refine Run.block ?_ | refine Run.skip ?_ | refine Run.inBlock ?_ | refine Run.opsNil ?_)
        refine Run.reg fun K hK => ?_
        simp [hwi, hz0, hx]
        try (simp (disch := omega) only [wrap_id])
        refine hK _ _ _ ?_; clear hK K
        repeat (first | refine Run.seq ?_ | refine Run.block ?_ | refine Run.skip ?_ | refine Run.inBlock ?_ | refine Run.opsNil ?_)
        repeat (first | refine Run.seq ?_ | refine Run.block ?_ | refine Run.skip ?_ | refine Run.inBlock ?_ | refine Run.opsNil ?_)
        refine Run.draw [0, 0, 0, 0, 0, 0, 1, 1, 1, 1] [0, 0, 0, 0, 0, 0, 0, 0, 0, 1] [0, 1, 3, 7, 0, 16, 63, 127, 255, 511] [4, 5, 0, 1, 2, 3, 6, 7, 8, 9] (by kernel_rfl) (by kernel_rfl) ?_
        refine DR.go fun K hK => ?_
        simp
        try (simp (disch := omega) only [wrap_id])
        refine hK _ _ _ _ ?_; clear hK K
        refine DR.call (args := [(Tm.mk xk xi xn xls xks).av]) rfl rfl rfl (by simp) rfl (hsz _ (hh.app (by simp))) ?_
        refine DR.go fun K hK => ?_
        simp [g1, g2, hws]
        try (simp (disch := omega) only [wrap_id])
        refine hK _ _ _ _ ?_; clear hK K
        change Run _ _ _ _ _ _ _ _
        repeat (first | refine Run.seq ?_ | refine Run.block ?_ | refine Run.skip ?_ | refine Run.inBlock ?_ | refine Run.opsNil ?_)
        repeat (first | refine Run.seq ?_ | refine Run.block ?_ | refine Run.skip ?_ | refine Run.inBlock ?_ | refine Run.opsNil ?_)
        refine Run.reg fun K hK => ?_
        simp
        try (simp (disch := omega) only [wrap_id])
        refine hK _ _ _ ?_; clear hK K
        repeat (first | refine Run.seq ?_ | refine Run.block ?_ | refine Run.skip ?_ | refine Run.inBlock ?_ | refine Run.opsNil ?_)
        refine Run.call (args := [.ptr id 0, (Tm.mk xk xi xn xls xks).av, iA depth, iA 0, iA 0]) rfl (by first | rfl | simp) (by simp) rfl (hsh _ ((hh.set (by simp)).app (by simp)) (g4 _ _)) ?_ ?_
        rotate_left
        · rintro v h' ⟨hv, _⟩; cases hv
        rintro v h' ⟨hv, rfl⟩
        simp only [AOut.ret.injEq] at hv
        subst hv
        simp only [g5]
        refine Run.ops fun K hK => ?_
        simp
        try (simp (disch := omega) only [wrap_id])
        refine hK _ _ _ ?_; clear hK K
        repeat (first | refine Run.seq ?_ | refine Run.block ?_ | refine Run.skip ?_ | refine Run.inBlock ?_ | refine Run.opsNil ?_)
        refine Run.ret ?_
        refine Fin.ret' (h0 := h.set id (wk (errIf bad err) (nodes + z))) (by simp) (by simp) (hh.set (by simp)) rfl (by simp; rfl) rfl (Weak.of_eq (by simp)) (by simp) ⟨rfl, rfl⟩
      | none =>
        rw [hx] at hr
        simp only at hr
        rw [List.getElem?_eq_none_iff] at hx
        have hlt2 : ¬ i - depth < vs.length := by omega
        have hwl : IntKind.i64.wrap (i - vs.length) = i - vs.length := wrap_id (by omega) (by omega)
        repeat (first | refine Run.seq ?_ | refine Run.block ?_ | refine Run.skip ?_ | refine Run.inBlock ?_ | refine Run.opsNil ?_)
        refine Run.reg fun K hK => ?_
        simp [hdi, hwi, hlt2]
        try (simp (disch := omega) only [wrap_id])
        refine hK _ _ _ ?_; clear hK K
        repeat (first | refine Run.seq ?_ | refine Run.block ?_ | refine Run.skip ?_ | refine Run.inBlock ?_ | refine Run.opsNil ?_)
        repeat (first | refine Run.seq ?_ | refine Run.block ?_ | refine Run.skip ?_ | refine Run.inBlock ?_ | refine Run.opsNil ?_)
        refine Run.cond (b := false) (by simp) ?_
        simp only [Bool.false_eq_true, if_false]
        repeat (first | refine Run.seq ?_ | refine Run.block ?_ | refine Run.skip ?_ | refine Run.inBlock ?_ | refine Run.opsNil ?_)
        repeat (first | refine Run.seq ?_ | refine Run.block ?_ | refine Run.skip ?_ | refine Run.inBlock ?_ | refine Run.opsNil ?_)
        refine Run.reg fun K hK => ?_
        simp [g1, g2, hw1]
        try (simp (disch := omega) only [wrap_id])
        refine hK _ _ _ ?_; clear hK K
        repeat (first | refine Run.seq ?_ | refine Run.block ?_ | refine Run.skip ?_ | refine Run.inBlock ?_ | refine Run.opsNil ?_)
        repeat (first | refine Run.seq ?_ | refine Run.block ?_ | refine Run.skip ?_ | refine Run.inBlock ?_ | refine Run.opsNil ?_)
        refine Run.reg fun K hK => ?_
        simp
        try (simp (disch := omega) only [wrap_id])
        refine hK _ _ _ ?_; clear hK K
        repeat (first | refine Run.seq ?_ | refine Run.block ?_ | refine Run.skip ?_ | refine Run.inBlock ?_ | refine Run.opsNil ?_)
        repeat (first | refine Run.seq ?_ | refine Run.block ?_ | refine Run.skip ?_ | refine Run.inBlock ?_ | refine Run.opsNil ?_)
        refine Run.cond (b := true) (by simp) ?_
        simp only [if_true]
        repeat (first | refine Run.seq ?_ | refine Run.block ?_ | refine Run.skip ?_ | refine Run.inBlock ?_ | refine Run.opsNil ?_)
        repeat (first | refine Run.seq ?_ | refine Run.block ?_ | refine Run.skip ?_ | refine Run.inBlock ?_ | refine Run.opsNil ?_)
        refine Run.reg fun K hK => ?_
        simp
        try (simp (disch := omega) only [wrap_id])
        refine hK _ _ _ ?_; clear hK K
        repeat (first | refine Run.seq ?_ | refine Run.block ?_ | refine Run.skip ?_ | refine Run.inBlock ?_ | refine Run.opsNil ?_)
        repeat (first | refine Run.seq ?_ | refine Run.block ?_ | refine Run.skip ?_ | refine Run.inBlock ?_ | refine Run.opsNil ?_)
        refine Run.cond (b := true) (by simp [hdi]) ?_
        simp only [if_true]
        repeat (first | refine Run.seq ?_ | refine Run.block ?_ | refine Run.skip ?_ | refine Run.inBlock ?_ | refine Run.opsNil ?_)
        repeat (first | refine Run.seq ?_ | refine Run.block ?_ | refine Run.skip ?_ | refine Run.inBlock ?_ | refine Run.opsNil ?_)
        refine Run.reg fun K hK => ?_
        simp [hwl]
        try (simp (disch := omega) only [wrap_id])
        refine hK _ _ _ ?_; clear hK K
        repeat (first | refine Run.seq ?_ | refine Run.block ?_ | refine Run.skip ?_ | refine Run.inBlock ?_ | refine Run.opsNil ?_)
        generalize i - (vs.length : Int) = z at hr
        subst hr
        refine Run.call (args := [.ptr id 0, iA z]) rfl (by first | rfl | simp) (by simp) rfl (variable_any _ ((hh.set (by simp)).app (by simp)) id err (nodes + 1) z (g4 _ _)) ?_ ?_
        rotate_left
        · rintro v h' ⟨hv, _⟩; cases hv
        rintro v h' ⟨hv, rfl⟩
        simp only [AOut.ret.injEq] at hv
        subst hv
        simp only [g5]
        refine Run.ops fun K hK => ?_
        simp [vr]
        try (simp (disch := omega) only [wrap_id])
        refine hK _ _ _ ?_; clear hK K
        repeat (first | refine Run.seq ?_ | refine Run.block ?_ | refine Run.skip ?_ | refine Run.inBlock ?_ | refine Run.opsNil ?_)
        refine Run.ret ?_
        refine Fin.ret' (h0 := h.set id (wk (if 65535 < z then firstErr err 24 else err) (nodes + 1))) (by simp) (by simp) (hh.set (by simp)) rfl (by simp; rfl) rfl (Weak.of_eq (by simp [vr])) (by simp) ⟨rfl, by simp [errIf]⟩
    · rw [if_neg hdi] at hr
      subst hr
      repeat (first | refine Run.seq ?_ | refine Run.block ?_ | refine Run.skip ?_ | refine Run.inBlock ?_ | refine Run.opsNil ?_)
      refine Run.reg fun K hK => ?_
      simp [hdi]
      try (simp (disch := omega) only [wrap_id])
      refine hK _ _ _ ?_; clear hK K
      repeat (first | refine Run.seq ?_ | refine Run.block ?_ | refine Run.skip ?_ | refine Run.inBlock ?_ | refine Run.opsNil ?_)
      repeat (first | refine Run.seq ?_ | refine Run.block ?_ | refine Run.skip ?_ | refine Run.inBlock ?_ | refine Run.opsNil ?_)
      refine Run.cond (b := false) (by simp) ?_
      simp only [Bool.false_eq_true, if_false]
      repeat (first | refine Run.seq ?_ | refine Run.block ?_ | refine Run.skip ?_ | refine Run.inBlock ?_ | refine Run.opsNil ?_)
      repeat (first | refine Run.seq ?_ | refine Run.block ?_ | refine Run.skip ?_ | refine Run.inBlock ?_ | refine Run.opsNil ?_)
      refine Run.reg fun K hK => ?_
      simp [g1, g2, hw1]
      try (simp (disch := omega) only [wrap_id])
      refine hK _ _ _ ?_; clear hK K
      repeat (first | refine Run.seq ?_ | refine Run.block ?_ | refine Run.skip ?_ | refine Run.inBlock ?_ | refine Run.opsNil ?_)
      repeat (first | refine Run.seq ?_ | refine Run.block ?_ | refine Run.skip ?_ | refine Run.inBlock ?_ | refine Run.opsNil ?_)
      refine Run.reg fun K hK => ?_
      simp
      try (simp (disch := omega) only [wrap_id])
      refine hK _ _ _ ?_; clear hK K
      repeat (first | refine Run.seq ?_ | refine Run.block ?_ | refine Run.skip ?_ | refine Run.inBlock ?_ | refine Run.opsNil ?_)
      repeat (first | refine Run.seq ?_ | refine Run.block ?_ | refine Run.skip ?_ | refine Run.inBlock ?_ | refine Run.opsNil ?_)
      refine Run.cond (b := true) (by simp) ?_
      simp only [if_true]
      repeat (first | refine Run.seq ?_ | refine Run.block ?_ | refine Run.skip ?_ | refine Run.inBlock ?_ | refine Run.opsNil ?_)
      repeat (first | refine Run.seq ?_ | refine Run.block ?_ | refine Run.skip ?_ | refine Run.inBlock ?_ | refine Run.opsNil ?_)
      refine Run.reg fun K hK => ?_
      simp
      try (simp (disch := omega) only [wrap_id])
      refine hK _ _ _ ?_; clear hK K
      repeat (first | refine Run.seq ?_ | refine Run.block ?_ | refine Run.skip ?_ | refine Run.inBlock ?_ | refine Run.opsNil ?_)
      repeat (first | refine Run.seq ?_ | refine Run.block ?_ | refine Run.skip ?_ | refine Run.inBlock ?_ | refine Run.opsNil ?_)
      refine Run.cond (b := false) (by simp [hdi]) ?_
      simp only [Bool.false_eq_true, if_false]
      repeat (first | refine Run.seq ?_ | refine Run.block ?_ | refine Run.skip ?_ | refine Run.inBlock ?_ | refine Run.opsNil ?_)
      repeat (first | refine Run.seq ?_ | refine Run.block ?_ | refine Run.skip ?_ | refine Run.inBlock ?_ | refine Run.opsNil ?_)
      refine Run.reg fun K hK => ?_
      simp
      try (simp (disch := omega) only [wrap_id])
      refine hK _ _ _ ?_; clear hK K
      repeat (first | refine Run.seq ?_ | refine Run.block ?_ | refine Run.skip ?_ | refine Run.inBlock ?_ | refine Run.opsNil ?_)
      refine Run.ret ?_
      refine Fin.ret' (h0 := h.set id (wk err (nodes + 1))) (by simp) (by simp) (hh.set (by simp)) rfl (by simp; rfl) rfl (Weak.of_eq (by simp)) (by simp) ⟨rfl, rfl⟩
  · rw [if_neg hk0] at hr
    subst hr
    have hkb : (k == 0) = false := by simpa using hk0
    repeat (first | refine Run.seq ?_ | refine Run.block ?_ | refine Run.skip ?_ | refine Run.inBlock ?_ | refine Run.opsNil ?_)
    refine Run.reg fun K hK => ?_
    simp [hkb]
    try (simp (disch := omega) only [wrap_id])
    refine hK _ _ _ ?_; clear hK K
    repeat (first | refine Run.seq ?_ | refine Run.block ?_ | refine Run.skip ?_ | refine Run.inBlock ?_ | refine Run.opsNil ?_)
    repeat (first | refine Run.seq ?_ | refine Run.block ?_ | refine Run.skip ?_ | refine Run.inBlock ?_ | refine Run.opsNil ?_)
    refine Run.cond (b := false) (by simp) ?_
    simp only [Bool.false_eq_true, if_false]
    repeat (first | refine Run.seq ?_ | refine Run.block ?_ | refine Run.skip ?_ | refine Run.inBlock ?_ | refine Run.opsNil ?_)
    repeat (first | refine Run.seq ?_ | refine Run.block ?_ | refine Run.skip ?_ | refine Run.inBlock ?_ | refine Run.opsNil ?_)
    refine Run.reg fun K hK => ?_
    simp [g1, g2, hw1]
    try (simp (disch := omega) only [wrap_id])
    refine hK _ _ _ ?_; clear hK K
    repeat (first | refine Run.seq ?_ | refine Run.block ?_ | refine Run.skip ?_ | refine Run.inBlock ?_ | refine Run.opsNil ?_)
    repeat (first | refine Run.seq ?_ | refine Run.block ?_ | refine Run.skip ?_ | refine Run.inBlock ?_ | refine Run.opsNil ?_)
    refine Run.reg fun K hK => ?_
    simp
    try (simp (disch := omega) only [wrap_id])
    refine hK _ _ _ ?_; clear hK K
    repeat (first | refine Run.seq ?_ | refine Run.block ?_ | refine Run.skip ?_ | refine Run.inBlock ?_ | refine Run.opsNil ?_)
    repeat (first | refine Run.seq ?_ | refine Run.block ?_ | refine Run.skip ?_ | refine Run.inBlock ?_ | refine Run.opsNil ?_)
    refine Run.cond (b := false) (by simp [hk0]) ?_
    simp only [Bool.false_eq_true, if_false]
    repeat (first | refine Run.seq ?_ | refine Run.block ?_ | refine Run.skip ?_ | refine Run.inBlock ?_ | refine Run.opsNil ?_)
    repeat (first | refine Run.seq ?_ | refine Run.block ?_ | refine Run.skip ?_ | refine Run.inBlock ?_ | refine Run.opsNil ?_)
    refine Run.reg fun K hK => ?_
    simp
    try (simp (disch := omega) only [wrap_id])
    refine hK _ _ _ ?_; clear hK K
    repeat (first | refine Run.seq ?_ | refine Run.block ?_ | refine Run.skip ?_ | refine Run.inBlock ?_ | refine Run.opsNil ?_)
    repeat (first | refine Run.seq ?_ | refine Run.block ?_ | refine Run.skip ?_ | refine Run.inBlock ?_ | refine Run.opsNil ?_)
    refine Run.reg fun K hK => ?_
    simp
    try (simp (disch := omega) only [wrap_id])
    refine hK _ _ _ ?_; clear hK K
    repeat (first | refine Run.seq ?_ | refine Run.block ?_ | refine Run.skip ?_ | refine Run.inBlock ?_ | refine Run.opsNil ?_)
    refine Run.tok 10 5 (by simp) ?_
    simp
    refine Run.loopS [0, 2, 3, 5, 8] (fun j : Nat => j ≤ ks.length) (fun j => ks.length - j) (fun j => [(10, .own (h.length + 2) 5 (tmPs (rsubL vs err (nodes + 1) depth k 0 (ks.take j)).1)), (11, iA j)])
      (fun j => h.set id (wk (rsubL vs err (nodes + 1) depth k 0 (ks.take j)).2.1 (rsubL vs err (nodes + 1) depth k 0 (ks.take j)).2.2) ++ [some (.cells [iA k, iA i, .p (sP n), .p (.sl 2 (lvPs ls)), .p (.sl 5 (tmPs ks))]), some (.cells zTm), some (.tok j 5)])
      0 (by simp) ?_ ?_ ?_
    · simp [rsubL, tmPs]
      repeat' (first | exact WeakL.nil | apply WeakL.cons)
      all_goals first | exact Weak.junk _ | exact Weak.refl _ | exact Weak.nil _ | exact Weak.own _ _ _ | exact Weak.int (by omega)
    · simp [rsubL]
    · intro j hj IH
      simp
      repeat (first | refine Run.seq ?_ | refine Run.block ?_ | refine Run.skip ?_ | refine Run.inBlock ?_ | refine Run.opsNil ?_)
      refine Run.reg fun K hK => ?_
      simp
      try (simp (disch := omega) only [wrap_id])
      refine hK _ _ _ ?_; clear hK K
      repeat (first | refine Run.seq ?_ | refine Run.block ?_ | refine Run.skip ?_ | refine Run.inBlock ?_ | refine Run.opsNil ?_)
      by_cases hjl : j < ks.length
      · repeat (first | refine Run.seq ?_ | refine Run.block ?_ | refine Run.skip ?_ | refine Run.inBlock ?_ | refine Run.opsNil ?_)
        refine Run.cond (b := true) (by simp [hjl]) ?_
        simp only [if_true]
        repeat (first | refine Run.seq ?_ | refine Run.block ?_ | refine Run.skip ?_ | refine Run.inBlock ?_ | refine Run.opsNil ?_)
        have hg : ks[j]? = some ks[j] := List.getElem?_eq_getElem hjl
        have hbz := belowZ_01 k j
        have hs := sizes_take ks j _ hg
        have hs2 := sizes_take_le ks (j + 1)
        have hs3 := length_le_sizes ks
        have hnn := rsubL_nn vs (ks.take j) err (nodes + 1) depth k 0 (by omega)
        have hlen := rsubL_length vs depth k (ks.take j) err (nodes + 1) 0
        have hsn := rsubL_snoc vs depth k (ks.take j) err (nodes + 1) 0 ks[j]
        have hmin : min j ks.length = j := Nat.min_eq_left hj
        simp only [List.length_take, hmin, Nat.zero_add] at hsn hlen
        have htk : ks.take (j + 1) = ks.take j ++ [ks[j]] := List.take_succ_eq_append_getElem hjl
        rw [← htk] at hsn
        generalize rsubL vs err (nodes + 1) depth k 0 (ks.take j) = R0 at hnn hlen hsn
        obtain ⟨l0, e0, n0⟩ := R0
        simp only at hnn hlen hsn
        have hcall := fun (g : Heap) (hg : WF g) (hy : g[id]? = some (wk e0 n0)) => ih ks[j] (depth + belowZ k j) e0 n0 g id (by omega) (by omega) (Tm.idxs_at hidx.2 _ (List.getElem_mem hjl)) (by omega) (by omega) hnn hg hy
        generalize rsub vs e0 n0 (depth + belowZ k j) ks[j] = R1 at hsn hcall
        obtain ⟨t1, e1, n1⟩ := R1
        simp only at hsn hcall
        repeat (first | refine Run.seq ?_ | refine Run.block ?_ | refine Run.skip ?_ | refine Run.inBlock ?_ | refine Run.opsNil ?_)
        refine Run.draw [0, 0, 0, 0, 0, 0, 0, 0, 0, 0, 0, 0, 0, 1, 1, 2, 2, 3] [0, 0, 0, 0, 0, 0, 0, 0, 0, 0, 0, 0, 0, 0, 1, 0, 2, 0] [0, 0, 0, 4, 0, 28, 60, 0, 0, 0, 512, 0, 3584, 7936, 16382, 32766, 65535, 131071] [9, 10, 11, 12, 1, 2, 3, 4, 5, 6, 7, 8, 13, 14, 0, 15, 16, 17] (by kernel_rfl) (by kernel_rfl) ?_
        refine DR.go fun K hK => ?_
        simp
        try (simp (disch := omega) only [wrap_id])
        refine hK _ _ _ _ ?_; clear hK K
        refine DR.call (args := [iA k, iA j]) rfl rfl rfl (by simp) rfl (below_any _ (WF.app (WF.set hh (by simp)) (by simp)) k j) ?_
        refine DR.go fun K hK => ?_
        simp [hg]
        try (simp (disch := omega) only [wrap_id])
        refine hK _ _ _ _ ?_; clear hK K
        refine DR.call (args := [.ptr id 0, ks[j].av, .p (.sl 5 (tmPs vs)), iA (depth + belowZ k j)]) rfl rfl rfl (by simp) rfl (hcall _ (WF.app (WF.set hh (by simp)) (by simp)) (g4 _ _)) ?_
        have hb1 : (j + 1) * 80 ≤ 140737488355328 := by omega
        have hb2 : j + 1 ≤ 9223372036854775807 := by omega
        refine DR.go fun K hK => ?_
        simp [g5, hlen, hb1, hb2]
        try (simp (disch := omega) only [wrap_id])
        refine hK _ _ _ _ ?_; clear hK K
        change Run _ _ _ _ _ _ _ _
        repeat (first | refine Run.seq ?_ | refine Run.block ?_ | refine Run.skip ?_ | refine Run.inBlock ?_ | refine Run.opsNil ?_)
        repeat (first | refine Run.seq ?_ | refine Run.block ?_ | refine Run.skip ?_ | refine Run.inBlock ?_ | refine Run.opsNil ?_)
        refine Run.reg fun K hK => ?_
        simp
        try (simp (disch := omega) only [wrap_id])
        refine hK _ _ _ ?_; clear hK K
        repeat (first | refine Run.seq ?_ | refine Run.block ?_ | refine Run.skip ?_ | refine Run.inBlock ?_ | refine Run.opsNil ?_)
        refine IH (j + 1) _ _ (by omega) (by omega) ?_ ?_
        · rw [hsn, tmPs_snoc]
          simp
          repeat' (first | exact WeakL.nil | apply WeakL.cons)
          all_goals first | exact Weak.junk _ | exact Weak.refl _ | exact Weak.nil _ | exact Weak.own _ _ _ | exact Weak.int (by omega)
        · rw [hsn]
      · have hje : j = ks.length := by omega
        subst hje
        repeat (first | refine Run.seq ?_ | refine Run.block ?_ | refine Run.skip ?_ | refine Run.inBlock ?_ | refine Run.opsNil ?_)
        refine Run.cond (b := false) (by simp) ?_
        simp only [Bool.false_eq_true, if_false]
        repeat (first | refine Run.seq ?_ | refine Run.block ?_ | refine Run.skip ?_ | refine Run.inBlock ?_ | refine Run.opsNil ?_)
        repeat (first | refine Run.seq ?_ | refine Run.block ?_ | refine Run.skip ?_ | refine Run.inBlock ?_ | refine Run.opsNil ?_)
        refine Run.exit rfl ?_
        repeat (first | refine Run.seq ?_ | refine Run.block ?_ | refine Run.skip ?_ | refine Run.inBlock ?_ | refine Run.opsNil ?_)
        repeat (first | refine Run.seq ?_ | refine Run.block ?_ | refine Run.skip ?_ | refine Run.inBlock ?_ | refine Run.opsNil ?_)
        refine Run.reg fun K hK => ?_
        simp
        try (simp (disch := omega) only [wrap_id])
        refine hK _ _ _ ?_; clear hK K
        repeat (first | refine Run.seq ?_ | refine Run.block ?_ | refine Run.skip ?_ | refine Run.inBlock ?_ | refine Run.opsNil ?_)
        repeat (first | refine Run.seq ?_ | refine Run.block ?_ | refine Run.skip ?_ | refine Run.inBlock ?_ | refine Run.opsNil ?_)
        refine Run.reg fun K hK => ?_
        simp
        try (simp (disch := omega) only [wrap_id])
        refine hK _ _ _ ?_; clear hK K
        repeat (first | refine Run.seq ?_ | refine Run.block ?_ | refine Run.skip ?_ | refine Run.inBlock ?_ | refine Run.opsNil ?_)
        refine Run.ret ?_
        refine Fin.ret' (h0 := h.set id (wk (rsubL vs err (nodes + 1) depth k 0 ks).2.1 (rsubL vs err (nodes + 1) depth k 0 ks).2.2)) (by simp) (by simp) (hh.set (by simp)) rfl (by simp; rfl) rfl ?_ ?_ ⟨rfl, rfl⟩
        · refine Weak.agg ?_
          repeat' (first | exact WeakL.nil | apply WeakL.cons)
          all_goals first | exact Weak.junk _ | exact Weak.refl _ | exact Weak.nil _ | exact Weak.own _ _ _ | exact Weak.int (by omega)
        · simp

set_option maxRecDepth 8000 in
set_option maxHeartbeats 4000000 in
theorem refUnder_any (h : Heap) (hh : WF h) (t : Tm) (vs : List Tm) (dp : Int) (hvl : vs.length ≤ 1048576) (hvs : ∀ v ∈ vs, v.size ≤ 1048576 ∧ v.idx) (hsz : t.size ≤ 1048576) (hix : t.idx) (hout : (resRefUnder t vs dp).2 = 0 ∨ (resRefUnder t vs dp).2 = 7 → (rsub vs 0 0 (capD dp) t).1.size ≤ 1099511627776) :
    ACalls Try.prog 37 [t.av, .p (.sl 5 (tmPs vs)), iA dp] h fun o h' => o = .ret (.tup [(resRefUnder t vs dp).1.av, iA (resRefUnder t vs dp).2]) ∧ h' = h := by
  obtain ⟨r, hr⟩ : ∃ r, r = resRefUnder t vs dp := ⟨_, rfl⟩
  rw [← hr] at hout ⊢
  unfold resRefUnder at hr
  by_cases hd0 : dp < 0
  · rw [if_pos hd0] at hr
    subst hr
    obtain ⟨k, i, n, ls, ks⟩ := t
    refine ACalls.of_run Try.func37 rfl ?_
    simp only [Try.ntmps37, List.length_cons, List.length_nil, Tm.av, cells_mk, List.map]
    repeat (first | refine Run.seq ?_ | refine Run.block ?_ | refine Run.skip ?_ | refine Run.inBlock ?_ | refine Run.opsNil ?_)
    repeat (first | refine Run.seq ?_ | refine Run.block ?_ | refine Run.skip ?_ | refine Run.inBlock ?_ | refine Run.opsNil ?_)
    refine Run.reg fun K hK => ?_
    simp
    try (simp (disch := omega) only [wrap_id])
    refine hK _ _ _ ?_; clear hK K
    repeat (first | refine Run.seq ?_ | refine Run.block ?_ | refine Run.skip ?_ | refine Run.inBlock ?_ | refine Run.opsNil ?_)
    repeat (first | refine Run.seq ?_ | refine Run.block ?_ | refine Run.skip ?_ | refine Run.inBlock ?_ | refine Run.opsNil ?_)
    refine Run.reg fun K hK => ?_
    simp
    try (simp (disch := omega) only [wrap_id])
    refine hK _ _ _ ?_; clear hK K
    repeat (first | refine Run.seq ?_ | refine Run.block ?_ | refine Run.skip ?_ | refine Run.inBlock ?_ | refine Run.opsNil ?_)
    repeat (first | refine Run.seq ?_ | refine Run.block ?_ | refine Run.skip ?_ | refine Run.inBlock ?_ | refine Run.opsNil ?_)
    refine Run.cond (b := true) (by simp [hd0]) ?_
    simp only [if_true]
    repeat (first | refine Run.seq ?_ | refine Run.block ?_ | refine Run.skip ?_ | refine Run.inBlock ?_ | refine Run.opsNil ?_)
    repeat (first | refine Run.seq ?_ | refine Run.block ?_ | refine Run.skip ?_ | refine Run.inBlock ?_ | refine Run.opsNil ?_)
    refine Run.reg fun K hK => ?_
    simp
    try (simp (disch := omega) only [wrap_id])
    refine hK _ _ _ ?_; clear hK K
    repeat (first | refine Run.seq ?_ | refine Run.block ?_ | refine Run.skip ?_ | refine Run.inBlock ?_ | refine Run.opsNil ?_)
    refine Run.ret ?_
    refine Fin.ret' (h0 := h) (xs := [.agg zTm, iA 2]) (by simp) rfl hh rfl (by simp) rfl (Weak.tup (WeakL.cons Weak.zT (WeakL.refl _))) (by simp) ⟨rfl, rfl⟩
  rw [if_neg hd0] at hr
  have hcap : 0 ≤ capD dp ∧ capD dp ≤ 65536 := by unfold capD; split <;> omega
  have hw := fun (g : Heap) (hg : WF g) (id : Nat) (hid : g[id]? = some (wk 0 0)) => wsub_any vs hvl hvs t.size t (capD dp) 0 0 g id (Nat.le_refl _) hsz hix hcap.1 (by omega) (by omega) hg hid
  generalize rsub vs 0 0 (capD dp) t = R at hr hw hout
  obtain ⟨q, e, nn⟩ := R
  simp only at hr hw hout
  have hmin : (if (65536 : Int) < dp then (65536 : Int) else dp) = capD dp := rfl
  generalize capD dp = dd at hw hmin
  have hdep := fun (g : Heap) (hg : WF g) (hs : q.size ≤ 1099511627776) => depth_any q.size q g (Nat.le_refl _) hs hg
  generalize q.depth = qd at hr hdep
  obtain ⟨k, i, n, ls, ks⟩ := t
  generalize hqs : q.size = qsz at hout hdep
  obtain ⟨qk, qi, qn, qls, qks⟩ := q
  refine ACalls.of_run Try.func37 rfl ?_
  simp only [Try.ntmps37, List.length_cons, List.length_nil, Tm.av, cells_mk, List.map]
  repeat (first | refine Run.seq ?_ | refine Run.block ?_ | refine Run.skip ?_ | refine Run.inBlock ?_ | refine Run.opsNil ?_)
  repeat (first | refine Run.seq ?_ | refine Run.block ?_ | refine Run.skip ?_ | refine Run.inBlock ?_ | refine Run.opsNil ?_)
  refine Run.reg fun K hK => ?_
  simp
  try (simp (disch := omega) only [wrap_id])
  refine hK _ _ _ ?_; clear hK K
  repeat (first | refine Run.seq ?_ | refine Run.block ?_ | refine Run.skip ?_ | refine Run.inBlock ?_ | refine Run.opsNil ?_)
  repeat (first | refine Run.seq ?_ | refine Run.block ?_ | refine Run.skip ?_ | refine Run.inBlock ?_ | refine Run.opsNil ?_)
  refine Run.reg fun K hK => ?_
  simp
  try (simp (disch := omega) only [wrap_id])
  refine hK _ _ _ ?_; clear hK K
  repeat (first | refine Run.seq ?_ | refine Run.block ?_ | refine Run.skip ?_ | refine Run.inBlock ?_ | refine Run.opsNil ?_)
  repeat (first | refine Run.seq ?_ | refine Run.block ?_ | refine Run.skip ?_ | refine Run.inBlock ?_ | refine Run.opsNil ?_)
  refine Run.cond (b := false) (by simp [hd0]) ?_
  simp only [Bool.false_eq_true, if_false]
  repeat (first | refine Run.seq ?_ | refine Run.block ?_ | refine Run.skip ?_ | refine Run.inBlock ?_ | refine Run.opsNil ?_)
  repeat (first | refine Run.seq ?_ | refine Run.block ?_ | refine Run.skip ?_ | refine Run.inBlock ?_ | refine Run.opsNil ?_)
  refine Run.reg fun K hK => ?_
  simp
  try (simp (disch := omega) only [wrap_id])
  refine hK _ _ _ ?_; clear hK K
  repeat (first | refine Run.seq ?_ | refine Run.block ?_ | refine Run.skip ?_ | refine Run.inBlock ?_ | refine Run.opsNil ?_)
  repeat (first | refine Run.seq ?_ | refine Run.block ?_ | refine Run.skip ?_ | refine Run.inBlock ?_ | refine Run.opsNil ?_)
  refine Run.reg fun K hK => ?_
  simp [hmin]
  try (simp (disch := omega) only [wrap_id])
  refine hK _ _ _ ?_; clear hK K
  repeat (first | refine Run.seq ?_ | refine Run.block ?_ | refine Run.skip ?_ | refine Run.inBlock ?_ | refine Run.opsNil ?_)
  refine Run.call (args := [.ptr (h.length + 2) 0, (Tm.mk k i n ls ks).av, .p (.sl 5 (tmPs vs)), iA dd]) rfl (by first | rfl | simp) (by simp) rfl (hw _ (hh.app (by simp)) (h.length + 2) (by simp)) ?_ ?_
  rotate_left
  · rintro v h' ⟨hv, _⟩; cases hv
  rintro v h' ⟨hv, rfl⟩
  simp only [AOut.ret.injEq] at hv
  subst hv
  refine Run.ops fun K hK => ?_
  simp
  try (simp (disch := omega) only [wrap_id])
  refine hK _ _ _ ?_; clear hK K
  repeat (first | refine Run.seq ?_ | refine Run.block ?_ | refine Run.skip ?_ | refine Run.inBlock ?_ | refine Run.opsNil ?_)
  repeat (first | refine Run.seq ?_ | refine Run.block ?_ | refine Run.skip ?_ | refine Run.inBlock ?_ | refine Run.opsNil ?_)
  refine Run.reg fun K hK => ?_
  simp
  try (simp (disch := omega) only [wrap_id])
  refine hK _ _ _ ?_; clear hK K
  repeat (first | refine Run.seq ?_ | refine Run.block ?_ | refine Run.skip ?_ | refine Run.inBlock ?_ | refine Run.opsNil ?_)
  by_cases h4 : 4096 < nn
  · rw [if_pos h4] at hr
    subst hr
    repeat (first | refine Run.seq ?_ | refine Run.block ?_ | refine Run.skip ?_ | refine Run.inBlock ?_ | refine Run.opsNil ?_)
    refine Run.cond (b := true) (by simp [h4]) ?_
    simp only [if_true]
    repeat (first | refine Run.seq ?_ | refine Run.block ?_ | refine Run.skip ?_ | refine Run.inBlock ?_ | refine Run.opsNil ?_)
    repeat (first | refine Run.seq ?_ | refine Run.block ?_ | refine Run.skip ?_ | refine Run.inBlock ?_ | refine Run.opsNil ?_)
    refine Run.reg fun K hK => ?_
    simp
    try (simp (disch := omega) only [wrap_id])
    refine hK _ _ _ ?_; clear hK K
    repeat (first | refine Run.seq ?_ | refine Run.block ?_ | refine Run.skip ?_ | refine Run.inBlock ?_ | refine Run.opsNil ?_)
    refine Run.ret ?_
    refine Fin.ret' (h0 := h) (xs := [.agg zTm, iA 5]) (by simp) rfl hh rfl (by simp) rfl (Weak.tup (WeakL.cons Weak.zT (WeakL.refl _))) (by simp) ⟨rfl, rfl⟩
  rw [if_neg h4] at hr
  repeat (first | refine Run.seq ?_ | refine Run.block ?_ | refine Run.skip ?_ | refine Run.inBlock ?_ | refine Run.opsNil ?_)
  refine Run.cond (b := false) (by simp [h4]) ?_
  simp only [Bool.false_eq_true, if_false]
  repeat (first | refine Run.seq ?_ | refine Run.block ?_ | refine Run.skip ?_ | refine Run.inBlock ?_ | refine Run.opsNil ?_)
  repeat (first | refine Run.seq ?_ | refine Run.block ?_ | refine Run.skip ?_ | refine Run.inBlock ?_ | refine Run.opsNil ?_)
  refine Run.reg fun K hK => ?_
  simp
  try (simp (disch := omega) only [wrap_id])
  refine hK _ _ _ ?_; clear hK K
  repeat (first | refine Run.seq ?_ | refine Run.block ?_ | refine Run.skip ?_ | refine Run.inBlock ?_ | refine Run.opsNil ?_)
  by_cases h5 : e = 0
  · rw [if_neg (by simp [h5])] at hr
    repeat (first | refine Run.seq ?_ | refine Run.block ?_ | refine Run.skip ?_ | refine Run.inBlock ?_ | refine Run.opsNil ?_)
    refine Run.cond (b := false) (by simp [h5]) ?_
    simp only [Bool.false_eq_true, if_false]
    repeat (first | refine Run.seq ?_ | refine Run.block ?_ | refine Run.skip ?_ | refine Run.inBlock ?_ | refine Run.opsNil ?_)
    have hqb : qsz ≤ 1099511627776 := by
      apply hout
      rw [hr]
      by_cases h7 : 200 < (qd : Int)
      · rw [if_pos h7]; exact .inr rfl
      · rw [if_neg h7]; exact .inl rfl
    repeat (first | refine Run.seq ?_ | refine Run.block ?_ | refine Run.skip ?_ | refine Run.inBlock ?_ | refine Run.opsNil ?_)
    refine Run.reg fun K hK => ?_
    simp
    try (simp (disch := omega) only [wrap_id])
    refine hK _ _ _ ?_; clear hK K
    repeat (first | refine Run.seq ?_ | refine Run.block ?_ | refine Run.skip ?_ | refine Run.inBlock ?_ | refine Run.opsNil ?_)
    refine Run.call (args := [(Tm.mk qk qi qn qls qks).av]) rfl (by first | rfl | simp) (by simp) rfl (hdep _ (hh.app (by simp)) hqb) ?_ ?_
    rotate_left
    · rintro v h' ⟨hv, _⟩; cases hv
    rintro v h' ⟨hv, rfl⟩
    simp only [AOut.ret.injEq] at hv
    subst hv
    refine Run.ops fun K hK => ?_
    simp
    try (simp (disch := omega) only [wrap_id])
    refine hK _ _ _ ?_; clear hK K
    repeat (first | refine Run.seq ?_ | refine Run.block ?_ | refine Run.skip ?_ | refine Run.inBlock ?_ | refine Run.opsNil ?_)
    by_cases h7 : 200 < (qd : Int)
    · rw [if_pos h7] at hr
      subst hr
      repeat (first | refine Run.seq ?_ | refine Run.block ?_ | refine Run.skip ?_ | refine Run.inBlock ?_ | refine Run.opsNil ?_)
      refine Run.cond (b := true) (by simp [h7]) ?_
      simp only [if_true]
      repeat (first | refine Run.seq ?_ | refine Run.block ?_ | refine Run.skip ?_ | refine Run.inBlock ?_ | refine Run.opsNil ?_)
      repeat (first | refine Run.seq ?_ | refine Run.block ?_ | refine Run.skip ?_ | refine Run.inBlock ?_ | refine Run.opsNil ?_)
      refine Run.reg fun K hK => ?_
      simp
      try (simp (disch := omega) only [wrap_id])
      refine hK _ _ _ ?_; clear hK K
      repeat (first | refine Run.seq ?_ | refine Run.block ?_ | refine Run.skip ?_ | refine Run.inBlock ?_ | refine Run.opsNil ?_)
      refine Run.ret ?_
      refine Fin.ret' (h0 := h) (xs := [.agg zTm, iA 7]) (by simp) rfl hh rfl (by simp) rfl (Weak.tup (WeakL.cons Weak.zT (WeakL.refl _))) (by simp) ⟨rfl, rfl⟩
    · rw [if_neg h7] at hr
      subst hr
      repeat (first | refine Run.seq ?_ | refine Run.block ?_ | refine Run.skip ?_ | refine Run.inBlock ?_ | refine Run.opsNil ?_)
      refine Run.cond (b := false) (by simp [h7]) ?_
      simp only [Bool.false_eq_true, if_false]
      repeat (first | refine Run.seq ?_ | refine Run.block ?_ | refine Run.skip ?_ | refine Run.inBlock ?_ | refine Run.opsNil ?_)
      repeat (first | refine Run.seq ?_ | refine Run.block ?_ | refine Run.skip ?_ | refine Run.inBlock ?_ | refine Run.opsNil ?_)
      refine Run.reg fun K hK => ?_
      simp
      try (simp (disch := omega) only [wrap_id])
      refine hK _ _ _ ?_; clear hK K
      repeat (first | refine Run.seq ?_ | refine Run.block ?_ | refine Run.skip ?_ | refine Run.inBlock ?_ | refine Run.opsNil ?_)
      refine Run.ret ?_
      refine Fin.ret' (h0 := h) (by simp) rfl hh rfl (by simp; rfl) rfl (Weak.refl _) (by simp) ⟨rfl, rfl⟩
  · rw [if_pos h5] at hr
    subst hr
    repeat (first | refine Run.seq ?_ | refine Run.block ?_ | refine Run.skip ?_ | refine Run.inBlock ?_ | refine Run.opsNil ?_)
    refine Run.cond (b := true) (by simp [h5]) ?_
    simp only [if_true]
    repeat (first | refine Run.seq ?_ | refine Run.block ?_ | refine Run.skip ?_ | refine Run.inBlock ?_ | refine Run.opsNil ?_)
    repeat (first | refine Run.seq ?_ | refine Run.block ?_ | refine Run.skip ?_ | refine Run.inBlock ?_ | refine Run.opsNil ?_)
    refine Run.draw [0, 0, 0, 0, 0, 0, 1] [0, 0, 0, 0, 0, 0, 0] [0, 0, 2, 6, 14, 1, 63] [0, 5, 1, 2, 3, 4, 6] (by kernel_rfl) (by kernel_rfl) ?_
    refine DR.go fun K hK => ?_
    simp
    try (simp (disch := omega) only [wrap_id])
    refine hK _ _ _ _ ?_; clear hK K
    change Run _ _ _ _ _ _ _ _
    repeat (first | refine Run.seq ?_ | refine Run.block ?_ | refine Run.skip ?_ | refine Run.inBlock ?_ | refine Run.opsNil ?_)
    refine Run.ret ?_
    refine Fin.ret' (h0 := h) (xs := [.agg zTm, iA e]) (by simp) rfl hh rfl (by simp) rfl (Weak.tup (WeakL.cons Weak.zT (WeakL.refl _))) (by simp) ⟨rfl, rfl⟩

set_option maxRecDepth 8000 in
theorem refSubst_any (h : Heap) (hh : WF h) (t : Tm) (vs : List Tm) (r : Tm × Int) (hc : ∀ g : Heap, WF g → ACalls Try.prog 37 [t.av, .p (.sl 5 (tmPs vs)), iA 0] g fun o h' => o = .ret (.tup [r.1.av, iA r.2]) ∧ h' = g) :
    ACalls Try.prog 35 [t.av, .p (.sl 5 (tmPs vs))] h fun o h' => o = .ret (.tup [r.1.av, iA r.2]) ∧ h' = h := by
  obtain ⟨t2, e⟩ := r
  obtain ⟨k, i, nm, ls, ks⟩ := t
  obtain ⟨k2, i2, nm2, ls2, ks2⟩ := t2
  refine ACalls.of_run Try.func35 rfl ?_
  simp only [Try.ntmps35, List.length_cons, List.length_nil, Tm.av, cells_mk, List.map]
  repeat (first | refine Run.seq ?_ | refine Run.block ?_ | refine Run.skip ?_ | refine Run.inBlock ?_ | refine Run.opsNil ?_)
  repeat (first | refine Run.seq ?_ | refine Run.block ?_ | refine Run.skip ?_ | refine Run.inBlock ?_ | refine Run.opsNil ?_)
  refine Run.reg fun K hK => ?_
  simp
  try (simp (disch := omega) only [wrap_id])
  refine hK _ _ _ ?_; clear hK K
  repeat (first | refine Run.seq ?_ | refine Run.block ?_ | refine Run.skip ?_ | refine Run.inBlock ?_ | refine Run.opsNil ?_)
  repeat (first | refine Run.seq ?_ | refine Run.block ?_ | refine Run.skip ?_ | refine Run.inBlock ?_ | refine Run.opsNil ?_)
  refine Run.reg fun K hK => ?_
  simp
  try (simp (disch := omega) only [wrap_id])
  refine hK _ _ _ ?_; clear hK K
  repeat (first | refine Run.seq ?_ | refine Run.block ?_ | refine Run.skip ?_ | refine Run.inBlock ?_ | refine Run.opsNil ?_)
  refine Run.call (args := [(Tm.mk k i nm ls ks).av, .p (.sl 5 (tmPs vs)), iA 0]) rfl (by first | rfl | simp) (by simp) rfl (hc _ (hh.app (by simp))) ?_ ?_
  rotate_left
  · rintro v h' ⟨hv, _⟩; cases hv
  rintro v h' ⟨hv, rfl⟩
  simp only [AOut.ret.injEq] at hv
  subst hv
  refine Run.ops fun K hK => ?_
  simp
  try (simp (disch := omega) only [wrap_id])
  refine hK _ _ _ ?_; clear hK K
  repeat (first | refine Run.seq ?_ | refine Run.block ?_ | refine Run.skip ?_ | refine Run.inBlock ?_ | refine Run.opsNil ?_)
  refine Run.ret ?_
  refine Fin.ret' (h0 := h) (by simp) rfl hh rfl (by simp; rfl) rfl (Weak.refl _) (by simp) ⟨rfl, rfl⟩

end Go.Proofs.Ytppgpabjcenjdaa
