/-
  The reference's Abstract.
-/
import Derived.Test.YtppgpabjcenjdaaP2
namespace Go.Proofs.Ytppgpabjcenjdaa
open Go Go.AI

set_option maxRecDepth 8000 in
set_option maxHeartbeats 8000000 in
theorem wabs_any (part : Tm) (hps : part.size ≤ 1048576) (hpi : part.idx) (N : Nat) :
    ∀ (t : Tm) (depth err nodes : Int) (h : Heap) (id : Nat), t.size ≤ N → t.size ≤ 1048576 → t.idx → t.lvs → 0 ≤ depth → depth + t.size ≤ 1048576 → 0 ≤ nodes → nodes + t.size ≤ 1099511627776 → WF h → h[id]? = some (wk err nodes) →
    ACalls Try.prog 112 [.ptr id 0, t.av, part.av, iA depth] h fun o h' => o = .ret (absT part depth t).av ∧ h' = h.set id (wk (errIf (absBad part depth t) err) (nodes + absCnt part depth t)) := by
  induction N with
  | zero => intro t _ _ _ _ _ hN; have := t.size_pos; omega
  | succ N ih =>
  intro t depth err nodes h id hN hB hidx hlv hdp hdB hn0 hnB hh hid
  obtain ⟨g1, g2, g3, g4, g5, hlt⟩ := idf hid
  have hshift := fun (g : Heap) (hg : WF g) (y : Nat) (hy : g[y]? = some (wk 0 0)) => wshift_any depth 0 (by omega) (by omega) (by omega) (by omega) 0 part.size part 0 0 g y (Nat.le_refl _) hps hpi (by omega) (by omega) hg hy
  obtain ⟨q, hq⟩ : ∃ q, shiftT depth 0 0 part = q := ⟨_, rfl⟩
  have hhit : absHit part t depth = (!shiftBad depth 0 0 part && sameT t q) := by rw [← hq]; rfl
  rw [hq] at hshift
  generalize shiftBad depth 0 0 part = bad at hshift hhit
  have hsame := fun (g : Heap) (hg : WF g) => same_any t.size t q g (Nat.le_refl _) (by omega) hlv hg
  obtain ⟨r, hr⟩ : ∃ r, r = absT part depth t := ⟨_, rfl⟩
  obtain ⟨rb, hrb⟩ : ∃ r, r = absBad part depth t := ⟨_, rfl⟩
  obtain ⟨rc, hrc⟩ : ∃ r, r = absCnt part depth t := ⟨_, rfl⟩
  rw [← hr, ← hrb, ← hrc]
  obtain ⟨k, i, n, ls, ks⟩ := t
  obtain ⟨pk, pi, pn, pls, pks⟩ := part
  obtain ⟨qk, qi, qn, qls, qks⟩ := q
  simp only [absT, absBad, absCnt] at hr hrb hrc
  rw [hhit] at hr hrb hrc
  simp only [Tm.size] at hN hB hdB hnB
  simp only [Tm.idx] at hidx
  simp only [Tm.lvs] at hlv
  refine ACalls.of_run Try.func112 rfl ?_
  simp only [Try.ntmps112, List.length_cons, List.length_nil, Tm.av, cells_mk, List.map]
  repeat (first | refine Run.seq ?_ | refine Run.block ?_ | refine Run.skip ?_ | refine Run.inBlock ?_ | refine Run.opsNil ?_)
  repeat (first | refine Run.seq ?_ | refine Run.block ?_ | refine Run.skip ?_ | refine Run.inBlock ?_ | refine Run.opsNil ?_)
  refine Run.reg fun K hK => ?_
  simp
  try (simp (disch := omega) only [wrap_id])
  refine hK _ _ _ ?_; clear hK K
  repeat (first | refine Run.seq ?_ | refine Run.block ?_ | refine Run.skip ?_ | refine Run.inBlock ?_ | refine Run.opsNil ?_)
  repeat (first | refine Run.seq ?_ | refine Run.block ?_ | refine Run.skip ?_ | refine Run.inBlock ?_ | refine Run.opsNil ?_)
  refine Run.reg fun K hK => ?_
  simp
  try (simp (disch := omega) only [wrap_id])
  refine hK _ _ _ ?_; clear hK K
  repeat (first | refine Run.seq ?_ | refine Run.block ?_ | refine Run.skip ?_ | refine Run.inBlock ?_ | refine Run.opsNil ?_)
  repeat (first | refine Run.seq ?_ | refine Run.block ?_ | refine Run.skip ?_ | refine Run.inBlock ?_ | refine Run.opsNil ?_)
  refine Run.reg fun K hK => ?_
  simp
  try (simp (disch := omega) only [wrap_id])
  refine hK _ _ _ ?_; clear hK K
  repeat (first | refine Run.seq ?_ | refine Run.block ?_ | refine Run.skip ?_ | refine Run.inBlock ?_ | refine Run.opsNil ?_)
  refine Run.call (args := [.ptr (h.length + 3) 0, (Tm.mk pk pi pn pls pks).av, iA depth, iA 0, iA 0]) rfl rfl (by simp) rfl (hshift _ (hh.app (by simp)) (h.length + 3) (by simp)) ?_ ?_
  rotate_left
  · rintro v h' ⟨hv, _⟩; cases hv
  rintro v h' ⟨hv, rfl⟩
  simp only [AOut.ret.injEq] at hv
  subst hv
  refine Run.ops fun K hK => ?_
  simp
  try (simp (disch := omega) only [wrap_id])
  refine hK _ _ _ ?_; clear hK K
  repeat (first | refine Run.seq ?_ | refine Run.block ?_ | refine Run.skip ?_ | refine Run.inBlock ?_ | refine Run.opsNil ?_)
  by_cases hc : bad = false ∧ sameT (.mk k i n ls ks) (.mk qk qi qn qls qks) = true
  · obtain ⟨rfl, hsm⟩ := hc
    rw [hsm] at hsame hr hrb hrc
    simp only [Bool.not_false, Bool.and_self, if_true] at hr hrb hrc
    subst hr
    subst hrb
    subst hrc
    have hw1 : IntKind.i64.wrap (nodes + 1) = nodes + 1 := wrap_id (by omega) (by omega)
    repeat (first | refine Run.seq ?_ | refine Run.block ?_ | refine Run.skip ?_ | refine Run.inBlock ?_ | refine Run.opsNil ?_)
    refine Run.reg fun K hK => ?_
    simp [errIf]
    try (simp (disch := omega) only [wrap_id])
    refine hK _ _ _ ?_; clear hK K
    repeat (first | refine Run.seq ?_ | refine Run.block ?_ | refine Run.skip ?_ | refine Run.inBlock ?_ | refine Run.opsNil ?_)
    refine Run.call (args := [(Tm.mk k i n ls ks).av, (Tm.mk qk qi qn qls qks).av]) rfl (by simp) (by simp) rfl (hsame _ (hh.app (by simp))) ?_ ?_
    rotate_left
    · rintro v h' ⟨hv, _⟩; cases hv
    rintro v h' ⟨hv, rfl⟩
    simp only [AOut.ret.injEq] at hv
    subst hv
    refine Run.ops fun K hK => ?_
    simp
    try (simp (disch := omega) only [wrap_id])
    refine hK _ _ _ ?_; clear hK K
    repeat (first | refine Run.seq ?_ | refine Run.block ?_ | refine Run.skip ?_ | refine Run.inBlock ?_ | refine Run.opsNil ?_)
    repeat (first | refine Run.seq ?_ | refine Run.block ?_ | refine Run.skip ?_ | refine Run.inBlock ?_ | refine Run.opsNil ?_)
    refine Run.cond (b := true) (by simp) ?_
    simp only [if_true]
    repeat (first | refine Run.seq ?_ | refine Run.block ?_ | refine Run.skip ?_ | refine Run.inBlock ?_ | refine Run.opsNil ?_)
    repeat (first | refine Run.seq ?_ | refine Run.block ?_ | refine Run.skip ?_ | refine Run.inBlock ?_ | refine Run.opsNil ?_)
    refine Run.reg fun K hK => ?_
    simp [g1, g2, hw1]
    try (simp (disch := omega) only [wrap_id])
    refine hK _ _ _ ?_; clear hK K
    repeat (first | refine Run.seq ?_ | refine Run.block ?_ | refine Run.skip ?_ | refine Run.inBlock ?_ | refine Run.opsNil ?_)
    repeat (first | refine Run.seq ?_ | refine Run.block ?_ | refine Run.skip ?_ | refine Run.inBlock ?_ | refine Run.opsNil ?_)
    refine Run.reg fun K hK => ?_
    simp
    try (simp (disch := omega) only [wrap_id])
    refine hK _ _ _ ?_; clear hK K
    repeat (first | refine Run.seq ?_ | refine Run.block ?_ | refine Run.skip ?_ | refine Run.inBlock ?_ | refine Run.opsNil ?_)
    refine Run.call (args := [.ptr id 0, iA depth]) rfl rfl (by simp) rfl (variable_any _ (WF.app (WF.set hh (by simp)) (by simp)) id err (nodes + 1) depth (g4 _ _)) ?_ ?_
    rotate_left
    · rintro v h' ⟨hv, _⟩; cases hv
    rintro v h' ⟨hv, rfl⟩
    simp only [AOut.ret.injEq] at hv
    subst hv
    simp only [g5]
    refine Run.ops fun K hK => ?_
    simp [vr]
    try (simp (disch := omega) only [wrap_id])
    refine hK _ _ _ ?_; clear hK K
    repeat (first | refine Run.seq ?_ | refine Run.block ?_ | refine Run.skip ?_ | refine Run.inBlock ?_ | refine Run.opsNil ?_)
    refine Run.ret ?_
    refine Fin.ret' (h0 := h.set id (wk (if 65535 < depth then firstErr err 24 else err) (nodes + 1))) (by simp) (by simp) (hh.set (by simp)) rfl (by simp; rfl) rfl (Weak.of_eq (by simp [vr])) (by simp) ⟨rfl, by simp [errIf]⟩
  have hif : (!bad && sameT (.mk k i n ls ks) (.mk qk qi qn qls qks)) = false := by
    cases bad with
    | true => rfl
    | false => simpa using hc
  rw [hif] at hr hrb hrc
  simp only [Bool.false_eq_true, if_false] at hr hrb hrc
  refine Run.joinH [0, 3, 5, 6, 8] [(28, bA false)] (h ++ [some (.cells [iA k, iA i, .p (sP n), .p (.sl 2 (lvPs ls)), .p (.sl 5 (tmPs ks))]), some (.cells [iA pk, iA pi, .p (sP pn), .p (.sl 2 (lvPs pls)), .p (.sl 5 (tmPs pks))]), some (.cells zTm)]) (fun hJ => ?_) ?_
  · cases bad with
    | true =>
      repeat (first | refine Run.seq ?_ | refine Run.block ?_ | refine Run.skip ?_ | refine Run.inBlock ?_ | refine Run.opsNil ?_)
      refine Run.reg fun K hK => ?_
      simp [errIf, firstErr]
      try (simp (disch := omega) only [wrap_id])
      refine hK _ _ _ ?_; clear hK K
      repeat (first | refine Run.skip ?_ | refine Run.opsNil ?_ | refine Run.inBlock ?_)
      refine Run.keep [0, 3, 5, 6, 8, 28] ?_
      simp
      refine Run.cutAt 3 hh rfl (by omega) (by simp) (by simp; omega) (by simp) (by simp [underD]) ?_
      refine hJ _ ?_
      simp
      repeat' (first | exact WeakL.nil | apply WeakL.cons)
      all_goals first | exact Weak.junk _ | exact Weak.refl _ | exact Weak.nil _ | exact Weak.own _ _ _ | exact Weak.int (by omega)
    | false =>
      have hsm : sameT (.mk k i n ls ks) (.mk qk qi qn qls qks) = false := by
        cases hs : sameT (.mk k i n ls ks) (.mk qk qi qn qls qks) with
        | false => rfl
        | true => exact absurd ⟨rfl, hs⟩ hc
      rw [hsm] at hsame
      repeat (first | refine Run.seq ?_ | refine Run.block ?_ | refine Run.skip ?_ | refine Run.inBlock ?_ | refine Run.opsNil ?_)
      refine Run.reg fun K hK => ?_
      simp [errIf]
      try (simp (disch := omega) only [wrap_id])
      refine hK _ _ _ ?_; clear hK K
      repeat (first | refine Run.skip ?_ | refine Run.opsNil ?_ | refine Run.inBlock ?_)
      refine Run.call (args := [(Tm.mk k i n ls ks).av, (Tm.mk qk qi qn qls qks).av]) rfl (by simp) (by simp) rfl (hsame _ (hh.app (by simp))) ?_ ?_
      rotate_left
      · rintro v h' ⟨hv, _⟩; cases hv
      rintro v h' ⟨hv, rfl⟩
      simp only [AOut.ret.injEq] at hv
      subst hv
      refine Run.ops fun K hK => ?_
      simp
      try (simp (disch := omega) only [wrap_id])
      refine hK _ _ _ ?_; clear hK K
      repeat (first | refine Run.skip ?_ | refine Run.opsNil ?_ | refine Run.inBlock ?_)
      refine Run.keep [0, 3, 5, 6, 8, 28] ?_
      simp
      refine Run.cutAt 3 hh rfl (by omega) (by simp) (by simp; omega) (by simp) (by simp [underD]) ?_
      refine hJ _ ?_
      simp
      repeat' (first | exact WeakL.nil | apply WeakL.cons)
      all_goals first | exact Weak.junk _ | exact Weak.refl _ | exact Weak.nil _ | exact Weak.own _ _ _ | exact Weak.int (by omega)
  simp
  repeat (first | refine Run.seq ?_ | refine Run.block ?_ | refine Run.skip ?_ | refine Run.inBlock ?_ | refine Run.opsNil ?_)
  refine Run.cond (b := false) (by simp) ?_
  simp only [Bool.false_eq_true, if_false]
  repeat (first | refine Run.seq ?_ | refine Run.block ?_ | refine Run.skip ?_ | refine Run.inBlock ?_ | refine Run.opsNil ?_)
  repeat (first | refine Run.seq ?_ | refine Run.block ?_ | refine Run.skip ?_ | refine Run.inBlock ?_ | refine Run.opsNil ?_)
  refine Run.reg fun K hK => ?_
  simp
  try (simp (disch := omega) only [wrap_id])
  refine hK _ _ _ ?_; clear hK K
  repeat (first | refine Run.seq ?_ | refine Run.block ?_ | refine Run.skip ?_ | refine Run.inBlock ?_ | refine Run.opsNil ?_)
  by_cases hk0 : k = 0
  · subst hk0
    simp only [if_true] at hr hrb hrc
    obtain ⟨hi1, hi2⟩ := hidx.1 rfl
    repeat (first | refine Run.seq ?_ | refine Run.block ?_ | refine Run.skip ?_ | refine Run.inBlock ?_ | refine Run.opsNil ?_)
    refine Run.cond (b := true) (by simp) ?_
    simp only [if_true]
    repeat (first | refine Run.seq ?_ | refine Run.block ?_ | refine Run.skip ?_ | refine Run.inBlock ?_ | refine Run.opsNil ?_)
    repeat (first | refine Run.seq ?_ | refine Run.block ?_ | refine Run.skip ?_ | refine Run.inBlock ?_ | refine Run.opsNil ?_)
    refine Run.reg fun K hK => ?_
    simp
    try (simp (disch := omega) only [wrap_id])
    refine hK _ _ _ ?_; clear hK K
    repeat (first | refine Run.seq ?_ | refine Run.block ?_ | refine Run.skip ?_ | refine Run.inBlock ?_ | refine Run.opsNil ?_)
    by_cases hdi : depth ≤ i
    · simp only [hdi, if_true, decide_true, Bool.true_and] at hr hrb
      subst hr
      subst hrb
      subst hrc
      repeat (first | refine Run.seq ?_ | refine Run.block ?_ | refine Run.skip ?_ | refine Run.inBlock ?_ | refine Run.opsNil ?_)
      refine Run.cond (b := true) (by simp [hdi]) ?_
      simp only [if_true]
      repeat (first | refine Run.seq ?_ | refine Run.block ?_ | refine Run.skip ?_ | refine Run.inBlock ?_ | refine Run.opsNil ?_)
      repeat (first | refine Run.seq ?_ | refine Run.block ?_ | refine Run.skip ?_ | refine Run.inBlock ?_ | refine Run.opsNil ?_)
      refine Run.reg fun K hK => ?_
      simp
      try (simp (disch := omega) only [wrap_id])
      refine hK _ _ _ ?_; clear hK K
      repeat (first | refine Run.seq ?_ | refine Run.block ?_ | refine Run.skip ?_ | refine Run.inBlock ?_ | refine Run.opsNil ?_)
      refine Run.call (args := [.ptr id 0, iA (i + 1)]) rfl (by first | rfl | simp) (by simp) rfl (variable_any _ (hh.app (by simp)) id err nodes (i + 1) (g1 _)) ?_ ?_
      rotate_left
      · rintro v h' ⟨hv, _⟩; cases hv
      rintro v h' ⟨hv, rfl⟩
      simp only [AOut.ret.injEq] at hv
      subst hv
      simp only [g2]
      generalize hz : i + 1 = z
      refine Run.ops fun K hK => ?_
      simp [vr]
      try (simp (disch := omega) only [wrap_id])
      refine hK _ _ _ ?_; clear hK K
      repeat (first | refine Run.seq ?_ | refine Run.block ?_ | refine Run.skip ?_ | refine Run.inBlock ?_ | refine Run.opsNil ?_)
      refine Run.ret ?_
      refine Fin.ret' (h0 := h.set id (wk (if 65535 < z then firstErr err 24 else err) nodes)) (by simp) (by simp) (hh.set (by simp)) rfl (by simp; rfl) rfl (Weak.of_eq (by simp [vr])) (by simp) ⟨rfl, by simp [errIf]⟩
    · simp only [hdi, if_false, decide_false, Bool.false_and] at hr hrb
      subst hr
      subst hrb
      subst hrc
      repeat (first | refine Run.seq ?_ | refine Run.block ?_ | refine Run.skip ?_ | refine Run.inBlock ?_ | refine Run.opsNil ?_)
      refine Run.cond (b := false) (by simp [hdi]) ?_
      simp only [Bool.false_eq_true, if_false]
      repeat (first | refine Run.seq ?_ | refine Run.block ?_ | refine Run.skip ?_ | refine Run.inBlock ?_ | refine Run.opsNil ?_)
      repeat (first | refine Run.seq ?_ | refine Run.block ?_ | refine Run.skip ?_ | refine Run.inBlock ?_ | refine Run.opsNil ?_)
      refine Run.reg fun K hK => ?_
      simp
      try (simp (disch := omega) only [wrap_id])
      refine hK _ _ _ ?_; clear hK K
      repeat (first | refine Run.seq ?_ | refine Run.block ?_ | refine Run.skip ?_ | refine Run.inBlock ?_ | refine Run.opsNil ?_)
      refine Run.ret ?_
      refine Fin.ret' (h0 := h) (by simp) rfl hh rfl (by simp; rfl) rfl (Weak.of_eq (by simp)) (by simp) ⟨rfl, by simp [errIf, set_same hid]⟩
  · simp only [hk0, if_false] at hr hrb hrc
    subst hr
    subst hrb
    subst hrc
    repeat (first | refine Run.seq ?_ | refine Run.block ?_ | refine Run.skip ?_ | refine Run.inBlock ?_ | refine Run.opsNil ?_)
    refine Run.cond (b := false) (by simp [hk0]) ?_
    simp only [Bool.false_eq_true, if_false]
    repeat (first | refine Run.seq ?_ | refine Run.block ?_ | refine Run.skip ?_ | refine Run.inBlock ?_ | refine Run.opsNil ?_)
    repeat (first | refine Run.seq ?_ | refine Run.block ?_ | refine Run.skip ?_ | refine Run.inBlock ?_ | refine Run.opsNil ?_)
    refine Run.reg fun K hK => ?_
    simp
    try (simp (disch := omega) only [wrap_id])
    refine hK _ _ _ ?_; clear hK K
    repeat (first | refine Run.seq ?_ | refine Run.block ?_ | refine Run.skip ?_ | refine Run.inBlock ?_ | refine Run.opsNil ?_)
    repeat (first | refine Run.seq ?_ | refine Run.block ?_ | refine Run.skip ?_ | refine Run.inBlock ?_ | refine Run.opsNil ?_)
    refine Run.reg fun K hK => ?_
    simp
    try (simp (disch := omega) only [wrap_id])
    refine hK _ _ _ ?_; clear hK K
    repeat (first | refine Run.seq ?_ | refine Run.block ?_ | refine Run.skip ?_ | refine Run.inBlock ?_ | refine Run.opsNil ?_)
    refine Run.tok 11 5 (by simp) ?_
    simp
    refine Run.loopS [0, 3, 5, 6, 8] (fun j : Nat => j ≤ ks.length) (fun j => ks.length - j) (fun j => [(11, .own (h.length + 3) 5 (tmPs (absL (Tm.mk pk pi pn pls pks) depth k 0 (ks.take j)))), (12, iA j)])
      (fun j => h.set id (wk (errIf (absBads (Tm.mk pk pi pn pls pks) depth k 0 (ks.take j)) err) (nodes + absCnts (Tm.mk pk pi pn pls pks) depth k 0 (ks.take j))) ++ [some (.cells [iA k, iA i, .p (sP n), .p (.sl 2 (lvPs ls)), .p (.sl 5 (tmPs ks))]), some (.cells [iA pk, iA pi, .p (sP pn), .p (.sl 2 (lvPs pls)), .p (.sl 5 (tmPs pks))]), some (.cells zTm), some (.tok j 5)])
      0 (by simp) ?_ ?_ ?_
    · simp [absL, tmPs]
      repeat' (first | exact WeakL.nil | apply WeakL.cons)
      all_goals first | exact Weak.junk _ | exact Weak.refl _ | exact Weak.nil _ | exact Weak.own _ _ _ | exact Weak.int (by omega)
    · simp [absBads, absCnts, errIf, set_same hid]
    · intro j hj IH
      simp
      repeat (first | refine Run.seq ?_ | refine Run.block ?_ | refine Run.skip ?_ | refine Run.inBlock ?_ | refine Run.opsNil ?_)
      refine Run.reg fun K hK => ?_
      simp
      try (simp (disch := omega) only [wrap_id])
      refine hK _ _ _ ?_; clear hK K
      repeat (first | refine Run.seq ?_ | refine Run.block ?_ | refine Run.skip ?_ | refine Run.inBlock ?_ | refine Run.opsNil ?_)
      by_cases hjl : j < ks.length
      · repeat (first | refine Run.seq ?_ | refine Run.block ?_ | refine Run.skip ?_ | refine Run.inBlock ?_ | refine Run.opsNil ?_)
        refine Run.cond (b := true) (by simp [hjl]) ?_
        simp only [if_true]
        repeat (first | refine Run.seq ?_ | refine Run.block ?_ | refine Run.skip ?_ | refine Run.inBlock ?_ | refine Run.opsNil ?_)
        have hg : ks[j]? = some ks[j] := List.getElem?_eq_getElem hjl
        have hbz := belowZ_01 k j
        have hs := sizes_take ks j _ hg
        have hs2 := sizes_take_le ks (j + 1)
        have hs3 := length_le_sizes ks
        have hcl := absCnts_le (Tm.mk pk pi pn pls pks) (ks.take j) depth k 0
        have hcn0 : (0 : Int) ≤ absCnts (Tm.mk pk pi pn pls pks) depth k 0 (ks.take j) := by omega
        have hst := sizes_take_le ks j
        repeat (first | refine Run.seq ?_ | refine Run.block ?_ | refine Run.skip ?_ | refine Run.inBlock ?_ | refine Run.opsNil ?_)
        refine Run.draw [0, 0, 0, 0, 0, 0, 0, 0, 0, 0, 0, 0, 0, 1, 1, 2, 2, 3] [0, 0, 0, 0, 0, 0, 0, 0, 0, 0, 0, 0, 0, 0, 1, 0, 2, 0] [0, 0, 0, 4, 0, 28, 60, 0, 0, 0, 512, 0, 3584, 7936, 16382, 32766, 65535, 131071] [9, 10, 11, 12, 1, 2, 3, 4, 5, 6, 7, 8, 13, 14, 0, 15, 16, 17] (by kernel_rfl) (by kernel_rfl) ?_
        refine DR.go fun K hK => ?_
        simp
        try (simp (disch := omega) only [wrap_id])
        refine hK _ _ _ _ ?_; clear hK K
        refine DR.call (args := [iA k, iA j]) rfl rfl rfl (by simp) rfl (below_any _ (WF.app (WF.set hh (by simp)) (by simp)) k j) ?_
        refine DR.go fun K hK => ?_
        simp [hg]
        try (simp (disch := omega) only [wrap_id])
        refine hK _ _ _ _ ?_; clear hK K
        refine DR.call (args := [.ptr id 0, ks[j].av, (Tm.mk pk pi pn pls pks).av, iA (depth + belowZ k j)]) rfl rfl rfl (by simp) rfl (ih ks[j] (depth + belowZ k j) (errIf (absBads (Tm.mk pk pi pn pls pks) depth k 0 (ks.take j)) err) (nodes + absCnts (Tm.mk pk pi pn pls pks) depth k 0 (ks.take j)) _ id (by omega) (by omega) (Tm.idxs_at hidx.2 _ (List.getElem_mem hjl)) (Tm.lvss_at hlv.2.2 _ (List.getElem_mem hjl)) (by omega) (by omega) (by omega) (by omega) (WF.app (WF.set hh (by simp)) (by simp)) (g4 _ _)) ?_
        have hmin : min j ks.length = j := Nat.min_eq_left hj
        have hb1 : (j + 1) * 80 ≤ 140737488355328 := by omega
        have hb2 : j + 1 ≤ 9223372036854775807 := by omega
        refine DR.go fun K hK => ?_
        simp [g5, absL_length, hmin, hb1, hb2]
        try (simp (disch := omega) only [wrap_id])
        refine hK _ _ _ _ ?_; clear hK K
        change Run _ _ _ _ _ _ _ _
        repeat (first | refine Run.seq ?_ | refine Run.block ?_ | refine Run.skip ?_ | refine Run.inBlock ?_ | refine Run.opsNil ?_)
        repeat (first | refine Run.seq ?_ | refine Run.block ?_ | refine Run.skip ?_ | refine Run.inBlock ?_ | refine Run.opsNil ?_)
        refine Run.reg fun K hK => ?_
        simp
        try (simp (disch := omega) only [wrap_id])
        refine hK _ _ _ ?_; clear hK K
        repeat (first | refine Run.seq ?_ | refine Run.block ?_ | refine Run.skip ?_ | refine Run.inBlock ?_ | refine Run.opsNil ?_)
        have htk : ks.take (j + 1) = ks.take j ++ [ks[j]] := List.take_succ_eq_append_getElem hjl
        refine IH (j + 1) _ _ (by omega) (by omega) ?_ ?_
        · rw [htk, absL_snoc, tmPs_snoc]
          simp [hmin]
          repeat' (first | exact WeakL.nil | apply WeakL.cons)
          all_goals first | exact Weak.junk _ | exact Weak.refl _ | exact Weak.nil _ | exact Weak.own _ _ _ | exact Weak.int (by omega)
        · rw [htk, absBads_snoc, absCnts_snoc, ← errIf_twice]
          simp only [List.length_take, hmin, Nat.zero_add]
          simp [Int.add_assoc]
      · have hje : j = ks.length := by omega
        subst hje
        repeat (first | refine Run.seq ?_ | refine Run.block ?_ | refine Run.skip ?_ | refine Run.inBlock ?_ | refine Run.opsNil ?_)
        refine Run.cond (b := false) (by simp) ?_
        simp only [Bool.false_eq_true, if_false]
        repeat (first | refine Run.seq ?_ | refine Run.block ?_ | refine Run.skip ?_ | refine Run.inBlock ?_ | refine Run.opsNil ?_)
        repeat (first | refine Run.seq ?_ | refine Run.block ?_ | refine Run.skip ?_ | refine Run.inBlock ?_ | refine Run.opsNil ?_)
        refine Run.exit rfl ?_
        repeat (first | refine Run.seq ?_ | refine Run.block ?_ | refine Run.skip ?_ | refine Run.inBlock ?_ | refine Run.opsNil ?_)
        repeat (first | refine Run.seq ?_ | refine Run.block ?_ | refine Run.skip ?_ | refine Run.inBlock ?_ | refine Run.opsNil ?_)
        refine Run.reg fun K hK => ?_
        simp
        try (simp (disch := omega) only [wrap_id])
        refine hK _ _ _ ?_; clear hK K
        repeat (first | refine Run.seq ?_ | refine Run.block ?_ | refine Run.skip ?_ | refine Run.inBlock ?_ | refine Run.opsNil ?_)
        repeat (first | refine Run.seq ?_ | refine Run.block ?_ | refine Run.skip ?_ | refine Run.inBlock ?_ | refine Run.opsNil ?_)
        refine Run.reg fun K hK => ?_
        simp
        try (simp (disch := omega) only [wrap_id])
        refine hK _ _ _ ?_; clear hK K
        repeat (first | refine Run.seq ?_ | refine Run.block ?_ | refine Run.skip ?_ | refine Run.inBlock ?_ | refine Run.opsNil ?_)
        refine Run.ret ?_
        refine Fin.ret' (h0 := h.set id (wk (errIf (absBads (Tm.mk pk pi pn pls pks) depth k 0 ks) err) (nodes + absCnts (Tm.mk pk pi pn pls pks) depth k 0 ks))) (by simp) (by simp) (hh.set (by simp)) rfl (by simp; rfl) rfl ?_ ?_ ⟨rfl, rfl⟩
        · refine Weak.agg ?_
          repeat' (first | exact WeakL.nil | apply WeakL.cons)
          all_goals first | exact Weak.junk _ | exact Weak.refl _ | exact Weak.nil _ | exact Weak.own _ _ _ | exact Weak.int (by omega)
        · simp

set_option maxRecDepth 8000 in
set_option maxHeartbeats 4000000 in
theorem refAbs_any (h : Heap) (hh : WF h) (t part : Tm) (hps : part.size ≤ 1048576) (hpi : part.idx) (hsz : t.size ≤ 1048576) (hix : t.idx) (hlv : t.lvs) :
    ACalls Try.prog 39 [t.av, part.av] h fun o h' => o = .ret (.tup [(resRefAbs t part).1.av, iA (resRefAbs t part).2.1, iA (resRefAbs t part).2.2]) ∧ h' = h := by
  have hw := fun (g : Heap) (hg : WF g) (id : Nat) (hid : g[id]? = some (wk 0 0)) => wabs_any part hps hpi t.size t 0 0 0 g id (Nat.le_refl _) hsz hix hlv (by omega) (by omega) (by omega) (by omega) hg hid
  obtain ⟨r, hr⟩ : ∃ r, r = resRefAbs t part := ⟨_, rfl⟩
  rw [← hr]
  unfold resRefAbs at hr
  generalize absBad part 0 t = bad at hr hw
  generalize absCnt part 0 t = cnt at hr hw
  generalize absT part 0 t = q at hr hw
  obtain ⟨k, i, n, ls, ks⟩ := t
  obtain ⟨pk, pi, pn, pls, pks⟩ := part
  obtain ⟨qk, qi, qn, qls, qks⟩ := q
  refine ACalls.of_run Try.func39 rfl ?_
  simp only [Try.ntmps39, List.length_cons, List.length_nil, Tm.av, cells_mk, List.map]
  repeat (first | refine Run.seq ?_ | refine Run.block ?_ | refine Run.skip ?_ | refine Run.inBlock ?_ | refine Run.opsNil ?_)
  repeat (first | refine Run.seq ?_ | refine Run.block ?_ | refine Run.skip ?_ | refine Run.inBlock ?_ | refine Run.opsNil ?_)
  refine Run.reg fun K hK => ?_
  simp
  try (simp (disch := omega) only [wrap_id])
  refine hK _ _ _ ?_; clear hK K
  repeat (first | refine Run.seq ?_ | refine Run.block ?_ | refine Run.skip ?_ | refine Run.inBlock ?_ | refine Run.opsNil ?_)
  repeat (first | refine Run.seq ?_ | refine Run.block ?_ | refine Run.skip ?_ | refine Run.inBlock ?_ | refine Run.opsNil ?_)
  refine Run.reg fun K hK => ?_
  simp
  try (simp (disch := omega) only [wrap_id])
  refine hK _ _ _ ?_; clear hK K
  repeat (first | refine Run.seq ?_ | refine Run.block ?_ | refine Run.skip ?_ | refine Run.inBlock ?_ | refine Run.opsNil ?_)
  repeat (first | refine Run.seq ?_ | refine Run.block ?_ | refine Run.skip ?_ | refine Run.inBlock ?_ | refine Run.opsNil ?_)
  refine Run.reg fun K hK => ?_
  simp
  try (simp (disch := omega) only [wrap_id])
  refine hK _ _ _ ?_; clear hK K
  repeat (first | refine Run.seq ?_ | refine Run.block ?_ | refine Run.skip ?_ | refine Run.inBlock ?_ | refine Run.opsNil ?_)
  refine Run.call (args := [.ptr (h.length + 3) 0, (Tm.mk k i n ls ks).av, (Tm.mk pk pi pn pls pks).av, iA 0]) rfl (by first | rfl | simp) (by simp) rfl (hw _ (hh.app (by simp)) (h.length + 3) (by simp)) ?_ ?_
  rotate_left
  · rintro v h' ⟨hv, _⟩; cases hv
  rintro v h' ⟨hv, rfl⟩
  simp only [AOut.ret.injEq] at hv
  subst hv
  refine Run.ops fun K hK => ?_
  simp
  try (simp (disch := omega) only [wrap_id])
  refine hK _ _ _ ?_; clear hK K
  repeat (first | refine Run.seq ?_ | refine Run.block ?_ | refine Run.skip ?_ | refine Run.inBlock ?_ | refine Run.opsNil ?_)
  cases bad with
  | true =>
    simp only [if_true] at hr
    subst hr
    repeat (first | refine Run.seq ?_ | refine Run.block ?_ | refine Run.skip ?_ | refine Run.inBlock ?_ | refine Run.opsNil ?_)
    refine Run.reg fun K hK => ?_
    simp [errIf, firstErr]
    try (simp (disch := omega) only [wrap_id])
    refine hK _ _ _ ?_; clear hK K
    repeat (first | refine Run.seq ?_ | refine Run.block ?_ | refine Run.skip ?_ | refine Run.inBlock ?_ | refine Run.opsNil ?_)
    repeat (first | refine Run.seq ?_ | refine Run.block ?_ | refine Run.skip ?_ | refine Run.inBlock ?_ | refine Run.opsNil ?_)
    refine Run.cond (b := true) (by simp) ?_
    simp only [if_true]
    repeat (first | refine Run.seq ?_ | refine Run.block ?_ | refine Run.skip ?_ | refine Run.inBlock ?_ | refine Run.opsNil ?_)
    repeat (first | refine Run.seq ?_ | refine Run.block ?_ | refine Run.skip ?_ | refine Run.inBlock ?_ | refine Run.opsNil ?_)
    refine Run.draw [0, 0, 0, 0, 0, 0, 1, 1] [0, 0, 0, 0, 0, 0, 0, 0] [0, 0, 2, 6, 14, 1, 33, 127] [0, 5, 1, 2, 3, 4, 6, 7] (by kernel_rfl) (by kernel_rfl) ?_
    refine DR.go fun K hK => ?_
    simp
    try (simp (disch := omega) only [wrap_id])
    refine hK _ _ _ _ ?_; clear hK K
    change Run _ _ _ _ _ _ _ _
    repeat (first | refine Run.seq ?_ | refine Run.block ?_ | refine Run.skip ?_ | refine Run.inBlock ?_ | refine Run.opsNil ?_)
    refine Run.ret ?_
    refine Fin.ret' (h0 := h) (xs := [.agg zTm, iA 0, iA 24]) (by simp) rfl hh rfl (by simp) rfl (Weak.tup (WeakL.cons Weak.zT (WeakL.refl _))) (by simp) ⟨rfl, rfl⟩
  | false =>
    simp only [Bool.false_eq_true, if_false] at hr
    subst hr
    repeat (first | refine Run.seq ?_ | refine Run.block ?_ | refine Run.skip ?_ | refine Run.inBlock ?_ | refine Run.opsNil ?_)
    refine Run.reg fun K hK => ?_
    simp [errIf]
    try (simp (disch := omega) only [wrap_id])
    refine hK _ _ _ ?_; clear hK K
    repeat (first | refine Run.seq ?_ | refine Run.block ?_ | refine Run.skip ?_ | refine Run.inBlock ?_ | refine Run.opsNil ?_)
    repeat (first | refine Run.seq ?_ | refine Run.block ?_ | refine Run.skip ?_ | refine Run.inBlock ?_ | refine Run.opsNil ?_)
    refine Run.cond (b := false) (by simp) ?_
    simp only [Bool.false_eq_true, if_false]
    repeat (first | refine Run.seq ?_ | refine Run.block ?_ | refine Run.skip ?_ | refine Run.inBlock ?_ | refine Run.opsNil ?_)
    repeat (first | refine Run.seq ?_ | refine Run.block ?_ | refine Run.skip ?_ | refine Run.inBlock ?_ | refine Run.opsNil ?_)
    refine Run.draw [0, 0, 0, 0, 0, 0, 1, 1] [0, 0, 0, 0, 0, 0, 0, 0] [0, 0, 2, 6, 14, 1, 63, 127] [0, 5, 1, 2, 3, 4, 6, 7] (by kernel_rfl) (by kernel_rfl) ?_
    refine DR.go fun K hK => ?_
    simp
    try (simp (disch := omega) only [wrap_id])
    refine hK _ _ _ _ ?_; clear hK K
    change Run _ _ _ _ _ _ _ _
    repeat (first | refine Run.seq ?_ | refine Run.block ?_ | refine Run.skip ?_ | refine Run.inBlock ?_ | refine Run.opsNil ?_)
    refine Run.ret ?_
    refine Fin.ret' (h0 := h) (by simp) rfl hh rfl (by simp; rfl) rfl (Weak.refl _) (by simp) ⟨by simp, rfl⟩

end Go.Proofs.Ytppgpabjcenjdaa
