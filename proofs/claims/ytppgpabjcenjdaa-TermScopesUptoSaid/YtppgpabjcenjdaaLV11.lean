/-
  euclidlaw03: the contract of TermScopes.
-/
import Derived.Test.YtppgpabjcenjdaaLV9
import Derived.Test.YtppgpabjcenjdaaLP14
namespace Go.Proofs.Ytppgpabjcenjdaa

open Go Go.AI

abbrev u8A (i : Int) : AV := .p (.prim (.int .u8 i))

set_option maxRecDepth 8000 in
set_option maxHeartbeats 16000000 in
theorem termScopes_any (h : Heap) (hh : WF h) (t : Tm) (v p m l a b c e : Int) (hsz : t.size ≤ 1048576) (hlv : t.lvs) (hfit : t.fit) (ha : 0 ≤ a ∧ a ≤ 255) (hb : 0 ≤ b ∧ b ≤ 255) (hc : 0 ≤ c ∧ c ≤ 255) (he : 0 ≤ e ∧ e ≤ 255) :
    ACalls Try.prog 24 [t.av, scA v p m l, .agg [u8A a, u8A b, u8A c, u8A e]] h fun o h' => o = .ret (bA true) ∧ h' = h := by
  have hmax : ∀ x : Int, (if x < 0 then 0 else x) = pos0 x := fun _ => rfl
  have hfew := fun (g : Heap) (hg : WF g) => few_any _ [t] g (Nat.le_refl _) (by simp [Tm.sizes]; omega) ⟨hlv, trivial⟩ hg
  have hck := fun (v p m l : Int) (hnm : t.nm) (g : Heap) (hg : WF g) => lawCheck_any g hg t v p m l hfit hnm (by omega)
  have hfree := fun (g : Heap) (hg : WF g) => free_any g hg t hfit (by omega)
  have hocc := fun (i : Int) (g : Heap) (hg : WF g) => occurs_any g hg t i (by omega)
  have hnm : fews [t] = true → t.nm := fews_nm
  have hasc := asc_freeZ t
  have hnn := freeZ_nn t
  have hll := add1_fold_len (frees 0 t) []
  have hl2 := frees_len t 0
  have hob := fun i => occB_free i t hfit
  have q1 := fun (h0 : checkZ v p m l t = 0) => freeZ_lt h0
  have q2 := fun (h0 : checkZ v p m l t = 0) => check_need h0
  have q3 := fun (h0 : checkZ v p m l t = 0) => check_less h0
  have q4 := fun (h0 : checkZ v p m l t = 0) => check_more h0 (v' := pos0 v + a) (p' := pos0 p + b) (m' := pos0 m + c) (l' := pos0 l + e) (by omega) (by omega) (by omega) (by omega)
  have q5 := need_free t
  rw [show (frees 0 t).foldl add1 [] = freeZ t from rfl] at hll
  generalize fews [t] = fb at hfew hnm
  obtain ⟨F, hF⟩ : ∃ F, freeZ t = F := ⟨_, rfl⟩
  rw [hF] at hasc hnn hll q1 q2 q3 q5
  simp only [hF] at hob hfree
  simp only [hob] at hocc
  simp only [List.length_nil, Nat.zero_add] at hll
  have hFl : F.length ≤ 1048576 := by omega
  obtain ⟨e0, hce⟩ : ∃ e0, checkZ v p m l t = e0 := ⟨_, rfl⟩
  have hck0 := hck v p m l
  rw [hce] at hck0 q1 q2 q3 q4
  obtain ⟨ZZ, hZZ⟩ : ∃ Z : Int → Int → Int → Int → Int, Z = fun v p m l => checkZ v p m l t := ⟨_, rfl⟩
  have hZ : ∀ v p m l, checkZ v p m l t = ZZ v p m l := fun _ _ _ _ => by rw [hZZ]
  simp only [hZ] at hck q2 q3 q4
  clear hce hZZ hZ hob hl2 hll hfit hlv
  obtain ⟨k, i, n, ls, ks⟩ := t
  clear hF
  simp only [tmPs, Tm.av, cells_mk, List.map] at hfew hck hck0 hfree hocc ⊢
  refine ACalls.of_run Try.func24 rfl ?_
  simp only [Try.ntmps24, List.length_cons, List.length_nil]
  repeat (first | refine Run.seq ?_ | refine Run.block ?_ | refine Run.skip ?_ | refine Run.inBlock ?_ | refine Run.opsNil ?_)
  repeat (first | refine Run.seq ?_ | refine Run.block ?_ | refine Run.skip ?_ | refine Run.inBlock ?_ | refine Run.opsNil ?_)
  refine Run.reg fun K hK => ?_
  simp
  try (simp (disch := omega) only [wrap_id])
  refine hK _ _ _ ?_; clear hK K
  repeat (first | refine Run.seq ?_ | refine Run.block ?_ | refine Run.skip ?_ | refine Run.inBlock ?_ | refine Run.opsNil ?_)
  repeat (first | refine Run.seq ?_ | refine Run.block ?_ | refine Run.skip ?_ | refine Run.inBlock ?_ | refine Run.opsNil ?_)
  refine Run.reg fun K hK => ?_
  simp
  try (simp (disch := omega) only [wrap_id])
  refine hK _ _ _ ?_; clear hK K
  repeat (first | refine Run.seq ?_ | refine Run.block ?_ | refine Run.skip ?_ | refine Run.inBlock ?_ | refine Run.opsNil ?_)
  refine Run.call rfl (by first | rfl | simp) (by simp) rfl (hfew _ (hh.app (by simp))) ?_ ?_
  rotate_left
  · rintro v h' ⟨hv, _⟩; cases hv
  rintro v h' ⟨hv, rfl⟩
  simp only [AOut.ret.injEq] at hv
  subst hv
  refine Run.opsPreJ 2 [3, 4, 5, 6] 17 (!fb) (fun K hK => ?_) ?_
  · simp only [List.take_succ_cons, List.take_zero]
    simp
    repeat' (first | apply And.intro | intro _)
    all_goals
      try (simp (disch := omega) only [wrap_id])
      refine hK _ ?_
      simp
      repeat' (first | exact WeakL.nil | apply WeakL.cons)
      all_goals first | exact Weak.junk _ | (refine Weak.bool ?_; clear hK K; rw [Bool.eq_iff_iff]; simp; done) | (refine Weak.bool ?_; clear hK K; rw [Bool.eq_iff_iff]; simp; omega) | (refine Weak.bool ?_; clear hK K; simp_all; done) | (refine Weak.bool ?_; clear hK K; simp [*]; done) | (refine Weak.bool ?_; clear hK K; rw [Bool.eq_iff_iff]; simp [*]; omega) | exact Weak.refl _
  simp only [setMany, keepT, List.drop_succ_cons, List.drop_zero]
  simp
  obtain ⟨b1, hb1⟩ : ∃ b1, b1 = !fb := ⟨_, rfl⟩
  rw [← hb1]
  refine Run.opsPreJ 5 [3, 4, 5, 6] 22 (b1 || decide (1000 < v)) (fun K hK => ?_) ?_
  · simp only [List.take_succ_cons, List.take_zero]
    simp
    repeat' (first | apply And.intro | intro _)
    all_goals
      try (simp (disch := omega) only [wrap_id])
      refine hK _ ?_
      simp
      repeat' (first | exact WeakL.nil | apply WeakL.cons)
      all_goals first | exact Weak.junk _ | (refine Weak.bool ?_; clear hK K; rw [Bool.eq_iff_iff]; simp; done) | (refine Weak.bool ?_; clear hK K; rw [Bool.eq_iff_iff]; simp; omega) | (refine Weak.bool ?_; clear hK K; simp_all; done) | (refine Weak.bool ?_; clear hK K; simp [*]; done) | (refine Weak.bool ?_; clear hK K; rw [Bool.eq_iff_iff]; simp [*]; omega) | exact Weak.refl _
  simp only [setMany, keepT, keepT.go, List.contains_cons, List.set_cons_succ, List.set_cons_zero, List.drop_succ_cons, List.drop_zero]
  simp
  obtain ⟨b2, hb2⟩ : ∃ b2, b2 = (b1 || decide (1000 < v)) := ⟨_, rfl⟩
  rw [← hb2]
  refine Run.opsPreJ 5 [3, 4, 5, 6] 27 (b2 || decide (1000 < p)) (fun K hK => ?_) ?_
  · simp only [List.take_succ_cons, List.take_zero]
    simp
    repeat' (first | apply And.intro | intro _)
    all_goals
      try (simp (disch := omega) only [wrap_id])
      refine hK _ ?_
      simp
      repeat' (first | exact WeakL.nil | apply WeakL.cons)
      all_goals first | exact Weak.junk _ | (refine Weak.bool ?_; clear hK K; rw [Bool.eq_iff_iff]; simp; done) | (refine Weak.bool ?_; clear hK K; rw [Bool.eq_iff_iff]; simp; omega) | (refine Weak.bool ?_; clear hK K; simp_all; done) | (refine Weak.bool ?_; clear hK K; simp [*]; done) | (refine Weak.bool ?_; clear hK K; rw [Bool.eq_iff_iff]; simp [*]; omega) | exact Weak.refl _
  simp only [setMany, keepT, keepT.go, List.contains_cons, List.set_cons_succ, List.set_cons_zero, List.drop_succ_cons, List.drop_zero]
  simp
  obtain ⟨b3, hb3⟩ : ∃ b3, b3 = (b2 || decide (1000 < p)) := ⟨_, rfl⟩
  rw [← hb3]
  refine Run.opsPreJ 5 [3, 4, 5, 6] 32 (b3 || decide (1000 < m)) (fun K hK => ?_) ?_
  · simp only [List.take_succ_cons, List.take_zero]
    simp
    repeat' (first | apply And.intro | intro _)
    all_goals
      try (simp (disch := omega) only [wrap_id])
      refine hK _ ?_
      simp
      repeat' (first | exact WeakL.nil | apply WeakL.cons)
      all_goals first | exact Weak.junk _ | (refine Weak.bool ?_; clear hK K; rw [Bool.eq_iff_iff]; simp; done) | (refine Weak.bool ?_; clear hK K; rw [Bool.eq_iff_iff]; simp; omega) | (refine Weak.bool ?_; clear hK K; simp_all; done) | (refine Weak.bool ?_; clear hK K; simp [*]; done) | (refine Weak.bool ?_; clear hK K; rw [Bool.eq_iff_iff]; simp [*]; omega) | exact Weak.refl _
  simp only [setMany, keepT, keepT.go, List.contains_cons, List.set_cons_succ, List.set_cons_zero, List.drop_succ_cons, List.drop_zero]
  simp
  obtain ⟨b4, hb4⟩ : ∃ b4, b4 = (b3 || decide (1000 < m)) := ⟨_, rfl⟩
  rw [← hb4]
  refine Run.opsPreJ 5 [3, 4, 5, 6] 37 (b4 || decide (1000 < l)) (fun K hK => ?_) ?_
  · simp only [List.take_succ_cons, List.take_zero]
    simp
    repeat' (first | apply And.intro | intro _)
    all_goals
      try (simp (disch := omega) only [wrap_id])
      refine hK _ ?_
      simp
      repeat' (first | exact WeakL.nil | apply WeakL.cons)
      all_goals first | exact Weak.junk _ | (refine Weak.bool ?_; clear hK K; rw [Bool.eq_iff_iff]; simp; done) | (refine Weak.bool ?_; clear hK K; rw [Bool.eq_iff_iff]; simp; omega) | (refine Weak.bool ?_; clear hK K; simp_all; done) | (refine Weak.bool ?_; clear hK K; simp [*]; done) | (refine Weak.bool ?_; clear hK K; rw [Bool.eq_iff_iff]; simp [*]; omega) | exact Weak.refl _
  simp only [setMany, keepT, keepT.go, List.contains_cons, List.set_cons_succ, List.set_cons_zero, List.drop_succ_cons, List.drop_zero]
  simp
  obtain ⟨b5, hb5⟩ : ∃ b5, b5 = (b4 || decide (1000 < l)) := ⟨_, rfl⟩
  rw [← hb5]
  cases b5 with
  | true =>
    refine Run.ops fun K hK => ?_
    simp
    try (simp (disch := omega) only [wrap_id])
    refine hK _ _ _ ?_; clear hK K
    repeat (first | refine Run.seq ?_ | refine Run.block ?_ | refine Run.skip ?_ | refine Run.inBlock ?_ | refine Run.opsNil ?_)
    repeat (first | refine Run.seq ?_ | refine Run.block ?_ | refine Run.skip ?_ | refine Run.inBlock ?_ | refine Run.opsNil ?_)
    refine Run.cond (b := true) (by simp) ?_
    simp only [if_true]
    repeat (first | refine Run.seq ?_ | refine Run.block ?_ | refine Run.skip ?_ | refine Run.inBlock ?_ | refine Run.opsNil ?_)
    repeat (first | refine Run.seq ?_ | refine Run.block ?_ | refine Run.skip ?_ | refine Run.inBlock ?_ | refine Run.opsNil ?_)
    refine Run.reg fun K hK => ?_
    simp
    try (simp (disch := omega) only [wrap_id])
    refine hK _ _ _ ?_; clear hK K
    repeat (first | refine Run.seq ?_ | refine Run.block ?_ | refine Run.skip ?_ | refine Run.inBlock ?_ | refine Run.opsNil ?_)
    refine Run.call (args := []) rfl (by first | rfl | simp) (by simp) rfl (aw03.awake03_any _ (hh.app (by simp))) ?_ ?_
    rotate_left
    · rintro v h' ⟨hv, _⟩; cases hv
    rintro v h' ⟨hv, rfl⟩
    simp only [AOut.ret.injEq] at hv
    subst hv
    refine Run.ops fun K hK => ?_
    simp
    try (simp (disch := omega) only [wrap_id])
    refine hK _ _ _ ?_; clear hK K
    repeat (first | refine Run.seq ?_ | refine Run.block ?_ | refine Run.skip ?_ | refine Run.inBlock ?_ | refine Run.opsNil ?_)
    refine Run.ret ?_
    exact Fin.ret' (h0 := h) (by simp) rfl hh rfl (by simp; rfl) rfl (Weak.refl _) (by simp) ⟨rfl, rfl⟩
  | false =>
  have hsm : v ≤ 1000 ∧ p ≤ 1000 ∧ m ≤ 1000 ∧ l ≤ 1000 ∧ fb = true := by
    rw [hb4, hb3, hb2, hb1] at hb5
    cases fb <;> simp at hb5 ⊢
    omega
  obtain ⟨hv, hp, hm, hl, rfl⟩ := hsm
  clear hb1 hb2 hb3 hb4 hb5
  have hnm := hnm rfl
  refine Run.ops fun K hK => ?_
  simp
  try (simp (disch := omega) only [wrap_id])
  refine hK _ _ _ ?_; clear hK K
  repeat (first | refine Run.seq ?_ | refine Run.block ?_ | refine Run.skip ?_ | refine Run.inBlock ?_ | refine Run.opsNil ?_)
  refine Run.call rfl (by first | rfl | simp) (by simp) rfl (hck0 hnm _ (hh.app (by simp))) ?_ ?_
  rotate_left
  · rintro v h' ⟨hv, _⟩; cases hv
  rintro v h' ⟨hv, rfl⟩
  simp only [AOut.ret.injEq] at hv
  subst hv
  by_cases h0 : e0 = 0
  rotate_left
  · refine Run.ops fun K hK => ?_
    simp
    try (simp (disch := omega) only [wrap_id])
    refine hK _ _ _ ?_; clear hK K
    repeat (first | refine Run.seq ?_ | refine Run.block ?_ | refine Run.skip ?_ | refine Run.inBlock ?_ | refine Run.opsNil ?_)
    repeat (first | refine Run.seq ?_ | refine Run.block ?_ | refine Run.skip ?_ | refine Run.inBlock ?_ | refine Run.opsNil ?_)
    refine Run.cond (b := true) (by simp [h0]) ?_
    simp only [if_true]
    repeat (first | refine Run.seq ?_ | refine Run.block ?_ | refine Run.skip ?_ | refine Run.inBlock ?_ | refine Run.opsNil ?_)
    repeat (first | refine Run.seq ?_ | refine Run.block ?_ | refine Run.skip ?_ | refine Run.inBlock ?_ | refine Run.opsNil ?_)
    refine Run.reg fun K hK => ?_
    simp
    try (simp (disch := omega) only [wrap_id])
    refine hK _ _ _ ?_; clear hK K
    repeat (first | refine Run.seq ?_ | refine Run.block ?_ | refine Run.skip ?_ | refine Run.inBlock ?_ | refine Run.opsNil ?_)
    refine Run.call (args := []) rfl (by first | rfl | simp) (by simp) rfl (aw03.awake03_any _ (hh.app (by simp))) ?_ ?_
    rotate_left
    · rintro v h' ⟨hv, _⟩; cases hv
    rintro v h' ⟨hv, rfl⟩
    simp only [AOut.ret.injEq] at hv
    subst hv
    refine Run.ops fun K hK => ?_
    simp
    try (simp (disch := omega) only [wrap_id])
    refine hK _ _ _ ?_; clear hK K
    repeat (first | refine Run.seq ?_ | refine Run.block ?_ | refine Run.skip ?_ | refine Run.inBlock ?_ | refine Run.opsNil ?_)
    refine Run.ret ?_
    exact Fin.ret' (h0 := h) (by simp) rfl hh rfl (by simp; rfl) rfl (Weak.refl _) (by simp) ⟨rfl, rfl⟩
  replace q1 := q1 h0
  replace q2 := q2 h0
  replace q3 := q3 h0
  replace q4 := q4 h0
  subst h0
  have hpv : 0 ≤ pos0 v ∧ pos0 v ≤ 1000 := by unfold pos0; split <;> omega
  have hpp : 0 ≤ pos0 p ∧ pos0 p ≤ 1000 := by unfold pos0; split <;> omega
  have hpm : 0 ≤ pos0 m ∧ pos0 m ≤ 1000 := by unfold pos0; split <;> omega
  have hpl : 0 ≤ pos0 l ∧ pos0 l ≤ 1000 := by unfold pos0; split <;> omega
  have hwr : ∀ x : Int, 0 ≤ x ∧ x ≤ 255 → IntKind.i64.wrap x = x := fun x hx => wrap_id (by omega) (by omega)
  refine Run.ops fun K hK => ?_
  simp
  try (simp (disch := omega) only [wrap_id])
  refine hK _ _ _ ?_; clear hK K
  repeat (first | refine Run.seq ?_ | refine Run.block ?_ | refine Run.skip ?_ | refine Run.inBlock ?_ | refine Run.opsNil ?_)
  repeat (first | refine Run.seq ?_ | refine Run.block ?_ | refine Run.skip ?_ | refine Run.inBlock ?_ | refine Run.opsNil ?_)
  refine Run.cond (b := false) (by simp) ?_
  simp only [Bool.false_eq_true, if_false]
  repeat (first | refine Run.seq ?_ | refine Run.block ?_ | refine Run.skip ?_ | refine Run.inBlock ?_ | refine Run.opsNil ?_)
  repeat (first | refine Run.seq ?_ | refine Run.block ?_ | refine Run.skip ?_ | refine Run.inBlock ?_ | refine Run.opsNil ?_)
  refine Run.reg fun K hK => ?_
  simp [hmax, hwr, ha, hb, hc, he]
  try (simp (disch := omega) only [wrap_id])
  refine hK _ _ _ ?_; clear hK K
  repeat (first | refine Run.seq ?_ | refine Run.block ?_ | refine Run.skip ?_ | refine Run.inBlock ?_ | refine Run.opsNil ?_)
  generalize pos0 v = pv at hpv q4 ⊢
  generalize pos0 p = pp at hpp q4 ⊢
  generalize pos0 m = pm at hpm q4 ⊢
  generalize pos0 l = pl at hpl q4 ⊢
  repeat (first | refine Run.seq ?_ | refine Run.block ?_ | refine Run.skip ?_ | refine Run.inBlock ?_ | refine Run.opsNil ?_)
  refine Run.reg fun K hK => ?_
  simp
  try (simp (disch := omega) only [wrap_id])
  refine hK _ _ _ ?_; clear hK K
  repeat (first | refine Run.seq ?_ | refine Run.block ?_ | refine Run.skip ?_ | refine Run.inBlock ?_ | refine Run.opsNil ?_)
  repeat (first | refine Run.seq ?_ | refine Run.block ?_ | refine Run.skip ?_ | refine Run.inBlock ?_ | refine Run.opsNil ?_)
  refine Run.reg fun K hK => ?_
  simp
  try (simp (disch := omega) only [wrap_id])
  refine hK _ _ _ ?_; clear hK K
  repeat (first | refine Run.seq ?_ | refine Run.block ?_ | refine Run.skip ?_ | refine Run.inBlock ?_ | refine Run.opsNil ?_)
  repeat (first | refine Run.seq ?_ | refine Run.block ?_ | refine Run.skip ?_ | refine Run.inBlock ?_ | refine Run.opsNil ?_)
  refine Run.reg fun K hK => ?_
  simp
  try (simp (disch := omega) only [wrap_id])
  refine hK _ _ _ ?_; clear hK K
  repeat (first | refine Run.seq ?_ | refine Run.block ?_ | refine Run.skip ?_ | refine Run.inBlock ?_ | refine Run.opsNil ?_)
  refine Run.call rfl (by first | rfl | simp) (by simp) rfl (hfree _ (hh.app (by simp))) ?_ ?_
  rotate_left
  · rintro v h' ⟨hv, _⟩; cases hv
  rintro v h' ⟨hv, rfl⟩
  simp only [AOut.ret.injEq] at hv
  subst hv
  refine Run.ops fun K hK => ?_
  simp
  try (simp (disch := omega) only [wrap_id])
  refine hK _ _ _ ?_; clear hK K
  repeat (first | refine Run.seq ?_ | refine Run.block ?_ | refine Run.skip ?_ | refine Run.inBlock ?_ | refine Run.opsNil ?_)
  have hlz : ∀ j, -1 ≤ lastZ (F.take j) ∧ lastZ (F.take j) ≤ 1000 := fun j => by
    rcases lastZ_cases (F.take j) with ⟨_, e⟩ | e
    · omega
    · have h1 := List.mem_of_mem_take e
      have := hnn _ h1
      have := q1 _ h1
      omega
  refine Run.loopS [3, 4, 7, 74, 75] (fun j : Nat => j ≤ F.length) (fun j => F.length - j) (fun j => [(8, iA (lastZ (F.take j) + 1)), (9, iA (lastZ (F.take j))), (76, iA j)]) (fun _ => _) 0 (by simp) ?_ rfl ?_
  · simp [lastZ]
    repeat' (first | exact WeakL.nil | apply WeakL.cons)
    all_goals first | exact Weak.junk _ | exact Weak.refl _ | exact Weak.nil _ | exact Weak.own _ _ _ | exact Weak.int (by omega)
  rintro j hj IH
  simp
  repeat (first | refine Run.seq ?_ | refine Run.block ?_ | refine Run.skip ?_ | refine Run.inBlock ?_ | refine Run.opsNil ?_)
  refine Run.reg fun K hK => ?_
  simp
  try (simp (disch := omega) only [wrap_id])
  refine hK _ _ _ ?_; clear hK K
  repeat (first | refine Run.seq ?_ | refine Run.block ?_ | refine Run.skip ?_ | refine Run.inBlock ?_ | refine Run.opsNil ?_)
  by_cases hjl : j < F.length
  · have hg : F[j]? = some F[j] := List.getElem?_eq_getElem hjl
    have htk : F.take (j + 1) = F.take j ++ [F[j]] := List.take_succ_eq_append_getElem hjl
    have hmem : F[j] ∈ F := List.getElem_mem hjl
    have hls := lastZ_snoc (F.take j) F[j]
    have hgt : lastZ (F.take j) < F[j] := by
      rcases lastZ_cases (F.take j) with ⟨_, e⟩ | e
      · have := hnn _ hmem; omega
      · have hp : (F.take (j + 1)).Pairwise (· < ·) := hasc.sublist (List.take_sublist _ _)
        rw [htk, List.pairwise_append] at hp
        exact hp.2.2 _ e _ (by simp)
    have hxv := q1 _ hmem
    have hx0 := hnn _ hmem
    rw [← htk] at hls
    generalize F[j] = x at hg htk hmem hls hgt hxv hx0
    obtain ⟨lz, hlz'⟩ : ∃ lz, lastZ (F.take j) = lz := ⟨_, rfl⟩
    rw [hlz'] at hgt ⊢
    have ho := hocc x
    rw [decide_eq_true hmem] at ho
    have g1 : ¬ x ≤ lz := by omega
    have g2 : ¬ v ≤ x := by omega
    repeat (first | refine Run.seq ?_ | refine Run.block ?_ | refine Run.skip ?_ | refine Run.inBlock ?_ | refine Run.opsNil ?_)
    refine Run.cond (b := true) (by simp [hjl]) ?_
    simp only [if_true]
    repeat (first | refine Run.seq ?_ | refine Run.block ?_ | refine Run.skip ?_ | refine Run.inBlock ?_ | refine Run.opsNil ?_)
    repeat (first | refine Run.seq ?_ | refine Run.block ?_ | refine Run.skip ?_ | refine Run.inBlock ?_ | refine Run.opsNil ?_)
    refine Run.reg fun K hK => ?_
    simp [hg]
    try (simp (disch := omega) only [wrap_id])
    refine hK _ _ _ ?_; clear hK K
    repeat (first | refine Run.seq ?_ | refine Run.block ?_ | refine Run.skip ?_ | refine Run.inBlock ?_ | refine Run.opsNil ?_)
    repeat (first | refine Run.seq ?_ | refine Run.block ?_ | refine Run.skip ?_ | refine Run.inBlock ?_ | refine Run.opsNil ?_)
    refine Run.reg fun K hK => ?_
    simp [g1, g2]
    try (simp (disch := omega) only [wrap_id])
    refine hK _ _ _ ?_; clear hK K
    repeat (first | refine Run.seq ?_ | refine Run.block ?_ | refine Run.skip ?_ | refine Run.inBlock ?_ | refine Run.opsNil ?_)
    refine Run.call rfl (by first | rfl | simp) (by simp) rfl (ho _ (hh.app (by simp))) ?_ ?_
    rotate_left
    · rintro v h' ⟨hv, _⟩; cases hv
    rintro v h' ⟨hv, rfl⟩
    simp only [AOut.ret.injEq] at hv
    subst hv
    refine Run.ops fun K hK => ?_
    simp
    try (simp (disch := omega) only [wrap_id])
    refine hK _ _ _ ?_; clear hK K
    repeat (first | refine Run.seq ?_ | refine Run.block ?_ | refine Run.skip ?_ | refine Run.inBlock ?_ | refine Run.opsNil ?_)
    repeat (first | refine Run.seq ?_ | refine Run.block ?_ | refine Run.skip ?_ | refine Run.inBlock ?_ | refine Run.opsNil ?_)
    refine Run.cond (b := false) (by simp) ?_
    simp only [Bool.false_eq_true, if_false]
    repeat (first | refine Run.seq ?_ | refine Run.block ?_ | refine Run.skip ?_ | refine Run.inBlock ?_ | refine Run.opsNil ?_)
    repeat (first | refine Run.seq ?_ | refine Run.block ?_ | refine Run.skip ?_ | refine Run.inBlock ?_ | refine Run.opsNil ?_)
    refine Run.reg fun K hK => ?_
    simp
    try (simp (disch := omega) only [wrap_id])
    refine hK _ _ _ ?_; clear hK K
    repeat (first | refine Run.seq ?_ | refine Run.block ?_ | refine Run.skip ?_ | refine Run.inBlock ?_ | refine Run.opsNil ?_)
    repeat (first | refine Run.seq ?_ | refine Run.block ?_ | refine Run.skip ?_ | refine Run.inBlock ?_ | refine Run.opsNil ?_)
    refine Run.reg fun K hK => ?_
    simp
    try (simp (disch := omega) only [wrap_id])
    refine hK _ _ _ ?_; clear hK K
    repeat (first | refine Run.seq ?_ | refine Run.block ?_ | refine Run.skip ?_ | refine Run.inBlock ?_ | refine Run.opsNil ?_)
    repeat (first | refine Run.seq ?_ | refine Run.block ?_ | refine Run.skip ?_ | refine Run.inBlock ?_ | refine Run.opsNil ?_)
    refine Run.reg fun K hK => ?_
    simp
    try (simp (disch := omega) only [wrap_id])
    refine hK _ _ _ ?_; clear hK K
    repeat (first | refine Run.seq ?_ | refine Run.block ?_ | refine Run.skip ?_ | refine Run.inBlock ?_ | refine Run.opsNil ?_)
    refine IH (j + 1) _ _ (by omega) (by omega) ?_ rfl
    rw [hls]
    simp
    repeat' (first | exact WeakL.nil | apply WeakL.cons)
    all_goals first | exact Weak.junk _ | exact Weak.refl _ | exact Weak.nil _ | exact Weak.own _ _ _ | exact Weak.int (by omega)
  · have hje : j = F.length := by omega
    subst hje
    have hlz := hlz F.length
    rw [List.take_length] at hlz ⊢
    generalize lastZ F = z at hlz q2 q3 q5 ⊢
    have hz := hocc (z + 1)
    rw [decide_eq_false q5] at hz
    have r1 := hck (pv + a) (pp + b) (pm + c) (pl + e) hnm
    have r2 := hck (z + 1) p m l hnm
    have r3 := hck z p m l hnm
    rw [q4] at r1
    rw [q2] at r2
    have hw : IntKind.i64.wrap (z + 1 - 1) = z := by rw [wrap_id (by omega) (by omega)]; omega
    repeat (first | refine Run.seq ?_ | refine Run.block ?_ | refine Run.skip ?_ | refine Run.inBlock ?_ | refine Run.opsNil ?_)
    refine Run.cond (b := false) (by simp) ?_
    simp only [Bool.false_eq_true, if_false]
    repeat (first | refine Run.seq ?_ | refine Run.block ?_ | refine Run.skip ?_ | refine Run.inBlock ?_ | refine Run.opsNil ?_)
    repeat (first | refine Run.seq ?_ | refine Run.block ?_ | refine Run.skip ?_ | refine Run.inBlock ?_ | refine Run.opsNil ?_)
    refine Run.exit rfl ?_
    repeat (first | refine Run.seq ?_ | refine Run.block ?_ | refine Run.skip ?_ | refine Run.inBlock ?_ | refine Run.opsNil ?_)
    repeat (first | refine Run.seq ?_ | refine Run.block ?_ | refine Run.skip ?_ | refine Run.inBlock ?_ | refine Run.opsNil ?_)
    refine Run.reg fun K hK => ?_
    simp
    try (simp (disch := omega) only [wrap_id])
    refine hK _ _ _ ?_; clear hK K
    repeat (first | refine Run.seq ?_ | refine Run.block ?_ | refine Run.skip ?_ | refine Run.inBlock ?_ | refine Run.opsNil ?_)
    repeat (first | refine Run.seq ?_ | refine Run.block ?_ | refine Run.skip ?_ | refine Run.inBlock ?_ | refine Run.opsNil ?_)
    refine Run.reg fun K hK => ?_
    simp
    try (simp (disch := omega) only [wrap_id])
    refine hK _ _ _ ?_; clear hK K
    repeat (first | refine Run.seq ?_ | refine Run.block ?_ | refine Run.skip ?_ | refine Run.inBlock ?_ | refine Run.opsNil ?_)
    repeat (first | refine Run.seq ?_ | refine Run.block ?_ | refine Run.skip ?_ | refine Run.inBlock ?_ | refine Run.opsNil ?_)
    refine Run.reg fun K hK => ?_
    simp
    try (simp (disch := omega) only [wrap_id])
    refine hK _ _ _ ?_; clear hK K
    repeat (first | refine Run.seq ?_ | refine Run.block ?_ | refine Run.skip ?_ | refine Run.inBlock ?_ | refine Run.opsNil ?_)
    refine Run.call rfl (by first | rfl | simp) (by simp) rfl (r1 _ (hh.app (by simp))) ?_ ?_
    rotate_left
    · rintro v h' ⟨hv, _⟩; cases hv
    rintro v h' ⟨hv, rfl⟩
    simp only [AOut.ret.injEq] at hv
    subst hv
    refine Run.ops fun K hK => ?_
    simp
    try (simp (disch := omega) only [wrap_id])
    refine hK _ _ _ ?_; clear hK K
    repeat (first | refine Run.seq ?_ | refine Run.block ?_ | refine Run.skip ?_ | refine Run.inBlock ?_ | refine Run.opsNil ?_)
    refine Run.call rfl (by first | rfl | simp) (by simp) rfl (r2 _ (hh.app (by simp))) ?_ ?_
    rotate_left
    · rintro v h' ⟨hv, _⟩; cases hv
    rintro v h' ⟨hv, rfl⟩
    simp only [AOut.ret.injEq] at hv
    subst hv
    refine Run.ops fun K hK => ?_
    simp
    try (simp (disch := omega) only [wrap_id])
    refine hK _ _ _ ?_; clear hK K
    repeat (first | refine Run.seq ?_ | refine Run.block ?_ | refine Run.skip ?_ | refine Run.inBlock ?_ | refine Run.opsNil ?_)
    refine Run.call rfl (by first | rfl | simp) (by simp) rfl (hz _ (hh.app (by simp))) ?_ ?_
    rotate_left
    · rintro v h' ⟨hv, _⟩; cases hv
    rintro v h' ⟨hv, rfl⟩
    simp only [AOut.ret.injEq] at hv
    subst hv
    refine Run.ops fun K hK => ?_
    simp
    try (simp (disch := omega) only [wrap_id])
    refine hK _ _ _ ?_; clear hK K
    repeat (first | refine Run.seq ?_ | refine Run.block ?_ | refine Run.skip ?_ | refine Run.inBlock ?_ | refine Run.opsNil ?_)
    repeat (first | refine Run.seq ?_ | refine Run.block ?_ | refine Run.skip ?_ | refine Run.inBlock ?_ | refine Run.opsNil ?_)
    refine Run.cond (b := false) (by simp) ?_
    simp only [Bool.false_eq_true, if_false]
    repeat (first | refine Run.seq ?_ | refine Run.block ?_ | refine Run.skip ?_ | refine Run.inBlock ?_ | refine Run.opsNil ?_)
    repeat (first | refine Run.seq ?_ | refine Run.block ?_ | refine Run.skip ?_ | refine Run.inBlock ?_ | refine Run.opsNil ?_)
    refine Run.reg fun K hK => ?_
    simp
    try (simp (disch := omega) only [wrap_id])
    refine hK _ _ _ ?_; clear hK K
    repeat (first | refine Run.seq ?_ | refine Run.block ?_ | refine Run.skip ?_ | refine Run.inBlock ?_ | refine Run.opsNil ?_)
    by_cases hz0 : z + 1 = 0
    · repeat (first | refine Run.seq ?_ | refine Run.block ?_ | refine Run.skip ?_ | refine Run.inBlock ?_ | refine Run.opsNil ?_)
      refine Run.reg fun K hK => ?_
      simp [hz0]
      try (simp (disch := omega) only [wrap_id])
      refine hK _ _ _ ?_; clear hK K
      repeat (first | refine Run.seq ?_ | refine Run.block ?_ | refine Run.skip ?_ | refine Run.inBlock ?_ | refine Run.opsNil ?_)
      refine Run.call (args := []) rfl (by first | rfl | simp) (by simp) rfl (aw03.awake03_any _ (hh.app (by simp))) ?_ ?_
      rotate_left
      · rintro v h' ⟨hv, _⟩; cases hv
      rintro v h' ⟨hv, rfl⟩
      simp only [AOut.ret.injEq] at hv
      subst hv
      refine Run.ops fun K hK => ?_
      simp
      try (simp (disch := omega) only [wrap_id])
      refine hK _ _ _ ?_; clear hK K
      repeat (first | refine Run.seq ?_ | refine Run.block ?_ | refine Run.skip ?_ | refine Run.inBlock ?_ | refine Run.opsNil ?_)
      refine Run.ret ?_
      exact Fin.ret' (h0 := h) (by simp) rfl hh rfl (by simp; rfl) rfl (Weak.refl _) (by simp) ⟨rfl, rfl⟩
    · rw [q3 hz0] at r3
      have hz1 : (z + 1 == 0) = false := by simp [hz0]
      repeat (first | refine Run.seq ?_ | refine Run.block ?_ | refine Run.skip ?_ | refine Run.inBlock ?_ | refine Run.opsNil ?_)
      refine Run.reg fun K hK => ?_
      simp [hz1]
      try (simp (disch := omega) only [wrap_id])
      refine hK _ _ _ ?_; clear hK K
      repeat (first | refine Run.seq ?_ | refine Run.block ?_ | refine Run.skip ?_ | refine Run.inBlock ?_ | refine Run.opsNil ?_)
      refine Run.call rfl (by first | rfl | simp) (by simp) rfl (r3 _ (hh.app (by simp))) ?_ ?_
      rotate_left
      · rintro v h' ⟨hv, _⟩; cases hv
      rintro v h' ⟨hv, rfl⟩
      simp only [AOut.ret.injEq] at hv
      subst hv
      refine Run.ops fun K hK => ?_
      simp
      try (simp (disch := omega) only [wrap_id])
      refine hK _ _ _ ?_; clear hK K
      repeat (first | refine Run.seq ?_ | refine Run.block ?_ | refine Run.skip ?_ | refine Run.inBlock ?_ | refine Run.opsNil ?_)
      refine Run.call (args := []) rfl (by first | rfl | simp) (by simp) rfl (aw03.awake03_any _ (hh.app (by simp))) ?_ ?_
      rotate_left
      · rintro v h' ⟨hv, _⟩; cases hv
      rintro v h' ⟨hv, rfl⟩
      simp only [AOut.ret.injEq] at hv
      subst hv
      refine Run.ops fun K hK => ?_
      simp
      try (simp (disch := omega) only [wrap_id])
      refine hK _ _ _ ?_; clear hK K
      repeat (first | refine Run.seq ?_ | refine Run.block ?_ | refine Run.skip ?_ | refine Run.inBlock ?_ | refine Run.opsNil ?_)
      refine Run.ret ?_
      exact Fin.ret' (h0 := h) (by simp) rfl hh rfl (by simp; rfl) rfl (Weak.refl _) (by simp) ⟨rfl, rfl⟩

end Go.Proofs.Ytppgpabjcenjdaa
