/-
  euclidlaw04: awake.
-/
import Derived.Test.YtcfcolkbeelegaaGreatLE13

namespace Go.Proofs.YtcfcolkbeelegaaGreat

open Go Go.AI
def small (t : Tm) : Prop := t.size ≤ 1000 ∧ t.lvs
theorem dom1 : Dom 65536 (fnT (vr 0) (vr 1)) 0 := by simp [Dom, fnT, lamT, appT, natT, natB, vr, Tm.ok, Tm.oks, Tm.okN, Tm.size, Tm.sizes, belowZ]
theorem dom2 : Dom 65536 (fnT (vr 1) (vr 2)) 0 := by simp [Dom, fnT, lamT, appT, natT, natB, vr, Tm.ok, Tm.oks, Tm.okN, Tm.size, Tm.sizes, belowZ]
theorem dom3 : Dom 65536 (appT (vr 3) (lamT natT (vr 4))) 0 := by simp [Dom, lamT, appT, natT, natB, vr, Tm.ok, Tm.oks, Tm.okN, Tm.size, Tm.sizes, belowZ]
theorem dom4 : Dom 65536 (vr 3) 0 := by simp [Dom, vr, Tm.ok, Tm.oks, Tm.okN, Tm.size, Tm.sizes]
theorem dom5 : Dom 65536 (vr 4) 0 := by simp [Dom, vr, Tm.ok, Tm.oks, Tm.okN, Tm.size, Tm.sizes]
def La : List Tm := [natT, appT (vr 0) (vr 3)]
def Lb : List Tm := [natT, appT (vr 0) (vr 1)]
def Lc : List Tm := [natT, appT (vr 5) (vr 1)]
def Ld : List Tm := [vr 0, lamT natT (vr 1)]
theorem res1 : resShift 2 0 (fnT (vr 0) (vr 1)) = (.mk 5 0 [] [] La, 0) := by kernel_rfl
theorem res2 : resShift 2 1 (fnT (vr 0) (vr 1)) = (.mk 5 0 [] [] Lb, 0) := by kernel_rfl
theorem res3 : resShift (-1) 0 (fnT (vr 0) (vr 1)) = (.mk 0 0 [] [] [], 24) := by kernel_rfl
theorem bld4 : bld (visVar (repUnder 0 [vr 4])) 0 (fnT (vr 1) (vr 2)) 0 = .ok (.mk 5 0 [] [] Lc) 0 := by kernel_rfl
theorem res4 : resUnder (fnT (vr 1) (vr 2)) [vr 4] 0 = (.mk 5 0 [] [] Lc, 0) := by kernel_rfl
theorem res5 : resAbs (appT (vr 3) (lamT natT (vr 4))) (vr 3) = (.mk 4 0 [] [] Ld, 2, 0) := by kernel_rfl
theorem same1 : sameT (.mk 5 0 [] [] La) (fnT (vr 0) (vr 3)) = true := by kernel_rfl
theorem same2 : sameT (.mk 5 0 [] [] Lb) (fnT (vr 0) (vr 1)) = true := by kernel_rfl
theorem same4 : sameT (.mk 5 0 [] [] Lc) (fnT (vr 5) (vr 1)) = true := by kernel_rfl
theorem same5 : sameT (.mk 4 0 [] [] Ld) (appT (vr 0) (lamT natT (vr 1))) = true := by kernel_rfl
theorem sm1 : small (.mk 5 0 [] [] La) := by simp [small, La, appT, natT, natB, vr, Tm.lvs, Tm.lvss, Tm.size, Tm.sizes]
theorem sm2 : small (.mk 5 0 [] [] Lb) := by simp [small, Lb, appT, natT, natB, vr, Tm.lvs, Tm.lvss, Tm.size, Tm.sizes]
theorem sm4 : small (.mk 5 0 [] [] Lc) := by simp [small, Lc, appT, natT, natB, vr, Tm.lvs, Tm.lvss, Tm.size, Tm.sizes]
theorem sm5 : small (.mk 4 0 [] [] Ld) := by simp [small, Ld, lamT, natT, natB, vr, Tm.lvs, Tm.lvss, Tm.size, Tm.sizes]
theorem sh_ok {by_ fr : Int} {t t' : Tm} {e : Int} (hb1 : -9223372036854775808 ≤ by_) (hb2 : by_ ≤ 9223372036854775807) (hf2 : fr ≤ 9223372036854775807) (hd : Dom 65536 t 0) (hr : resShift by_ fr t = (t', e)) (h : Heap) (hh : WF h) :
    ACalls Tryz.prog 51 [t.av, iA by_, iA fr] h fun o h' => o = .ret (.tup [t'.av, iA e]) ∧ h' = h := by
  have := shift_any h hh t by_ fr hb1 hb2 hf2 hd
  rw [hr] at this
  exact this
theorem su_ok (h : Heap) (hh : WF h) : ACalls Tryz.prog 52 [(fnT (vr 1) (vr 2)).av, .p (.sl 5 [(vr 4).cells])] h fun o h' => o = .ret (.tup [(Tm.mk 5 0 [] [] Lc).av, iA 0]) ∧ h' = h := by
  have := subst_any h hh (fnT (vr 1) (vr 2)) [vr 4] (resUnder (fnT (vr 1) (vr 2)) [vr 4] 0) fun g hg => under_any g hg _ _ 0 ⟨dom2, by simp [fnT, lamT, appT, natT, vr, Tm.size, Tm.sizes]⟩ (by omega) (by simp) (by intro v hv; simp at hv; subst hv; exact dom5) (by intro v hv; simp at hv; subst hv; simp [vr, Tm.size, Tm.sizes])
    (by intro _ t' s' u s2 _ hb; rw [bld4] at hb; injection hb with h1 h2; subst h1; simp [Lc, appT, natT, vr, Tm.size, Tm.sizes])
  rw [res4] at this
  exact this
theorem ab_ok (h : Heap) (hh : WF h) : ACalls Tryz.prog 53 [(appT (vr 3) (lamT natT (vr 4))).av, (vr 3).av] h fun o h' => o = .ret (.tup [(Tm.mk 4 0 [] [] Ld).av, iA 2, iA 0]) ∧ h' = h := by
  have := abstract_any h hh _ _ dom3 dom4
  rw [res5] at this
  exact this
theorem sa_ok (a b : Tm) (ha : small a) (hs : sameT a b = true) (h : Heap) (hh : WF h) : ACalls Tryz.prog 18 [a.av, b.av] h fun o h' => o = .ret (bA true) ∧ h' = h := by
  have := same_any a.size a b h (Nat.le_refl _) (by have := ha.1; omega) ha.2 hh
  rw [hs] at this
  exact this
set_option maxRecDepth 8000 in
set_option maxHeartbeats 8000000 in
theorem awake_any (h : Heap) (hh : WF h) : ACalls Tryz.prog 13 [] h fun o h' => o = .ret (bA true) ∧ h' = h := by
  refine ACalls.of_run Tryz.func13 rfl ?_
  simp only [Tryz.ntmps13, List.length_nil]
  refine nv ?_
  refine Run.reg fun K hK => ?_
  simp
  try (simp (disch := omega) only [wrap_id])
  refine hK _ _ _ ?_; clear hK K
  refine nv ?_
  refine Run.reg fun K hK => ?_
  simp
  try (simp (disch := omega) only [wrap_id])
  refine hK _ _ _ ?_; clear hK K
  refine nv ?_
  refine Run.reg fun K hK => ?_
  simp
  try (simp (disch := omega) only [wrap_id])
  refine hK _ _ _ ?_; clear hK K
  refine nv ?_
  refine Run.reg fun K hK => ?_
  simp
  try (simp (disch := omega) only [wrap_id])
  refine hK _ _ _ ?_; clear hK K
  refine nv ?_
  refine Run.call (args := [iA 0]) rfl rfl (by simp) rfl (aw1_any _ hh 0) ?_ ?_
  rotate_left
  · rintro v h' ⟨hv, _⟩; cases hv
  rintro v h' ⟨hv, rfl⟩
  simp only [AOut.ret.injEq] at hv
  subst hv
  refine Run.ops fun K hK => ?_
  simp
  try (simp (disch := omega) only [wrap_id])
  refine hK _ _ _ ?_; clear hK K
  refine nv ?_
  refine Run.call (args := [iA 1]) rfl rfl (by simp) rfl (aw1_any _ hh 1) ?_ ?_
  rotate_left
  · rintro v h' ⟨hv, _⟩; cases hv
  rintro v h' ⟨hv, rfl⟩
  simp only [AOut.ret.injEq] at hv
  subst hv
  refine Run.ops fun K hK => ?_
  simp
  try (simp (disch := omega) only [wrap_id])
  refine hK _ _ _ ?_; clear hK K
  refine nv ?_
  refine Run.call (args := [(vr 0).av, (vr 1).av]) rfl rfl (by simp) rfl (aw2_any _ hh (vr 0) (vr 1)) ?_ ?_
  rotate_left
  · rintro v h' ⟨hv, _⟩; cases hv
  rintro v h' ⟨hv, rfl⟩
  simp only [AOut.ret.injEq] at hv
  subst hv
  refine Run.ops fun K hK => ?_
  simp
  try (simp (disch := omega) only [wrap_id])
  refine hK _ _ _ ?_; clear hK K
  refine nv ?_
  refine Run.call (args := [(fnT (vr 0) (vr 1)).av, iA 2, iA 0]) rfl rfl (by simp) rfl (sh_ok (by omega) (by omega) (by omega) dom1 res1 _ hh) ?_ ?_
  rotate_left
  · rintro v h' ⟨hv, _⟩; cases hv
  rintro v h' ⟨hv, rfl⟩
  simp only [AOut.ret.injEq] at hv
  subst hv
  refine Run.ops fun K hK => ?_
  simp
  try (simp (disch := omega) only [wrap_id])
  refine hK _ _ _ ?_; clear hK K
  refine nv ?_
  refine Run.reg fun K hK => ?_
  simp
  try (simp (disch := omega) only [wrap_id])
  refine hK _ _ _ ?_; clear hK K
  refine nv ?_
  refine Run.call (args := [iA 0]) rfl rfl (by simp) rfl (aw1_any _ (hh.app (by simp)) 0) ?_ ?_
  rotate_left
  · rintro v h' ⟨hv, _⟩; cases hv
  rintro v h' ⟨hv, rfl⟩
  simp only [AOut.ret.injEq] at hv
  subst hv
  refine Run.ops fun K hK => ?_
  simp
  try (simp (disch := omega) only [wrap_id])
  refine hK _ _ _ ?_; clear hK K
  refine nv ?_
  refine Run.call (args := [iA 1]) rfl rfl (by simp) rfl (aw1_any _ (hh.app (by simp)) 1) ?_ ?_
  rotate_left
  · rintro v h' ⟨hv, _⟩; cases hv
  rintro v h' ⟨hv, rfl⟩
  simp only [AOut.ret.injEq] at hv
  subst hv
  refine Run.ops fun K hK => ?_
  simp
  try (simp (disch := omega) only [wrap_id])
  refine hK _ _ _ ?_; clear hK K
  refine nv ?_
  refine Run.call (args := [(vr 0).av, (vr 1).av]) rfl rfl (by simp) rfl (aw2_any _ (hh.app (by simp)) (vr 0) (vr 1)) ?_ ?_
  rotate_left
  · rintro v h' ⟨hv, _⟩; cases hv
  rintro v h' ⟨hv, rfl⟩
  simp only [AOut.ret.injEq] at hv
  subst hv
  refine Run.ops fun K hK => ?_
  simp
  try (simp (disch := omega) only [wrap_id])
  refine hK _ _ _ ?_; clear hK K
  refine nv ?_
  refine Run.call (args := [(fnT (vr 0) (vr 1)).av, iA 2, iA 1]) rfl rfl (by simp) rfl (sh_ok (by omega) (by omega) (by omega) dom1 res2 _ (hh.app (by simp))) ?_ ?_
  rotate_left
  · rintro v h' ⟨hv, _⟩; cases hv
  rintro v h' ⟨hv, rfl⟩
  simp only [AOut.ret.injEq] at hv
  subst hv
  refine Run.ops fun K hK => ?_
  simp
  try (simp (disch := omega) only [wrap_id])
  refine hK _ _ _ ?_; clear hK K
  refine nv ?_
  refine Run.reg fun K hK => ?_
  simp
  try (simp (disch := omega) only [wrap_id])
  refine hK _ _ _ ?_; clear hK K
  refine nv ?_
  refine Run.call (args := [iA 0]) rfl rfl (by simp) rfl (aw1_any _ (hh.app (by simp)) 0) ?_ ?_
  rotate_left
  · rintro v h' ⟨hv, _⟩; cases hv
  rintro v h' ⟨hv, rfl⟩
  simp only [AOut.ret.injEq] at hv
  subst hv
  refine Run.ops fun K hK => ?_
  simp
  try (simp (disch := omega) only [wrap_id])
  refine hK _ _ _ ?_; clear hK K
  refine nv ?_
  refine Run.call (args := [iA 1]) rfl rfl (by simp) rfl (aw1_any _ (hh.app (by simp)) 1) ?_ ?_
  rotate_left
  · rintro v h' ⟨hv, _⟩; cases hv
  rintro v h' ⟨hv, rfl⟩
  simp only [AOut.ret.injEq] at hv
  subst hv
  refine Run.ops fun K hK => ?_
  simp
  try (simp (disch := omega) only [wrap_id])
  refine hK _ _ _ ?_; clear hK K
  refine nv ?_
  refine Run.call (args := [(vr 0).av, (vr 1).av]) rfl rfl (by simp) rfl (aw2_any _ (hh.app (by simp)) (vr 0) (vr 1)) ?_ ?_
  rotate_left
  · rintro v h' ⟨hv, _⟩; cases hv
  rintro v h' ⟨hv, rfl⟩
  simp only [AOut.ret.injEq] at hv
  subst hv
  refine Run.ops fun K hK => ?_
  simp
  try (simp (disch := omega) only [wrap_id])
  refine hK _ _ _ ?_; clear hK K
  refine nv ?_
  refine Run.call (args := [(fnT (vr 0) (vr 1)).av, iA (-1), iA 0]) rfl rfl (by simp) rfl (sh_ok (by omega) (by omega) (by omega) dom1 res3 _ (hh.app (by simp))) ?_ ?_
  rotate_left
  · rintro v h' ⟨hv, _⟩; cases hv
  rintro v h' ⟨hv, rfl⟩
  simp only [AOut.ret.injEq] at hv
  subst hv
  refine Run.ops fun K hK => ?_
  simp
  try (simp (disch := omega) only [wrap_id])
  refine hK _ _ _ ?_; clear hK K
  refine nv ?_
  refine Run.reg fun K hK => ?_
  simp
  try (simp (disch := omega) only [wrap_id])
  refine hK _ _ _ ?_; clear hK K
  refine nv ?_
  refine Run.call (args := [iA 1]) rfl rfl (by simp) rfl (aw1_any _ (hh.app (by simp)) 1) ?_ ?_
  rotate_left
  · rintro v h' ⟨hv, _⟩; cases hv
  rintro v h' ⟨hv, rfl⟩
  simp only [AOut.ret.injEq] at hv
  subst hv
  refine Run.ops fun K hK => ?_
  simp
  try (simp (disch := omega) only [wrap_id])
  refine hK _ _ _ ?_; clear hK K
  refine nv ?_
  refine Run.call (args := [iA 2]) rfl rfl (by simp) rfl (aw1_any _ (hh.app (by simp)) 2) ?_ ?_
  rotate_left
  · rintro v h' ⟨hv, _⟩; cases hv
  rintro v h' ⟨hv, rfl⟩
  simp only [AOut.ret.injEq] at hv
  subst hv
  refine Run.ops fun K hK => ?_
  simp
  try (simp (disch := omega) only [wrap_id])
  refine hK _ _ _ ?_; clear hK K
  refine nv ?_
  refine Run.call (args := [(vr 1).av, (vr 2).av]) rfl rfl (by simp) rfl (aw2_any _ (hh.app (by simp)) (vr 1) (vr 2)) ?_ ?_
  rotate_left
  · rintro v h' ⟨hv, _⟩; cases hv
  rintro v h' ⟨hv, rfl⟩
  simp only [AOut.ret.injEq] at hv
  subst hv
  refine Run.ops fun K hK => ?_
  simp
  try (simp (disch := omega) only [wrap_id])
  refine hK _ _ _ ?_; clear hK K
  refine nv ?_
  refine Run.call (args := [iA 4]) rfl rfl (by simp) rfl (aw1_any _ (hh.app (by simp)) 4) ?_ ?_
  rotate_left
  · rintro v h' ⟨hv, _⟩; cases hv
  rintro v h' ⟨hv, rfl⟩
  simp only [AOut.ret.injEq] at hv
  subst hv
  refine Run.ops fun K hK => ?_
  simp
  try (simp (disch := omega) only [wrap_id])
  refine hK _ _ _ ?_; clear hK K
  refine nv ?_
  refine Run.call (args := [(fnT (vr 1) (vr 2)).av, .p (.sl 5 [(vr 4).cells])]) rfl rfl (by simp) rfl (su_ok _ (hh.app (by simp))) ?_ ?_
  rotate_left
  · rintro v h' ⟨hv, _⟩; cases hv
  rintro v h' ⟨hv, rfl⟩
  simp only [AOut.ret.injEq] at hv
  subst hv
  refine Run.ops fun K hK => ?_
  simp
  try (simp (disch := omega) only [wrap_id])
  refine hK _ _ _ ?_; clear hK K
  refine nv ?_
  refine Run.reg fun K hK => ?_
  simp
  try (simp (disch := omega) only [wrap_id])
  refine hK _ _ _ ?_; clear hK K
  refine nv ?_
  refine Run.call (args := [iA 3]) rfl rfl (by simp) rfl (aw1_any _ (hh.app (by simp)) 3) ?_ ?_
  rotate_left
  · rintro v h' ⟨hv, _⟩; cases hv
  rintro v h' ⟨hv, rfl⟩
  simp only [AOut.ret.injEq] at hv
  subst hv
  refine Run.ops fun K hK => ?_
  simp
  try (simp (disch := omega) only [wrap_id])
  refine hK _ _ _ ?_; clear hK K
  refine nv ?_
  refine Run.call (args := [iA 4]) rfl rfl (by simp) rfl (aw1_any _ (hh.app (by simp)) 4) ?_ ?_
  rotate_left
  · rintro v h' ⟨hv, _⟩; cases hv
  rintro v h' ⟨hv, rfl⟩
  simp only [AOut.ret.injEq] at hv
  subst hv
  refine Run.ops fun K hK => ?_
  simp
  try (simp (disch := omega) only [wrap_id])
  refine hK _ _ _ ?_; clear hK K
  refine nv ?_
  refine Run.call (args := [iA 3]) rfl rfl (by simp) rfl (aw1_any _ (hh.app (by simp)) 3) ?_ ?_
  rotate_left
  · rintro v h' ⟨hv, _⟩; cases hv
  rintro v h' ⟨hv, rfl⟩
  simp only [AOut.ret.injEq] at hv
  subst hv
  refine Run.ops fun K hK => ?_
  simp
  try (simp (disch := omega) only [wrap_id])
  refine hK _ _ _ ?_; clear hK K
  refine nv ?_
  refine Run.call rfl rfl rfl rfl (ACalls.weak ?_ (ab_ok _ (hh.app (by simp)))) ?_ ?_
  · simp only [appT, lamT, natT, natB, Tm.av, cells_mk, List.map, tmPs, lvPs]
    repeat' (first | exact WeakL.nil | apply WeakL.cons)
    all_goals first | exact Weak.refl _ | skip
    refine Weak.agg ?_
    repeat' (first | exact WeakL.nil | apply WeakL.cons)
    all_goals first | exact Weak.refl _ | exact Weak.nil _ | skip
    refine (WeakP.sl ?_).av
    repeat' (first | exact WeakPs.nil | apply WeakPs.cons | exact WeakPL.nil | apply WeakPL.cons)
    all_goals first | exact WeakPL.refl _ | exact WeakP.refl _ | exact WeakP.nil _ | skip
    all_goals refine WeakP.sl ?_
    all_goals repeat' (first | exact WeakPs.nil | apply WeakPs.cons | exact WeakPL.nil | apply WeakPL.cons)
    all_goals first | exact WeakPL.refl _ | exact WeakP.refl _ | exact WeakP.nil _ | skip
  rotate_left
  · rintro v h' ⟨hv, _⟩; cases hv
  rintro v h' ⟨hv, rfl⟩
  simp only [AOut.ret.injEq] at hv
  subst hv
  refine Run.ops fun K hK => ?_
  simp
  try (simp (disch := omega) only [wrap_id])
  refine hK _ _ _ ?_; clear hK K
  refine nv ?_
  refine Run.reg fun K hK => ?_
  simp
  try (simp (disch := omega) only [wrap_id])
  refine hK _ _ _ ?_; clear hK K
  refine nv ?_
  refine Run.call (args := [iA 0]) rfl rfl (by simp) rfl (aw1_any _ (hh.app (by simp)) 0) ?_ ?_
  rotate_left
  · rintro v h' ⟨hv, _⟩; cases hv
  rintro v h' ⟨hv, rfl⟩
  simp only [AOut.ret.injEq] at hv
  subst hv
  refine Run.ops fun K hK => ?_
  simp
  try (simp (disch := omega) only [wrap_id])
  refine hK _ _ _ ?_; clear hK K
  refine nv ?_
  refine Run.call (args := [iA 1]) rfl rfl (by simp) rfl (aw1_any _ (hh.app (by simp)) 1) ?_ ?_
  rotate_left
  · rintro v h' ⟨hv, _⟩; cases hv
  rintro v h' ⟨hv, rfl⟩
  simp only [AOut.ret.injEq] at hv
  subst hv
  refine Run.ops fun K hK => ?_
  simp
  try (simp (disch := omega) only [wrap_id])
  refine hK _ _ _ ?_; clear hK K
  refine nv ?_
  refine Run.draw [0, 0, 0, 0, 0, 0, 0, 0, 1, 2, 3, 4, 4, 4, 4, 4, 4, 4, 4, 4, 4, 4, 5, 6, 7, 8, 8, 8, 8, 8, 8, 8, 8, 8, 8, 8, 8, 8, 8, 8, 9, 10, 11, 12, 12, 12, 12, 12, 12, 12, 12, 12, 12, 12, 12, 12, 13, 13] [0, 0, 0, 0, 0, 0, 0, 0, 1, 2, 3, 0, 0, 0, 0, 0, 0, 0, 0, 0, 4, 0, 5, 6, 7, 0, 0, 0, 0, 0, 0, 0, 0, 0, 0, 0, 0, 0, 8, 0, 9, 10, 11, 0, 0, 0, 0, 0, 0, 0, 0, 0, 0, 0, 0, 12, 0, 0] [0, 1, 3, 7, 7, 7, 39, 7, 231, 503, 1023, 2047, 4095, 8191, 16383, 32767, 65535, 131071, 131071, 131071, 655359, 131071, 3801087, 8257535, 16777215, 33554431, 67108863, 134217727, 268435455, 536870911, 1073741823, 2147483647, 4294967295, 8589934591, 17179869183, 34359738367, 34359738367, 34359738367, 171798691839, 34359738367, 996432412671, 2164663517183, 4398046511103, 8796093022207, 17592186044415, 35184372088831, 70368744177663, 140737488355327, 281474976710655, 562949953421311, 1125899906842623, 2251799813685247, 4503599627370495, 9007199254740991, 9007199254740991, 36028797018963967, 72057594037927935, 144115188075855871] [0, 1, 2, 5, 6, 7, 8, 4, 9, 3, 10, 11, 12, 13, 14, 15, 16, 19, 20, 21, 22, 18, 23, 17, 24, 25, 26, 27, 28, 29, 30, 31, 32, 33, 34, 37, 38, 39, 40, 36, 41, 35, 42, 43, 44, 45, 46, 47, 48, 49, 50, 51, 52, 53, 54, 55, 56, 57] (by kernel_rfl) (by kernel_rfl) ?_
  refine DR.go fun K hK => ?_
  simp
  try (simp (disch := omega) only [wrap_id])
  refine hK _ _ _ _ ?_; clear hK K
  refine DR.call (args := [iA 0]) rfl rfl rfl (by simp) rfl (aw1_any _ (hh.app (by simp)) 0) ?_
  refine DR.go fun K hK => ?_
  simp
  try (simp (disch := omega) only [wrap_id])
  refine hK _ _ _ _ ?_; clear hK K
  refine DR.call (args := [iA 3]) rfl rfl rfl (by simp) rfl (aw1_any _ (hh.app (by simp)) 3) ?_
  refine DR.go fun K hK => ?_
  simp
  try (simp (disch := omega) only [wrap_id])
  refine hK _ _ _ _ ?_; clear hK K
  refine DR.call (args := [(vr 0).av, (vr 3).av]) rfl rfl rfl (by simp) rfl (aw2_any _ (hh.app (by simp)) (vr 0) (vr 3)) ?_
  refine DR.go fun K hK => ?_
  simp
  try (simp (disch := omega) only [wrap_id])
  refine hK _ _ _ _ ?_; clear hK K
  refine DR.call (args := [(Tm.mk 5 0 [] [] La).av, (fnT (vr 0) (vr 3)).av]) rfl rfl rfl (by simp) rfl (sa_ok _ _ sm1 same1 _ (hh.app (by simp))) ?_
  refine DR.go fun K hK => ?_
  simp
  try (simp (disch := omega) only [wrap_id])
  refine hK _ _ _ _ ?_; clear hK K
  refine DR.call (args := [iA 0]) rfl rfl rfl (by simp) rfl (aw1_any _ (hh.app (by simp)) 0) ?_
  refine DR.go fun K hK => ?_
  simp
  try (simp (disch := omega) only [wrap_id])
  refine hK _ _ _ _ ?_; clear hK K
  refine DR.call (args := [iA 1]) rfl rfl rfl (by simp) rfl (aw1_any _ (hh.app (by simp)) 1) ?_
  refine DR.go fun K hK => ?_
  simp
  try (simp (disch := omega) only [wrap_id])
  refine hK _ _ _ _ ?_; clear hK K
  refine DR.call (args := [(vr 0).av, (vr 1).av]) rfl rfl rfl (by simp) rfl (aw2_any _ (hh.app (by simp)) (vr 0) (vr 1)) ?_
  refine DR.go fun K hK => ?_
  simp
  try (simp (disch := omega) only [wrap_id])
  refine hK _ _ _ _ ?_; clear hK K
  refine DR.call (args := [(Tm.mk 5 0 [] [] Lb).av, (fnT (vr 0) (vr 1)).av]) rfl rfl rfl (by simp) rfl (sa_ok _ _ sm2 same2 _ (hh.app (by simp))) ?_
  refine DR.go fun K hK => ?_
  simp
  try (simp (disch := omega) only [wrap_id])
  refine hK _ _ _ _ ?_; clear hK K
  refine DR.call (args := [iA 5]) rfl rfl rfl (by simp) rfl (aw1_any _ (hh.app (by simp)) 5) ?_
  refine DR.go fun K hK => ?_
  simp
  try (simp (disch := omega) only [wrap_id])
  refine hK _ _ _ _ ?_; clear hK K
  refine DR.call (args := [iA 1]) rfl rfl rfl (by simp) rfl (aw1_any _ (hh.app (by simp)) 1) ?_
  refine DR.go fun K hK => ?_
  simp
  try (simp (disch := omega) only [wrap_id])
  refine hK _ _ _ _ ?_; clear hK K
  refine DR.call (args := [(vr 5).av, (vr 1).av]) rfl rfl rfl (by simp) rfl (aw2_any _ (hh.app (by simp)) (vr 5) (vr 1)) ?_
  refine DR.go fun K hK => ?_
  simp
  try (simp (disch := omega) only [wrap_id])
  refine hK _ _ _ _ ?_; clear hK K
  refine DR.call (args := [(Tm.mk 5 0 [] [] Lc).av, (fnT (vr 5) (vr 1)).av]) rfl rfl rfl (by simp) rfl (sa_ok _ _ sm4 same4 _ (hh.app (by simp))) ?_
  refine DR.go fun K hK => ?_
  simp
  try (simp (disch := omega) only [wrap_id])
  refine hK _ _ _ _ ?_; clear hK K
  refine DR.call rfl rfl rfl rfl rfl (ACalls.weak ?_ (sa_ok _ _ sm5 same5 _ (hh.app (by simp)))) ?_
  · simp only [appT, lamT, natT, natB, Tm.av, cells_mk, List.map, tmPs, lvPs]
    repeat' (first | exact WeakL.nil | apply WeakL.cons)
    all_goals first | exact Weak.refl _ | skip
    refine Weak.agg ?_
    repeat' (first | exact WeakL.nil | apply WeakL.cons)
    all_goals first | exact Weak.refl _ | exact Weak.nil _ | skip
    refine (WeakP.sl ?_).av
    repeat' (first | exact WeakPs.nil | apply WeakPs.cons | exact WeakPL.nil | apply WeakPL.cons)
    all_goals first | exact WeakPL.refl _ | exact WeakP.refl _ | exact WeakP.nil _ | skip
    all_goals refine WeakP.sl ?_
    all_goals repeat' (first | exact WeakPs.nil | apply WeakPs.cons | exact WeakPL.nil | apply WeakPL.cons)
    all_goals first | exact WeakPL.refl _ | exact WeakP.refl _ | exact WeakP.nil _ | skip
  refine DR.go fun K hK => ?_
  simp
  try (simp (disch := omega) only [wrap_id])
  refine hK _ _ _ _ ?_; clear hK K
  change Run _ _ _ _ _ _ _ _
  refine nv ?_
  refine Run.ret ?_
  refine Fin.ret' (by simp) rfl hh rfl (by simp; rfl) rfl (Weak.refl _) (by simp) ⟨rfl, rfl⟩

end Go.Proofs.YtcfcolkbeelegaaGreat
