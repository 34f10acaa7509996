/-
  euclidlaw04.SubstTwice: its contract.
-/
import Derived.Test.YtppgpabjcenjdaaS2
namespace Go.Proofs.Ytppgpabjcenjdaa
open Go Go.AI

theorem resRefShift_ok (by_ fr : Int) (t : Tm) (h : t.ok 65536) : (resRefShift by_ fr t).1.ok 65536 ∧ (resRefShift by_ fr t).1.size ≤ t.size := by
  have e : resRefShift by_ fr t = if fr < 0 ∨ by_ < -65536 ∨ 65536 < by_ then (zT, 2) else if shiftBad by_ (capD fr) 0 t = true then (zT, 24) else (shiftT by_ (capD fr) 0 t, 0) := rfl
  have hp := t.size_pos
  have hz : zT.ok 65536 ∧ zT.size ≤ t.size := ⟨zT_ok _ (by omega), by simpa [zT, Tm.size, Tm.sizes] using hp⟩
  rw [e]
  by_cases h1 : fr < 0 ∨ by_ < -65536 ∨ 65536 < by_
  · rw [if_pos h1]; exact hz
  · rw [if_neg h1]
    by_cases h2 : shiftBad by_ (capD fr) 0 t = true
    · rw [if_pos h2]; exact hz
    · rw [if_neg h2]
      exact ⟨shiftT_ok by_ (capD fr) (by unfold capD; split <;> omega) t 0 65536 65536 h (by omega) (by omega) (by omega) (by simpa using h2), by simp only; rw [shiftT_size by_ (capD fr) t 0 65536 h]; exact Nat.le_refl _⟩

theorem resRefUnder_ok0 (t : Tm) (vs : List Tm) (hok : t.ok 65536) (hvo : ∀ v ∈ vs, v.ok 65536) : (resRefUnder t vs 0).1.ok 65536 ∧ (resRefUnder t vs 0).1.size ≤ 4096 := by
  rw [resRef_plain t vs 0 (by omega)]
  have := resSub_ok t vs (capD 0) (by unfold capD; split <;> omega) hvo hok
  simpa [capD] using this
theorem resRefUnder_zero (t : Tm) (vs : List Tm) (h : (resRefUnder t vs 0).2 = 0) : (resRefUnder t vs 0).1 = subT vs 0 t := by
  rw [resRef_plain t vs 0 (by omega)] at h ⊢
  exact resSub_zero h

set_option maxRecDepth 8000 in
set_option maxHeartbeats 8000000 in
theorem substTwice_any (h : Heap) (hh : WF h) (t x y : Tm) (hsz : t.size + x.size + y.size ≤ 1048576) (hlv : t.lvs) (hlv2 : x.lvs) (hlv3 : y.lvs) (hf : t.fit) (hf2 : x.fit) (hf3 : y.fit) :
    ACalls Try.prog 6 [t.av, x.av, y.av] h fun o h' => o = .ret (bA true) ∧ h' = h := by
  have hll : Tm.lvss [t, x, y] := by simp only [Tm.lvss]; exact ⟨hlv, hlv2, hlv3, trivial⟩
  have hgood := fun (g : Heap) (hg : WF g) => good_any g hg [t, x, y] (by simp only [Tm.sizes]; omega) hll (by simp only [Tm.fits]; exact ⟨hf, hf2, hf3, trivial⟩)
  cases hb : goodB [t, x, y] with
  | false =>
    rw [hb] at hgood
    obtain ⟨k, i, nm, ls, ks⟩ := t
    obtain ⟨xk, xi, xn, xls, xks⟩ := x
    obtain ⟨yk, yi, yn, yls, yks⟩ := y
    refine ACalls.of_run Try.func6 rfl ?_
    simp only [Try.ntmps6, List.length_cons, List.length_nil, Tm.av, cells_mk, List.map]
    repeat (first | refine Run.seq ?_ | refine Run.block ?_ | refine Run.skip ?_ | refine Run.inBlock ?_ | refine Run.opsNil ?_)
    repeat (first | refine Run.seq ?_ | refine Run.block ?_ | refine Run.skip ?_ | refine Run.inBlock ?_ | refine Run.opsNil ?_)
    refine Run.reg fun K hK => ?_
    simp
    try (simp (disch := omega) only [wrap_id])
    refine hK _ _ _ ?_; clear hK K
    repeat (first | refine Run.seq ?_ | refine Run.block ?_ | refine Run.skip ?_ | refine Run.inBlock ?_ | refine Run.opsNil ?_)
    repeat (first | refine Run.seq ?_ | refine Run.block ?_ | refine Run.skip ?_ | refine Run.inBlock ?_ | refine Run.opsNil ?_)
    refine Run.reg fun K hK => ?_
    simp
    try (simp (disch := omega) only [wrap_id])
    refine hK _ _ _ ?_; clear hK K
    repeat (first | refine Run.seq ?_ | refine Run.block ?_ | refine Run.skip ?_ | refine Run.inBlock ?_ | refine Run.opsNil ?_)
    refine Run.call (args := [.p (.sl 5 [(Tm.mk k i nm ls ks).cells, (Tm.mk xk xi xn xls xks).cells, (Tm.mk yk yi yn yls yks).cells])]) rfl (by first | rfl | simp) (by simp) rfl (hgood _ (hh.app (by simp))) ?_ ?_
    rotate_left
    · rintro v h' ⟨hv, _⟩; cases hv
    rintro v h' ⟨hv, rfl⟩
    simp only [AOut.ret.injEq] at hv
    subst hv
    refine Run.ops fun K hK => ?_
    simp
    try (simp (disch := omega) only [wrap_id])
    refine hK _ _ _ ?_; clear hK K
    repeat (first | refine Run.seq ?_ | refine Run.block ?_ | refine Run.skip ?_ | refine Run.inBlock ?_ | refine Run.opsNil ?_)
    repeat (first | refine Run.seq ?_ | refine Run.block ?_ | refine Run.skip ?_ | refine Run.inBlock ?_ | refine Run.opsNil ?_)
    refine Run.cond (b := true) (by simp) ?_
    simp only [if_true]
    repeat (first | refine Run.seq ?_ | refine Run.block ?_ | refine Run.skip ?_ | refine Run.inBlock ?_ | refine Run.opsNil ?_)
    repeat (first | refine Run.seq ?_ | refine Run.block ?_ | refine Run.skip ?_ | refine Run.inBlock ?_ | refine Run.opsNil ?_)
    refine Run.reg fun K hK => ?_
    simp
    try (simp (disch := omega) only [wrap_id])
    refine hK _ _ _ ?_; clear hK K
    repeat (first | refine Run.seq ?_ | refine Run.block ?_ | refine Run.skip ?_ | refine Run.inBlock ?_ | refine Run.opsNil ?_)
    refine Run.call (args := []) rfl (by first | rfl | simp) (by simp) rfl (awake_any _ (hh.app (by simp))) ?_ ?_
    rotate_left
    · rintro v h' ⟨hv, _⟩; cases hv
    rintro v h' ⟨hv, rfl⟩
    simp only [AOut.ret.injEq] at hv
    subst hv
    refine Run.ops fun K hK => ?_
    simp
    try (simp (disch := omega) only [wrap_id])
    refine hK _ _ _ ?_; clear hK K
    repeat (first | refine Run.seq ?_ | refine Run.block ?_ | refine Run.skip ?_ | refine Run.inBlock ?_ | refine Run.opsNil ?_)
    refine Run.ret ?_
    refine Fin.ret' (h0 := h) (by simp) rfl hh rfl (by simp; rfl) rfl (Weak.refl _) (by simp) ⟨rfl, rfl⟩
  | true =>
    rw [hb] at hgood
    have hga := good_all hll hb
    obtain ⟨ot, st, _⟩ := hga t (by simp)
    obtain ⟨ox, sx, _⟩ := hga x (by simp)
    obtain ⟨oy, sy, _⟩ := hga y (by simp)
    have h1 := fun (g : Heap) (hg : WF g) => shift_any g hg x 1 0 (by omega) (by omega) (by omega) ⟨by simpa using ox, by omega, by omega⟩
    rw [res_shift 1 0 x ox] at h1
    have k1 := resRefShift_ok 1 0 x ox
    have z1 := resRefShift_zero (by_ := 1) (fr := 0) (t := x)
    generalize resRefShift 1 0 x = r1 at h1 k1 z1
    obtain ⟨up, e1⟩ := r1
    simp only at k1 z1
    have h2 := fun (g : Heap) (hg : WF g) => (subst_both t [up] ot st (by simp) (by intro v hv; simp at hv; subst hv; exact ⟨k1.1, by omega⟩) g hg).1
    have k2 := resRefUnder_ok0 t [up] ot (by intro v hv; simp at hv; subst hv; exact k1.1)
    have z2 := resRefUnder_zero t [up]
    generalize resRefUnder t [up] 0 = r2 at h2 k2 z2
    obtain ⟨one, e2⟩ := r2
    simp only at k2 z2
    have h3 := fun (g : Heap) (hg : WF g) => (subst_both one [y] k2.1 k2.2 (by simp) (by intro v hv; simp at hv; subst hv; exact ⟨oy, sy⟩) g hg).1
    have k3 := resRefUnder_ok0 one [y] k2.1 (by intro v hv; simp at hv; subst hv; exact oy)
    have z3 := resRefUnder_zero one [y]
    generalize resRefUnder one [y] 0 = r3 at h3 k3 z3
    obtain ⟨two, e3⟩ := r3
    simp only at k3 z3
    have h4 := fun (g : Heap) (hg : WF g) => (subst_both t [x, y] ot st (by simp) (by intro v hv; simp at hv; rcases hv with rfl | rfl; exact ⟨ox, sx⟩; exact ⟨oy, sy⟩) g hg).1
    have k4 := resRefUnder_ok0 t [x, y] ot (by intro v hv; simp at hv; rcases hv with rfl | rfl; exact ox; exact oy)
    have z4 := resRefUnder_zero t [x, y]
    generalize resRefUnder t [x, y] 0 = r4 at h4 k4 z4
    obtain ⟨both, e4⟩ := r4
    simp only at k4 z4
    have hkey : e1 = 0 → e2 = 0 → e3 = 0 → e4 = 0 → two = both := by
      intro a1 a2 a3 a4
      rw [z3 a3, z2 a2, (z1 a1).1, z4 a4]
      exact sub_twice x y 65536 ox t 0 65536 ot (by omega)
    have hsame := fun (g : Heap) (hg : WF g) => same_any two.size two both g (Nat.le_refl _) (by have := k3.2; omega) (ok_lvs _ _ k3.1) hg
    clear z1 z2 z3 z4 k1 k2 k3 k4
    obtain ⟨k, i, nm, ls, ks⟩ := t
    obtain ⟨xk, xi, xn, xls, xks⟩ := x
    obtain ⟨yk, yi, yn, yls, yks⟩ := y
    obtain ⟨ak, ai, an, als, aks⟩ := up
    obtain ⟨bk, bi, bn, bls, bks⟩ := one
    obtain ⟨ck, ci, cn, cls, cks⟩ := two
    obtain ⟨dk, di, dn, dls, dks⟩ := both
    refine ACalls.of_run Try.func6 rfl ?_
    simp only [Try.ntmps6, List.length_cons, List.length_nil, Tm.av, cells_mk, List.map]
    repeat (first | refine Run.seq ?_ | refine Run.block ?_ | refine Run.skip ?_ | refine Run.inBlock ?_ | refine Run.opsNil ?_)
    repeat (first | refine Run.seq ?_ | refine Run.block ?_ | refine Run.skip ?_ | refine Run.inBlock ?_ | refine Run.opsNil ?_)
    refine Run.reg fun K hK => ?_
    simp
    try (simp (disch := omega) only [wrap_id])
    refine hK _ _ _ ?_; clear hK K
    repeat (first | refine Run.seq ?_ | refine Run.block ?_ | refine Run.skip ?_ | refine Run.inBlock ?_ | refine Run.opsNil ?_)
    repeat (first | refine Run.seq ?_ | refine Run.block ?_ | refine Run.skip ?_ | refine Run.inBlock ?_ | refine Run.opsNil ?_)
    refine Run.reg fun K hK => ?_
    simp
    try (simp (disch := omega) only [wrap_id])
    refine hK _ _ _ ?_; clear hK K
    repeat (first | refine Run.seq ?_ | refine Run.block ?_ | refine Run.skip ?_ | refine Run.inBlock ?_ | refine Run.opsNil ?_)
    refine Run.call (args := [.p (.sl 5 [(Tm.mk k i nm ls ks).cells, (Tm.mk xk xi xn xls xks).cells, (Tm.mk yk yi yn yls yks).cells])]) rfl (by first | rfl | simp) (by simp) rfl (hgood _ (hh.app (by simp))) ?_ ?_
    rotate_left
    · rintro v h' ⟨hv, _⟩; cases hv
    rintro v h' ⟨hv, rfl⟩
    simp only [AOut.ret.injEq] at hv
    subst hv
    refine Run.ops fun K hK => ?_
    simp
    try (simp (disch := omega) only [wrap_id])
    refine hK _ _ _ ?_; clear hK K
    repeat (first | refine Run.seq ?_ | refine Run.block ?_ | refine Run.skip ?_ | refine Run.inBlock ?_ | refine Run.opsNil ?_)
    repeat (first | refine Run.seq ?_ | refine Run.block ?_ | refine Run.skip ?_ | refine Run.inBlock ?_ | refine Run.opsNil ?_)
    refine Run.cond (b := false) (by simp) ?_
    simp only [Bool.false_eq_true, if_false]
    repeat (first | refine Run.seq ?_ | refine Run.block ?_ | refine Run.skip ?_ | refine Run.inBlock ?_ | refine Run.opsNil ?_)
    repeat (first | refine Run.seq ?_ | refine Run.block ?_ | refine Run.skip ?_ | refine Run.inBlock ?_ | refine Run.opsNil ?_)
    refine Run.reg fun K hK => ?_
    simp
    try (simp (disch := omega) only [wrap_id])
    refine hK _ _ _ ?_; clear hK K
    repeat (first | refine Run.seq ?_ | refine Run.block ?_ | refine Run.skip ?_ | refine Run.inBlock ?_ | refine Run.opsNil ?_)
    refine Run.call (args := [(Tm.mk xk xi xn xls xks).av, iA 1, iA 0]) rfl (by first | rfl | simp) (by simp) rfl (h1 _ (hh.app (by simp))) ?_ ?_
    rotate_left
    · rintro v h' ⟨hv, _⟩; cases hv
    rintro v h' ⟨hv, rfl⟩
    simp only [AOut.ret.injEq] at hv
    subst hv
    refine Run.ops fun K hK => ?_
    simp
    try (simp (disch := omega) only [wrap_id])
    refine hK _ _ _ ?_; clear hK K
    repeat (first | refine Run.seq ?_ | refine Run.block ?_ | refine Run.skip ?_ | refine Run.inBlock ?_ | refine Run.opsNil ?_)
    repeat (first | refine Run.seq ?_ | refine Run.block ?_ | refine Run.skip ?_ | refine Run.inBlock ?_ | refine Run.opsNil ?_)
    refine Run.reg fun K hK => ?_
    simp
    try (simp (disch := omega) only [wrap_id])
    refine hK _ _ _ ?_; clear hK K
    repeat (first | refine Run.seq ?_ | refine Run.block ?_ | refine Run.skip ?_ | refine Run.inBlock ?_ | refine Run.opsNil ?_)
    refine Run.call (args := [(Tm.mk k i nm ls ks).av, .p (.sl 5 [(Tm.mk ak ai an als aks).cells])]) rfl (by first | rfl | simp) (by simp) rfl (h2 _ (hh.app (by simp))) ?_ ?_
    rotate_left
    · rintro v h' ⟨hv, _⟩; cases hv
    rintro v h' ⟨hv, rfl⟩
    simp only [AOut.ret.injEq] at hv
    subst hv
    refine Run.ops fun K hK => ?_
    simp
    try (simp (disch := omega) only [wrap_id])
    refine hK _ _ _ ?_; clear hK K
    repeat (first | refine Run.seq ?_ | refine Run.block ?_ | refine Run.skip ?_ | refine Run.inBlock ?_ | refine Run.opsNil ?_)
    repeat (first | refine Run.seq ?_ | refine Run.block ?_ | refine Run.skip ?_ | refine Run.inBlock ?_ | refine Run.opsNil ?_)
    refine Run.reg fun K hK => ?_
    simp
    try (simp (disch := omega) only [wrap_id])
    refine hK _ _ _ ?_; clear hK K
    repeat (first | refine Run.seq ?_ | refine Run.block ?_ | refine Run.skip ?_ | refine Run.inBlock ?_ | refine Run.opsNil ?_)
    refine Run.call (args := [(Tm.mk bk bi bn bls bks).av, .p (.sl 5 [(Tm.mk yk yi yn yls yks).cells])]) rfl (by first | rfl | simp) (by simp) rfl (h3 _ (hh.app (by simp))) ?_ ?_
    rotate_left
    · rintro v h' ⟨hv, _⟩; cases hv
    rintro v h' ⟨hv, rfl⟩
    simp only [AOut.ret.injEq] at hv
    subst hv
    refine Run.ops fun K hK => ?_
    simp
    try (simp (disch := omega) only [wrap_id])
    refine hK _ _ _ ?_; clear hK K
    repeat (first | refine Run.seq ?_ | refine Run.block ?_ | refine Run.skip ?_ | refine Run.inBlock ?_ | refine Run.opsNil ?_)
    repeat (first | refine Run.seq ?_ | refine Run.block ?_ | refine Run.skip ?_ | refine Run.inBlock ?_ | refine Run.opsNil ?_)
    refine Run.reg fun K hK => ?_
    simp
    try (simp (disch := omega) only [wrap_id])
    refine hK _ _ _ ?_; clear hK K
    repeat (first | refine Run.seq ?_ | refine Run.block ?_ | refine Run.skip ?_ | refine Run.inBlock ?_ | refine Run.opsNil ?_)
    refine Run.call (args := [(Tm.mk k i nm ls ks).av, .p (.sl 5 [(Tm.mk xk xi xn xls xks).cells, (Tm.mk yk yi yn yls yks).cells])]) rfl (by first | rfl | simp) (by simp) rfl (h4 _ (hh.app (by simp))) ?_ ?_
    rotate_left
    · rintro v h' ⟨hv, _⟩; cases hv
    rintro v h' ⟨hv, rfl⟩
    simp only [AOut.ret.injEq] at hv
    subst hv
    refine Run.ops fun K hK => ?_
    simp
    try (simp (disch := omega) only [wrap_id])
    refine hK _ _ _ ?_; clear hK K
    repeat (first | refine Run.seq ?_ | refine Run.block ?_ | refine Run.skip ?_ | refine Run.inBlock ?_ | refine Run.opsNil ?_)
    by_cases he : e1 = 0 ∧ e2 = 0 ∧ e3 = 0 ∧ e4 = 0
    · obtain ⟨rfl, rfl, rfl, rfl⟩ := he
      have hk := hkey rfl rfl rfl rfl
      rw [hk, sameT_refl] at hsame
      injection hk with q1 q2 q3 q4 q5
      subst q1 q2 q3 q4 q5
      repeat (first | refine Run.seq ?_ | refine Run.block ?_ | refine Run.skip ?_ | refine Run.inBlock ?_ | refine Run.opsNil ?_)
      refine Run.reg fun K hK => ?_
      simp
      try (simp (disch := omega) only [wrap_id])
      refine hK _ _ _ ?_; clear hK K
      repeat (first | refine Run.seq ?_ | refine Run.block ?_ | refine Run.skip ?_ | refine Run.inBlock ?_ | refine Run.opsNil ?_)
      repeat (first | refine Run.seq ?_ | refine Run.block ?_ | refine Run.skip ?_ | refine Run.inBlock ?_ | refine Run.opsNil ?_)
      refine Run.cond (b := false) (by simp) ?_
      simp only [Bool.false_eq_true, if_false]
      repeat (first | refine Run.seq ?_ | refine Run.block ?_ | refine Run.skip ?_ | refine Run.inBlock ?_ | refine Run.opsNil ?_)
      repeat (first | refine Run.seq ?_ | refine Run.block ?_ | refine Run.skip ?_ | refine Run.inBlock ?_ | refine Run.opsNil ?_)
      refine Run.reg fun K hK => ?_
      simp
      try (simp (disch := omega) only [wrap_id])
      refine hK _ _ _ ?_; clear hK K
      repeat (first | refine Run.seq ?_ | refine Run.block ?_ | refine Run.skip ?_ | refine Run.inBlock ?_ | refine Run.opsNil ?_)
      refine Run.call (args := [(Tm.mk ck ci cn cls cks).av, (Tm.mk ck ci cn cls cks).av]) rfl (by first | rfl | simp) (by simp) rfl (hsame _ (hh.app (by simp))) ?_ ?_
      rotate_left
      · rintro v h' ⟨hv, _⟩; cases hv
      rintro v h' ⟨hv, rfl⟩
      simp only [AOut.ret.injEq] at hv
      subst hv
      refine Run.ops fun K hK => ?_
      simp
      try (simp (disch := omega) only [wrap_id])
      refine hK _ _ _ ?_; clear hK K
      repeat (first | refine Run.seq ?_ | refine Run.block ?_ | refine Run.skip ?_ | refine Run.inBlock ?_ | refine Run.opsNil ?_)
      refine Run.call (args := []) rfl (by first | rfl | simp) (by simp) rfl (awake_any _ (hh.app (by simp))) ?_ ?_
      rotate_left
      · rintro v h' ⟨hv, _⟩; cases hv
      rintro v h' ⟨hv, rfl⟩
      simp only [AOut.ret.injEq] at hv
      subst hv
      refine Run.ops fun K hK => ?_
      simp
      try (simp (disch := omega) only [wrap_id])
      refine hK _ _ _ ?_; clear hK K
      repeat (first | refine Run.seq ?_ | refine Run.block ?_ | refine Run.skip ?_ | refine Run.inBlock ?_ | refine Run.opsNil ?_)
      refine Run.ret ?_
      refine Fin.ret' (h0 := h) (by simp) rfl hh rfl (by simp; rfl) rfl (Weak.refl _) (by simp) ⟨rfl, rfl⟩
    · have hne : ∀ e : Int, e ≠ 0 → (e != 0) = true := fun e he => by simpa using he
      by_cases a1 : e1 = 0
      · subst a1
        by_cases a2 : e2 = 0
        · subst a2
          by_cases a3 : e3 = 0
          · subst a3
            have a4 : e4 ≠ 0 := fun h4 => he ⟨rfl, rfl, rfl, h4⟩
            repeat (first | refine Run.seq ?_ | refine Run.block ?_ | refine Run.skip ?_ | refine Run.inBlock ?_ | refine Run.opsNil ?_)
            refine Run.reg fun K hK => ?_
            simp [hne e4 a4]
            try (simp (disch := omega) only [wrap_id])
            refine hK _ _ _ ?_; clear hK K
            repeat (first | refine Run.seq ?_ | refine Run.block ?_ | refine Run.skip ?_ | refine Run.inBlock ?_ | refine Run.opsNil ?_)
            repeat (first | refine Run.seq ?_ | refine Run.block ?_ | refine Run.skip ?_ | refine Run.inBlock ?_ | refine Run.opsNil ?_)
            refine Run.cond (b := true) (by simp) ?_
            simp only [if_true]
            repeat (first | refine Run.seq ?_ | refine Run.block ?_ | refine Run.skip ?_ | refine Run.inBlock ?_ | refine Run.opsNil ?_)
            repeat (first | refine Run.seq ?_ | refine Run.block ?_ | refine Run.skip ?_ | refine Run.inBlock ?_ | refine Run.opsNil ?_)
            refine Run.reg fun K hK => ?_
            simp
            try (simp (disch := omega) only [wrap_id])
            refine hK _ _ _ ?_; clear hK K
            repeat (first | refine Run.seq ?_ | refine Run.block ?_ | refine Run.skip ?_ | refine Run.inBlock ?_ | refine Run.opsNil ?_)
            refine Run.call (args := []) rfl (by first | rfl | simp) (by simp) rfl (awake_any _ (hh.app (by simp))) ?_ ?_
            rotate_left
            · rintro v h' ⟨hv, _⟩; cases hv
            rintro v h' ⟨hv, rfl⟩
            simp only [AOut.ret.injEq] at hv
            subst hv
            refine Run.ops fun K hK => ?_
            simp
            try (simp (disch := omega) only [wrap_id])
            refine hK _ _ _ ?_; clear hK K
            repeat (first | refine Run.seq ?_ | refine Run.block ?_ | refine Run.skip ?_ | refine Run.inBlock ?_ | refine Run.opsNil ?_)
            refine Run.ret ?_
            refine Fin.ret' (h0 := h) (by simp) rfl hh rfl (by simp; rfl) rfl (Weak.refl _) (by simp) ⟨rfl, rfl⟩
          · repeat (first | refine Run.seq ?_ | refine Run.block ?_ | refine Run.skip ?_ | refine Run.inBlock ?_ | refine Run.opsNil ?_)
            refine Run.reg fun K hK => ?_
            simp [hne e3 a3]
            try (simp (disch := omega) only [wrap_id])
            refine hK _ _ _ ?_; clear hK K
            repeat (first | refine Run.seq ?_ | refine Run.block ?_ | refine Run.skip ?_ | refine Run.inBlock ?_ | refine Run.opsNil ?_)
            repeat (first | refine Run.seq ?_ | refine Run.block ?_ | refine Run.skip ?_ | refine Run.inBlock ?_ | refine Run.opsNil ?_)
            refine Run.cond (b := true) (by simp) ?_
            simp only [if_true]
            repeat (first | refine Run.seq ?_ | refine Run.block ?_ | refine Run.skip ?_ | refine Run.inBlock ?_ | refine Run.opsNil ?_)
            repeat (first | refine Run.seq ?_ | refine Run.block ?_ | refine Run.skip ?_ | refine Run.inBlock ?_ | refine Run.opsNil ?_)
            refine Run.reg fun K hK => ?_
            simp
            try (simp (disch := omega) only [wrap_id])
            refine hK _ _ _ ?_; clear hK K
            repeat (first | refine Run.seq ?_ | refine Run.block ?_ | refine Run.skip ?_ | refine Run.inBlock ?_ | refine Run.opsNil ?_)
            refine Run.call (args := []) rfl (by first | rfl | simp) (by simp) rfl (awake_any _ (hh.app (by simp))) ?_ ?_
            rotate_left
            · rintro v h' ⟨hv, _⟩; cases hv
            rintro v h' ⟨hv, rfl⟩
            simp only [AOut.ret.injEq] at hv
            subst hv
            refine Run.ops fun K hK => ?_
            simp
            try (simp (disch := omega) only [wrap_id])
            refine hK _ _ _ ?_; clear hK K
            repeat (first | refine Run.seq ?_ | refine Run.block ?_ | refine Run.skip ?_ | refine Run.inBlock ?_ | refine Run.opsNil ?_)
            refine Run.ret ?_
            refine Fin.ret' (h0 := h) (by simp) rfl hh rfl (by simp; rfl) rfl (Weak.refl _) (by simp) ⟨rfl, rfl⟩
        · repeat (first | refine Run.seq ?_ | refine Run.block ?_ | refine Run.skip ?_ | refine Run.inBlock ?_ | refine Run.opsNil ?_)
          refine Run.reg fun K hK => ?_
          simp [hne e2 a2]
          try (simp (disch := omega) only [wrap_id])
          refine hK _ _ _ ?_; clear hK K
          repeat (first | refine Run.seq ?_ | refine Run.block ?_ | refine Run.skip ?_ | refine Run.inBlock ?_ | refine Run.opsNil ?_)
          repeat (first | refine Run.seq ?_ | refine Run.block ?_ | refine Run.skip ?_ | refine Run.inBlock ?_ | refine Run.opsNil ?_)
          refine Run.cond (b := true) (by simp) ?_
          simp only [if_true]
          repeat (first | refine Run.seq ?_ | refine Run.block ?_ | refine Run.skip ?_ | refine Run.inBlock ?_ | refine Run.opsNil ?_)
          repeat (first | refine Run.seq ?_ | refine Run.block ?_ | refine Run.skip ?_ | refine Run.inBlock ?_ | refine Run.opsNil ?_)
          refine Run.reg fun K hK => ?_
          simp
          try (simp (disch := omega) only [wrap_id])
          refine hK _ _ _ ?_; clear hK K
          repeat (first | refine Run.seq ?_ | refine Run.block ?_ | refine Run.skip ?_ | refine Run.inBlock ?_ | refine Run.opsNil ?_)
          refine Run.call (args := []) rfl (by first | rfl | simp) (by simp) rfl (awake_any _ (hh.app (by simp))) ?_ ?_
          rotate_left
          · rintro v h' ⟨hv, _⟩; cases hv
          rintro v h' ⟨hv, rfl⟩
          simp only [AOut.ret.injEq] at hv
          subst hv
          refine Run.ops fun K hK => ?_
          simp
          try (simp (disch := omega) only [wrap_id])
          refine hK _ _ _ ?_; clear hK K
          repeat (first | refine Run.seq ?_ | refine Run.block ?_ | refine Run.skip ?_ | refine Run.inBlock ?_ | refine Run.opsNil ?_)
          refine Run.ret ?_
          refine Fin.ret' (h0 := h) (by simp) rfl hh rfl (by simp; rfl) rfl (Weak.refl _) (by simp) ⟨rfl, rfl⟩
      · repeat (first | refine Run.seq ?_ | refine Run.block ?_ | refine Run.skip ?_ | refine Run.inBlock ?_ | refine Run.opsNil ?_)
        refine Run.reg fun K hK => ?_
        simp [hne e1 a1]
        try (simp (disch := omega) only [wrap_id])
        refine hK _ _ _ ?_; clear hK K
        repeat (first | refine Run.seq ?_ | refine Run.block ?_ | refine Run.skip ?_ | refine Run.inBlock ?_ | refine Run.opsNil ?_)
        repeat (first | refine Run.seq ?_ | refine Run.block ?_ | refine Run.skip ?_ | refine Run.inBlock ?_ | refine Run.opsNil ?_)
        refine Run.cond (b := true) (by simp) ?_
        simp only [if_true]
        repeat (first | refine Run.seq ?_ | refine Run.block ?_ | refine Run.skip ?_ | refine Run.inBlock ?_ | refine Run.opsNil ?_)
        repeat (first | refine Run.seq ?_ | refine Run.block ?_ | refine Run.skip ?_ | refine Run.inBlock ?_ | refine Run.opsNil ?_)
        refine Run.reg fun K hK => ?_
        simp
        try (simp (disch := omega) only [wrap_id])
        refine hK _ _ _ ?_; clear hK K
        repeat (first | refine Run.seq ?_ | refine Run.block ?_ | refine Run.skip ?_ | refine Run.inBlock ?_ | refine Run.opsNil ?_)
        refine Run.call (args := []) rfl (by first | rfl | simp) (by simp) rfl (awake_any _ (hh.app (by simp))) ?_ ?_
        rotate_left
        · rintro v h' ⟨hv, _⟩; cases hv
        rintro v h' ⟨hv, rfl⟩
        simp only [AOut.ret.injEq] at hv
        subst hv
        refine Run.ops fun K hK => ?_
        simp
        try (simp (disch := omega) only [wrap_id])
        refine hK _ _ _ ?_; clear hK K
        repeat (first | refine Run.seq ?_ | refine Run.block ?_ | refine Run.skip ?_ | refine Run.inBlock ?_ | refine Run.opsNil ?_)
        refine Run.ret ?_
        refine Fin.ret' (h0 := h) (by simp) rfl hh rfl (by simp; rfl) rfl (Weak.refl _) (by simp) ⟨rfl, rfl⟩

end Go.Proofs.Ytppgpabjcenjdaa
