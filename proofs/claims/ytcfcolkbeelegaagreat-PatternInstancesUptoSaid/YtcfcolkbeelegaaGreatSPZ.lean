import Derived.Test.YtcfcolkbeelegaaGreatSPY

namespace Go.Proofs.YtcfcolkbeelegaaGreat

open Go Go.AI
abbrev zRaw : List PV := [iP 1, sP zeroB, .sl 3 []]
abbrev sRaw : List PV := [iP 1, sP succB, .sl 3 [[iP 0, sP [], .sl 3 []]]]
abbrev rc (a b : List PV) : List PV := [.sl 3 [a, b], iP 0, iP 0, sP [], .prim (.slice none 0 0), .prim (.slice none 0 0)]
abbrev rT (i : Int) : List PV := [iP 0, iP i, sP [], .prim (.slice none 0 0), .prim (.slice none 0 0)]
abbrev rZ : List PV := [iP 3, iP 0, sP zeroB, .prim (.slice none 0 0), .prim (.slice none 0 0)]
theorem v_weak : WeakPL vRaw vPt.cells := by simp only [vPt, pcells_mk, ptPs]; exact WeakPL.cons (WeakP.refl _) (WeakPL.cons (WeakP.refl _) (WeakPL.cons (WeakP.nil _) WeakPL.nil))
theorem pl_refl : ∀ l : List PV, WeakPL l l
 | [] => WeakPL.nil
 | x :: l => WeakPL.cons (WeakP.refl x) (pl_refl l)
theorem z_eq : zRaw = zPn.cells := by simp only [zPn, pcells_mk, ptPs]
theorem s_eq : sRaw = sPn.cells := by simp only [sPn, vPt, pcells_mk, ptPs]
theorem rc_weak {a b : List PV} {p q : Pt} (h1 : WeakPL a p.cells) (h2 : WeakPL b q.cells) : WeakPL (rc a b) (Cl.cells ⟨[p, q], zT⟩) := by
 simp only [Cl.cells, zT, cells_mk, ptPs, lvPs, tmPs, List.map]
 exact WeakPL.cons (WeakP.sl (WeakPs.cons h1 (WeakPs.cons h2 WeakPs.nil))) (WeakPL.cons (WeakP.refl _) (WeakPL.cons (WeakP.refl _) (WeakPL.cons (WeakP.refl _) (WeakPL.cons (WeakP.nil _) (WeakPL.cons (WeakP.nil _) WeakPL.nil)))))
theorem zw : WeakPL zRaw zPn.cells := by rw [z_eq]; exact pl_refl _
theorem sw : WeakPL sRaw sPn.cells := by rw [s_eq]; exact pl_refl _
theorem RC_weak : WeakPs [rc zRaw vRaw, rc sRaw zRaw, rc sRaw sRaw] (clPs clsA) := by
 simp only [clPs, clsA, List.map]
 exact WeakPs.cons (rc_weak zw v_weak) (WeakPs.cons (rc_weak sw zw) (WeakPs.cons (rc_weak sw sw) WeakPs.nil))
theorem RL_weak : WeakPs [rc zRaw vRaw, rc sRaw sRaw] (clPs lessA) := by
 simp only [clPs, lessA, List.map]
 exact WeakPs.cons (rc_weak zw v_weak) (WeakPs.cons (rc_weak sw sw) WeakPs.nil)
theorem rT_weak (i : Int) : WeakPL (rT i) (vr i).cells := by
 simp only [vr, cells_mk, lvPs, tmPs, List.map]
 exact WeakPL.cons (WeakP.refl _) (WeakPL.cons (WeakP.refl _) (WeakPL.cons (WeakP.refl _) (WeakPL.cons (WeakP.nil _) (WeakPL.cons (WeakP.nil _) WeakPL.nil))))
theorem rZ_weak : WeakPL rZ zroT.cells := by
 simp only [zroT, cells_mk, lvPs, tmPs, List.map]
 exact WeakPL.cons (WeakP.refl _) (WeakPL.cons (WeakP.refl _) (WeakPL.cons (WeakP.refl _) (WeakPL.cons (WeakP.nil _) (WeakPL.cons (WeakP.nil _) WeakPL.nil))))
theorem rT_weakA (i : Int) : Weak (.agg ((rT i).map .p)) (vr i).av := by
 simp only [vr, Tm.av, cells_mk, lvPs, tmPs, List.map]
 exact Weak.agg (WeakL.cons (Weak.refl _) (WeakL.cons (Weak.refl _) (WeakL.cons (Weak.refl _) (WeakL.cons (Weak.nil _) (WeakL.cons (Weak.nil _) WeakL.nil)))))
theorem smA1 : PSmall clsA [] := ⟨by decide, by decide, by decide⟩
theorem smA2 (v : List Pt) (h : Pt.sizes v ≤ 1048576) : PSmall clsA v := ⟨by decide, by decide, h⟩
theorem smL (v : List Pt) (h : Pt.sizes v ≤ 1048576) : PSmall lessA v := ⟨by decide, by decide, h⟩
theorem m1_any (g : Heap) (hw : WF g) : ACalls Tryz.prog 22 [.p (.sl 23 (natE.map Dc.cells)), .p (.sl 6 [rc zRaw vRaw, rc sRaw zRaw, rc sRaw sRaw]), .p (.sl 5 (tmPs [sucT (vr 3), sucT (vr 5)]))] g fun o h' => o = .ret (mtA (2, [vr 3, vr 5], 0)) ∧ h' = g := by
 rw [← aw_m1]
 refine ACalls.weak (WeakL.cons (Weak.refl _) (WeakL.cons (WeakP.sl RC_weak).av (WeakL.cons (Weak.refl _) WeakL.nil))) (pmatch_any natE natE_fine natE_good awR awG awW clsA _ smA1 ?_ (by simp) g hw)
 intro a ha
 simp at ha
 rcases ha with rfl | rfl
 ·exact .inl rfl
 ·exact .inr (.inl rfl)
theorem m2_any (g : Heap) (hw : WF g) : ACalls Tryz.prog 22 [.p (.sl 23 (natE.map Dc.cells)), .p (.sl 6 [rc zRaw vRaw, rc sRaw zRaw, rc sRaw sRaw]), .p (.sl 5 [rT 3, rZ])] g fun o h' => o = .ret (mtA (0, [], 19)) ∧ h' = g := by
 rw [← aw_m2]
 have h1 : WeakPs [rT 3, rZ] (tmPs [vr 3, zroT]) := WeakPs.cons (rT_weak 3) (WeakPs.cons rZ_weak WeakPs.nil)
 refine ACalls.weak (WeakL.cons (Weak.refl _) (WeakL.cons (WeakP.sl RC_weak).av (WeakL.cons (WeakP.sl h1).av WeakL.nil))) (pmatch_any natE natE_fine natE_good awR awG awW clsA _ smA1 ?_ (by simp) g hw)
 intro a ha
 simp at ha
 rcases ha with rfl | rfl
 ·exact .inr (.inr (.inl rfl))
 ·exact .inr (.inr (.inr (.inr rfl)))
theorem v1_any (g : Heap) (hw : WF g) : ACalls Tryz.prog 26 [.p (.sl 23 (natE.map Dc.cells)), .p (.sl 6 [rc zRaw vRaw, rc sRaw zRaw, rc sRaw sRaw]), .p (.sl 3 [vRaw, vRaw])] g fun o h' => o = .ret (bA true) ∧ h' = g := by
 rw [← aw_c1]
 exact ACalls.weak (WeakL.cons (Weak.refl _) (WeakL.cons (WeakP.sl RC_weak).av (WeakL.cons (WeakP.sl (es' := ptPs [vPt, vPt]) (WeakPs.cons v_weak (WeakPs.cons v_weak WeakPs.nil))).av WeakL.nil))) (covers_any natE natE_fine natE_good clsA [vPt, vPt] (smA2 _ (by decide)) g hw)
theorem v2_any (g : Heap) (hw : WF g) : ACalls Tryz.prog 26 [.p (.sl 23 (natE.map Dc.cells)), .p (.sl 6 [rc zRaw vRaw, rc sRaw sRaw]), .p (.sl 3 [vRaw, vRaw])] g fun o h' => o = .ret (bA false) ∧ h' = g := by
 rw [← aw_c2]
 exact ACalls.weak (WeakL.cons (Weak.refl _) (WeakL.cons (WeakP.sl RL_weak).av (WeakL.cons (WeakP.sl (es' := ptPs [vPt, vPt]) (WeakPs.cons v_weak (WeakPs.cons v_weak WeakPs.nil))).av WeakL.nil))) (covers_any natE natE_fine natE_good lessA [vPt, vPt] (smL _ (by decide)) g hw)
theorem v3_any (g : Heap) (hw : WF g) : ACalls Tryz.prog 26 [.p (.sl 23 (natE.map Dc.cells)), .p (.sl 6 [rc zRaw vRaw, rc sRaw sRaw]), .p (.sl 3 [zRaw, vRaw])] g fun o h' => o = .ret (bA true) ∧ h' = g := by
 rw [← aw_c3]
 exact ACalls.weak (WeakL.cons (Weak.refl _) (WeakL.cons (WeakP.sl RL_weak).av (WeakL.cons (WeakP.sl (es' := ptPs [zPn, vPt]) (WeakPs.cons zw (WeakPs.cons v_weak WeakPs.nil))).av WeakL.nil))) (covers_any natE natE_fine natE_good lessA [zPn, vPt] (smL _ (by decide)) g hw)
theorem v4_any (g : Heap) (hw : WF g) : ACalls Tryz.prog 26 [.p (.sl 23 (natE.map Dc.cells)), .p (.sl 6 [rc zRaw vRaw, rc sRaw sRaw]), .p (.sl 3 [sRaw, vRaw])] g fun o h' => o = .ret (bA false) ∧ h' = g := by
 rw [← aw_c4]
 exact ACalls.weak (WeakL.cons (Weak.refl _) (WeakL.cons (WeakP.sl RL_weak).av (WeakL.cons (WeakP.sl (es' := ptPs [sPn, vPt]) (WeakPs.cons sw (WeakPs.cons v_weak WeakPs.nil))).av WeakL.nil))) (covers_any natE natE_fine natE_good lessA [sPn, vPt] (smL _ (by decide)) g hw)
theorem s69_any (i : Int) (g : Heap) (hw : WF g) : ACalls Tryz.prog 69 [.agg ((rT i).map .p)] g fun o h' => o = .ret (sucT (vr i)).av ∧ h' = g :=
 ACalls.weak (WeakL.cons (rT_weakA i) WeakL.nil) (awake1_any g hw (vr i))
theorem q25_any (g : Heap) (hw : WF g) : ACalls Tryz.prog 25 [.p (.sl 5 (tmPs [vr 3, vr 5])), .p (.sl 5 [rT 3, rT 5])] g fun o h' => o = .ret (bA true) ∧ h' = g := by
 rw [← aw_sm]
 exact ACalls.weak (WeakL.cons (Weak.refl _) (WeakL.cons (WeakP.sl (es' := tmPs [vr 3, vr 5]) (WeakPs.cons (rT_weak 3) (WeakPs.cons (rT_weak 5) WeakPs.nil))).av WeakL.nil)) (sameTerms_any [vr 3, vr 5] [vr 3, vr 5] (by decide) (by simp [Tm.lvss, vr, Tm.lvs]) (by simp) g hw)
theorem c68_any (g : Heap) (hw : WF g) : ACalls Tryz.prog 68 [.p (sP succB), .p (.sl 3 [sRaw])] g fun o h' => o = .ret (Pt.mk 1 succB [sPn]).av ∧ h' = g := by
 have := ctor68_any g hw succB [sPn]
 simp only [ptPs, ← s_eq] at this
 exact this
theorem t39_any (g : Heap) (hw : WF g) : ACalls Tryz.prog 39 [(Pt.mk 1 succB [sPn]).av] g fun o h' => o = .ret (.p (sP [40, 115, 117, 99, 99, 32, 40, 115, 117, 99, 99, 32, 95, 41, 41])) ∧ h' = g := by
 rw [← aw_tx]
 exact ptext_any _ _ (Nat.le_refl _) (by decide) (by rw [aw_tx]; simp) g hw


open Go Go.AI
set_option maxRecDepth 16000 in
set_option maxHeartbeats 4000000 in
theorem awake18_any (h : Heap) (hh : WF h) : ACalls Tryz.prog 21 [] h fun o h' => o = .ret (bA true) ∧ h' = h := by
 have n1 := fun (g : Heap) (hw : WF g) => naturals_any g hw
 have k1 := k1_any
 have k2 := k2_any
 simp only [zeroB, succB] at k1 k2
 obtain ⟨NE, hNE⟩ : ∃ NE, natE.map Dc.cells = NE := ⟨_, rfl⟩
 simp only [envA, hNE] at n1
 have m1 := m1_any
 have m2 := m2_any
 have v1 := v1_any
 have v2 := v2_any
 have v3 := v3_any
 have v4 := v4_any
 have s3 := s69_any 3
 have s5 := s69_any 5
 have q1 := q25_any
 have c3 := c68_any
 have t1 := t39_any
 simp only [hNE, mtA, zRaw, sRaw, rc, rT, rZ, zeroB, succB, sPn, vPt, Pt.av, pcells_mk, ptPs, sucT, appT, vr, Tm.av, tmPs, cells_mk, lvPs, List.map] at m1 m2 v1 v2 v3 v4 s3 s5 q1 c3 t1
 refine ACalls.of_run Tryz.func21 rfl ?_
 simp only [Tryz.ntmps21, List.length_nil]
 refine nv ?_
 refine Run.reg fun K J => ?_
 simp
 try (simp (disch := omega) only [wrap_id])
 refine J _ _ _ (nv ?_); clear J
 refine Run.reg fun K J => ?_
 simp
 try (simp (disch := omega) only [wrap_id])
 refine J _ _ _ (nv ?_); clear J
 refine Run.call rfl (by first | rfl | simp) (by simp) rfl (n1 _ hh) ?_ ?_
 rotate_left
 ·rintro v h' ⟨hv, _⟩; cases hv
 rintro v h' ⟨hv, rfl⟩
 simp only [AOut.ret.injEq] at hv
 subst hv
 refine Run.ops fun K J => ?_
 simp
 try (simp (disch := omega) only [wrap_id])
 refine J _ _ _ (nv ?_); clear J
 refine PC.Run.draw2 (pc := [0, 3]) 4 5 [0, 0, 0, 0, 0, 1, 2, 3] [0, 0, 0, 0, 0, 1, 2, 3] [0, 0, 2, 7, 0, 16, 63, 127] [4, 5, 0, 1, 2, 3, 6, 7] [0, 0, 0, 0, 1, 0, 2, 3] [0, 0, 0, 0, 1, 0, 2, 3] [0, 0, 2, 7, 32, 0, 63, 127] [5, 4, 0, 1, 2, 3, 6, 7] (by kernel_rfl) (by kernel_rfl) (by kernel_rfl) (by kernel_rfl) ?_ ?_
 all_goals
  refine PC.DR.go fun K J => ?_
  simp
  try (simp (disch := omega) only [wrap_id])
  refine J _ _ _ _ ?_; clear J
  refine PC.DR.pcall rfl rfl rfl (by simp) rfl rfl (fun g hg => k1 g ?_) ?_
  ·simp at hg
   (first | (rcases hg with rfl | rfl | rfl | rfl) | (rcases hg with rfl | rfl | rfl) | (rcases hg with rfl | rfl) | subst hg) <;> exact hh.app (by simp)
  refine PC.DR.go fun K J => ?_
  simp
  try (simp (disch := omega) only [wrap_id])
  refine J _ _ _ _ ?_; clear J
  refine PC.DR.pcall rfl rfl rfl (by simp) rfl rfl (fun g hg => k2 g ?_) ?_
  ·simp at hg
   (first | (rcases hg with rfl | rfl | rfl | rfl) | (rcases hg with rfl | rfl | rfl) | (rcases hg with rfl | rfl) | subst hg) <;> exact hh.app (by simp)
  simp only [zPn, sPn, vPt, zeroB, succB, Pt.av, pcells_mk, ptPs, List.map]
  refine PC.DR.go fun K J => ?_
  simp
  try (simp (disch := omega) only [wrap_id])
  refine J _ _ _ _ ?_; clear J
  change Run _ _ _ _ _ _ _ _
  refine nv ?_
  refine Run.reg fun K J => ?_
  simp
  try (simp (disch := omega) only [wrap_id])
  refine J _ _ _ (nv ?_); clear J
  refine Run.reg fun K J => ?_
  simp
  try (simp (disch := omega) only [wrap_id])
  refine J _ _ _ (nv ?_); clear J
  refine Run.reg fun K J => ?_
  simp
  try (simp (disch := omega) only [wrap_id])
  refine J _ _ _ (nv ?_); clear J
  refine PC.Run.drawP (pc := [4, 7, 9]) [0, 0, 0, 0, 0, 0, 0, 0, 0, 0, 0, 0, 0, 0, 0, 0, 0] [0, 0, 0, 0, 0, 0, 0, 0, 0, 0, 0, 0, 0, 0, 0, 0, 0] [0, 0, 0, 0, 12, 0, 0, 124, 252, 511, 1023, 2047, 2047, 2047, 4095, 24575, 65535] [0, 1, 2, 3, 4, 5, 6, 7, 8, 9, 10, 11, 12, 13, 14, 15, 16] (by kernel_rfl) (by kernel_rfl) ?_
  refine PC.DR.go fun K J => ?_
  simp
  try (simp (disch := omega) only [wrap_id])
  refine J _ _ _ _ ?_; clear J
  refine PC.DR.pcall rfl rfl rfl (by simp) rfl rfl (fun g hg => s3 g ?_) ?_
  ·simp at hg
   (first | (rcases hg with rfl | rfl | rfl | rfl) | (rcases hg with rfl | rfl | rfl) | (rcases hg with rfl | rfl) | subst hg) <;> exact hh.app (by simp)
  refine PC.DR.go fun K J => ?_
  simp
  try (simp (disch := omega) only [wrap_id])
  refine J _ _ _ _ ?_; clear J
  refine PC.DR.pcall rfl rfl rfl (by simp) rfl rfl (fun g hg => s5 g ?_) ?_
  ·simp at hg
   (first | (rcases hg with rfl | rfl | rfl | rfl) | (rcases hg with rfl | rfl | rfl) | (rcases hg with rfl | rfl) | subst hg) <;> exact hh.app (by simp)
  refine PC.DR.go fun K J => ?_
  simp
  try (simp (disch := omega) only [wrap_id])
  refine J _ _ _ _ ?_; clear J
  refine PC.DR.pcall rfl rfl rfl (by simp) rfl rfl (fun g hg => m1 g ?_) ?_
  ·simp at hg
   (first | (rcases hg with rfl | rfl | rfl | rfl) | (rcases hg with rfl | rfl | rfl) | (rcases hg with rfl | rfl) | subst hg) <;> exact hh.app (by simp)
  refine PC.DR.go fun K J => ?_
  simp
  try (simp (disch := omega) only [wrap_id])
  refine J _ _ _ _ ?_; clear J
  change Run _ _ _ _ _ _ _ _
  refine nv ?_
  refine Run.reg fun K J => ?_
  simp
  try (simp (disch := omega) only [wrap_id])
  refine J _ _ _ (nv ?_); clear J
  refine rl rfl (by first | rfl | simp) (by simp) rfl (m2 _ (hh.app (by simp))) ?_
  refine Run.ops fun K J => ?_
  simp
  try (simp (disch := omega) only [wrap_id])
  refine J _ _ _ (nv ?_); clear J
  refine Run.draw [0, 0, 0, 0, 0, 0, 0, 0] [0, 0, 0, 0, 0, 0, 0, 0] [0, 1, 3, 0, 8, 24, 63, 127] [0, 1, 2, 3, 4, 5, 6, 7] (by kernel_rfl) (by kernel_rfl) ?_
  refine DR.go fun K J => ?_
  simp
  try (simp (disch := omega) only [wrap_id])
  refine J _ _ _ _ ?_; clear J
  change Run _ _ _ _ _ _ _ _
  refine nv ?_
  refine Run.reg fun K J => ?_
  simp
  try (simp (disch := omega) only [wrap_id])
  refine J _ _ _ (nv ?_); clear J
  refine rl rfl (by first | rfl | simp) (by simp) rfl (q1 _ (hh.app (by simp))) ?_
  refine Run.ops fun K J => ?_
  simp
  try (simp (disch := omega) only [wrap_id])
  refine J _ _ _ (nv ?_); clear J
  refine rl rfl (by first | rfl | simp) (by simp) rfl (v1 _ (hh.app (by simp))) ?_
  refine Run.ops fun K J => ?_
  simp
  try (simp (disch := omega) only [wrap_id])
  refine J _ _ _ (nv ?_); clear J
  refine rl rfl (by first | rfl | simp) (by simp) rfl (v2 _ (hh.app (by simp))) ?_
  refine Run.ops fun K J => ?_
  simp
  try (simp (disch := omega) only [wrap_id])
  refine J _ _ _ (nv ?_); clear J
  refine rl rfl (by first | rfl | simp) (by simp) rfl (v3 _ (hh.app (by simp))) ?_
  refine Run.ops fun K J => ?_
  simp
  try (simp (disch := omega) only [wrap_id])
  refine J _ _ _ (nv ?_); clear J
  refine rl rfl (by first | rfl | simp) (by simp) rfl (v4 _ (hh.app (by simp))) ?_
  refine Run.ops fun K J => ?_
  simp
  try (simp (disch := omega) only [wrap_id])
  refine J _ _ _ (nv ?_); clear J
  refine rl rfl (by first | rfl | simp) (by simp) rfl (c3 _ (hh.app (by simp))) ?_
  refine Run.ops fun K J => ?_
  simp
  try (simp (disch := omega) only [wrap_id])
  refine J _ _ _ (nv ?_); clear J
  refine rl rfl (by first | rfl | simp) (by simp) rfl (t1 _ (hh.app (by simp))) ?_
  refine Run.ops fun K J => ?_
  simp
  try (simp (disch := omega) only [wrap_id])
  refine J _ _ _ (nv ?_); clear J
  refine Run.ret ?_
  exact Fin.ret' (h0 := h') (by simp) rfl hh rfl (by simp; rfl) rfl (Weak.refl _) (by simp) ⟨by simp, rfl⟩

end Go.Proofs.YtcfcolkbeelegaaGreat
