/-
  law21.awake: its values.
-/
import Derived.Test.YtppgpabjcenjdaaCX27
import Derived.Test.YtppgpabjcenjdaaCFX

namespace Go.Proofs.Ytppgpabjcenjdaa

open Go Go.AI
set_option maxRecDepth 8000 in
theorem aw117_any (h : Heap) (hh : WF h) (i : Int) : ACalls Try.prog 117 [iA i] h fun o h' => o = .ret (vr i).av ∧ h' = h := by
  refine ACalls.of_run Try.func117 rfl ?_
  simp only [Try.ntmps117, List.length_cons, List.length_nil, Tm.av]
  refine Run.reg fun K hK => ?_
  simp
  refine hK _ _ _ ?_; clear hK K
  refine Run.reg fun K hK => ?_
  simp
  refine hK _ _ _ ?_; clear hK K
  refine Run.ret ?_
  refine Fin.ret' (h0 := h) (by simp) rfl hh rfl (by simp; rfl) rfl ?_ (by simp) ⟨rfl, rfl⟩
  simp only [vr, cells_mk, List.map, tmPs, lvPs]
  refine Weak.agg ?_
  repeat' (first | exact WeakL.nil | apply WeakL.cons)
  all_goals first | exact Weak.junk _ | exact Weak.refl _ | exact Weak.nil _ | exact Weak.own _ _ _ | exact Weak.int (by omega)
def kT (nm : List UInt8) : Tm := .mk 3 0 nm [] []
set_option maxRecDepth 8000 in
theorem con121_any (h : Heap) (hh : WF h) (nm : List UInt8) : ACalls Try.prog 121 [.p (sP nm)] h fun o h' => o = .ret (kT nm).av ∧ h' = h := by
  refine ACalls.of_run Try.func121 rfl ?_
  simp only [Try.ntmps121, List.length_cons, List.length_nil, Tm.av]
  refine Run.reg fun K hK => ?_
  simp
  refine hK _ _ _ ?_; clear hK K
  refine Run.reg fun K hK => ?_
  simp
  refine hK _ _ _ ?_; clear hK K
  refine Run.ret ?_
  refine Fin.ret' (h0 := h) (by simp) rfl hh rfl (by simp; rfl) rfl ?_ (by simp) ⟨rfl, rfl⟩
  simp only [kT, cells_mk, List.map, tmPs, lvPs]
  refine Weak.agg ?_
  repeat' (first | exact WeakL.nil | apply WeakL.cons)
  all_goals first | exact Weak.junk _ | exact Weak.refl _ | exact Weak.nil _ | exact Weak.own _ _ _ | exact Weak.int (by omega)
set_option maxRecDepth 8000 in
theorem apply120_any (h : Heap) (hh : WF h) (t : Tm) (l : List Tm) (hl : l.length ≤ 1048576) : ACalls Try.prog 120 [t.av, .p (.sl 5 (tmPs l))] h fun o h' => o = .ret (applyT t l).av ∧ h' = h := by
  have c1 := fun (g : Heap) (hw : WF g) => apply73_any g hw t l hl
  generalize applyT t l = r at c1 ⊢
  obtain ⟨k, i, n, ls, ks⟩ := t
  obtain ⟨k1, i1, n1, l1, s1⟩ := r
  simp only [Tm.av, cells_mk, List.map] at c1 ⊢
  refine ACalls.of_run Try.func120 rfl ?_
  simp only [Try.ntmps120, List.length_cons, List.length_nil]
  refine Run.reg fun K hK => ?_
  simp
  refine hK _ _ _ ?_; clear hK K
  refine Run.reg fun K hK => ?_
  simp
  refine hK _ _ _ ?_; clear hK K
  refine Run.call rfl (by first | rfl | simp) (by simp) rfl (c1 _ (hh.app (by simp))) ?_ ?_
  rotate_left
  · rintro v h' ⟨hv, _⟩; cases hv
  rintro v h' ⟨hv, rfl⟩
  simp only [AOut.ret.injEq] at hv
  subst hv
  refine Run.ops fun K hK => ?_
  simp
  refine hK _ _ _ ?_; clear hK K
  refine Run.ret ?_
  exact Fin.ret' (h0 := h) (by simp) rfl hh rfl (by simp; rfl) rfl (Weak.refl _) (by simp) ⟨rfl, rfl⟩
def sSucc : List UInt8 := [115, 117, 99, 99]
def sNat : List UInt8 := [78, 97, 116]
def sTree : List UInt8 := [84, 114, 101, 101]
def sZero : List UInt8 := [122, 101, 114, 111]
def sSup : List UInt8 := [115, 117, 112]
set_option maxRecDepth 8000 in
theorem aw119_any (h : Heap) (hh : WF h) (t : Tm) : ACalls Try.prog 119 [t.av] h fun o h' => o = .ret (applyT (kT sSucc) [t]).av ∧ h' = h := by
  have c1 := fun (g : Heap) (hw : WF g) => con121_any g hw sSucc
  have c2 := fun (g : Heap) (hw : WF g) => apply120_any g hw (kT sSucc) [t] (by simp)
  simp only [tmPs] at c2
  generalize applyT (kT sSucc) [t] = r at c2 ⊢
  generalize kT sSucc = k at c1 c2
  unfold sSucc at c1
  obtain ⟨k0, i0, n0, l0, s0⟩ := k
  obtain ⟨k, i, n, ls, ks⟩ := t
  obtain ⟨k1, i1, n1, l1, s1⟩ := r
  simp only [Tm.av, cells_mk, List.map] at c1 c2 ⊢
  refine ACalls.of_run Try.func119 rfl ?_
  simp only [Try.ntmps119, List.length_cons, List.length_nil]
  refine Run.reg fun K hK => ?_
  simp
  refine hK _ _ _ ?_; clear hK K
  refine PC.Run.drawP (pc := [0]) [0, 0, 0, 0, 1] [0, 0, 0, 0, 1] [0, 0, 2, 7, 15] [0, 1, 2, 3, 4] (by kernel_rfl) (by kernel_rfl) ?_
  refine PC.DR.go fun K hK => ?_
  simp
  refine hK _ _ _ _ ?_; clear hK K
  refine PC.DR.pcall (args := [.p (sP [115, 117, 99, 99])]) rfl rfl rfl (by simp) rfl rfl (fun g hg => (c1) g ?_) ?_
  · simp at hg; (first | (rcases hg with rfl | rfl | rfl | rfl) | (rcases hg with rfl | rfl | rfl) | (rcases hg with rfl | rfl) | subst hg) <;> exact hh.app (by simp)
  refine PC.DR.go fun K hK => ?_
  simp
  refine hK _ _ _ _ ?_; clear hK K
  refine PC.DR.call (args := [.agg [.p (iP k0), .p (iP i0), .p (sP n0), .p (.sl 2 (lvPs l0)), .p (.sl 5 (tmPs s0))], .p (.sl 5 [[iP k, iP i, sP n, .sl 2 (lvPs ls), .sl 5 (tmPs ks)]])]) rfl rfl rfl (by simp) rfl rfl (c2 _ (hh.app (by simp))) ?_
  refine PC.DR.go fun K hK => ?_
  simp
  refine hK _ _ _ _ ?_; clear hK K
  change Run _ _ _ _ _ _ _ _
  refine Run.ret ?_
  exact Fin.ret' (h0 := h) (by simp) rfl hh rfl (by simp; rfl) rfl (Weak.refl _) (by simp) ⟨rfl, rfl⟩
def natK : Tm := kT sNat
def treeK : Tm := kT sTree
def typeT : Tm := .mk 2 0 [] [⟨0, []⟩] []
def ar1 : Tm := arrowT natK natK
def ar2 : Tm := arrowT natK treeK
def ar3 : Tm := arrowT ar2 treeK
def ar4 : Tm := arrowT natK ar3
def natD : Dc := ⟨3, sNat, 0, typeT, zT, 0, [⟨sZero, natK⟩, ⟨sSucc, ar1⟩], 0, natK, [natK, natK], []⟩
def treeD : Dc := ⟨3, sTree, 0, typeT, zT, 0, [⟨sSup, ar4⟩], 0, natK, [natK], []⟩
def TR : List Dc := [natD, treeD]
theorem okK (nm : List UInt8) : (kT nm).ok 65536 := by simp [kT, Tm.ok, Tm.oks, Tm.okN]
theorem ar3_eq : ar3 = .mk 6 0 [] [] [.mk 6 0 [] [] [natK, treeK], treeK] := by rfl
theorem ok3 : ar3.ok 65536 := by rw [ar3_eq]; simp [natK, treeK, kT, Tm.ok, Tm.oks, Tm.okN]
set_option maxRecDepth 8000 in
set_option maxHeartbeats 4000000 in
theorem trees_any (h : Heap) (hh : WF h) : ACalls Try.prog 118 [] h fun o h' => o = .ret (envA TR) ∧ h' = h := by
  have c1 := fun (g : Heap) (hw : WF g) => con121_any g hw sNat
  have c2 := fun (g : Heap) (hw : WF g) => con121_any g hw sTree
  have c3 := fun (g : Heap) (hw : WF g) => arrow66_any g hw natK natK (okK _) (by decide)
  have c4 := fun (g : Heap) (hw : WF g) => arrow66_any g hw natK treeK (okK _) (by decide)
  have c5 := fun (g : Heap) (hw : WF g) => arrow66_any g hw ar2 treeK (okK _) (by decide)
  have c6 := fun (g : Heap) (hw : WF g) => arrow66_any g hw natK ar3 ok3 (by decide)
  rw [show kT sNat = natK from rfl] at c1
  rw [show kT sTree = treeK from rfl] at c2
  rw [show arrowT natK natK = ar1 from rfl] at c3
  rw [show arrowT natK treeK = ar2 from rfl] at c4
  rw [show arrowT ar2 treeK = ar3 from rfl] at c5
  rw [show arrowT natK ar3 = ar4 from rfl] at c6
  unfold TR natD treeD
  generalize natK = k1 at *
  generalize treeK = k2 at *
  generalize ar1 = a1 at *
  generalize ar2 = a2 at *
  generalize ar3 = a3 at *
  generalize ar4 = a4 at *
  obtain ⟨k1a, k1b, k1c, k1d, k1e⟩ := k1
  obtain ⟨k2a, k2b, k2c, k2d, k2e⟩ := k2
  obtain ⟨a1a, a1b, a1c, a1d, a1e⟩ := a1
  obtain ⟨a2a, a2b, a2c, a2d, a2e⟩ := a2
  obtain ⟨a3a, a3b, a3c, a3d, a3e⟩ := a3
  obtain ⟨a4a, a4b, a4c, a4d, a4e⟩ := a4
  unfold sNat at c1 ⊢
  unfold sTree at c2 ⊢
  simp only [Tm.av, cells_mk, List.map] at c1 c2 c3 c4 c5 c6
  refine ACalls.of_run Try.func118 rfl ?_
  simp only [Try.ntmps118, List.length_nil]
  refine Run.reg fun K hK => ?_
  simp
  refine hK _ _ _ ?_; clear hK K
  refine Run.reg fun K hK => ?_
  simp
  refine hK _ _ _ ?_; clear hK K
  refine Run.call rfl (by first | rfl | simp) (by simp) rfl (c1 _ hh) ?_ ?_
  rotate_left
  · rintro v h' ⟨hv, _⟩; cases hv
  rintro v h' ⟨hv, rfl⟩
  simp only [AOut.ret.injEq] at hv
  subst hv
  refine Run.ops fun K hK => ?_
  simp
  refine hK _ _ _ ?_; clear hK K
  refine Run.call rfl (by first | rfl | simp) (by simp) rfl (c2 _ hh) ?_ ?_
  rotate_left
  · rintro v h' ⟨hv, _⟩; cases hv
  rintro v h' ⟨hv, rfl⟩
  simp only [AOut.ret.injEq] at hv
  subst hv
  refine Run.ops fun K hK => ?_
  simp
  refine hK _ _ _ ?_; clear hK K
  refine Run.reg fun K hK => ?_
  simp
  refine hK _ _ _ ?_; clear hK K
  refine PC.Run.drawP (pc := [5, 18, 20, 21]) [0, 0, 0, 0, 0, 0, 0, 0, 0, 0, 0, 0, 0, 0, 0, 0, 0, 0, 0, 0, 0, 0, 0, 0, 0, 0, 0, 0, 0, 0, 0] [0, 0, 0, 0, 0, 0, 0, 0, 0, 0, 0, 0, 0, 0, 0, 0, 0, 0, 0, 0, 0, 0, 0, 0, 0, 0, 0, 0, 0, 0, 0] [0, 0, 2, 0, 0, 24, 56, 126, 0, 0, 0, 1536, 3840, 8191, 0, 0, 0, 0, 196664, 0, 983096, 2064440, 4161592, 8355896, 0, 0, 33554432, 117440512, 268419128, 536870911, 1073741823] [0, 1, 2, 3, 4, 5, 6, 7, 8, 9, 10, 11, 12, 13, 14, 15, 16, 17, 18, 19, 20, 21, 22, 23, 24, 25, 26, 27, 28, 29, 30] (by kernel_rfl) (by kernel_rfl) ?_
  refine PC.DR.go fun K hK => ?_
  simp
  refine hK _ _ _ _ ?_; clear hK K
  refine PC.DR.pcall rfl rfl rfl (by simp) rfl rfl (fun g hg => (c3) g ?_) ?_
  · simp at hg; (first | (rcases hg with rfl | rfl | rfl | rfl) | (rcases hg with rfl | rfl | rfl) | (rcases hg with rfl | rfl) | subst hg) <;> exact hh.app (by simp)
  refine PC.DR.go fun K hK => ?_
  simp
  refine hK _ _ _ _ ?_; clear hK K
  refine PC.DR.pcall rfl rfl rfl (by simp) rfl rfl (fun g hg => (c4) g ?_) ?_
  · simp at hg; (first | (rcases hg with rfl | rfl | rfl | rfl) | (rcases hg with rfl | rfl | rfl) | (rcases hg with rfl | rfl) | subst hg) <;> exact hh.app (by simp)
  refine PC.DR.go fun K hK => ?_
  simp
  refine hK _ _ _ _ ?_; clear hK K
  refine PC.DR.pcall rfl rfl rfl (by simp) rfl rfl (fun g hg => (c5) g ?_) ?_
  · simp at hg; (first | (rcases hg with rfl | rfl | rfl | rfl) | (rcases hg with rfl | rfl | rfl) | (rcases hg with rfl | rfl) | subst hg) <;> exact hh.app (by simp)
  refine PC.DR.go fun K hK => ?_
  simp
  refine hK _ _ _ _ ?_; clear hK K
  refine PC.DR.pcall rfl rfl rfl (by simp) rfl rfl (fun g hg => (c6) g ?_) ?_
  · simp at hg; (first | (rcases hg with rfl | rfl | rfl | rfl) | (rcases hg with rfl | rfl | rfl) | (rcases hg with rfl | rfl) | subst hg) <;> exact hh.app (by simp)
  refine PC.DR.go fun K hK => ?_
  simp
  refine hK _ _ _ _ ?_; clear hK K
  change Run _ _ _ _ _ _ _ _
  refine Run.ret ?_
  refine Fin.ret' (h0 := _) (by simp) rfl hh rfl (by simp; rfl) rfl (y := envA _) ?_ (by simp) ⟨rfl, rfl⟩
  simp only [typeT, zT, lvPs]
  refine (WeakP.sl ?_).av
  repeat' (first | exact WeakPs.nil | apply WeakPs.cons | exact WeakPL.nil | apply WeakPL.cons)
  all_goals first | exact WeakP.refl _ | exact WeakP.nil _ | skip
  all_goals refine WeakP.sl ?_
  all_goals repeat' (first | exact WeakPs.nil | apply WeakPs.cons | exact WeakPL.nil | apply WeakPL.cons)
  all_goals first | exact WeakP.refl _ | exact WeakP.nil _

end Go.Proofs.Ytppgpabjcenjdaa

namespace Go.Proofs.Ytppgpabjcenjdaa

open Go Go.AI
def scT (t : Tm) : Tm := applyT (kT sSucc) [t]
def supT : Tm := applyT (kT sSup) [vr 5, vr 2]
def v99 : Tm := applyT (vr 2) [vr 9, vr 9]
def v29 : Tm := applyT (vr 2) [vr 9]
def v59 : Tm := applyT (vr 5) [vr 9]
set_option maxRecDepth 100000 in
theorem tr_d1 : declZ [] natD = 0 := by rfl
set_option maxRecDepth 100000 in
theorem tr_d2 : declZ [natD] treeD = 0 := by rfl
set_option maxRecDepth 100000 in
theorem tr_1 : relZ TR (vr 0) (scT (vr 0)) = 2 := by rfl
set_option maxRecDepth 100000 in
theorem tr_2 : relZ TR (vr 0) (scT (scT (vr 0))) = 2 := by rfl
set_option maxRecDepth 100000 in
theorem tr_3 : relZ TR (vr 0) (scT (vr 1)) = 0 := by rfl
set_option maxRecDepth 100000 in
theorem tr_4 : relZ TR (scT (vr 0)) (scT (vr 0)) = 1 := by rfl
set_option maxRecDepth 100000 in
theorem tr_5 : relZ TR v29 supT = 2 := by rfl
set_option maxRecDepth 100000 in
theorem tr_6 : relZ TR (vr 2) supT = 2 := by rfl
set_option maxRecDepth 100000 in
theorem tr_7 : relZ TR (vr 5) supT = 0 := by rfl
set_option maxRecDepth 100000 in
theorem tr_8 : relZ TR v99 supT = 0 := by rfl
set_option maxRecDepth 100000 in
theorem tr_9 : relZ TR v59 supT = 0 := by rfl

end Go.Proofs.Ytppgpabjcenjdaa
