/-
  law21.awake.
-/
import Derived.Test.YtppgpabjcenjdaaCX29

namespace Go.Proofs.Ytppgpabjcenjdaa

open Go Go.AI
theorem natK_good : natK.good := by simp [Tm.good, natK, kT, Tm.size, Tm.sizes, Tm.fit, Tm.fits, Tm.lvs, Tm.lvss]
theorem typeT_good : typeT.good := by simp [Tm.good, typeT, Tm.size, Tm.sizes, Tm.fit, Tm.fits, Tm.lvs, Tm.lvss]
theorem zT_good : zT.good := by simp [Tm.good, zT, Tm.size, Tm.sizes, Tm.fit, Tm.fits, Tm.lvs, Tm.lvss]
theorem ar1_eq : ar1 = .mk 6 0 [] [] [natK, natK] := by rfl
theorem ar4_eq : ar4 = .mk 6 0 [] [] [natK, .mk 6 0 [] [] [.mk 6 0 [] [] [natK, treeK], treeK]] := by rfl
theorem ar1_good : ar1.good := by rw [ar1_eq]; simp [Tm.good, natK, kT, Tm.size, Tm.sizes, Tm.fit, Tm.fits, Tm.lvs, Tm.lvss]
theorem ar4_good : ar4.good := by rw [ar4_eq]; simp [Tm.good, natK, treeK, kT, Tm.size, Tm.sizes, Tm.fit, Tm.fits, Tm.lvs, Tm.lvss]
theorem TR_good : Env.good TR := by
  refine ⟨by decide, fun d hd => ?_⟩
  simp only [TR, List.mem_cons, List.not_mem_nil, or_false] at hd
  rcases hd with rfl | rfl
  · refine ⟨typeT_good, zT_good, natK_good, by decide, fun c hc => ?_, by decide, fun t ht => ?_, by decide, fun f hf => ?_⟩
    · simp only [natD, List.mem_cons, List.not_mem_nil, or_false] at hc
      rcases hc with rfl | rfl
      · exact natK_good
      · exact ar1_good
    · simp only [natD, List.mem_cons, List.not_mem_nil, or_false] at ht
      rcases ht with rfl | rfl <;> exact natK_good
    · simp [natD] at hf
  · refine ⟨typeT_good, zT_good, natK_good, by decide, fun c hc => ?_, by decide, fun t ht => ?_, by decide, fun f hf => ?_⟩
    · simp only [treeD, List.mem_cons, List.not_mem_nil, or_false] at hc
      subst hc
      exact ar4_good
    · simp only [treeD, List.mem_cons, List.not_mem_nil, or_false] at ht
      subst ht; exact natK_good
    · simp [treeD] at hf
theorem TR_fine : EnvFine TR := by
  refine ⟨fun d hd => ?_, fun j d hd => ?_⟩
  · simp only [TR, List.mem_cons, List.not_mem_nil, or_false] at hd
    rcases hd with rfl | rfl <;> decide
  · match j, hd with
    | 0, hd => simp [TR] at hd; subst hd; exact tr_d1
    | 1, hd => simp [TR] at hd; subst hd; exact tr_d2
    | j + 2, hd => simp [TR] at hd
set_option maxRecDepth 8000 in
theorem aw122_any (h : Heap) (hh : WF h) (p : Nat) (hp : h[p]? = some (some (.cells [envA TR]))) (x y : Tm) (hx : x.lvs) (hxs : x.size ≤ 1048576) (hys : y.size ≤ 1048576) :
    ACalls Try.prog 122 [x.av, y.av, .ptr p 0] h fun o h' => o = .ret (iA (relZ TR x y)) ∧ h' = h := by
  have c1 := fun (g : Heap) (hw : WF g) => relate42_any TR TR_good TR_fine x hx hxs y.size y g (Nat.le_refl _) hys hw
  have hpl := (List.getElem?_eq_some_iff.1 hp).1
  have cp : ∀ l : List (Option AO), (h ++ l)[p]? = some (some (.cells [envA TR])) := fun l => by rw [List.getElem?_append_left hpl]; exact hp
  rw [show relF TR x y.size y = relZ TR x y from rfl] at c1
  generalize relZ TR x y = r at c1 ⊢
  obtain ⟨k, i, n, ls, ks⟩ := x
  obtain ⟨k1, i1, n1, l1, s1⟩ := y
  obtain ⟨te, hte⟩ : ∃ te, te = TR.map Dc.cells := ⟨_, rfl⟩
  simp only [envA] at c1 cp hp
  rw [← hte] at c1 cp hp
  simp only [Tm.av, cells_mk, List.map] at c1 ⊢
  refine ACalls.of_run Try.func122 rfl ?_
  simp only [Try.ntmps122, List.length_cons, List.length_nil]
  refine Run.reg fun K hK => ?_
  simp
  refine hK _ _ _ ?_; clear hK K
  refine Run.reg fun K hK => ?_
  simp [cp]
  refine hK _ _ _ ?_; clear hK K
  refine Run.call rfl (by first | rfl | simp) (by simp) rfl (c1 _ (hh.app (by simp))) ?_ ?_
  rotate_left
  · rintro v h' ⟨hv, _⟩; cases hv
  rintro v h' ⟨hv, rfl⟩
  simp only [AOut.ret.injEq] at hv
  subst hv
  refine Run.ops fun K hK => ?_
  simp
  refine hK _ _ _ ?_; clear hK K
  refine Run.ret ?_
  exact Fin.ret' (h0 := h) (by simp) rfl hh rfl (by simp; rfl) rfl (Weak.refl _) (by simp) ⟨rfl, rfl⟩
set_option maxRecDepth 20000 in
set_option maxHeartbeats 64000000 in
theorem aw41_core (h : Heap) (hh : WF h) (v0 v1 v2 v5 v9 s0 s00 s1 kS sup v29 v99 v59 : Tm) (tr : List (List PV))
    (cv0 : ∀ g : Heap, WF g → ACalls Try.prog 117 [iA 0] g fun o h' => o = .ret v0.av ∧ h' = g)
    (cv1 : ∀ g : Heap, WF g → ACalls Try.prog 117 [iA 1] g fun o h' => o = .ret v1.av ∧ h' = g)
    (cv2 : ∀ g : Heap, WF g → ACalls Try.prog 117 [iA 2] g fun o h' => o = .ret v2.av ∧ h' = g)
    (cv5 : ∀ g : Heap, WF g → ACalls Try.prog 117 [iA 5] g fun o h' => o = .ret v5.av ∧ h' = g)
    (cv9 : ∀ g : Heap, WF g → ACalls Try.prog 117 [iA 9] g fun o h' => o = .ret v9.av ∧ h' = g)
    (cs0 : ∀ g : Heap, WF g → ACalls Try.prog 119 [v0.av] g fun o h' => o = .ret s0.av ∧ h' = g)
    (cs00 : ∀ g : Heap, WF g → ACalls Try.prog 119 [s0.av] g fun o h' => o = .ret s00.av ∧ h' = g)
    (cs1 : ∀ g : Heap, WF g → ACalls Try.prog 119 [v1.av] g fun o h' => o = .ret s1.av ∧ h' = g)
    (ckS : ∀ g : Heap, WF g → ACalls Try.prog 121 [.p (sP [115, 117, 112])] g fun o h' => o = .ret kS.av ∧ h' = g)
    (ctr : ∀ g : Heap, WF g → ACalls Try.prog 118 [] g fun o h' => o = .ret (.p (.sl 23 tr)) ∧ h' = g)
    (csup : ∀ g : Heap, WF g → ACalls Try.prog 120 [kS.av, .p (.sl 5 [v5.cells, v2.cells])] g fun o h' => o = .ret sup.av ∧ h' = g)
    (cv29 : ∀ g : Heap, WF g → ACalls Try.prog 120 [v2.av, .p (.sl 5 [v9.cells])] g fun o h' => o = .ret v29.av ∧ h' = g)
    (cv99 : ∀ g : Heap, WF g → ACalls Try.prog 120 [v2.av, .p (.sl 5 [v9.cells, v9.cells])] g fun o h' => o = .ret v99.av ∧ h' = g)
    (cv59 : ∀ g : Heap, WF g → ACalls Try.prog 120 [v5.av, .p (.sl 5 [v9.cells])] g fun o h' => o = .ret v59.av ∧ h' = g)
    (r0 : ∀ (g : Heap) (p : Nat), WF g → g[p]? = some (some (.cells [.p (.sl 23 tr)])) → ACalls Try.prog 122 [v0.av, s0.av, .ptr p 0] g fun o h' => o = .ret (iA 2) ∧ h' = g)
    (r1 : ∀ (g : Heap) (p : Nat), WF g → g[p]? = some (some (.cells [.p (.sl 23 tr)])) → ACalls Try.prog 122 [v0.av, s00.av, .ptr p 0] g fun o h' => o = .ret (iA 2) ∧ h' = g)
    (r2 : ∀ (g : Heap) (p : Nat), WF g → g[p]? = some (some (.cells [.p (.sl 23 tr)])) → ACalls Try.prog 122 [v0.av, s1.av, .ptr p 0] g fun o h' => o = .ret (iA 0) ∧ h' = g)
    (r3 : ∀ (g : Heap) (p : Nat), WF g → g[p]? = some (some (.cells [.p (.sl 23 tr)])) → ACalls Try.prog 122 [s0.av, s0.av, .ptr p 0] g fun o h' => o = .ret (iA 1) ∧ h' = g)
    (r4 : ∀ (g : Heap) (p : Nat), WF g → g[p]? = some (some (.cells [.p (.sl 23 tr)])) → ACalls Try.prog 122 [v29.av, sup.av, .ptr p 0] g fun o h' => o = .ret (iA 2) ∧ h' = g)
    (r5 : ∀ (g : Heap) (p : Nat), WF g → g[p]? = some (some (.cells [.p (.sl 23 tr)])) → ACalls Try.prog 122 [v2.av, sup.av, .ptr p 0] g fun o h' => o = .ret (iA 2) ∧ h' = g)
    (r6 : ∀ (g : Heap) (p : Nat), WF g → g[p]? = some (some (.cells [.p (.sl 23 tr)])) → ACalls Try.prog 122 [v5.av, sup.av, .ptr p 0] g fun o h' => o = .ret (iA 0) ∧ h' = g)
    (r7 : ∀ (g : Heap) (p : Nat), WF g → g[p]? = some (some (.cells [.p (.sl 23 tr)])) → ACalls Try.prog 122 [v99.av, sup.av, .ptr p 0] g fun o h' => o = .ret (iA 0) ∧ h' = g)
    (r8 : ∀ (g : Heap) (p : Nat), WF g → g[p]? = some (some (.cells [.p (.sl 23 tr)])) → ACalls Try.prog 122 [v59.av, sup.av, .ptr p 0] g fun o h' => o = .ret (iA 0) ∧ h' = g) : ACalls Try.prog 41 [] h fun o h' => o = .ret (bA true) ∧ h' = h := by
  obtain ⟨v0a, v0b, v0c, v0d, v0e⟩ := v0
  obtain ⟨v1a, v1b, v1c, v1d, v1e⟩ := v1
  obtain ⟨v2a, v2b, v2c, v2d, v2e⟩ := v2
  obtain ⟨v5a, v5b, v5c, v5d, v5e⟩ := v5
  obtain ⟨v9a, v9b, v9c, v9d, v9e⟩ := v9
  obtain ⟨s0a, s0b, s0c, s0d, s0e⟩ := s0
  obtain ⟨s00a, s00b, s00c, s00d, s00e⟩ := s00
  obtain ⟨s1a, s1b, s1c, s1d, s1e⟩ := s1
  obtain ⟨kSa, kSb, kSc, kSd, kSe⟩ := kS
  obtain ⟨supa, supb, supc, supd, supe⟩ := sup
  obtain ⟨v29a, v29b, v29c, v29d, v29e⟩ := v29
  obtain ⟨v99a, v99b, v99c, v99d, v99e⟩ := v99
  obtain ⟨v59a, v59b, v59c, v59d, v59e⟩ := v59
  simp only [Tm.av, cells_mk, List.map] at cv0 cv1 cv2 cv5 cv9 cs0 cs00 cs1 ckS csup cv29 cv99 cv59 r0 r1 r2 r3 r4 r5 r6 r7 r8
  refine ACalls.of_run Try.func41 rfl ?_
  simp only [Try.ntmps41, List.length_nil]
  refine Run.reg fun K hK => ?_
  simp
  refine hK _ _ _ ?_; clear hK K
  refine Run.reg fun K hK => ?_
  simp
  refine hK _ _ _ ?_; clear hK K
  refine Run.reg fun K hK => ?_
  simp
  refine hK _ _ _ ?_; clear hK K
  refine Run.call rfl (by first | rfl | simp) (by simp) rfl (ctr _ hh) ?_ ?_
  rotate_left
  · rintro v h' ⟨hv, _⟩; cases hv
  rintro v h' ⟨hv, rfl⟩
  simp only [AOut.ret.injEq] at hv
  subst hv
  refine Run.ops fun K hK => ?_
  simp
  refine hK _ _ _ ?_; clear hK K
  refine Run.reg fun K hK => ?_
  simp
  refine hK _ _ _ ?_; clear hK K
  refine Run.reg fun K hK => ?_
  simp
  refine hK _ _ _ ?_; clear hK K
  refine Run.call (args := [.p (sP [115, 117, 112])]) rfl (by first | rfl | simp) (by simp) rfl (ckS _ (hh.app (by simp))) ?_ ?_
  rotate_left
  · rintro v h' ⟨hv, _⟩; cases hv
  rintro v h' ⟨hv, rfl⟩
  simp only [AOut.ret.injEq] at hv
  subst hv
  refine Run.ops fun K hK => ?_
  simp
  refine hK _ _ _ ?_; clear hK K
  refine Run.call (args := [iA 5]) rfl (by first | rfl | simp) (by simp) rfl (cv5 _ (hh.app (by simp))) ?_ ?_
  rotate_left
  · rintro v h' ⟨hv, _⟩; cases hv
  rintro v h' ⟨hv, rfl⟩
  simp only [AOut.ret.injEq] at hv
  subst hv
  refine Run.ops fun K hK => ?_
  simp
  refine hK _ _ _ ?_; clear hK K
  refine Run.call (args := [iA 2]) rfl (by first | rfl | simp) (by simp) rfl (cv2 _ (hh.app (by simp))) ?_ ?_
  rotate_left
  · rintro v h' ⟨hv, _⟩; cases hv
  rintro v h' ⟨hv, rfl⟩
  simp only [AOut.ret.injEq] at hv
  subst hv
  refine Run.ops fun K hK => ?_
  simp
  refine hK _ _ _ ?_; clear hK K
  refine Run.call (args := [.agg [.p (iP kSa), .p (iP kSb), .p (sP kSc), .p (.sl 2 (lvPs kSd)), .p (.sl 5 (tmPs kSe))], .p (.sl 5 [[iP v5a, iP v5b, sP v5c, .sl 2 (lvPs v5d), .sl 5 (tmPs v5e)], [iP v2a, iP v2b, sP v2c, .sl 2 (lvPs v2d), .sl 5 (tmPs v2e)]])]) rfl (by first | rfl | simp) (by simp) rfl (csup _ (hh.app (by simp))) ?_ ?_
  rotate_left
  · rintro v h' ⟨hv, _⟩; cases hv
  rintro v h' ⟨hv, rfl⟩
  simp only [AOut.ret.injEq] at hv
  subst hv
  refine Run.ops fun K hK => ?_
  simp
  refine hK _ _ _ ?_; clear hK K
  refine Run.reg fun K hK => ?_
  simp
  refine hK _ _ _ ?_; clear hK K
  refine Run.draw [0, 0, 0, 0, 0, 1, 2, 3, 4, 4, 4, 4, 4, 4, 4, 4, 5, 6, 7, 8, 9, 9, 9, 9, 9, 9, 9, 9, 10, 11, 12, 13, 13, 13, 13, 13, 13, 13, 14, 13, 13, 15, 16, 17, 18, 18, 18, 18, 18, 18, 18, 19, 20, 20, 18, 21, 22, 22, 22, 22, 22, 22, 22, 23, 24, 24, 24, 24, 24, 24, 24, 25, 26, 26, 26, 26, 26, 26, 26, 27, 26, 28, 29, 29, 26, 30, 31, 31, 31, 31, 31, 31, 31, 32, 33, 33, 31, 34, 35, 35, 35] [0, 0, 0, 0, 0, 1, 2, 3, 0, 0, 0, 0, 4, 0, 0, 0, 5, 6, 7, 8, 0, 0, 0, 0, 0, 9, 0, 0, 10, 11, 12, 0, 0, 0, 0, 0, 0, 13, 14, 0, 0, 15, 16, 17, 0, 0, 0, 0, 0, 18, 0, 19, 0, 20, 0, 21, 0, 0, 0, 0, 0, 22, 0, 23, 0, 0, 0, 0, 0, 24, 0, 25, 0, 0, 0, 0, 0, 26, 0, 27, 0, 28, 0, 29, 0, 30, 0, 0, 0, 0, 0, 31, 0, 32, 0, 33, 0, 34, 0, 0, 0] [0, 0, 2, 0, 0, 22, 62, 127, 255, 511, 1023, 1023, 3071, 1023, 1023, 1023, 39935, 121855, 261119, 524287, 1048575, 2097151, 4194303, 8388607, 8388607, 25165823, 8388607, 8388607, 192937983, 528482303, 1073741823, 2147483647, 4294967295, 8589934591, 17179869183, 17179869183, 17179869183, 85899345919, 257698037759, 17179869183, 17179869183, 1632087572479, 4380866641919, 8796093022207, 17592186044415, 35184372088831, 70368744177663, 140737488355327, 140737488355327, 422212465065983, 140737488355327, 2111062325329919, 4362862139015167, 8866461766385663, 140737488355327, 36028797018963967, 72057594037927935, 144115188075855871, 288230376151711743, 576460752303423487, 576460752303423487, 1729382256910270463, 576460752303423487, 9223372036854775807, 18446744073709551615, 36893488147419103231, 73786976294838206463, 147573952589676412927, 147573952589676412927, 442721857769029238783, 147573952589676412927, 2361183241434822606847, 4722366482869645213695, 9444732965739290427391, 18889465931478580854783, 37778931862957161709567, 37778931862957161709567, 113336795588871485128703, 37778931862957161709567, 566683977944357425643519, 37778931862957161709567, 2380072707366301187702783, 4797924346595559537115135, 9633627625054076235939839, 37778931862957161709567, 38685626227668133590597631, 77371252455336267181195263, 154742504910672534362390527, 309485009821345068724781055, 618970019642690137449562111, 618970019642690137449562111, 1856910058928070412348686335, 618970019642690137449562111, 9284550294640352061743431679, 19188070608923394260936425471, 38995111237489478659322413055, 618970019642690137449562111, 158456325028528675187087900671, 316912650057057350374175801343, 633825300114114700748351602687, 1267650600228229401496703205375] [1, 2, 4, 5, 3, 6, 0, 7, 8, 9, 11, 12, 15, 16, 14, 17, 13, 18, 10, 19, 20, 21, 22, 24, 25, 27, 28, 26, 29, 23, 30, 31, 32, 33, 36, 37, 35, 38, 40, 41, 39, 42, 34, 43, 44, 45, 46, 48, 49, 50, 51, 52, 53, 47, 54, 55, 56, 57, 58, 60, 61, 59, 62, 63, 64, 65, 66, 68, 69, 67, 70, 71, 72, 73, 74, 76, 77, 78, 79, 80, 81, 82, 83, 75, 84, 85, 86, 87, 88, 90, 91, 92, 93, 94, 95, 89, 96, 97, 98, 99, 100] (by kernel_rfl) (by kernel_rfl) ?_
  refine DR.go fun K hK => ?_
  simp
  refine hK _ _ _ _ ?_; clear hK K
  refine DR.call (args := [iA 0]) rfl rfl rfl (by simp) rfl (cv0 _ (hh.app (by simp))) ?_
  refine DR.go fun K hK => ?_
  simp
  refine hK _ _ _ _ ?_; clear hK K
  refine DR.call (args := [iA 0]) rfl rfl rfl (by simp) rfl (cv0 _ (hh.app (by simp))) ?_
  refine DR.go fun K hK => ?_
  simp
  refine hK _ _ _ _ ?_; clear hK K
  refine DR.call (args := [.agg [.p (iP v0a), .p (iP v0b), .p (sP v0c), .p (.sl 2 (lvPs v0d)), .p (.sl 5 (tmPs v0e))]]) rfl rfl rfl (by simp) rfl (cs0 _ (hh.app (by simp))) ?_
  refine DR.go fun K hK => ?_
  simp
  refine hK _ _ _ _ ?_; clear hK K
  refine DR.call (args := [.agg [.p (iP v0a), .p (iP v0b), .p (sP v0c), .p (.sl 2 (lvPs v0d)), .p (.sl 5 (tmPs v0e))], .agg [.p (iP s0a), .p (iP s0b), .p (sP s0c), .p (.sl 2 (lvPs s0d)), .p (.sl 5 (tmPs s0e))], .ptr h'.length 0]) rfl rfl rfl (by simp) rfl (r0 _ _ (hh.app (by simp)) (by simp)) ?_
  refine DR.go fun K hK => ?_
  simp
  refine hK _ _ _ _ ?_; clear hK K
  refine DR.call (args := [iA 0]) rfl rfl rfl (by simp) rfl (cv0 _ (hh.app (by simp))) ?_
  refine DR.go fun K hK => ?_
  simp
  refine hK _ _ _ _ ?_; clear hK K
  refine DR.call (args := [iA 0]) rfl rfl rfl (by simp) rfl (cv0 _ (hh.app (by simp))) ?_
  refine DR.go fun K hK => ?_
  simp
  refine hK _ _ _ _ ?_; clear hK K
  refine DR.call (args := [.agg [.p (iP v0a), .p (iP v0b), .p (sP v0c), .p (.sl 2 (lvPs v0d)), .p (.sl 5 (tmPs v0e))]]) rfl rfl rfl (by simp) rfl (cs0 _ (hh.app (by simp))) ?_
  refine DR.go fun K hK => ?_
  simp
  refine hK _ _ _ _ ?_; clear hK K
  refine DR.call (args := [.agg [.p (iP s0a), .p (iP s0b), .p (sP s0c), .p (.sl 2 (lvPs s0d)), .p (.sl 5 (tmPs s0e))]]) rfl rfl rfl (by simp) rfl (cs00 _ (hh.app (by simp))) ?_
  refine DR.go fun K hK => ?_
  simp
  refine hK _ _ _ _ ?_; clear hK K
  refine DR.call (args := [.agg [.p (iP v0a), .p (iP v0b), .p (sP v0c), .p (.sl 2 (lvPs v0d)), .p (.sl 5 (tmPs v0e))], .agg [.p (iP s00a), .p (iP s00b), .p (sP s00c), .p (.sl 2 (lvPs s00d)), .p (.sl 5 (tmPs s00e))], .ptr h'.length 0]) rfl rfl rfl (by simp) rfl (r1 _ _ (hh.app (by simp)) (by simp)) ?_
  refine DR.go fun K hK => ?_
  simp
  refine hK _ _ _ _ ?_; clear hK K
  refine DR.call (args := [iA 0]) rfl rfl rfl (by simp) rfl (cv0 _ (hh.app (by simp))) ?_
  refine DR.go fun K hK => ?_
  simp
  refine hK _ _ _ _ ?_; clear hK K
  refine DR.call (args := [iA 1]) rfl rfl rfl (by simp) rfl (cv1 _ (hh.app (by simp))) ?_
  refine DR.go fun K hK => ?_
  simp
  refine hK _ _ _ _ ?_; clear hK K
  refine DR.call (args := [.agg [.p (iP v1a), .p (iP v1b), .p (sP v1c), .p (.sl 2 (lvPs v1d)), .p (.sl 5 (tmPs v1e))]]) rfl rfl rfl (by simp) rfl (cs1 _ (hh.app (by simp))) ?_
  refine DR.go fun K hK => ?_
  simp
  refine hK _ _ _ _ ?_; clear hK K
  refine DR.call (args := [.agg [.p (iP v0a), .p (iP v0b), .p (sP v0c), .p (.sl 2 (lvPs v0d)), .p (.sl 5 (tmPs v0e))], .agg [.p (iP s1a), .p (iP s1b), .p (sP s1c), .p (.sl 2 (lvPs s1d)), .p (.sl 5 (tmPs s1e))], .ptr h'.length 0]) rfl rfl rfl (by simp) rfl (r2 _ _ (hh.app (by simp)) (by simp)) ?_
  refine DR.go fun K hK => ?_
  simp
  refine hK _ _ _ _ ?_; clear hK K
  refine DR.call (args := [iA 0]) rfl rfl rfl (by simp) rfl (cv0 _ (hh.app (by simp))) ?_
  refine DR.go fun K hK => ?_
  simp
  refine hK _ _ _ _ ?_; clear hK K
  refine DR.call (args := [.agg [.p (iP v0a), .p (iP v0b), .p (sP v0c), .p (.sl 2 (lvPs v0d)), .p (.sl 5 (tmPs v0e))]]) rfl rfl rfl (by simp) rfl (cs0 _ (hh.app (by simp))) ?_
  refine DR.go fun K hK => ?_
  simp
  refine hK _ _ _ _ ?_; clear hK K
  refine DR.call (args := [iA 0]) rfl rfl rfl (by simp) rfl (cv0 _ (hh.app (by simp))) ?_
  refine DR.go fun K hK => ?_
  simp
  refine hK _ _ _ _ ?_; clear hK K
  refine DR.call (args := [.agg [.p (iP v0a), .p (iP v0b), .p (sP v0c), .p (.sl 2 (lvPs v0d)), .p (.sl 5 (tmPs v0e))]]) rfl rfl rfl (by simp) rfl (cs0 _ (hh.app (by simp))) ?_
  refine DR.go fun K hK => ?_
  simp
  refine hK _ _ _ _ ?_; clear hK K
  refine DR.call (args := [.agg [.p (iP s0a), .p (iP s0b), .p (sP s0c), .p (.sl 2 (lvPs s0d)), .p (.sl 5 (tmPs s0e))], .agg [.p (iP s0a), .p (iP s0b), .p (sP s0c), .p (.sl 2 (lvPs s0d)), .p (.sl 5 (tmPs s0e))], .ptr h'.length 0]) rfl rfl rfl (by simp) rfl (r3 _ _ (hh.app (by simp)) (by simp)) ?_
  refine DR.go fun K hK => ?_
  simp
  refine hK _ _ _ _ ?_; clear hK K
  refine DR.call (args := [iA 2]) rfl rfl rfl (by simp) rfl (cv2 _ (hh.app (by simp))) ?_
  refine DR.go fun K hK => ?_
  simp
  refine hK _ _ _ _ ?_; clear hK K
  refine DR.call (args := [iA 9]) rfl rfl rfl (by simp) rfl (cv9 _ (hh.app (by simp))) ?_
  refine DR.go fun K hK => ?_
  simp
  refine hK _ _ _ _ ?_; clear hK K
  refine DR.call (args := [.agg [.p (iP v2a), .p (iP v2b), .p (sP v2c), .p (.sl 2 (lvPs v2d)), .p (.sl 5 (tmPs v2e))], .p (.sl 5 [[iP v9a, iP v9b, sP v9c, .sl 2 (lvPs v9d), .sl 5 (tmPs v9e)]])]) rfl rfl rfl (by simp) rfl (cv29 _ (hh.app (by simp))) ?_
  refine DR.go fun K hK => ?_
  simp
  refine hK _ _ _ _ ?_; clear hK K
  refine DR.call (args := [.agg [.p (iP v29a), .p (iP v29b), .p (sP v29c), .p (.sl 2 (lvPs v29d)), .p (.sl 5 (tmPs v29e))], .agg [.p (iP supa), .p (iP supb), .p (sP supc), .p (.sl 2 (lvPs supd)), .p (.sl 5 (tmPs supe))], .ptr h'.length 0]) rfl rfl rfl (by simp) rfl (r4 _ _ (hh.app (by simp)) (by simp)) ?_
  refine DR.go fun K hK => ?_
  simp
  refine hK _ _ _ _ ?_; clear hK K
  refine DR.call (args := [iA 2]) rfl rfl rfl (by simp) rfl (cv2 _ (hh.app (by simp))) ?_
  refine DR.go fun K hK => ?_
  simp
  refine hK _ _ _ _ ?_; clear hK K
  refine DR.call (args := [.agg [.p (iP v2a), .p (iP v2b), .p (sP v2c), .p (.sl 2 (lvPs v2d)), .p (.sl 5 (tmPs v2e))], .agg [.p (iP supa), .p (iP supb), .p (sP supc), .p (.sl 2 (lvPs supd)), .p (.sl 5 (tmPs supe))], .ptr h'.length 0]) rfl rfl rfl (by simp) rfl (r5 _ _ (hh.app (by simp)) (by simp)) ?_
  refine DR.go fun K hK => ?_
  simp
  refine hK _ _ _ _ ?_; clear hK K
  refine DR.call (args := [iA 5]) rfl rfl rfl (by simp) rfl (cv5 _ (hh.app (by simp))) ?_
  refine DR.go fun K hK => ?_
  simp
  refine hK _ _ _ _ ?_; clear hK K
  refine DR.call (args := [.agg [.p (iP v5a), .p (iP v5b), .p (sP v5c), .p (.sl 2 (lvPs v5d)), .p (.sl 5 (tmPs v5e))], .agg [.p (iP supa), .p (iP supb), .p (sP supc), .p (.sl 2 (lvPs supd)), .p (.sl 5 (tmPs supe))], .ptr h'.length 0]) rfl rfl rfl (by simp) rfl (r6 _ _ (hh.app (by simp)) (by simp)) ?_
  refine DR.go fun K hK => ?_
  simp
  refine hK _ _ _ _ ?_; clear hK K
  refine DR.call (args := [iA 2]) rfl rfl rfl (by simp) rfl (cv2 _ (hh.app (by simp))) ?_
  refine DR.go fun K hK => ?_
  simp
  refine hK _ _ _ _ ?_; clear hK K
  refine DR.call (args := [iA 9]) rfl rfl rfl (by simp) rfl (cv9 _ (hh.app (by simp))) ?_
  refine DR.go fun K hK => ?_
  simp
  refine hK _ _ _ _ ?_; clear hK K
  refine DR.call (args := [iA 9]) rfl rfl rfl (by simp) rfl (cv9 _ (hh.app (by simp))) ?_
  refine DR.go fun K hK => ?_
  simp
  refine hK _ _ _ _ ?_; clear hK K
  refine DR.call (args := [.agg [.p (iP v2a), .p (iP v2b), .p (sP v2c), .p (.sl 2 (lvPs v2d)), .p (.sl 5 (tmPs v2e))], .p (.sl 5 [[iP v9a, iP v9b, sP v9c, .sl 2 (lvPs v9d), .sl 5 (tmPs v9e)], [iP v9a, iP v9b, sP v9c, .sl 2 (lvPs v9d), .sl 5 (tmPs v9e)]])]) rfl rfl rfl (by simp) rfl (cv99 _ (hh.app (by simp))) ?_
  refine DR.go fun K hK => ?_
  simp
  refine hK _ _ _ _ ?_; clear hK K
  refine DR.call (args := [.agg [.p (iP v99a), .p (iP v99b), .p (sP v99c), .p (.sl 2 (lvPs v99d)), .p (.sl 5 (tmPs v99e))], .agg [.p (iP supa), .p (iP supb), .p (sP supc), .p (.sl 2 (lvPs supd)), .p (.sl 5 (tmPs supe))], .ptr h'.length 0]) rfl rfl rfl (by simp) rfl (r7 _ _ (hh.app (by simp)) (by simp)) ?_
  refine DR.go fun K hK => ?_
  simp
  refine hK _ _ _ _ ?_; clear hK K
  refine DR.call (args := [iA 5]) rfl rfl rfl (by simp) rfl (cv5 _ (hh.app (by simp))) ?_
  refine DR.go fun K hK => ?_
  simp
  refine hK _ _ _ _ ?_; clear hK K
  refine DR.call (args := [iA 9]) rfl rfl rfl (by simp) rfl (cv9 _ (hh.app (by simp))) ?_
  refine DR.go fun K hK => ?_
  simp
  refine hK _ _ _ _ ?_; clear hK K
  refine DR.call (args := [.agg [.p (iP v5a), .p (iP v5b), .p (sP v5c), .p (.sl 2 (lvPs v5d)), .p (.sl 5 (tmPs v5e))], .p (.sl 5 [[iP v9a, iP v9b, sP v9c, .sl 2 (lvPs v9d), .sl 5 (tmPs v9e)]])]) rfl rfl rfl (by simp) rfl (cv59 _ (hh.app (by simp))) ?_
  refine DR.go fun K hK => ?_
  simp
  refine hK _ _ _ _ ?_; clear hK K
  refine DR.call (args := [.agg [.p (iP v59a), .p (iP v59b), .p (sP v59c), .p (.sl 2 (lvPs v59d)), .p (.sl 5 (tmPs v59e))], .agg [.p (iP supa), .p (iP supb), .p (sP supc), .p (.sl 2 (lvPs supd)), .p (.sl 5 (tmPs supe))], .ptr h'.length 0]) rfl rfl rfl (by simp) rfl (r8 _ _ (hh.app (by simp)) (by simp)) ?_
  refine DR.go fun K hK => ?_
  simp
  refine hK _ _ _ _ ?_; clear hK K
  change Run _ _ _ _ _ _ _ _
  refine Run.ret ?_
  exact Fin.ret' (h0 := _) (by simp) rfl hh rfl (by simp; rfl) rfl (Weak.refl _) (by simp) ⟨rfl, rfl⟩
theorem vr_ok (i : Int) : (vr i).lvs ∧ (vr i).size ≤ 1048576 := by simp [vr, Tm.lvs, Tm.lvss, Tm.size, Tm.sizes]
theorem s0_ok : (scT (vr 0)).lvs ∧ (scT (vr 0)).size ≤ 1048576 := by simp [scT, applyT, appT, kT, vr, Tm.lvs, Tm.lvss, Tm.size, Tm.sizes]
theorem s1_ok : (scT (vr 1)).lvs ∧ (scT (vr 1)).size ≤ 1048576 := by simp [scT, applyT, appT, kT, vr, Tm.lvs, Tm.lvss, Tm.size, Tm.sizes]
theorem s00_ok : (scT (scT (vr 0))).lvs ∧ (scT (scT (vr 0))).size ≤ 1048576 := by simp [scT, applyT, appT, kT, vr, Tm.lvs, Tm.lvss, Tm.size, Tm.sizes]
theorem sup_ok : supT.lvs ∧ supT.size ≤ 1048576 := by simp [supT, applyT, appT, kT, vr, Tm.lvs, Tm.lvss, Tm.size, Tm.sizes]
theorem v29_ok : v29.lvs ∧ v29.size ≤ 1048576 := by simp [v29, applyT, appT, vr, Tm.lvs, Tm.lvss, Tm.size, Tm.sizes]
theorem v99_ok : v99.lvs ∧ v99.size ≤ 1048576 := by simp [v99, applyT, appT, vr, Tm.lvs, Tm.lvss, Tm.size, Tm.sizes]
theorem v59_ok : v59.lvs ∧ v59.size ≤ 1048576 := by simp [v59, applyT, appT, vr, Tm.lvs, Tm.lvss, Tm.size, Tm.sizes]
theorem aw41_any (h : Heap) (hh : WF h) : ACalls Try.prog 41 [] h fun o h' => o = .ret (bA true) ∧ h' = h :=
  aw41_core h hh (vr 0) (vr 1) (vr 2) (vr 5) (vr 9) (scT (vr 0)) (scT (scT (vr 0))) (scT (vr 1)) (kT sSup) supT v29 v99 v59 (TR.map Dc.cells)
    (fun g hg => aw117_any g hg 0)
    (fun g hg => aw117_any g hg 1)
    (fun g hg => aw117_any g hg 2)
    (fun g hg => aw117_any g hg 5)
    (fun g hg => aw117_any g hg 9)
    (fun g hg => aw119_any g hg (vr 0))
    (fun g hg => aw119_any g hg (scT (vr 0)))
    (fun g hg => aw119_any g hg (vr 1))
    (fun g hg => con121_any g hg sSup)
    (fun g hg => trees_any g hg)
    (fun g hg => apply120_any g hg (kT sSup) [(vr 5), (vr 2)] (by simp))
    (fun g hg => apply120_any g hg (vr 2) [(vr 9)] (by simp))
    (fun g hg => apply120_any g hg (vr 2) [(vr 9), (vr 9)] (by simp))
    (fun g hg => apply120_any g hg (vr 5) [(vr 9)] (by simp))
    (fun g p hg hp => by rw [← tr_1]; exact aw122_any g hg p hp (vr 0) (scT (vr 0)) (vr_ok 0).1 (vr_ok 0).2 s0_ok.2)
    (fun g p hg hp => by rw [← tr_2]; exact aw122_any g hg p hp (vr 0) (scT (scT (vr 0))) (vr_ok 0).1 (vr_ok 0).2 s00_ok.2)
    (fun g p hg hp => by rw [← tr_3]; exact aw122_any g hg p hp (vr 0) (scT (vr 1)) (vr_ok 0).1 (vr_ok 0).2 s1_ok.2)
    (fun g p hg hp => by rw [← tr_4]; exact aw122_any g hg p hp (scT (vr 0)) (scT (vr 0)) s0_ok.1 s0_ok.2 s0_ok.2)
    (fun g p hg hp => by rw [← tr_5]; exact aw122_any g hg p hp v29 supT v29_ok.1 v29_ok.2 sup_ok.2)
    (fun g p hg hp => by rw [← tr_6]; exact aw122_any g hg p hp (vr 2) supT (vr_ok 2).1 (vr_ok 2).2 sup_ok.2)
    (fun g p hg hp => by rw [← tr_7]; exact aw122_any g hg p hp (vr 5) supT (vr_ok 5).1 (vr_ok 5).2 sup_ok.2)
    (fun g p hg hp => by rw [← tr_8]; exact aw122_any g hg p hp v99 supT v99_ok.1 v99_ok.2 sup_ok.2)
    (fun g p hg hp => by rw [← tr_9]; exact aw122_any g hg p hp v59 supT v59_ok.1 v59_ok.2 sup_ok.2)

end Go.Proofs.Ytppgpabjcenjdaa
