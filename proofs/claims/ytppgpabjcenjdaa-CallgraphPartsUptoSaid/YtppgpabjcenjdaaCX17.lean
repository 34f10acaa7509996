/-
  The family itself; the reference's Own.
-/
import Derived.Test.YtppgpabjcenjdaaCX16

namespace Go.Proofs.Ytppgpabjcenjdaa

open Go Go.AI
def lvV (i : Nat) : Lv := ⟨0, [((i : Int), 0)]⟩
def lvVs (ps : Int) : List Lv := (List.range ps.toNat).map lvV
def ownT (nm : List UInt8) (ps : Int) : Tm := .mk 3 0 nm (lvVs ps) []
theorem lvVs_snoc (j : Nat) : lvVs ((j : Int) + 1) = lvVs j ++ [lvV j] := by
  unfold lvVs
  rw [show ((j : Int) + 1).toNat = j + 1 by omega, Int.toNat_natCast, List.range_succ]
  simp
theorem lvVs_length (j : Nat) : (lvVs j).length = j := by simp [lvVs]
set_option maxRecDepth 8000 in
theorem itself_any (h : Heap) (hh : WF h) (nm : List UInt8) (ps : Int) (hp : ps ≤ 1048576) : ACalls Try.prog 186 [.p (sP nm), iA ps] h fun o h' => o = .ret (ownT nm ps).av ∧ h' = h := by
  obtain ⟨N, hN⟩ : ∃ N : Nat, ps.toNat = N := ⟨_, rfl⟩
  have hown : ownT nm ps = ownT nm N := by simp [ownT, lvVs, hN]
  rw [hown]
  refine ACalls.of_run Try.func186 rfl ?_
  simp only [Try.ntmps186, List.length_cons, List.length_nil, Tm.av]
  refine Run.reg fun K hK => ?_
  simp
  refine hK _ _ _ ?_; clear hK K
  refine Run.reg fun K hK => ?_
  simp
  refine hK _ _ _ ?_; clear hK K
  refine Run.reg fun K hK => ?_
  simp
  refine hK _ _ _ ?_; clear hK K
  refine Run.tokAt (h.length + 1) 3 2 (by simp; rfl) (by simp) ?_
  simp
  refine Run.loopS [4, 5, 9] (fun j : Nat => j ≤ N) (fun j => N - j) (fun j => [(10, iA j)])
      (fun j => h ++ [some (.cells [iA 0, iA 0, .p (sP []), .p (.prim (.slice none 0 0)), .p (.prim (.slice none 0 0))]),
        some (.cells [iA 3, iA 0, .p (sP nm), .own (h.length + 2) 2 (lvPs (lvVs j)), .p (.prim (.slice none 0 0))]), some (.tok j 2)])
      0 (by simp) ?_ (by simp [lvVs, lvPs]) ?_
  · simp
    repeat' (first | exact WeakL.nil | apply WeakL.cons)
    all_goals first | exact Weak.junk _ | exact Weak.refl _ | exact Weak.nil _ | exact Weak.own _ _ _ | exact Weak.int (by omega)
  · intro j hj IH
    simp
    by_cases hjl : j < N
    · have hlt : (j : Int) < ps := by omega
      have hb3 : (j + 1) * 32 ≤ 140737488355328 := by omega
      have hb4 : j + 1 ≤ 9223372036854775807 := by omega
      have hln := lvVs_length j
      refine Run.reg fun K hK => ?_
      simp [hlt]
      refine hK _ _ _ ?_; clear hK K
      refine Run.cond (b := true) (by simp) ?_
      simp only [if_true]
      refine Run.reg fun K hK => ?_
      simp
      refine hK _ _ _ ?_; clear hK K
      refine Run.reg fun K hK => ?_
      simp [hb3, hb4, hln]
      refine hK _ _ _ ?_; clear hK K
      refine Run.reg fun K hK => ?_
      simp
      refine hK _ _ _ ?_; clear hK K
      refine IH (j + 1) _ _ (by omega) (by omega) ?_ ?_
      · simp
        repeat' (first | exact WeakL.nil | apply WeakL.cons)
        all_goals first | exact Weak.junk _ | exact Weak.refl _ | exact Weak.nil _ | exact Weak.own _ _ _ | exact Weak.int (by omega)
      · rw [Int.natCast_add, Int.natCast_one, lvVs_snoc, lvPs_snoc]
        simp [lvV, Lv.cells, varPs]
    · have hje : j = N := by omega
      subst hje
      have hlt : ¬ (j : Int) < ps := by omega
      refine Run.reg fun K hK => ?_
      simp [hlt]
      refine hK _ _ _ ?_; clear hK K
      refine Run.cond (b := false) (by simp) ?_
      simp only [Bool.false_eq_true, if_false]
      refine Run.exit rfl ?_
      refine Run.reg fun K hK => ?_
      simp
      refine hK _ _ _ ?_; clear hK K
      refine Run.ret ?_
      refine Fin.ret' (h0 := h) (by simp) rfl hh rfl (by simp; rfl) rfl (y := (ownT nm j).av) ?_ (by simp [ownT]) ⟨rfl, rfl⟩
      unfold ownT
      simp only [Tm.av, cells_mk, List.map]
      refine Weak.agg ?_
      repeat' (first | exact WeakL.nil | apply WeakL.cons)
      all_goals first | exact Weak.junk _ | exact Weak.refl _ | exact Weak.nil _ | exact Weak.own _ _ _ | exact Weak.int (by omega)
set_option maxRecDepth 8000 in
theorem var240_any (h : Heap) (hh : WF h) (i : Nat) (hi : i < 8) : ACalls Try.prog 240 [iA i, iA 0] h fun o h' => o = .ret (.tup [.agg ((lvV i).cells.map .p), iA 0]) ∧ h' = h := by
  have h1 : ¬ (i : Int) < -65536 := by omega
  have h2 : ¬ (8 : Int) ≤ i := by omega
  refine ACalls.of_run Try.func240 rfl ?_
  simp only [Try.ntmps240, List.length_cons, List.length_nil]
  refine Run.reg fun K hK => ?_
  simp
  refine hK _ _ _ ?_; clear hK K
  refine Run.reg fun K hK => ?_
  simp [h1, h2]
  refine hK _ _ _ ?_; clear hK K
  refine Run.cond (b := false) (by simp) ?_
  simp only [Bool.false_eq_true, if_false]
  refine Run.reg fun K hK => ?_
  simp
  refine hK _ _ _ ?_; clear hK K
  refine Run.cond (b := false) (by simp) ?_
  simp only [Bool.false_eq_true, if_false]
  refine Run.reg fun K hK => ?_
  simp
  refine hK _ _ _ ?_; clear hK K
  refine Run.ret ?_
  exact Fin.ret' (h0 := h) (by simp) rfl hh rfl (by simp; rfl) rfl (Weak.refl _) (by simp) ⟨by simp [lvV, Lv.cells, varPs], rfl⟩
set_option maxRecDepth 8000 in
theorem params234_any (h : Heap) (hh : WF h) (ps : Int) (hp : ps ≤ 8) : ACalls Try.prog 234 [iA ps] h fun o h' => o = .ret (.p (.sl 2 (lvPs (lvVs ps)))) ∧ h' = h := by
  obtain ⟨N, hN⟩ : ∃ N : Nat, ps.toNat = N := ⟨_, rfl⟩
  have hown : lvVs ps = lvVs N := by simp [lvVs, hN]
  rw [hown]
  have hvar := fun (i : Nat) (hi : i < 8) (g : Heap) (hw : WF g) => var240_any g hw i hi
  simp only [lvV, Lv.cells, varPs, List.map] at hvar
  refine ACalls.of_run Try.func234 rfl ?_
  simp only [Try.ntmps234, List.length_cons, List.length_nil]
  refine Run.reg fun K hK => ?_
  simp
  refine hK _ _ _ ?_; clear hK K
  refine Run.reg fun K hK => ?_
  simp
  refine hK _ _ _ ?_; clear hK K
  refine Run.reg fun K hK => ?_
  simp
  refine hK _ _ _ ?_; clear hK K
  refine Run.tok 3 2 (by simp) ?_
  simp
  refine Run.loopS [0] (fun j : Nat => j ≤ N) (fun j => N - j) (fun j => [(3, .own h.length 2 (lvPs (lvVs j))), (4, iA j)])
      (fun j => h ++ [some (.tok j 2)]) 0 (by simp) ?_ (by simp) ?_
  · simp [lvVs, lvPs]
    repeat' (first | exact WeakL.nil | apply WeakL.cons)
    all_goals first | exact Weak.junk _ | exact Weak.refl _ | exact Weak.nil _ | exact Weak.own _ _ _ | exact Weak.int (by omega)
  · intro j hj IH
    simp
    by_cases hjl : j < N
    · have hlt : (j : Int) < ps := by omega
      have hb3 : (j + 1) * 32 ≤ 140737488355328 := by omega
      have hb4 : j + 1 ≤ 9223372036854775807 := by omega
      have hln := lvVs_length j
      refine Run.reg fun K hK => ?_
      simp [hlt]
      refine hK _ _ _ ?_; clear hK K
      refine Run.cond (b := true) (by simp) ?_
      simp only [if_true]
      refine Run.regPre 1 fun K hK => ?_
      simp only [List.take_succ_cons, List.take_zero]
      simp
      refine hK _ _ _ ?_; clear hK K
      simp only [List.nil_append, List.drop_succ_cons, List.drop_zero]
      refine Run.call rfl (by first | rfl | simp) (by simp) rfl (hvar j (by omega) _ (hh.app (by simp))) ?_ ?_
      rotate_left
      · rintro v h' ⟨hv, _⟩; cases hv
      rintro v h' ⟨hv, rfl⟩
      simp only [AOut.ret.injEq] at hv
      subst hv
      refine Run.ops fun K hK => ?_
      simp
      refine hK _ _ _ ?_; clear hK K
      refine Run.reg fun K hK => ?_
      simp [hb3, hb4, hln]
      refine hK _ _ _ ?_; clear hK K
      refine Run.reg fun K hK => ?_
      simp
      refine hK _ _ _ ?_; clear hK K
      refine Run.keep [0, 3, 4] ?_
      simp
      refine Run.cutAt 1 hh rfl (by omega) (by simp) (by simp) (by simp) rfl ?_
      refine IH (j + 1) _ _ (by omega) (by omega) ?_ ?_
      · rw [Int.natCast_add, Int.natCast_one, lvVs_snoc, lvPs_snoc]
        simp [lvV, Lv.cells, varPs]
        repeat' (first | exact WeakL.nil | apply WeakL.cons)
        all_goals first | exact Weak.junk _ | exact Weak.refl _ | exact Weak.nil _ | exact Weak.own _ _ _ | exact Weak.int (by omega)
      · simp
    · have hje : j = N := by omega
      subst hje
      have hlt : ¬ (j : Int) < ps := by omega
      refine Run.reg fun K hK => ?_
      simp [hlt]
      refine hK _ _ _ ?_; clear hK K
      refine Run.cond (b := false) (by simp) ?_
      simp only [Bool.false_eq_true, if_false]
      refine Run.exit rfl ?_
      refine Run.reg fun K hK => ?_
      simp
      refine hK _ _ _ ?_; clear hK K
      refine Run.ret ?_
      exact Fin.ret' (h0 := h) (xs := [.own h.length 2 (lvPs (lvVs j))]) (by simp) rfl hh rfl (by simp) rfl (Weak.own _ _ _) (by simp) ⟨rfl, rfl⟩
set_option maxRecDepth 8000 in
theorem own220_any (h : Heap) (hh : WF h) (nm : List UInt8) (ps : Int) (hp : ps ≤ 8) : ACalls Try.prog 220 [.p (sP nm), iA ps] h fun o h' => o = .ret (ownT nm ps).av ∧ h' = h := by
  have c1 := fun (g : Heap) (hw : WF g) => params234_any g hw ps hp
  refine ACalls.of_run Try.func220 rfl ?_
  simp only [Try.ntmps220, List.length_cons, List.length_nil, Tm.av]
  refine Run.reg fun K hK => ?_
  simp
  refine hK _ _ _ ?_; clear hK K
  refine Run.regPre 2 fun K hK => ?_
  simp only [List.take_succ_cons, List.take_zero]
  simp
  refine hK _ _ _ ?_; clear hK K
  simp only [List.nil_append, List.drop_succ_cons, List.drop_zero]
  refine Run.call rfl (by first | rfl | simp) (by simp) rfl (c1 _ (hh.app (by simp))) ?_ ?_
  rotate_left
  · rintro v h' ⟨hv, _⟩; cases hv
  rintro v h' ⟨hv, rfl⟩
  simp only [AOut.ret.injEq] at hv
  subst hv
  refine Run.ops fun K hK => ?_
  simp
  refine hK _ _ _ ?_; clear hK K
  refine Run.ret ?_
  refine Fin.ret' (h0 := h) (by simp) rfl hh rfl (by simp; rfl) rfl (y := (ownT nm ps).av) ?_ (by simp [ownT]) ⟨rfl, rfl⟩
  unfold ownT
  simp only [Tm.av, cells_mk, List.map, tmPs]
  refine Weak.agg ?_
  repeat' (first | exact WeakL.nil | apply WeakL.cons)
  all_goals first | exact Weak.junk _ | exact Weak.refl _ | exact Weak.nil _ | exact Weak.own _ _ _ | exact Weak.int (by omega)

end Go.Proofs.Ytppgpabjcenjdaa
