/-
  small and Leaves of both sides.
-/
import Derived.Test.YtplomildbmcmfaaGreatBTA

namespace Go.Proofs.YtplomildbmcmfaaGreat

open Go Go.AI
set_option maxRecDepth 8000 in
set_option maxHeartbeats 8000000 in
theorem small17_any : ∀ (n : Nat) (t : Tr) (h : Heap), n ≤ 12 → WF h → ACalls Tryz.prog 17 [t.av, iA n] h fun o h' => o = .ret (bA (smallB n t)) ∧ h' = h := by
  intro n
  induction n with
  | zero =>
    intro t h hn hh
    obtain ⟨k, ⟨b0, b1, b2, b3, b4⟩, v, bs⟩ := t
    simp only [Tr.av, Tr.cells, Tm.cells, List.cons_append, List.nil_append, List.map]
    refine ACalls.of_run Tryz.func17 rfl ?_
    simp only [Tryz.ntmps17, List.length_cons, List.length_nil]
    refine nv ?_
    refine Run.reg fun K hK => ?_
    simp
    try (simp (disch := omega) only [wrap_id])
    refine hK _ _ _ ?_; clear hK K
    refine nv ?_
    refine Run.reg fun K hK => ?_
    simp
    try (simp (disch := omega) only [wrap_id])
    refine hK _ _ _ ?_; clear hK K
    refine nv ?_
    refine Run.cond (b := true) (by simp) ?_
    simp only [if_true]
    refine nv ?_
    refine Run.reg fun K hK => ?_
    simp
    try (simp (disch := omega) only [wrap_id])
    refine hK _ _ _ ?_; clear hK K
    refine nv ?_
    refine Run.ret ?_
    exact Fin.ret' (h0 := h) (by simp) rfl hh rfl (by simp; rfl) rfl (Weak.refl _) (by simp) ⟨rfl, rfl⟩
  | succ n ihn =>
    intro t h hn hh
    obtain ⟨k, ⟨b0, b1, b2, b3, b4⟩, v, bs⟩ := t
    have hbl := brPs_length bs
    have hn0 : ((n : Int) + 1 ≤ 0) = False := by simp <;> omega
    obtain ⟨r, hr⟩ : ∃ r, smallB (n + 1) (.mk k (.mk b0 b1 b2 b3 b4) v bs) = r := ⟨_, rfl⟩
    rw [hr]
    simp only [smallB] at hr
    simp only [Tr.av, Tr.cells, Tm.cells, List.cons_append, List.nil_append, List.map]
    by_cases hc : bs.length ≤ 12
    · have hcb : ¬ (12 : Int) < bs.length := by omega
      refine ACalls.of_run Tryz.func17 rfl ?_
      simp only [Tryz.ntmps17, List.length_cons, List.length_nil]
      refine nv ?_
      refine Run.reg fun K hK => ?_
      simp
      try (simp (disch := omega) only [wrap_id])
      refine hK _ _ _ ?_; clear hK K
      refine nv ?_
      refine Run.reg fun K hK => ?_
      simp [hn0, hbl, hcb]
      try (simp (disch := omega) only [wrap_id])
      refine hK _ _ _ ?_; clear hK K
      refine nv ?_
      refine Run.cond (b := false) (by simp) ?_
      simp only [Bool.false_eq_true, if_false]
      refine nv ?_
      refine Run.reg fun K hK => ?_
      simp
      try (simp (disch := omega) only [wrap_id])
      refine hK _ _ _ ?_; clear hK K
      refine nv ?_
      refine Run.loopS [0, 1, 2] (fun j : Nat => j ≤ bs.length ∧ (bs.take j).all (fun b => smallB n b.tr) = true) (fun j => bs.length - j) (fun j => [(5, iA j)]) (fun _ => _) 0 (by simp) ?_ rfl ?_
      · simp
        repeat' (first | exact WeakL.nil | apply WeakL.cons)
        all_goals first | exact Weak.junk _ | exact Weak.refl _ | exact Weak.nil _ | exact Weak.own _ _ _ | exact Weak.int (by omega)
      intro j ⟨hj, hs⟩ IH
      simp
      refine nv ?_
      refine Run.reg fun K hK => ?_
      simp [hbl]
      try (simp (disch := omega) only [wrap_id])
      refine hK _ _ _ ?_; clear hK K
      refine nv ?_
      by_cases hjl : j < bs.length
      · have hg : bs[j]? = some bs[j] := List.getElem?_eq_getElem hjl
        have hgb := br_get bs j
        rw [hg] at hgb
        have htk : bs.take (j + 1) = bs.take j ++ [bs[j]] := List.take_succ_eq_append_getElem hjl
        have hall : smallB n bs[j].tr = false → bs.all (fun b => smallB n b.tr) = false := fun h => by
          rw [List.all_eq_false]; exact ⟨bs[j], List.getElem_mem hjl, by simpa using h⟩
        generalize bs[j] = x at hgb htk hall
        obtain ⟨c, a, t'⟩ := x
        have ih := ihn t'
        obtain ⟨k', ⟨d0, d1, d2, d3, d4⟩, v', bs'⟩ := t'
        simp only [Option.map_some, Br.cells, Tr.cells, Tm.cells, List.cons_append, List.nil_append] at hgb
        simp only [Tr.av, Tr.cells, Tm.cells, List.cons_append, List.nil_append, List.map] at ih
        have hgq : ∀ q : j < (brPs bs).length, (brPs bs)[j]'q = [sP c, bP a, iP k', iP d0, iP d1, sP d2, .sl 2 (lvPs d3), .sl 5 (tmPs d4), iP v', .sl 10 (brPs bs')] := fun q => by rw [List.getElem?_eq_getElem q] at hgb; exact Option.some.inj hgb
        refine nv ?_
        refine Run.cond (b := true) (by simp [hjl]) ?_
        simp only [if_true]
        refine nv ?_
        refine Run.reg fun K hK => ?_
        simp [hgq, hbl, hjl]
        try (simp (disch := omega) only [wrap_id])
        refine hK _ _ _ ?_; clear hK K
        refine nv ?_
        refine Run.call (args := [.agg [iA k', iA d0, iA d1, .p (sP d2), .p (.sl 2 (lvPs d3)), .p (.sl 5 (tmPs d4)), iA v', .p (.sl 10 (brPs bs'))], iA n]) rfl (by first | rfl | simp) (by simp) rfl (ih _ (by omega) (hh.app (by simp))) ?_ ?_
        rotate_left
        · rintro v h' ⟨hv, _⟩; cases hv
        rintro v h' ⟨hv, rfl⟩
        simp only [AOut.ret.injEq] at hv
        subst hv
        refine Run.ops fun K hK => ?_
        simp
        try (simp (disch := omega) only [wrap_id])
        refine hK _ _ _ ?_; clear hK K
        refine nv ?_
        cases hb : smallB n (.mk k' (.mk d0 d1 d2 d3 d4) v' bs') with
        | false =>
          refine nv ?_
          refine Run.cond (b := true) (by simp) ?_
          simp only [if_true]
          refine nv ?_
          refine Run.reg fun K hK => ?_
          simp
          try (simp (disch := omega) only [wrap_id])
          refine hK _ _ _ ?_; clear hK K
          refine nv ?_
          refine Run.ret ?_
          exact Fin.ret' (h0 := h) (by simp) rfl hh rfl (by simp; rfl) rfl (Weak.refl _) (by simp) ⟨by rw [← hr, hall (show smallB n (Br.tr _) = false from hb)]; simp, rfl⟩
        | true =>
          refine nv ?_
          refine Run.cond (b := false) (by simp) ?_
          simp only [Bool.false_eq_true, if_false]
          refine nv ?_
          refine Run.reg fun K hK => ?_
          simp
          try (simp (disch := omega) only [wrap_id])
          refine hK _ _ _ ?_; clear hK K
          refine nv ?_
          refine IH (j + 1) _ _ ⟨by omega, ?_⟩ (by omega) ?_ rfl
          · rw [htk, List.all_append, hs]
            simp [Br.tr, hb]
          · simp
            repeat' (first | exact WeakL.nil | apply WeakL.cons)
            all_goals first | exact Weak.junk _ | exact Weak.refl _ | exact Weak.nil _ | exact Weak.own _ _ _ | exact Weak.int (by omega)
      · have hje : j = bs.length := by omega
        subst hje
        rw [List.take_length] at hs
        refine nv ?_
        refine Run.cond (b := false) (by simp) ?_
        simp only [Bool.false_eq_true, if_false]
        refine nv ?_
        refine Run.exit rfl ?_
        refine nv ?_
        refine Run.reg fun K hK => ?_
        simp
        try (simp (disch := omega) only [wrap_id])
        refine hK _ _ _ ?_; clear hK K
        refine nv ?_
        refine Run.ret ?_
        exact Fin.ret' (h0 := h) (by simp) rfl hh rfl (by simp; rfl) rfl (Weak.refl _) (by simp) ⟨by rw [← hr, hs]; simp [hc], rfl⟩
    · have hcb : (12 : Int) < bs.length := by omega
      refine ACalls.of_run Tryz.func17 rfl ?_
      simp only [Tryz.ntmps17, List.length_cons, List.length_nil]
      refine nv ?_
      refine Run.reg fun K hK => ?_
      simp
      try (simp (disch := omega) only [wrap_id])
      refine hK _ _ _ ?_; clear hK K
      refine nv ?_
      refine Run.reg fun K hK => ?_
      simp [hn0, hbl, hcb]
      try (simp (disch := omega) only [wrap_id])
      refine hK _ _ _ ?_; clear hK K
      refine nv ?_
      refine Run.cond (b := true) (by simp) ?_
      simp only [if_true]
      refine nv ?_
      refine Run.reg fun K hK => ?_
      simp
      try (simp (disch := omega) only [wrap_id])
      refine hK _ _ _ ?_; clear hK K
      refine nv ?_
      refine Run.ret ?_
      exact Fin.ret' (h0 := h) (by simp) rfl hh rfl (by simp; rfl) rfl (Weak.refl _) (by simp) ⟨by rw [← hr]; simp [hc], rfl⟩
set_option maxRecDepth 8000 in
set_option maxHeartbeats 8000000 in
theorem leaves18_any : ∀ (n : Nat) (t : Tr) (h : Heap), n ≤ 12 → smallB n t = true → WF h → ACalls Tryz.prog 18 [t.av] h fun o h' => o = .ret (iA (leavesZ t : Nat)) ∧ h' = h := by
  intro n
  induction n with
  | zero =>
    intro t h hn hs hh
    simp [smallB] at hs
  | succ n ihn =>
    intro t h hn hs hh
    have hle := leaves_le (n + 1) t hs
    have hpow : 12 ^ (n + 1) ≤ 12 ^ 12 := Nat.pow_le_pow_right (by omega) hn
    have hpow2 : (12 : Nat) ^ 12 = 8916100448256 := by rfl
    obtain ⟨k, ⟨b0, b1, b2, b3, b4⟩, v, bs⟩ := t
    have hbl := brPs_length bs
    simp only [smallB, Bool.and_eq_true, decide_eq_true_eq, List.all_eq_true] at hs
    obtain ⟨hc, hall⟩ := hs
    simp only [Tr.av, Tr.cells, Tm.cells, List.cons_append, List.nil_append, List.map]
    by_cases hk : k = 1
    · have hkb : (k != 1) = false := by simpa using hk
      have hz : leavesZ (.mk k (.mk b0 b1 b2 b3 b4) v bs) = leavesL bs := by simp [leavesZ, hk]
      rw [hz] at hle ⊢
      refine ACalls.of_run Tryz.func18 rfl ?_
      simp only [Tryz.ntmps18, List.length_cons, List.length_nil]
      refine nv ?_
      refine Run.reg fun K hK => ?_
      simp
      try (simp (disch := omega) only [wrap_id])
      refine hK _ _ _ ?_; clear hK K
      refine nv ?_
      refine Run.reg fun K hK => ?_
      simp [hkb]
      try (simp (disch := omega) only [wrap_id])
      refine hK _ _ _ ?_; clear hK K
      refine nv ?_
      refine Run.cond (b := false) (by simp) ?_
      simp only [Bool.false_eq_true, if_false]
      refine nv ?_
      refine Run.reg fun K hK => ?_
      simp
      try (simp (disch := omega) only [wrap_id])
      refine hK _ _ _ ?_; clear hK K
      refine nv ?_
      refine Run.reg fun K hK => ?_
      simp [hbl]
      try (simp (disch := omega) only [wrap_id])
      refine hK _ _ _ ?_; clear hK K
      refine nv ?_
      refine Run.loopS [0, 1, 10, 11] (fun j : Nat => j ≤ bs.length) (fun j => bs.length - j) (fun j => [(3, iA (leavesL (bs.take j) : Nat)), (12, iA j)]) (fun _ => _) 0 (by simp) ?_ rfl ?_
      · simp [leavesL]
        repeat' (first | exact WeakL.nil | apply WeakL.cons)
        all_goals first | exact Weak.junk _ | exact Weak.refl _ | exact Weak.nil _ | exact Weak.own _ _ _ | exact Weak.int (by omega)
      intro j hj IH
      simp
      refine nv ?_
      refine Run.reg fun K hK => ?_
      simp
      try (simp (disch := omega) only [wrap_id])
      refine hK _ _ _ ?_; clear hK K
      refine nv ?_
      by_cases hjl : j < bs.length
      · have hg : bs[j]? = some bs[j] := List.getElem?_eq_getElem hjl
        have hgb := br_get bs j
        rw [hg] at hgb
        have htk : bs.take (j + 1) = bs.take j ++ [bs[j]] := List.take_succ_eq_append_getElem hjl
        have hsj := hall _ (List.getElem_mem hjl)
        have htl := leavesL_take_le (l := bs) (j + 1)
        generalize bs[j] = x at hgb htk hsj
        rw [htk, leavesL_snoc] at htl
        have hsn := leavesL_snoc (bs.take j) x
        rw [← htk] at hsn
        obtain ⟨c, a, t'⟩ := x
        have ih := fun (g : Heap) (hg : WF g) => ihn t' g (by omega) hsj hg
        obtain ⟨k', ⟨d0, d1, d2, d3, d4⟩, v', bs'⟩ := t'
        simp only [Br.ab, Br.tr] at htl hsn
        generalize leavesZ (.mk k' (.mk d0 d1 d2 d3 d4) v' bs') = z at ih htl hsn
        simp only [Option.map_some, Br.cells, Tr.cells, Tm.cells, List.cons_append, List.nil_append] at hgb
        simp only [Tr.av, Tr.cells, Tm.cells, List.cons_append, List.nil_append, List.map] at ih
        have hgq : ∀ q : j < (brPs bs).length, (brPs bs)[j]'q = [sP c, bP a, iP k', iP d0, iP d1, sP d2, .sl 2 (lvPs d3), .sl 5 (tmPs d4), iP v', .sl 10 (brPs bs')] := fun q => by rw [List.getElem?_eq_getElem q] at hgb; exact Option.some.inj hgb
        refine nv ?_
        refine Run.cond (b := true) (by simp [hjl]) ?_
        simp only [if_true]
        refine nv ?_
        refine Run.reg fun K hK => ?_
        simp [hgq, hbl, hjl]
        try (simp (disch := omega) only [wrap_id])
        refine hK _ _ _ ?_; clear hK K
        refine nv ?_
        refine Run.reg fun K hK => ?_
        simp
        try (simp (disch := omega) only [wrap_id])
        refine hK _ _ _ ?_; clear hK K
        refine nv ?_
        cases a with
        | false =>
          refine nv ?_
          refine Run.cond (b := true) (by simp) ?_
          simp only [if_true]
          refine nv ?_
          simp only [Bool.false_eq_true, if_false] at htl hsn
          refine nv ?_
          refine Run.reg fun K hK => ?_
          simp
          try (simp (disch := omega) only [wrap_id])
          refine hK _ _ _ ?_; clear hK K
          refine nv ?_
          refine Run.call (args := [.agg [iA k', iA d0, iA d1, .p (sP d2), .p (.sl 2 (lvPs d3)), .p (.sl 5 (tmPs d4)), iA v', .p (.sl 10 (brPs bs'))]]) rfl (by first | rfl | simp) (by simp) rfl (ih _ (hh.app (by simp))) ?_ ?_
          rotate_left
          · rintro v h' ⟨hv, _⟩; cases hv
          rintro v h' ⟨hv, rfl⟩
          simp only [AOut.ret.injEq] at hv
          subst hv
          refine Run.ops fun K hK => ?_
          simp
          try (simp (disch := omega) only [wrap_id])
          refine hK _ _ _ ?_; clear hK K
          refine nv ?_
          refine Run.reg fun K hK => ?_
          simp
          try (simp (disch := omega) only [wrap_id])
          refine hK _ _ _ ?_; clear hK K
          refine nv ?_
          refine Run.keep [0, 1, 3, 10, 11, 12] ?_
          simp
          refine Run.cutAt 1 hh rfl (by omega) (by simp) (by simp) (by simp) rfl ?_
          refine IH (j + 1) _ _ (by omega) (by omega) ?_ (by simp)
          rw [hsn]
          simp
          repeat' (first | exact WeakL.nil | apply WeakL.cons)
          all_goals first | exact Weak.junk _ | exact Weak.refl _ | exact Weak.nil _ | exact Weak.own _ _ _ | exact Weak.int (by omega)
        | true =>
          refine nv ?_
          refine Run.cond (b := false) (by simp) ?_
          simp only [Bool.false_eq_true, if_false]
          refine nv ?_
          simp only [if_true, Nat.add_zero] at hsn
          refine nv ?_
          refine Run.reg fun K hK => ?_
          simp
          try (simp (disch := omega) only [wrap_id])
          refine hK _ _ _ ?_; clear hK K
          refine nv ?_
          refine Run.keep [0, 1, 3, 10, 11, 12] ?_
          simp
          refine Run.cutAt 1 hh rfl (by omega) (by simp) (by simp) (by simp) rfl ?_
          refine IH (j + 1) _ _ (by omega) (by omega) ?_ (by simp)
          rw [hsn]
          simp
          repeat' (first | exact WeakL.nil | apply WeakL.cons)
          all_goals first | exact Weak.junk _ | exact Weak.refl _ | exact Weak.nil _ | exact Weak.own _ _ _ | exact Weak.int (by omega)
      · have hje : j = bs.length := by omega
        subst hje
        rw [List.take_length]
        refine nv ?_
        refine Run.cond (b := false) (by simp) ?_
        simp only [Bool.false_eq_true, if_false]
        refine nv ?_
        refine Run.exit rfl ?_
        refine nv ?_
        refine Run.reg fun K hK => ?_
        simp
        try (simp (disch := omega) only [wrap_id])
        refine hK _ _ _ ?_; clear hK K
        refine nv ?_
        refine Run.ret ?_
        exact Fin.ret' (h0 := h) (by simp) rfl hh rfl (by simp; rfl) rfl (Weak.refl _) (by simp) ⟨rfl, rfl⟩
    · have hkb : (k != 1) = true := by simpa using hk
      have hz : leavesZ (.mk k (.mk b0 b1 b2 b3 b4) v bs) = 1 := by simp [leavesZ, hk]
      rw [hz]
      refine ACalls.of_run Tryz.func18 rfl ?_
      simp only [Tryz.ntmps18, List.length_cons, List.length_nil]
      refine nv ?_
      refine Run.reg fun K hK => ?_
      simp
      try (simp (disch := omega) only [wrap_id])
      refine hK _ _ _ ?_; clear hK K
      refine nv ?_
      refine Run.reg fun K hK => ?_
      simp [hkb]
      try (simp (disch := omega) only [wrap_id])
      refine hK _ _ _ ?_; clear hK K
      refine nv ?_
      refine Run.cond (b := true) (by simp) ?_
      simp only [if_true]
      refine nv ?_
      refine Run.reg fun K hK => ?_
      simp
      try (simp (disch := omega) only [wrap_id])
      refine hK _ _ _ ?_; clear hK K
      refine nv ?_
      refine Run.ret ?_
      exact Fin.ret' (h0 := h) (by simp) rfl hh rfl (by simp; rfl) rfl (Weak.refl _) (by simp) ⟨rfl, rfl⟩
set_option maxRecDepth 8000 in
set_option maxHeartbeats 8000000 in
theorem leaves19_any : ∀ (n : Nat) (t : Tr) (h : Heap), n ≤ 12 → smallB n t = true → WF h → ACalls Tryz.prog 19 [t.av] h fun o h' => o = .ret (iA (leavesZ t : Nat)) ∧ h' = h := by
  intro n
  induction n with
  | zero =>
    intro t h hn hs hh
    simp [smallB] at hs
  | succ n ihn =>
    intro t h hn hs hh
    have hle := leaves_le (n + 1) t hs
    have hpow : 12 ^ (n + 1) ≤ 12 ^ 12 := Nat.pow_le_pow_right (by omega) hn
    have hpow2 : (12 : Nat) ^ 12 = 8916100448256 := by rfl
    obtain ⟨k, ⟨b0, b1, b2, b3, b4⟩, v, bs⟩ := t
    have hbl := brPs_length bs
    simp only [smallB, Bool.and_eq_true, decide_eq_true_eq, List.all_eq_true] at hs
    obtain ⟨hc, hall⟩ := hs
    simp only [Tr.av, Tr.cells, Tm.cells, List.cons_append, List.nil_append, List.map]
    by_cases hk : k = 1
    · have hkb : (k != 1) = false := by simpa using hk
      have hz : leavesZ (.mk k (.mk b0 b1 b2 b3 b4) v bs) = leavesL bs := by simp [leavesZ, hk]
      rw [hz] at hle ⊢
      refine ACalls.of_run Tryz.func19 rfl ?_
      simp only [Tryz.ntmps19, List.length_cons, List.length_nil]
      refine nv ?_
      refine Run.reg fun K hK => ?_
      simp
      try (simp (disch := omega) only [wrap_id])
      refine hK _ _ _ ?_; clear hK K
      refine nv ?_
      refine Run.reg fun K hK => ?_
      simp [hkb]
      try (simp (disch := omega) only [wrap_id])
      refine hK _ _ _ ?_; clear hK K
      refine nv ?_
      refine Run.cond (b := false) (by simp) ?_
      simp only [Bool.false_eq_true, if_false]
      refine nv ?_
      refine Run.reg fun K hK => ?_
      simp
      try (simp (disch := omega) only [wrap_id])
      refine hK _ _ _ ?_; clear hK K
      refine nv ?_
      refine Run.reg fun K hK => ?_
      simp
      try (simp (disch := omega) only [wrap_id])
      refine hK _ _ _ ?_; clear hK K
      refine nv ?_
      refine Run.loopS [0, 1] (fun j : Nat => j ≤ bs.length) (fun j => bs.length - j) (fun j => [(3, iA (leavesL (bs.take j) : Nat)), (4, iA j)]) (fun _ => _) 0 (by simp) ?_ rfl ?_
      · simp [leavesL]
        repeat' (first | exact WeakL.nil | apply WeakL.cons)
        all_goals first | exact Weak.junk _ | exact Weak.refl _ | exact Weak.nil _ | exact Weak.own _ _ _ | exact Weak.int (by omega)
      intro j hj IH
      simp
      refine nv ?_
      refine Run.reg fun K hK => ?_
      simp [hbl]
      try (simp (disch := omega) only [wrap_id])
      refine hK _ _ _ ?_; clear hK K
      refine nv ?_
      by_cases hjl : j < bs.length
      · have hg : bs[j]? = some bs[j] := List.getElem?_eq_getElem hjl
        have hgb := br_get bs j
        rw [hg] at hgb
        have htk : bs.take (j + 1) = bs.take j ++ [bs[j]] := List.take_succ_eq_append_getElem hjl
        have hsj := hall _ (List.getElem_mem hjl)
        have htl := leavesL_take_le (l := bs) (j + 1)
        generalize bs[j] = x at hgb htk hsj
        rw [htk, leavesL_snoc] at htl
        have hsn := leavesL_snoc (bs.take j) x
        rw [← htk] at hsn
        obtain ⟨c, a, t'⟩ := x
        have ih := fun (g : Heap) (hg : WF g) => ihn t' g (by omega) hsj hg
        obtain ⟨k', ⟨d0, d1, d2, d3, d4⟩, v', bs'⟩ := t'
        simp only [Br.ab, Br.tr] at htl hsn
        generalize leavesZ (.mk k' (.mk d0 d1 d2 d3 d4) v' bs') = z at ih htl hsn
        simp only [Option.map_some, Br.cells, Tr.cells, Tm.cells, List.cons_append, List.nil_append] at hgb
        simp only [Tr.av, Tr.cells, Tm.cells, List.cons_append, List.nil_append, List.map] at ih
        have hgq : ∀ q : j < (brPs bs).length, (brPs bs)[j]'q = [sP c, bP a, iP k', iP d0, iP d1, sP d2, .sl 2 (lvPs d3), .sl 5 (tmPs d4), iP v', .sl 10 (brPs bs')] := fun q => by rw [List.getElem?_eq_getElem q] at hgb; exact Option.some.inj hgb
        refine nv ?_
        refine Run.cond (b := true) (by simp [hjl]) ?_
        simp only [if_true]
        refine nv ?_
        refine Run.reg fun K hK => ?_
        simp [hgq, hbl, hjl]
        try (simp (disch := omega) only [wrap_id])
        refine hK _ _ _ ?_; clear hK K
        refine nv ?_

        cases a with
        | false =>
          refine nv ?_
          refine Run.cond (b := true) (by simp) ?_
          simp only [if_true]
          refine nv ?_
          simp only [Bool.false_eq_true, if_false] at htl hsn
          refine nv ?_
          refine Run.reg fun K hK => ?_
          simp [hgq, hbl, hjl]
          try (simp (disch := omega) only [wrap_id])
          refine hK _ _ _ ?_; clear hK K
          refine nv ?_
          refine Run.call (args := [.agg [iA k', iA d0, iA d1, .p (sP d2), .p (.sl 2 (lvPs d3)), .p (.sl 5 (tmPs d4)), iA v', .p (.sl 10 (brPs bs'))]]) rfl (by first | rfl | simp) (by simp) rfl (ih _ (hh.app (by simp))) ?_ ?_
          rotate_left
          · rintro v h' ⟨hv, _⟩; cases hv
          rintro v h' ⟨hv, rfl⟩
          simp only [AOut.ret.injEq] at hv
          subst hv
          refine Run.ops fun K hK => ?_
          simp
          try (simp (disch := omega) only [wrap_id])
          refine hK _ _ _ ?_; clear hK K
          refine nv ?_
          refine Run.reg fun K hK => ?_
          simp
          try (simp (disch := omega) only [wrap_id])
          refine hK _ _ _ ?_; clear hK K
          refine nv ?_



          refine IH (j + 1) _ _ (by omega) (by omega) ?_ rfl
          rw [hsn]
          simp
          repeat' (first | exact WeakL.nil | apply WeakL.cons)
          all_goals first | exact Weak.junk _ | exact Weak.refl _ | exact Weak.nil _ | exact Weak.own _ _ _ | exact Weak.int (by omega)
        | true =>
          refine nv ?_
          refine Run.cond (b := false) (by simp) ?_
          simp only [Bool.false_eq_true, if_false]
          refine nv ?_
          simp only [if_true, Nat.add_zero] at hsn
          refine nv ?_
          refine Run.reg fun K hK => ?_
          simp
          try (simp (disch := omega) only [wrap_id])
          refine hK _ _ _ ?_; clear hK K
          refine nv ?_



          refine IH (j + 1) _ _ (by omega) (by omega) ?_ rfl
          rw [hsn]
          simp
          repeat' (first | exact WeakL.nil | apply WeakL.cons)
          all_goals first | exact Weak.junk _ | exact Weak.refl _ | exact Weak.nil _ | exact Weak.own _ _ _ | exact Weak.int (by omega)
      · have hje : j = bs.length := by omega
        subst hje
        rw [List.take_length]
        refine nv ?_
        refine Run.cond (b := false) (by simp) ?_
        simp only [Bool.false_eq_true, if_false]
        refine nv ?_
        refine Run.exit rfl ?_
        refine nv ?_
        refine Run.reg fun K hK => ?_
        simp
        try (simp (disch := omega) only [wrap_id])
        refine hK _ _ _ ?_; clear hK K
        refine nv ?_
        refine Run.ret ?_
        exact Fin.ret' (h0 := h) (by simp) rfl hh rfl (by simp; rfl) rfl (Weak.refl _) (by simp) ⟨rfl, rfl⟩
    · have hkb : (k != 1) = true := by simpa using hk
      have hz : leavesZ (.mk k (.mk b0 b1 b2 b3 b4) v bs) = 1 := by simp [leavesZ, hk]
      rw [hz]
      refine ACalls.of_run Tryz.func19 rfl ?_
      simp only [Tryz.ntmps19, List.length_cons, List.length_nil]
      refine nv ?_
      refine Run.reg fun K hK => ?_
      simp
      try (simp (disch := omega) only [wrap_id])
      refine hK _ _ _ ?_; clear hK K
      refine nv ?_
      refine Run.reg fun K hK => ?_
      simp [hkb]
      try (simp (disch := omega) only [wrap_id])
      refine hK _ _ _ ?_; clear hK K
      refine nv ?_
      refine Run.cond (b := true) (by simp) ?_
      simp only [if_true]
      refine nv ?_
      refine Run.reg fun K hK => ?_
      simp
      try (simp (disch := omega) only [wrap_id])
      refine hK _ _ _ ?_; clear hK K
      refine nv ?_
      refine Run.ret ?_
      exact Fin.ret' (h0 := h) (by simp) rfl hh rfl (by simp; rfl) rfl (Weak.refl _) (by simp) ⟨rfl, rfl⟩

end Go.Proofs.YtplomildbmcmfaaGreat
