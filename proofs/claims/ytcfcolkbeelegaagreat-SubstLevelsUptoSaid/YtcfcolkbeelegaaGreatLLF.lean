/-
  level: sum.add, limited.
-/
import Derived.Test.YtcfcolkbeelegaaGreatLLE

namespace Go.Proofs.YtcfcolkbeelegaaGreat

open Go Go.AI
theorem SumH.app {B : List (Int × Int) → Int → Heap} {id s n : Nat} (hB : SumH B id s n) (l : List (Option AO)) (hl : l.all (AO.under (n + l.length)) = true) : SumH (fun om c => B om c ++ l) id s (n + l.length) where
  len om c := by rw [List.length_append, hB.len]
  gi om c k := by rw [List.append_assoc]; exact hB.gi om c _
  gs om c k := by rw [List.append_assoc]; exact hB.gs om c _
  si om c om' k := by rw [List.append_assoc, List.append_assoc]; exact hB.si om c om' _
  ss om c c' k := by rw [List.append_assoc, List.append_assoc]; exact hB.ss om c c' _
  wf om c := hB.wfl om c l hl
  lt := ⟨Nat.lt_of_lt_of_le hB.lt.1 (Nat.le_add_right _ _), Nat.lt_of_lt_of_le hB.lt.2 (Nat.le_add_right _ _)⟩
theorem addM_snoc (m : List (Int × Int)) (vs : List (Int × Int)) (k : Int) {j : Nat} {v : Int × Int} (h : vs[j]? = some v) : addM m (vs.take (j + 1)) k = raiseM (addM m (vs.take j) k) v.1 (v.2 + k) := by
  have hj : j < vs.length := (List.getElem?_eq_some_iff.1 h).1
  have e : vs.take (j + 1) = vs.take j ++ [v] := by
    rw [List.take_add_one, h]; rfl
  rw [e]
  simp [addM, List.foldl_append]
set_option maxRecDepth 8000 in
set_option maxHeartbeats 4000000 in
theorem addS_any {B : List (Int × Int) → Int → Heap} {id s n : Nat} (hB : SumH B id s n) (om : List (Int × Int)) (c : Int) (l : Lv) (m : Int) (hl : Vd l) (hb : l.vars.length ≤ 1048576) (hm0 : 0 ≤ m) (hm1 : m ≤ 100) :
    ACalls Tryz.prog 112 [.ptr s 0, l.av, iA m] (B om c) fun o h' => o = .ret (.tup []) ∧ h' = B (addM om l.vars m) (max c (l.c + m)) := by
  obtain ⟨x, vs⟩ := l
  have hc0 := hl.c0
  have hc1 := hl.c1
  have hv0 := hl.v0
  have hv1 := hl.v1
  simp only at hb hc0 hc1 hv0 hv1
  have w1 : IntKind.i64.wrap (x + m) = x + m := wrap_id (by omega) (by omega)
  have hmx : (if c < x + m then x + m else c) = max c (x + m) := by split <;> omega
  have hslt := hB.lt.2
  simp only [Lv.av, Lv.cells, List.map]
  refine ACalls.of_run Tryz.func112 rfl ?_
  simp only [Tryz.ntmps112, List.length_cons, List.length_nil]
  refine nv ?_
  rw [hB.len]
  refine nv ?_
  refine Run.reg fun K hK => ?_
  simp [hB.len]
  try (simp (disch := omega) only [wrap_id])
  refine hK _ _ _ ?_; clear hK K
  refine nv ?_
  refine Run.draw [0, 0, 0, 0, 0, 0, 0, 0, 0, 0, 0, 0, 0] [0, 0, 0, 0, 0, 0, 0, 0, 0, 0, 0, 0, 0] [0, 0, 2, 6, 14, 0, 32, 0, 224, 510, 1023, 2047, 4095] [0, 1, 2, 3, 4, 5, 6, 7, 8, 9, 10, 11, 12] (by kernel_rfl) (by kernel_rfl) ?_
  refine DR.go fun K hK => ?_
  simp [hB.gs, hB.gl0, hB.ss, w1, hmx]
  try (simp (disch := omega) only [wrap_id])
  refine hK _ _ _ _ ?_; clear hK K
  change Run _ _ _ _ _ _ _ _
  refine nv ?_
  refine Run.reg fun K hK => ?_
  simp [hB.gl0]
  try (simp (disch := omega) only [wrap_id])
  refine hK _ _ _ ?_; clear hK K
  refine nv ?_
  refine Run.loopS [0, 2, 21, 22] (fun j : Nat => j ≤ vs.length) (fun j => vs.length - j) (fun j => [(23, iA j)]) (fun j => B (addM om (vs.take j) m) (max c (x + m)) ++ [some (.cells [iA x, .p (.sl 2 (varPs vs))])]) 0 (by omega) ?_ (by simp [addM]) ?_
  · simp
    repeat' (first | exact WeakL.nil | apply WeakL.cons)
    all_goals first | exact Weak.junk _ | exact Weak.refl _ | exact Weak.nil _ | exact Weak.own _ _ _ | exact Weak.int (by omega)
  rintro j hj IH
  simp
  refine nv ?_
  refine Run.reg fun K hK => ?_
  simp
  try (simp (disch := omega) only [wrap_id])
  refine hK _ _ _ ?_; clear hK K
  refine nv ?_
  by_cases hjl : j < vs.length
  · have hg : vs[j]? = some vs[j] := List.getElem?_eq_getElem hjl
    have h0 := hv0 _ (List.getElem_mem hjl)
    have h1 := hv1 _ (List.getElem_mem hjl)
    have hsn := addM_snoc om vs m hg
    obtain ⟨⟨a, b⟩, hab⟩ : ∃ p, vs[j] = p := ⟨_, rfl⟩
    rw [hab] at hg h0 h1 hsn
    simp only at h0 h1 hsn
    have w2 : IntKind.i64.wrap (b + m) = b + m := wrap_id (by omega) (by omega)
    obtain ⟨om1, hom1⟩ : ∃ om1, om1 = addM om (vs.take j) m := ⟨_, rfl⟩
    rw [← hom1] at hsn ⊢
    refine nv ?_
    refine Run.cond (b := true) (by simp [hjl]) ?_
    simp only [if_true]
    refine nv ?_
    refine Run.reg fun K hK => ?_
    simp [hg, hB.sl, hB.len]
    try (simp (disch := omega) only [wrap_id])
    refine hK _ _ _ ?_; clear hK K
    refine nv ?_
    refine Run.draw [0, 0, 0, 0, 0, 0, 0, 0, 0, 0, 0] [0, 0, 0, 0, 0, 0, 0, 0, 0, 0, 0] [0, 1, 3, 7, 0, 16, 0, 64, 0, 448, 1023] [0, 1, 2, 3, 4, 5, 6, 7, 8, 9, 10] (by kernel_rfl) (by kernel_rfl) ?_
    refine DR.go fun K hK => ?_
    simp [hB.gs, hB.gl, w2]
    try (simp (disch := omega) only [wrap_id])
    refine hK _ _ _ _ ?_; clear hK K
    refine DR.call (args := [.mp id, iA a, iA (b + m)]) rfl rfl rfl (by simp) rfl (raise_any hB om1 (max c (x + m)) _ a (b + m) fun om' => hB.wfl om' _ _ (by simp)) ?_
    rw [← hsn]
    refine DR.go fun K hK => ?_
    simp
    try (simp (disch := omega) only [wrap_id])
    refine hK _ _ _ _ ?_; clear hK K
    change Run _ _ _ _ _ _ _ _
    refine nv ?_
    refine Run.keep [0, 2, 21, 22, 23] ?_
    simp only [keepT, keepT.go, List.contains_cons]
    simp
    refine Run.cutAt 1 (hB.wf _ _) rfl (by rw [hB.len]; omega) (by simp) (by simp [hB.len]; omega) (by simp) rfl ?_
    simp
    refine nv ?_
    refine Run.reg fun K hK => ?_
    simp
    try (simp (disch := omega) only [wrap_id])
    refine hK _ _ _ ?_; clear hK K
    refine nv ?_
    refine IH (j + 1) _ _ (by omega) (by omega) ?_ rfl
    simp
    repeat' (first | exact WeakL.nil | apply WeakL.cons)
    all_goals first | exact Weak.junk _ | exact Weak.refl _ | exact Weak.nil _ | exact Weak.own _ _ _ | exact Weak.int (by omega)
  · have hje : j = vs.length := by omega
    subst hje
    refine nv ?_
    refine Run.cond (b := false) (by simp) ?_
    simp only [Bool.false_eq_true, if_false]
    refine nv ?_
    refine Run.exit rfl ?_
    refine nv ?_
    refine Run.nil ?_
    exact Fin.ret' (by simp) (hB.len _ _) (hB.wf _ _) rfl rfl rfl (Weak.refl _) rfl ⟨rfl, by rw [List.take_length]⟩
theorem longAt_iff (vs : List (Int × Int)) : vs.any (fun x => decide (100 < x.2)) = !allTo (fun j => match vs[j]? with | some v => !decide (100 < v.2) | none => true) vs.length := by
  cases e : vs.any (fun x => decide (100 < x.2)) with
  | true =>
    obtain ⟨v, hv, hp⟩ := List.any_eq_true.1 e
    obtain ⟨j, hj⟩ := List.getElem?_of_mem hv
    cases e2 : allTo (fun j => match vs[j]? with | some v => !decide (100 < v.2) | none => true) vs.length with
    | false => rfl
    | true =>
      have := (allTo_iff.1 e2) j (List.getElem?_eq_some_iff.1 hj).1
      simp [hj] at this
      simp at hp
      omega
  | false =>
    have : allTo (fun j => match vs[j]? with | some v => !decide (100 < v.2) | none => true) vs.length = true := by
      rw [allTo_iff]
      intro j hj
      have hg : vs[j]? = some vs[j] := List.getElem?_eq_getElem hj
      have := List.any_eq_false.1 e _ (List.getElem_mem hj)
      simpa [hg] using this
    rw [this]; rfl
set_option maxRecDepth 8000 in
set_option maxHeartbeats 4000000 in
theorem limited_any (h : Heap) (hh : WF h) (l : Lv) (hb : l.vars.length ≤ 1048576) : ACalls Tryz.prog 164 [l.av] h fun o h' => o = .ret (.tup [(limL l).1.av, iA (limL l).2]) ∧ h' = h := by
  obtain ⟨c, vs⟩ := l
  simp only at hb
  have hcv := fun (g : Heap) (hg : WF g) => covered_any g hg c vs hb
  have hany := longAt_iff vs
  obtain ⟨r, hr⟩ : ∃ r, limL ⟨c, vs⟩ = r := ⟨_, rfl⟩
  rw [hr]
  unfold limL at hr
  simp only [Lv.av, Lv.cells, List.map]
  generalize hcb : coverB c vs = cb at hcv hr
  refine ACalls.of_run Tryz.func164 rfl ?_
  simp only [Tryz.ntmps164, List.length_cons, List.length_nil]
  refine nv ?_
  refine Run.reg fun K hK => ?_
  simp
  try (simp (disch := omega) only [wrap_id])
  refine hK _ _ _ ?_; clear hK K
  refine nv ?_
  refine Run.reg fun K hK => ?_
  simp
  try (simp (disch := omega) only [wrap_id])
  refine hK _ _ _ ?_; clear hK K
  refine nv ?_
  refine Run.loopS [1, 2, 3, 7, 8] (fun j : Nat => j ≤ vs.length ∧ allTo (fun j => match vs[j]? with | some v => !decide (100 < v.2) | none => true) j = true) (fun j => vs.length - j) (fun j => [(9, iA j)]) (fun _ => h ++ [some (.cells [iA c, .p (.sl 2 (varPs vs))]), some (.cells [iA 0, .p (.prim (.slice none 0 0))])]) 0 (by simp [allTo]) ?_ (by simp) ?_
  · simp
    repeat' (first | exact WeakL.nil | apply WeakL.cons)
    all_goals first | exact Weak.junk _ | exact Weak.refl _ | exact Weak.nil _ | exact Weak.own _ _ _ | exact Weak.int (by omega)
  rintro j ⟨hj, hall⟩ IH
  simp
  refine nv ?_
  refine Run.reg fun K hK => ?_
  simp
  try (simp (disch := omega) only [wrap_id])
  refine hK _ _ _ ?_; clear hK K
  refine nv ?_
  by_cases hjl : j < vs.length
  · have hg : vs[j]? = some vs[j] := List.getElem?_eq_getElem hjl
    obtain ⟨⟨a, b⟩, hab⟩ : ∃ p, vs[j] = p := ⟨_, rfl⟩
    rw [hab] at hg
    refine nv ?_
    refine Run.cond (b := true) (by simp [hjl]) ?_
    simp only [if_true]
    refine nv ?_
    refine Run.reg fun K hK => ?_
    simp [hg]
    try (simp (disch := omega) only [wrap_id])
    refine hK _ _ _ ?_; clear hK K
    refine nv ?_
    refine Run.reg fun K hK => ?_
    simp
    try (simp (disch := omega) only [wrap_id])
    refine hK _ _ _ ?_; clear hK K
    refine nv ?_
    by_cases h1 : 100 < b
    · refine nv ?_
      refine Run.cond (b := true) (by simp [h1]) ?_
      simp only [if_true]
      refine nv ?_
      refine Run.reg fun K hK => ?_
      simp
      try (simp (disch := omega) only [wrap_id])
      refine hK _ _ _ ?_; clear hK K
      refine nv ?_
      rw [hany, allTo_false hjl (by simp [hg, h1])] at hr
      simp only [Bool.not_false, if_true] at hr
      subst hr
      refine Run.ret ?_
      refine Fin.ret' (h0 := h) (by simp) rfl hh rfl (by simp; rfl) rfl (y := .tup [.agg [iA 0, .p (.sl 2 (varPs []))], iA 15]) ?_ (by simp) ⟨rfl, rfl⟩
      refine Weak.tup (WeakL.cons (Weak.agg ?_) (WeakL.cons (Weak.refl _) WeakL.nil))
      repeat' (first | exact WeakL.nil | apply WeakL.cons)
      all_goals first | exact Weak.junk _ | exact Weak.refl _ | exact Weak.nil _ | exact Weak.own _ _ _ | exact Weak.int (by omega)
    · refine nv ?_
      refine Run.cond (b := false) (by simp [h1]) ?_
      simp only [Bool.false_eq_true, if_false]
      refine nv ?_
      refine Run.reg fun K hK => ?_
      simp
      try (simp (disch := omega) only [wrap_id])
      refine hK _ _ _ ?_; clear hK K
      refine nv ?_
      refine Run.keep [1, 2, 3, 7, 8, 9] ?_
      simp only [keepT, keepT.go, List.contains_cons]
      simp
      refine Run.cutAt 2 hh rfl (by simp) (by simp) (by simp) (by simp) rfl ?_
      simp
      refine IH (j + 1) _ _ ⟨by omega, by rw [allTo_succ, hall]; simp [hg, h1]⟩ (by omega) ?_ rfl
      simp
      repeat' (first | exact WeakL.nil | apply WeakL.cons)
      all_goals first | exact Weak.junk _ | exact Weak.refl _ | exact Weak.nil _ | exact Weak.own _ _ _ | exact Weak.int (by omega)
  · have hje : j = vs.length := by omega
    subst hje
    refine nv ?_
    refine Run.cond (b := false) (by simp) ?_
    simp only [Bool.false_eq_true, if_false]
    refine nv ?_
    refine Run.exit rfl ?_
    refine nv ?_
    rw [hall] at hany
    rw [hany] at hr
    simp only [Bool.not_true, Bool.false_eq_true, if_false] at hr
    refine nv ?_
    refine Run.reg fun K hK => ?_
    simp
    try (simp (disch := omega) only [wrap_id])
    refine hK _ _ _ ?_; clear hK K
    refine nv ?_
    by_cases h2 : 100 < c
    · refine nv ?_
      refine Run.cond (b := true) (by simp [h2]) ?_
      simp only [if_true]
      refine nv ?_
      refine Run.reg fun K hK => ?_
      simp
      try (simp (disch := omega) only [wrap_id])
      refine hK _ _ _ ?_; clear hK K
      refine nv ?_
      rw [if_pos h2] at hr
      subst hr
      refine Run.ret ?_
      refine Fin.ret' (h0 := h) (by simp) rfl hh rfl (by simp; rfl) rfl (y := .tup [.agg [iA 0, .p (.sl 2 (varPs []))], iA 15]) ?_ (by simp) ⟨rfl, rfl⟩
      refine Weak.tup (WeakL.cons (Weak.agg ?_) (WeakL.cons (Weak.refl _) WeakL.nil))
      repeat' (first | exact WeakL.nil | apply WeakL.cons)
      all_goals first | exact Weak.junk _ | exact Weak.refl _ | exact Weak.nil _ | exact Weak.own _ _ _ | exact Weak.int (by omega)
    · refine nv ?_
      refine Run.cond (b := false) (by simp [h2]) ?_
      simp only [Bool.false_eq_true, if_false]
      refine nv ?_
      rw [if_neg h2] at hr
      refine nv ?_
      refine Run.reg fun K hK => ?_
      simp
      try (simp (disch := omega) only [wrap_id])
      refine hK _ _ _ ?_; clear hK K
      refine nv ?_
      refine Run.call rfl (by first | rfl | simp) (by simp) rfl (hcv _ (hh.app (by simp))) ?_ ?_
      rotate_left
      · rintro v h' ⟨hv, _⟩; cases hv
      rintro v h' ⟨hv, rfl⟩
      simp only [AOut.ret.injEq] at hv
      subst hv
      refine Run.ops fun K hK => ?_
      simp
      try (simp (disch := omega) only [wrap_id])
      refine hK _ _ _ ?_; clear hK K
      refine nv ?_
      cases cb with
      | true =>
        simp only [if_true] at hr
        subst hr
        refine nv ?_
        refine Run.cond (b := true) (by simp) ?_
        simp only [if_true]
        refine nv ?_
        refine Run.reg fun K hK => ?_
        simp
        try (simp (disch := omega) only [wrap_id])
        refine hK _ _ _ ?_; clear hK K
        refine nv ?_
        refine Run.reg fun K hK => ?_
        simp
        try (simp (disch := omega) only [wrap_id])
        refine hK _ _ _ ?_; clear hK K
        refine nv ?_
        refine Run.ret ?_
        exact Fin.ret' (h0 := h) (by simp) rfl hh rfl (by simp; rfl) rfl (Weak.refl _) (by simp) ⟨rfl, rfl⟩
      | false =>
        simp only [Bool.false_eq_true, if_false] at hr
        subst hr
        refine nv ?_
        refine Run.cond (b := false) (by simp) ?_
        simp only [Bool.false_eq_true, if_false]
        refine nv ?_
        refine Run.reg fun K hK => ?_
        simp
        try (simp (disch := omega) only [wrap_id])
        refine hK _ _ _ ?_; clear hK K
        refine nv ?_
        refine Run.ret ?_
        exact Fin.ret' (h0 := h) (by simp) rfl hh rfl (by simp; rfl) rfl (Weak.refl _) (by simp) ⟨rfl, rfl⟩

end Go.Proofs.YtcfcolkbeelegaaGreat
