/-
  level: Subst.
-/
import Derived.Test.YtcfcolkbeelegaaGreatLLH

namespace Go.Proofs.YtcfcolkbeelegaaGreat

open Go Go.AI
def sumB (H : Heap) (om : List (Int × Int)) (c : Int) : Heap := H ++ [some (.aux (.map (om.map ikv))), some (.cells [.mp H.length, iA c])]
theorem sumB_ok (H : Heap) (hH : WF H) : SumH (sumB H) H.length (H.length + 1) (H.length + 2) where
  len om c := by simp [sumB]
  gi om c l := by simp [sumB]
  gs om c l := by simp [sumB]
  si om c om' l := by simp [sumB]
  ss om c c' l := by simp [sumB]
  wf om c := hH.app (by simp)
  lt := ⟨by omega, by omega⟩
theorem foldl_take {α β : Type} (f : α → β → α) (a : α) (l : List β) {j : Nat} {x : β} (h : l[j]? = some x) : (l.take (j + 1)).foldl f a = f ((l.take j).foldl f a) x := by
  have e : l.take (j + 1) = l.take j ++ [x] := by rw [List.take_add_one, h]; rfl
  rw [e, List.foldl_append]; rfl
set_option maxRecDepth 8000 in
set_option maxHeartbeats 8000000 in
theorem lsubst_any (h : Heap) (hh : WF h) (l : Lv) (vals : List Lv) (hb : l.vars.length ≤ 1048576) (hbs : vals.length ≤ 1048576) (hbv : ∀ x ∈ vals, x.vars.length ≤ 1048576) :
    ACalls Tryz.prog 56 [l.av, .p (.sl 2 (lvPs vals))] h fun o h' => o = .ret (.tup [(substL l vals).1.av, iA (substL l vals).2]) ∧ h' = h := by
  have hv := fun (g : Heap) (hg : WF g) => tvalid_any g hg l hb
  have hva := fun (g : Heap) (hg : WF g) => tallValid_any g hg vals hbs hbv
  have hpa := fun (g : Heap) (hg : WF g) => tparams_any g hg l hb
  have hV := fun (e : validB l = true) => Vd.of e
  have hlt := fun (e : validB l = true) (v : Int × Int) (hv : v ∈ l.vars) => paramsL_lt e hv
  obtain ⟨r, hr⟩ : ∃ r, substL l vals = r := ⟨_, rfl⟩
  rw [hr]
  unfold substL at hr
  have hVa : vals.all validB = true → ∀ x ∈ vals, Vd x := fun e x hx => Vd.of (List.all_eq_true.1 e x hx)
  generalize validB l = b1 at hv hr hV hlt
  generalize vals.all validB = b2 at hva hr hVa
  generalize paramsL l = pa at hpa hr hlt
  obtain ⟨c, vs⟩ := l
  simp only [Lv.av, Lv.cells, List.map] at hv hpa hb hlt hr hV ⊢
  refine ACalls.of_run Tryz.func56 rfl ?_
  simp only [Tryz.ntmps56, List.length_cons, List.length_nil]
  refine nv ?_
  refine Run.reg fun K hK => ?_
  simp
  try (simp (disch := omega) only [wrap_id])
  refine hK _ _ _ ?_; clear hK K
  refine nv ?_
  refine Run.reg fun K hK => ?_
  simp
  try (simp (disch := omega) only [wrap_id])
  refine hK _ _ _ ?_; clear hK K
  refine nv ?_
  refine Run.call rfl (by first | rfl | simp) (by simp) rfl (hv _ (hh.app (by simp))) ?_ ?_
  rotate_left
  · rintro v h' ⟨hv, _⟩; cases hv
  rintro v h' ⟨hv, rfl⟩
  simp only [AOut.ret.injEq] at hv
  subst hv
  cases b1 with
  | false =>
    refine Run.ops fun K hK => ?_
    simp
    try (simp (disch := omega) only [wrap_id])
    refine hK _ _ _ ?_; clear hK K
    refine nv ?_
    refine Run.cond (b := true) (by simp) ?_
    simp only [if_true]
    refine nv ?_
    refine Run.reg fun K hK => ?_
    simp
    try (simp (disch := omega) only [wrap_id])
    refine hK _ _ _ ?_; clear hK K
    refine nv ?_
    simp only [Bool.not_false, Bool.true_or, if_true] at hr
    subst hr
    refine Run.ret ?_
    refine Fin.ret' (h0 := h) (by simp) rfl hh rfl (by simp; rfl) rfl (y := .tup [.agg [iA 0, .p (.sl 2 (varPs []))], iA 3]) ?_ (by simp) ⟨rfl, rfl⟩
    refine Weak.tup (WeakL.cons (Weak.agg ?_) (WeakL.cons (Weak.refl _) WeakL.nil))
    repeat' (first | exact WeakL.nil | apply WeakL.cons)
    all_goals first | exact Weak.junk _ | exact Weak.refl _ | exact Weak.nil _ | exact Weak.own _ _ _ | exact Weak.int (by omega)
  | true =>
    refine Run.ops fun K hK => ?_
    simp
    try (simp (disch := omega) only [wrap_id])
    refine hK _ _ _ ?_; clear hK K
    refine nv ?_
    refine Run.call rfl (by first | rfl | simp) (by simp) rfl (hva _ (hh.app (by simp))) ?_ ?_
    rotate_left
    · rintro v h' ⟨hv, _⟩; cases hv
    rintro v h' ⟨hv, rfl⟩
    simp only [AOut.ret.injEq] at hv
    subst hv
    cases b2 with
    | false =>
      refine Run.ops fun K hK => ?_
      simp
      try (simp (disch := omega) only [wrap_id])
      refine hK _ _ _ ?_; clear hK K
      refine nv ?_
      refine Run.cond (b := true) (by simp) ?_
      simp only [if_true]
      refine nv ?_
      refine Run.reg fun K hK => ?_
      simp
      try (simp (disch := omega) only [wrap_id])
      refine hK _ _ _ ?_; clear hK K
      refine nv ?_
      simp only [Bool.not_true, Bool.not_false, Bool.false_or, if_true] at hr
      subst hr
      refine Run.ret ?_
      refine Fin.ret' (h0 := h) (by simp) rfl hh rfl (by simp; rfl) rfl (y := .tup [.agg [iA 0, .p (.sl 2 (varPs []))], iA 3]) ?_ (by simp) ⟨rfl, rfl⟩
      refine Weak.tup (WeakL.cons (Weak.agg ?_) (WeakL.cons (Weak.refl _) WeakL.nil))
      repeat' (first | exact WeakL.nil | apply WeakL.cons)
      all_goals first | exact Weak.junk _ | exact Weak.refl _ | exact Weak.nil _ | exact Weak.own _ _ _ | exact Weak.int (by omega)
    | true =>
      have V := hV rfl
      have Va := hVa rfl
      simp only [Bool.not_true, Bool.false_or, Bool.false_eq_true, if_false] at hr
      refine Run.ops fun K hK => ?_
      simp
      try (simp (disch := omega) only [wrap_id])
      refine hK _ _ _ ?_; clear hK K
      refine nv ?_
      refine Run.cond (b := false) (by simp) ?_
      simp only [Bool.false_eq_true, if_false]
      refine nv ?_
      refine Run.reg fun K hK => ?_
      simp
      try (simp (disch := omega) only [wrap_id])
      refine hK _ _ _ ?_; clear hK K
      refine nv ?_
      refine Run.call rfl (by first | rfl | simp) (by simp) rfl (hpa _ (hh.app (by simp))) ?_ ?_
      rotate_left
      · rintro v h' ⟨hv, _⟩; cases hv
      rintro v h' ⟨hv, rfl⟩
      simp only [AOut.ret.injEq] at hv
      subst hv
      refine Run.ops fun K hK => ?_
      simp
      try (simp (disch := omega) only [wrap_id])
      refine hK _ _ _ ?_; clear hK K
      refine nv ?_
      by_cases h1 : (vals.length : Int) < pa
      · refine nv ?_
        refine Run.cond (b := true) (by simp [h1]) ?_
        simp only [if_true]
        refine nv ?_
        refine Run.reg fun K hK => ?_
        simp
        try (simp (disch := omega) only [wrap_id])
        refine hK _ _ _ ?_; clear hK K
        refine nv ?_
        rw [if_pos h1] at hr
        subst hr
        refine Run.ret ?_
        refine Fin.ret' (h0 := h) (by simp) rfl hh rfl (by simp; rfl) rfl (y := .tup [.agg [iA 0, .p (.sl 2 (varPs []))], iA 24]) ?_ (by simp) ⟨rfl, rfl⟩
        refine Weak.tup (WeakL.cons (Weak.agg ?_) (WeakL.cons (Weak.refl _) WeakL.nil))
        repeat' (first | exact WeakL.nil | apply WeakL.cons)
        all_goals first | exact Weak.junk _ | exact Weak.refl _ | exact Weak.nil _ | exact Weak.own _ _ _ | exact Weak.int (by omega)
      · refine nv ?_
        refine Run.cond (b := false) (by simp [h1]) ?_
        simp only [Bool.false_eq_true, if_false]
        refine nv ?_
        rw [if_neg h1] at hr
        refine nv ?_
        refine Run.reg fun K hK => ?_
        simp
        try (simp (disch := omega) only [wrap_id])
        refine hK _ _ _ ?_; clear hK K
        refine nv ?_
        generalize hH : h ++ [some (AO.cells [AV.p (iP c), AV.p (PV.sl 2 (varPs vs))]), some (AO.cells [AV.p (PV.prim (Value.int IntKind.i64 0)), AV.p (PV.prim (Value.slice none 0 0))])] = H
        have hwH : WF H := by rw [← hH]; exact hh.app (by simp)
        have hlH : H.length = h.length + 2 := by rw [← hH]; simp
        have hB := sumB_ok H hwH
        have gb : ∀ om x l, (sumB H om x ++ l)[h.length]? = some (some (.cells [iA c, .p (.sl 2 (varPs vs))])) := fun om x l => by rw [← hH]; simp [sumB]
        have gb0 : ∀ om x, (sumB H om x)[h.length]? = some (some (.cells [iA c, .p (.sl 2 (varPs vs))])) := fun om x => by have := gb om x []; rwa [List.append_nil] at this
        have gs0 : ∀ om x, (sumB H om x)[H.length + 1]? = some (some (.cells [.mp H.length, iA x])) := fun om x => by have := hB.gs om x []; rwa [List.append_nil] at this
        have ss0 : ∀ om x x', (sumB H om x).set (H.length + 1) (some (.cells [.mp H.length, iA x'])) = sumB H om x' := fun om x x' => by have := hB.ss om x x' []; rwa [List.append_nil, List.append_nil] at this
        refine Run.call rfl (by first | rfl | simp) (by simp) rfl (newSum_any H hwH) ?_ ?_
        rotate_left
        · rintro v h' ⟨hv, _⟩; cases hv
        rintro v h' ⟨hv, rfl⟩
        simp only [AOut.ret.injEq] at hv
        subst hv
        rw [show H ++ [some (AO.aux (.map [])), some (.cells [.mp H.length, iA 0])] = sumB H [] 0 from rfl]
        refine Run.ops fun K hK => ?_
        simp
        try (simp (disch := omega) only [wrap_id])
        refine hK _ _ _ ?_; clear hK K
        refine nv ?_
        refine Run.reg fun K hK => ?_
        simp [gb0, gs0, ss0]
        try (simp (disch := omega) only [wrap_id])
        refine hK _ _ _ ?_; clear hK K
        refine nv ?_
        refine Run.reg fun K hK => ?_
        simp [gb0]
        try (simp (disch := omega) only [wrap_id])
        refine hK _ _ _ ?_; clear hK K
        refine nv ?_
        obtain ⟨st, hst⟩ : ∃ st : Nat → Int × List (Int × Int), st = fun j => (vs.take j).foldl (stepP vals false) (c, []) := ⟨_, rfl⟩
        have hsn := fun (j : Nat) v (hg : vs[j]? = some v) => foldl_take (stepP vals false) (c, []) vs hg
        have hst0 : st 0 = (c, []) := by rw [hst]; rfl
        have hstn : st vs.length = vs.foldl (stepP vals false) (c, []) := by rw [hst]; simp
        have hss : ∀ (j : Nat) v, vs[j]? = some v → st (j + 1) = stepP vals false (st j) v := fun j v hg => by rw [hst]; exact hsn j v hg
        have hok : StOk (vs.foldl (stepP vals false) (c, [])) := StOk.all Va vs (fun v hv => ⟨V.i0 v hv, V.i1 v hv, V.v1 v hv⟩) (StOk.start V)
        rw [← hstn] at hok hr
        clear hst hsn
        refine Run.loopS [1, 4, 6, 31, 32] (fun j : Nat => j ≤ vs.length) (fun j => vs.length - j) (fun j => [(33, iA j)]) (fun j => sumB H (st j).2 (st j).1) 0 (by omega) ?_ (by rw [hst0]) ?_
        · simp
          repeat' (first | exact WeakL.nil | apply WeakL.cons)
          all_goals first | exact Weak.junk _ | exact Weak.refl _ | exact Weak.nil _ | exact Weak.own _ _ _ | exact Weak.int (by omega)
        rintro j hj IH
        simp
        refine nv ?_
        refine Run.reg fun K hK => ?_
        simp
        try (simp (disch := omega) only [wrap_id])
        refine hK _ _ _ ?_; clear hK K
        refine nv ?_
        by_cases hjl : j < vs.length
        · have hg : vs[j]? = some vs[j] := List.getElem?_eq_getElem hjl
          have k0 := V.v0 _ (List.getElem_mem hjl)
          have k1 := V.v1 _ (List.getElem_mem hjl)
          have k2 := hlt rfl _ (List.getElem_mem hjl)
          have hsj := hss j _ hg
          obtain ⟨⟨a, b⟩, hab⟩ : ∃ p, vs[j] = p := ⟨_, rfl⟩
          rw [hab] at hg k0 k1 k2 hsj
          simp only at k0 k1 k2
          obtain ⟨⟨sc, sm⟩, hsc⟩ : ∃ s, st j = s := ⟨_, rfl⟩
          rw [hsc] at hsj ⊢
          simp only
          refine nv ?_
          refine Run.cond (b := true) (by simp [hjl]) ?_
          simp only [if_true]
          refine nv ?_
          refine Run.reg fun K hK => ?_
          simp [hg, hB.sl0, hB.len]
          try (simp (disch := omega) only [wrap_id])
          refine hK _ _ _ ?_; clear hK K
          refine nv ?_
          refine Run.reg fun K hK => ?_
          simp [hB.gl0]
          try (simp (disch := omega) only [wrap_id])
          refine hK _ _ _ ?_; clear hK K
          refine nv ?_
          by_cases ha : a < 0
          · refine nv ?_
            refine Run.cond (b := true) (by simp [ha]) ?_
            simp only [if_true]
            refine nv ?_
            refine Run.draw [0, 0, 0, 0, 0, 0, 0, 0, 0] [0, 0, 0, 0, 0, 0, 0, 0, 0] [0, 1, 3, 7, 0, 16, 0, 64, 255] [0, 1, 2, 3, 4, 5, 6, 7, 8] (by kernel_rfl) (by kernel_rfl) ?_
            refine DR.go fun K hK => ?_
            simp [hB.gs, hB.gl0]
            try (simp (disch := omega) only [wrap_id])
            refine hK _ _ _ _ ?_; clear hK K
            refine DR.call (args := [.mp H.length, iA a, iA b]) rfl rfl rfl (by simp) rfl (raise_any hB sm sc _ a b fun om' => hB.wfl om' _ _ (by simp)) ?_
            refine DR.go fun K hK => ?_
            simp
            try (simp (disch := omega) only [wrap_id])
            refine hK _ _ _ _ ?_; clear hK K
            change Run _ _ _ _ _ _ _ _
            refine nv ?_
            refine Run.keep [1, 4, 6, 31, 32, 33] ?_
            simp only [keepT, keepT.go, List.contains_cons]
            simp
            refine Run.cutAt 0 (hB.wf _ _) rfl (by rw [hB.len]; omega) (by simp) (by simp [hB.len]; omega) (by simp) rfl ?_
            simp
            refine nv ?_
            refine Run.reg fun K hK => ?_
            simp
            try (simp (disch := omega) only [wrap_id])
            refine hK _ _ _ ?_; clear hK K
            refine nv ?_
            refine IH (j + 1) _ _ (by omega) (by omega) ?_ ?_
            · simp
              repeat' (first | exact WeakL.nil | apply WeakL.cons)
              all_goals first | exact Weak.junk _ | exact Weak.refl _ | exact Weak.nil _ | exact Weak.own _ _ _ | exact Weak.int (by omega)
            · rw [hsj]
              simp [stepP, hitL, ha]
          · have hax : a.toNat < vals.length := by omega
            have hgx : vals[a.toNat]? = some vals[a.toNat] := List.getElem?_eq_getElem hax
            have hVx := Va _ (List.getElem_mem hax)
            have hbx := hbv _ (List.getElem_mem hax)
            generalize vals[a.toNat] = x at hgx hVx hbx
            refine nv ?_
            refine Run.cond (b := false) (by simp [ha]) ?_
            simp only [Bool.false_eq_true, if_false]
            refine nv ?_
            refine Run.draw [0, 0, 0, 0, 0, 0, 0, 0, 0] [0, 0, 0, 0, 0, 0, 0, 0, 0] [0, 0, 0, 4, 14, 30, 0, 64, 255] [0, 1, 2, 3, 4, 5, 6, 7, 8] (by kernel_rfl) (by kernel_rfl) ?_
            refine DR.go fun K hK => ?_
            simp [hgx, hB.gl0, ha]
            try (simp (disch := omega) only [wrap_id])
            refine hK _ _ _ _ ?_; clear hK K
            have cS : ACalls Tryz.prog 112 [.ptr (H.length + 1) 0, x.av, iA b] (sumB H sm sc ++ [some (AO.cells [AV.p (iP a), AV.p (iP b)])]) fun o h' => o = .ret (.tup []) ∧ h' = sumB H (addM sm x.vars b) (max sc (x.c + b)) ++ [some (AO.cells [AV.p (iP a), AV.p (iP b)])] := addS_any (hB.app [some (AO.cells [AV.p (iP a), AV.p (iP b)])] (by simp)) sm sc x b hVx hbx k0 k1
            obtain ⟨xc, xv⟩ := x
            have hst2 : st (j + 1) = (max sc (xc + b), addM sm xv b) := by
              rw [hsj]
              simp [stepP, hitL, ha, hgx]
            refine DR.call (args := [.ptr (H.length + 1) 0, (Lv.mk xc xv).av, iA b]) rfl rfl rfl (by simp [Lv.av, Lv.cells]) rfl cS ?_
            refine DR.go fun K hK => ?_
            simp
            try (simp (disch := omega) only [wrap_id])
            refine hK _ _ _ _ ?_; clear hK K
            change Run _ _ _ _ _ _ _ _
            refine nv ?_
            refine Run.keep [1, 4, 6, 31, 32, 33] ?_
            simp only [keepT, keepT.go, List.contains_cons]
            simp
            refine Run.cutAt 0 (hB.wf _ _) rfl (by rw [hB.len]; omega) (by simp) (by simp [hB.len]; omega) (by simp) rfl ?_
            simp
            refine nv ?_
            refine Run.reg fun K hK => ?_
            simp
            try (simp (disch := omega) only [wrap_id])
            refine hK _ _ _ ?_; clear hK K
            refine nv ?_
            refine IH (j + 1) _ _ (by omega) (by omega) ?_ ?_
            · simp
              repeat' (first | exact WeakL.nil | apply WeakL.cons)
              all_goals first | exact Weak.junk _ | exact Weak.refl _ | exact Weak.nil _ | exact Weak.own _ _ _ | exact Weak.int (by omega)
            · rw [hst2]
        · have hje : j = vs.length := by omega
          subst hje
          refine nv ?_
          refine Run.cond (b := false) (by simp) ?_
          simp only [Bool.false_eq_true, if_false]
          refine nv ?_
          refine Run.exit rfl ?_
          refine nv ?_
          have cL := sumLevel_any hB (st vs.length).2 (st vs.length).1 (Nat.le_trans hok.len (by omega)) hok.wf
          rw [show ((st vs.length).1, (st vs.length).2) = st vs.length from rfl, hr] at cL
          refine nv ?_
          refine Run.reg fun K hK => ?_
          simp
          try (simp (disch := omega) only [wrap_id])
          refine hK _ _ _ ?_; clear hK K
          refine nv ?_
          refine Run.call rfl (by first | rfl | simp) (by simp) rfl (cL) ?_ ?_
          rotate_left
          · rintro v h' ⟨hv, _⟩; cases hv
          rintro v h' ⟨hv, rfl⟩
          simp only [AOut.ret.injEq] at hv
          subst hv
          simp only [sumB, ← hH, Lv.av, Lv.cells, List.map]
          refine Run.ops fun K hK => ?_
          simp
          try (simp (disch := omega) only [wrap_id])
          refine hK _ _ _ ?_; clear hK K
          refine nv ?_
          refine Run.ret ?_
          refine Fin.ret' (h0 := h) (by simp) rfl hh rfl (by simp; rfl) rfl (Weak.refl _) (by simp) ⟨rfl, rfl⟩

end Go.Proofs.YtcfcolkbeelegaaGreat
