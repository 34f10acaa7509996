/-
  The reference's levels: allValid, Params, replace, Subst, Assign.
-/
import Derived.Test.YtcfcolkbeelegaaGreatLLO
import Derived.Test.YtcfcolkbeelegaaGreatLLH

namespace Go.Proofs.YtcfcolkbeelegaaGreat

open Go Go.AI
def okAt (ls : List Lv) (j : Nat) : Bool := match ls[j]? with | some l => validB l | none => true
theorem okAt_all (ls : List Lv) : allTo (okAt ls) ls.length = ls.all validB := by
  rw [Bool.eq_iff_iff, allTo_iff, List.all_eq_true]
  constructor
  · intro h l hl
    obtain ⟨j, hj⟩ := List.getElem?_of_mem hl
    have := h j (List.getElem?_eq_some_iff.1 hj).1
    simpa [okAt, hj] using this
  · intro h j hj
    have hg : ls[j]? = some ls[j] := List.getElem?_eq_getElem hj
    simp [okAt, hg, h _ (List.getElem_mem hj)]
set_option maxRecDepth 8000 in
theorem rallValid_any (h : Heap) (hh : WF h) (ls : List Lv) (hb : ls.length ≤ 1048576) (hbv : ∀ l ∈ ls, l.vars.length ≤ 1048576) : ACalls Tryz.prog 165 [.p (.sl 2 (lvPs ls))] h fun o h' => o = .ret (bA (ls.all validB)) ∧ h' = h := by
  refine ACalls.of_run Tryz.func165 rfl ?_
  simp only [Tryz.ntmps165, List.length_cons, List.length_nil]
  refine nv ?_
  refine Run.reg fun K hK => ?_
  simp
  try (simp (disch := omega) only [wrap_id])
  refine hK _ _ _ ?_; clear hK K
  refine nv ?_
  refine Run.reg fun K hK => ?_
  simp
  try (simp (disch := omega) only [wrap_id])
  refine hK _ _ _ ?_; clear hK K
  refine nv ?_
  refine Run.loopS [0] (fun j : Nat => j ≤ ls.length ∧ allTo (okAt ls) j = true) (fun j => ls.length - j) (fun j => [(3, iA j)]) (fun _ => _) 0 (by simp [allTo]) ?_ rfl ?_
  · simp
    repeat' (first | exact WeakL.nil | apply WeakL.cons)
    all_goals first | exact Weak.junk _ | exact Weak.refl _ | exact Weak.nil _ | exact Weak.own _ _ _ | exact Weak.int (by omega)
  rintro j ⟨hj, hall⟩ IH
  simp
  refine nv ?_
  refine Run.reg fun K hK => ?_
  simp
  try (simp (disch := omega) only [wrap_id])
  refine hK _ _ _ ?_; clear hK K
  refine nv ?_
  by_cases hjl : j < ls.length
  · have hg' : ls[j]? = some ls[j] := List.getElem?_eq_getElem hjl
    have hc := fun (g : Heap) (hg : WF g) => valid_any g hg _ (hbv _ (List.getElem_mem hjl))
    generalize ls[j] = u at hg' hc
    refine nv ?_
    refine Run.cond (b := true) (by simp [hjl]) ?_
    simp only [if_true]
    refine nv ?_
    refine Run.reg fun K hK => ?_
    simp [hg']
    try (simp (disch := omega) only [wrap_id])
    refine hK _ _ _ ?_; clear hK K
    refine nv ?_
    obtain ⟨v, hv⟩ : ∃ v, validB u = v := ⟨_, rfl⟩
    simp only [hv] at hc
    refine Run.call (args := [u.av]) rfl (by first | rfl | simp) (by simp) rfl (hc _ hh) ?_ ?_
    rotate_left
    · rintro v h' ⟨hv, _⟩; cases hv
    rintro v h' ⟨hv, rfl⟩
    simp only [AOut.ret.injEq] at hv
    subst hv
    cases v with
    | true =>
      refine Run.ops fun K hK => ?_
      simp
      try (simp (disch := omega) only [wrap_id])
      refine hK _ _ _ ?_; clear hK K
      refine nv ?_
      refine Run.cond (b := false) (by simp) ?_
      simp only [Bool.false_eq_true, if_false]
      refine nv ?_
      refine Run.reg fun K hK => ?_
      simp
      try (simp (disch := omega) only [wrap_id])
      refine hK _ _ _ ?_; clear hK K
      refine nv ?_
      refine IH (j + 1) _ _ ⟨by omega, by rw [allTo_succ, hall]; simp only [okAt, hg']; simp [hv]⟩ (by omega) ?_ rfl
      simp
      repeat' (first | exact WeakL.nil | apply WeakL.cons)
      all_goals first | exact Weak.junk _ | exact Weak.refl _ | exact Weak.nil _ | exact Weak.own _ _ _ | exact Weak.int (by omega)
    | false =>
      have hf : ls.all validB = false := by rw [← okAt_all]; exact allTo_false (p := okAt ls) hjl (by simp only [okAt, hg']; simp [hv])
      rw [hf]
      refine Run.ops fun K hK => ?_
      simp
      try (simp (disch := omega) only [wrap_id])
      refine hK _ _ _ ?_; clear hK K
      refine nv ?_
      refine Run.cond (b := true) (by simp) ?_
      simp only [if_true]
      refine nv ?_
      refine Run.reg fun K hK => ?_
      simp
      try (simp (disch := omega) only [wrap_id])
      refine hK _ _ _ ?_; clear hK K
      refine nv ?_
      refine Run.ret ?_
      exact Fin.ret' (by simp) rfl hh (List.append_nil _).symm rfl rfl (Weak.refl _) rfl ⟨rfl, rfl⟩
  · have hje : j = ls.length := by omega
    subst hje
    rw [okAt_all] at hall
    rw [hall]
    refine nv ?_
    refine Run.cond (b := false) (by simp) ?_
    simp only [Bool.false_eq_true, if_false]
    refine nv ?_
    refine Run.exit rfl ?_
    refine nv ?_
    refine Run.reg fun K hK => ?_
    simp
    try (simp (disch := omega) only [wrap_id])
    refine hK _ _ _ ?_; clear hK K
    refine nv ?_
    refine Run.ret ?_
    exact Fin.ret' (by simp) rfl hh (List.append_nil _).symm rfl rfl (Weak.refl _) rfl ⟨rfl, rfl⟩
set_option maxRecDepth 8000 in
theorem rparams_any (h : Heap) (hh : WF h) (l : Lv) (hb : l.vars.length ≤ 1048576) : ACalls Tryz.prog 166 [l.av] h fun o h' => o = .ret (iA (paramsL l)) ∧ h' = h := by
  have hv := fun (g : Heap) (hg : WF g) => valid_any g hg l hb
  have hV := fun (e : validB l = true) => Vd.of e
  obtain ⟨c, vs⟩ := l
  obtain ⟨r, hr⟩ : ∃ r, paramsL ⟨c, vs⟩ = r := ⟨_, rfl⟩
  rw [hr]
  unfold paramsL at hr
  simp only at hb hr
  generalize validB ⟨c, vs⟩ = b at hv hr hV
  simp only [Lv.av, Lv.cells, List.map] at hv ⊢
  refine ACalls.of_run Tryz.func166 rfl ?_
  simp only [Tryz.ntmps166, List.length_cons, List.length_nil]
  refine nv ?_
  refine Run.reg fun K hK => ?_
  simp
  try (simp (disch := omega) only [wrap_id])
  refine hK _ _ _ ?_; clear hK K
  refine nv ?_
  refine Run.reg fun K hK => ?_
  simp
  try (simp (disch := omega) only [wrap_id])
  refine hK _ _ _ ?_; clear hK K
  refine nv ?_
  refine Run.call rfl (by first | rfl | simp) (by simp) rfl (hv _ (hh.app (by simp))) ?_ ?_
  rotate_left
  · rintro v h' ⟨hv, _⟩; cases hv
  rintro v h' ⟨hv, rfl⟩
  simp only [AOut.ret.injEq] at hv
  subst hv
  cases b with
  | false =>
    refine Run.ops fun K hK => ?_
    simp
    try (simp (disch := omega) only [wrap_id])
    refine hK _ _ _ ?_; clear hK K
    refine nv ?_
    refine Run.cond (b := true) (by simp) ?_
    simp only [if_true]
    refine nv ?_
    refine Run.reg fun K hK => ?_
    simp
    try (simp (disch := omega) only [wrap_id])
    refine hK _ _ _ ?_; clear hK K
    refine nv ?_
    simp at hr
    subst hr
    refine Run.ret ?_
    exact Fin.ret' (h0 := h) (by simp) rfl hh rfl (by simp; rfl) rfl (Weak.refl _) (by simp) ⟨rfl, rfl⟩
  | true =>
    have V := hV rfl
    by_cases h0 : 0 < vs.length
    · have hg : vs[vs.length - 1]? = some vs[vs.length - 1] := List.getElem?_eq_getElem (by omega)
      have k0 := V.i0 _ (List.getElem_mem (show vs.length - 1 < vs.length by omega))
      have k1 := V.i1 _ (List.getElem_mem (show vs.length - 1 < vs.length by omega))
      generalize vs[vs.length - 1] = v at hg k0 k1
      rw [hg] at hr
      simp only [if_true] at hr
      have w1 : IntKind.i64.wrap ((vs.length : Int) - 1) = ((vs.length - 1 : Nat) : Int) := by rw [wrap_id (by omega) (by omega)]; omega
      have w2 : IntKind.i64.wrap (v.1 + 1) = v.1 + 1 := wrap_id (by omega) (by omega)
      have hw : (if 0 < v.1 + 1 then v.1 + 1 else 0) = r := by rw [← hr]; split <;> omega
      have h1 : ¬ vs = [] := fun e => by simp [e] at h0
      refine Run.ops fun K hK => ?_
      simp
      try (simp (disch := omega) only [wrap_id])
      refine hK _ _ _ ?_; clear hK K
      refine nv ?_
      refine Run.cond (b := false) (by simp [h1]) ?_
      simp only [Bool.false_eq_true, if_false]
      refine nv ?_
      refine Run.reg fun K hK => ?_
      simp [hg, w1, w2, hw]
      try (simp (disch := omega) only [wrap_id])
      refine hK _ _ _ ?_; clear hK K
      refine nv ?_
      refine Run.ret ?_
      exact Fin.ret' (h0 := h) (by simp) rfl hh rfl (by simp; rfl) rfl (Weak.refl _) (by simp) ⟨rfl, rfl⟩
    · have e : vs = [] := List.eq_nil_of_length_eq_zero (by omega)
      subst e
      simp at hr
      subst hr
      refine Run.ops fun K hK => ?_
      simp
      try (simp (disch := omega) only [wrap_id])
      refine hK _ _ _ ?_; clear hK K
      refine nv ?_
      refine Run.cond (b := true) (by simp) ?_
      simp only [if_true]
      refine nv ?_
      refine Run.reg fun K hK => ?_
      simp
      try (simp (disch := omega) only [wrap_id])
      refine hK _ _ _ ?_; clear hK K
      refine nv ?_
      refine Run.ret ?_
      exact Fin.ret' (h0 := h) (by simp) rfl hh rfl (by simp; rfl) rfl (Weak.refl _) (by simp) ⟨rfl, rfl⟩

end Go.Proofs.YtcfcolkbeelegaaGreat
