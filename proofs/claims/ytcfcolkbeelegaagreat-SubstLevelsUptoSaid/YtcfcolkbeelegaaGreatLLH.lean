/-
  level: Params; what a sum may hold on the way of Subst and Assign; their results.
-/
import Derived.Test.YtcfcolkbeelegaaGreatLLF

namespace Go.Proofs.YtcfcolkbeelegaaGreat

open Go Go.AI
def srt (om : List (Int × Int)) : List Int := (om.map Prod.fst).mergeSort fun x y => decide (x ≤ y)
theorem srt_length (om : List (Int × Int)) : (srt om).length = om.length := by simp [srt]
theorem sortM_srt (om : List (Int × Int)) : sortM om = (srt om).map fun i => (i, (lkI om i).getD 0) := rfl
theorem ints_get' (l : List Int) (j : Nat) : (ints l)[j]? = (l[j]?).map fun z => [iP z] := by simp [ints]
theorem varPs_snoc (l : List (Int × Int)) (v : Int × Int) : varPs (l ++ [v]) = varPs l ++ [[iP v.1, iP v.2]] := by simp [varPs]

attribute [simp] ints_length ints_get'
set_option maxRecDepth 8000 in
set_option maxHeartbeats 4000000 in
theorem sumLevel_any {B : List (Int × Int) → Int → Heap} {id s n : Nat} (hB : SumH B id s n) (om : List (Int × Int)) (c : Int) (hl : om.length ≤ 1048576) (hwf : ∀ x ∈ om, (Lit.int .i64 x.1).wf = true) :
    ACalls Tryz.prog 113 [.ptr s 0] (B om c) fun o h' => o = .ret (.tup [(lvlP (c, om)).1.av, iA (lvlP (c, om)).2]) ∧ h' = B om c := by
  have hslt := hB.lt.2
  have hilt := hB.lt.1
  have hsl := srt_length om
  have hsm := sortM_srt om
  have hlim := fun (g : Heap) (hg : WF g) => limited_any g hg ⟨c, sortM om⟩ (by rw [hsm]; simp [srt_length]; exact hl)
  obtain ⟨r, hr⟩ : ∃ r, lvlP (c, om) = r := ⟨_, rfl⟩
  have hr' : limL ⟨c, sortM om⟩ = r := hr
  rw [hr]
  simp only [hr', Lv.av, Lv.cells, List.map] at hlim
  refine ACalls.of_run Tryz.func113 rfl ?_
  simp only [Tryz.ntmps113, List.length_cons, List.length_nil]
  refine nv ?_
  rw [hB.len]
  refine nv ?_
  refine Run.reg fun K hK => ?_
  simp [hB.len]
  try (simp (disch := omega) only [wrap_id])
  refine hK _ _ _ ?_; clear hK K
  refine nv ?_
  refine Run.reg fun K hK => ?_
  simp [hB.gs, hB.sl, hB.len]
  try (simp (disch := omega) only [wrap_id])
  refine hK _ _ _ ?_; clear hK K
  refine nv ?_
  refine Run.regPre 4 fun K hK => ?_
  simp only [List.take_succ_cons, List.take_zero]
  simp [hB.gs]
  try (simp (disch := omega) only [wrap_id])
  refine hK _ _ _ ?_; clear hK K
  simp only [List.nil_append, List.drop_succ_cons, List.drop_zero]
  have hwfn := fun (l : List (Option AO)) (hl : l.all (AO.under (n + l.length)) = true) => hB.wfl om c l hl
  refine Run.call rfl (by first | rfl | simp) (by simp) rfl (keys_any _ (hwfn _ (by simp)) id (by simp [hB.len]; omega)) ?_ ?_
  rotate_left
  · rintro v h' ⟨hv, _⟩; cases hv
  rintro v h' ⟨hv, rfl⟩
  simp only [AOut.ret.injEq] at hv
  subst hv
  refine Run.opsPre 0 fun K hK => ?_
  simp only [List.take_zero]
  simp
  try (simp (disch := omega) only [wrap_id])
  refine hK _ _ _ ?_; clear hK K
  simp only [List.nil_append, List.drop_zero]
  simp [hB.len]
  refine Run.call (args := [.fn (.func 197) [] [.ptr (n + 2) 0]]) rfl rfl (by simp) rfl (sorted_keys (id := id) (om := om) ?_ ?_ hwf hl) ?_ ?_
  · unfold Heap.at; simp [hB.gl]
  · unfold Heap.at; simp [hB.gi]
  rotate_left
  · rintro v h' ⟨hv, _⟩; cases hv
  rintro v h' ⟨hv, rfl⟩
  simp only [AOut.ret.injEq] at hv
  subst hv
  refine Run.ops fun K hK => ?_
  simp
  try (simp (disch := omega) only [wrap_id])
  refine hK _ _ _ ?_; clear hK K
  refine nv ?_
  have hsrt : (List.map Prod.fst om).mergeSort (fun x y => decide (x ≤ y)) = srt om := rfl
  rw [hsrt]
  generalize srt om = ks at hsl hsm ⊢
  obtain ⟨vs, hvs⟩ : ∃ vs, sortM om = vs := ⟨_, rfl⟩
  rw [hvs] at hsm hlim
  have hvl : vs.length = ks.length := by rw [hsm, List.length_map]
  refine Run.tokAt (n + 1) 1 2 (by unfold Heap.at; simp [hB.gl]; rfl) (by simp) ?_
  simp [hB.len, hB.sl]
  refine Run.loopS [0, 2, 4, 17, 18] (fun j : Nat => j ≤ ks.length) (fun j => ks.length - j) (fun j => [(19, iA j)])
    (fun j => B om c ++ [some (.cells [iA 0, .p (.prim (.slice none 0 0))]), some (.cells [iA c, .own (n + 3) 2 (varPs (vs.take j))]), some (.cells [.mp id]), some (.tok j 2)]) 0 (by omega) ?_ (by simp [varPs]) ?_
  · simp
    repeat' (first | exact WeakL.nil | apply WeakL.cons)
    all_goals first | exact Weak.junk _ | exact Weak.refl _ | exact Weak.nil _ | exact Weak.own _ _ _ | exact Weak.int (by omega)
  rintro j hj IH
  simp
  refine nv ?_
  refine Run.reg fun K hK => ?_
  simp
  try (simp (disch := omega) only [wrap_id])
  refine hK _ _ _ ?_; clear hK K
  refine nv ?_
  by_cases hjl : j < ks.length
  · have hjo : j < om.length := by omega
    have hg : ks[j]? = some ks[j] := List.getElem?_eq_getElem hjl
    generalize ks[j] = k at hg
    have hgv : vs[j]? = some (k, (lkI om k).getD 0) := by rw [hsm]; simp [hg]
    have htk : vs.take (j + 1) = vs.take j ++ [(k, (lkI om k).getD 0)] := by rw [List.take_add_one, hgv]; rfl
    have hmin : min j vs.length = j := Nat.min_eq_left (by omega)
    have hb3 : (j + 1) * 16 ≤ 140737488355328 := by omega
    have hb4 : j + 1 ≤ 9223372036854775807 := by omega
    refine nv ?_
    refine Run.cond (b := true) (by simp [hjo]) ?_
    simp only [if_true]
    refine nv ?_
    refine Run.reg fun K hK => ?_
    simp [hg]
    try (simp (disch := omega) only [wrap_id])
    refine hK _ _ _ ?_; clear hK K
    refine nv ?_
    refine Run.draw [0, 0, 0, 0, 0, 0, 0, 0, 0, 1, 1, 1, 2, 2] [0, 0, 0, 0, 0, 0, 0, 0, 0, 0, 0, 1, 0, 2] [0, 1, 0, 0, 8, 24, 56, 0, 248, 508, 1020, 2047, 4095, 8191] [3, 4, 5, 6, 7, 8, 0, 1, 2, 9, 10, 11, 12, 13] (by kernel_rfl) (by kernel_rfl) ?_
    refine DR.go fun K hK => ?_
    simp [hB.gs, hB.gi, hB.gl, hB.sl, hmin, hb3, hb4]
    try (simp (disch := omega) only [wrap_id])
    refine hK _ _ _ _ ?_; clear hK K
    change Run _ _ _ _ _ _ _ _
    refine nv ?_
    refine Run.keep [0, 2, 4, 17, 18, 19] ?_
    simp only [keepT, keepT.go, List.contains_cons]
    simp
    refine nv ?_
    refine Run.reg fun K hK => ?_
    simp
    try (simp (disch := omega) only [wrap_id])
    refine hK _ _ _ ?_; clear hK K
    refine nv ?_
    refine IH (j + 1) _ _ (by omega) (by omega) ?_ ?_
    · simp
      repeat' (first | exact WeakL.nil | apply WeakL.cons)
      all_goals first | exact Weak.junk _ | exact Weak.refl _ | exact Weak.nil _ | exact Weak.own _ _ _ | exact Weak.int (by omega)
    · rw [htk, varPs_snoc]
  · have hje : j = ks.length := by omega
    subst hje
    rw [← hvl, List.take_length]
    have hjo : ¬ vs.length < om.length := by omega
    refine nv ?_
    refine Run.cond (b := false) (by simp [hjo]) ?_
    simp only [Bool.false_eq_true, if_false]
    refine nv ?_
    refine Run.exit rfl ?_
    refine nv ?_
    refine Run.weakH (n + 1) (cs' := [iA c, .p (.sl 2 (varPs vs))]) (by unfold Heap.at; simp [hB.gl]; rfl) ?_ ?_
    · repeat' (first | exact WeakL.nil | apply WeakL.cons)
      all_goals first | exact Weak.junk _ | exact Weak.refl _ | exact Weak.nil _ | exact Weak.own _ _ _ | exact Weak.int (by omega)
    simp [hB.sl]
    refine nv ?_
    refine Run.reg fun K hK => ?_
    simp [hB.len]
    try (simp (disch := omega) only [wrap_id])
    refine hK _ _ _ ?_; clear hK K
    refine nv ?_
    refine Run.call rfl (by first | rfl | simp) (by simp) rfl (hlim _ (hwfn _ (by simp; omega))) ?_ ?_
    rotate_left
    · rintro v h' ⟨hv, _⟩; cases hv
    rintro v h' ⟨hv, rfl⟩
    simp only [AOut.ret.injEq] at hv
    subst hv
    refine Run.ops fun K hK => ?_
    simp [hB.len, hB.sl0]
    try (simp (disch := omega) only [wrap_id])
    refine hK _ _ _ ?_; clear hK K
    refine nv ?_
    refine Run.ret ?_
    refine Fin.ret' (h0 := B om c) (by simp) (hB.len _ _) (hB.wf _ _) rfl (by simp [hB.len]; rfl) rfl (Weak.refl _) (by simp) ⟨rfl, rfl⟩

end Go.Proofs.YtcfcolkbeelegaaGreat

namespace Go.Proofs.YtcfcolkbeelegaaGreat

open Go Go.AI
def paramsL (l : Lv) : Int := if validB l then (match l.vars[l.vars.length - 1]? with | some v => max 0 (v.1 + 1) | none => 0) else 0
set_option maxRecDepth 8000 in
theorem tparams_any (h : Heap) (hh : WF h) (l : Lv) (hb : l.vars.length ≤ 1048576) : ACalls Tryz.prog 109 [l.av] h fun o h' => o = .ret (iA (paramsL l)) ∧ h' = h := by
  have hv := fun (g : Heap) (hg : WF g) => tvalid_any g hg l hb
  have hV := fun (e : validB l = true) => Vd.of e
  obtain ⟨c, vs⟩ := l
  obtain ⟨r, hr⟩ : ∃ r, paramsL ⟨c, vs⟩ = r := ⟨_, rfl⟩
  rw [hr]
  unfold paramsL at hr
  simp only at hb hr
  generalize validB ⟨c, vs⟩ = b at hv hr hV
  simp only [Lv.av, Lv.cells, List.map] at hv ⊢
  refine ACalls.of_run Tryz.func109 rfl ?_
  simp only [Tryz.ntmps109, List.length_cons, List.length_nil]
  refine nv ?_
  refine Run.reg fun K hK => ?_
  simp
  try (simp (disch := omega) only [wrap_id])
  refine hK _ _ _ ?_; clear hK K
  refine nv ?_
  refine Run.reg fun K hK => ?_
  simp
  try (simp (disch := omega) only [wrap_id])
  refine hK _ _ _ ?_; clear hK K
  refine nv ?_
  refine Run.reg fun K hK => ?_
  simp
  try (simp (disch := omega) only [wrap_id])
  refine hK _ _ _ ?_; clear hK K
  refine nv ?_
  refine Run.call rfl (by first | rfl | simp) (by simp) rfl (hv _ (hh.app (by simp))) ?_ ?_
  rotate_left
  · rintro v h' ⟨hv, _⟩; cases hv
  rintro v h' ⟨hv, rfl⟩
  simp only [AOut.ret.injEq] at hv
  subst hv
  cases b with
  | false =>
    refine Run.ops fun K hK => ?_
    simp
    try (simp (disch := omega) only [wrap_id])
    refine hK _ _ _ ?_; clear hK K
    refine nv ?_
    refine Run.cond (b := false) (by simp) ?_
    simp only [Bool.false_eq_true, if_false]
    refine nv ?_
    refine Run.reg fun K hK => ?_
    simp
    try (simp (disch := omega) only [wrap_id])
    refine hK _ _ _ ?_; clear hK K
    refine nv ?_
    simp at hr
    subst hr
    refine Run.ret ?_
    exact Fin.ret' (h0 := h) (by simp) rfl hh rfl (by simp; rfl) rfl (Weak.refl _) (by simp) ⟨rfl, rfl⟩
  | true =>
    have V := hV rfl
    by_cases h0 : 0 < vs.length
    · have hg : vs[vs.length - 1]? = some vs[vs.length - 1] := List.getElem?_eq_getElem (by omega)
      have k0 := V.i0 _ (List.getElem_mem (show vs.length - 1 < vs.length by omega))
      have k1 := V.i1 _ (List.getElem_mem (show vs.length - 1 < vs.length by omega))
      generalize vs[vs.length - 1] = v at hg k0 k1
      rw [hg] at hr
      simp only [if_true] at hr
      have w1 : IntKind.i64.wrap ((vs.length : Int) - 1) = ((vs.length - 1 : Nat) : Int) := by rw [wrap_id (by omega) (by omega)]; omega
      have w2 : IntKind.i64.wrap (v.1 + 1) = v.1 + 1 := wrap_id (by omega) (by omega)
      have hw : (if 0 < v.1 + 1 then v.1 + 1 else 0) = r := by rw [← hr]; split <;> omega
      have h0' : (0 : Int) < (vs.length : Int) := by omega
      refine Run.ops fun K hK => ?_
      simp [h0]
      try (simp (disch := omega) only [wrap_id])
      refine hK _ _ _ ?_; clear hK K
      refine nv ?_
      refine Run.cond (b := true) (by simp) ?_
      simp only [if_true]
      refine nv ?_
      refine Run.reg fun K hK => ?_
      simp [hg, w1, w2, hw]
      try (simp (disch := omega) only [wrap_id])
      refine hK _ _ _ ?_; clear hK K
      refine nv ?_
      refine Run.ret ?_
      exact Fin.ret' (h0 := h) (by simp) rfl hh rfl (by simp; rfl) rfl (Weak.refl _) (by simp) ⟨rfl, rfl⟩
    · have e : vs = [] := List.eq_nil_of_length_eq_zero (by omega)
      subst e
      simp at hr
      subst hr
      refine Run.ops fun K hK => ?_
      simp
      try (simp (disch := omega) only [wrap_id])
      refine hK _ _ _ ?_; clear hK K
      refine nv ?_
      refine Run.cond (b := false) (by simp) ?_
      simp only [Bool.false_eq_true, if_false]
      refine nv ?_
      refine Run.reg fun K hK => ?_
      simp
      try (simp (disch := omega) only [wrap_id])
      refine hK _ _ _ ?_; clear hK K
      refine nv ?_
      refine Run.ret ?_
      exact Fin.ret' (h0 := h) (by simp) rfl hh rfl (by simp; rfl) rfl (Weak.refl _) (by simp) ⟨rfl, rfl⟩
theorem upL_last {vs : List (Int × Int)} (h : upL vs) {u v : Int × Int} (hu : vs[vs.length - 1]? = some u) (hv : v ∈ vs) : v.1 ≤ u.1 := by
  induction vs with
  | nil => simp at hv
  | cons x vs ih =>
    cases vs with
    | nil =>
      simp at hu hv
      subst hu hv
      exact Int.le_refl _
    | cons y vs =>
      have hu' : (y :: vs)[(y :: vs).length - 1]? = some u := by simpa using hu
      rcases List.mem_cons.1 hv with rfl | hv
      · have hm := List.mem_of_getElem? hu'
        have := h.1 u hm
        omega
      · exact ih h.2 hu' hv
theorem paramsL_lt {l : Lv} (h : validB l = true) {v : Int × Int} (hv : v ∈ l.vars) : v.1 < paramsL l := by
  have hl : 0 < l.vars.length := List.length_pos_of_mem hv
  have hg : l.vars[l.vars.length - 1]? = some l.vars[l.vars.length - 1] := List.getElem?_eq_getElem (by omega)
  have := upL_last (Vd.of h).up hg hv
  unfold paramsL
  rw [h, hg]
  simp only [if_true]
  omega
theorem nodup_len2 : ∀ (n : Nat) (l : List Int) (a : Int), l.Nodup → (∀ x ∈ l, a ≤ x ∧ x < a + n) → l.length ≤ n
  | 0, l, a, _, h => by
    cases l with
    | nil => simp
    | cons x l => have := h x (by simp); omega
  | n + 1, l, a, hn, h => by
    have ih := nodup_len2 n (l.erase (a + n)) a (hn.erase _) fun x hx => by
      rw [hn.mem_erase_iff] at hx
      have := h x hx.2
      have := hx.1
      omega
    rw [List.length_erase] at ih
    split at ih <;> omega

structure StOk (s : Int × List (Int × Int)) : Prop where
  c0 : 0 ≤ s.1
  c1 : s.1 ≤ 200
  nd : (s.2.map Prod.fst).Nodup
  k : ∀ i ∈ s.2.map Prod.fst, -65536 ≤ i ∧ i < 8
theorem addM_keys {P : Int → Prop} (n : Int) : ∀ (vs m : List (Int × Int)), (∀ i ∈ m.map Prod.fst, P i) → (∀ v ∈ vs, P v.1) → ∀ i ∈ (addM m vs n).map Prod.fst, P i
  | [], m, h, _ => h
  | v :: vs, m, h, hv => addM_keys n vs (raiseM m v.1 (v.2 + n)) (fun i hi => by
      rcases raiseM_keys m v.1 (v.2 + n) i hi with c | rfl
      · exact h i c
      · exact hv v (by simp)) fun w hw => hv w (by simp [hw])
theorem StOk.step {vals : List Lv} {metas : Bool} (hv : ∀ x ∈ vals, Vd x) {s : Int × List (Int × Int)} (h : StOk s) {v : Int × Int} (v0 : -65536 ≤ v.1) (v1 : v.1 < 8) (p1 : v.2 ≤ 100) : StOk (stepP vals metas s v) := by
  unfold stepP
  split
  · rename_i x hx
    have hx' : x ∈ vals := by
      unfold hitL at hx
      split at hx
      · exact List.mem_of_getElem? hx
      · cases hx
    have V := hv x hx'
    have := V.c1
    have := h.c0
    have := h.c1
    exact ⟨by simp only; omega, by simp only; omega, addM_nodup _ _ h.nd, addM_keys _ _ _ h.k fun w hw => ⟨V.i0 w hw, V.i1 w hw⟩⟩
  · refine ⟨h.c0, h.c1, raiseM_nodup _ _ h.nd, fun i hi => ?_⟩
    rcases raiseM_keys s.2 v.1 v.2 i hi with c | rfl
    · exact h.k i c
    · exact ⟨v0, v1⟩
theorem StOk.all {vals : List Lv} {metas : Bool} (hv : ∀ x ∈ vals, Vd x) : ∀ (vs : List (Int × Int)) {s : Int × List (Int × Int)}, (∀ v ∈ vs, -65536 ≤ v.1 ∧ v.1 < 8 ∧ v.2 ≤ 100) → StOk s → StOk (vs.foldl (stepP vals metas) s)
  | [], _, _, h => h
  | v :: vs, _, hb, h => StOk.all hv vs (fun w hw => hb w (by simp [hw])) (h.step hv (hb v (by simp)).1 (hb v (by simp)).2.1 (hb v (by simp)).2.2)
theorem StOk.len {s : Int × List (Int × Int)} (h : StOk s) : s.2.length ≤ 65544 := by
  have := nodup_len2 65544 (s.2.map Prod.fst) (-65536) h.nd fun x hx => by have := h.k x hx; omega
  simpa using this
theorem StOk.wf {s : Int × List (Int × Int)} (h : StOk s) : ∀ x ∈ s.2, (Lit.int .i64 x.1).wf = true := by
  intro x hx
  have := h.k x.1 (List.mem_map.2 ⟨x, hx, rfl⟩)
  have e1 : IntKind.i64.min = -9223372036854775808 := by decide
  have e2 : IntKind.i64.max = 9223372036854775807 := by decide
  simp only [Lit.wf, e1, e2, Bool.and_eq_true, decide_eq_true_eq]
  omega
theorem StOk.start {l : Lv} (h : Vd l) : StOk (l.c, []) := ⟨h.c0, by have := h.c1; simp only; omega, by simp, by simp⟩
def substL (l : Lv) (vals : List Lv) : Lv × Int :=
  if (!validB l || !vals.all validB) = true then (⟨0, []⟩, 3)
  else if (vals.length : Int) < paramsL l then (⟨0, []⟩, 24)
  else lvlP (l.vars.foldl (stepP vals false) (l.c, []))
def assignL (l : Lv) (vals : List Lv) : Lv × Int :=
  if (!validB l || !vals.all validB) = true then (⟨0, []⟩, 3)
  else lvlP (l.vars.foldl (stepP vals true) (l.c, []))

end Go.Proofs.YtcfcolkbeelegaaGreat
