/-
  The reference's levels: replace, Subst, Assign.
-/
import Derived.Test.YtcfcolkbeelegaaGreatLLP

namespace Go.Proofs.YtcfcolkbeelegaaGreat

open Go Go.AI
theorem mergeL_keys {P : Int → Prop} : ∀ (a b : List (Int × Int)), (∀ y ∈ a, P y.1) → (∀ y ∈ b, P y.1) → ∀ y ∈ mergeL a b, P y.1
  | [], b, _, hb, y, hy => by rw [mergeL_nil_left] at hy; exact hb y hy
  | a, [], ha, _, y, hy => by rw [mergeL_nil_right] at hy; exact ha y hy
  | (i, p) :: a, (k, q) :: b, ha, hb, y, hy => by
    rw [mergeL] at hy
    have hi := ha (i, p) (by simp)
    have hk := hb (k, q) (by simp)
    split at hy
    · rcases List.mem_cons.1 hy with rfl | hy
      · exact hi
      · exact mergeL_keys a _ (fun y h => ha y (by simp [h])) hb y hy
    · split at hy
      · rcases List.mem_cons.1 hy with rfl | hy
        · exact hk
        · exact mergeL_keys _ b ha (fun y h => hb y (by simp [h])) y hy
      · rcases List.mem_cons.1 hy with rfl | hy
        · exact hi
        · exact mergeL_keys a b (fun y h => ha y (by simp [h])) (fun y h => hb y (by simp [h])) y hy
termination_by a b => a.length + b.length
def KeyOk (vs : List (Int × Int)) : Prop := upL vs ∧ ∀ y ∈ vs, -65536 ≤ y.1 ∧ y.1 < 8
theorem KeyOk.len {vs : List (Int × Int)} (h : KeyOk vs) : vs.length ≤ 65544 := by
  have := nodup_len2 65544 (vs.map Prod.fst) (-65536) h.1.nodup fun x hx => by
    obtain ⟨y, hy, rfl⟩ := List.mem_map.1 hx
    have := h.2 y hy; omega
  simpa using this
theorem KeyOk.merge {a b : List (Int × Int)} (ha : KeyOk a) (hb : KeyOk b) : KeyOk (mergeL a b) :=
  ⟨mergeL_up _ _ ha.1 hb.1, mergeL_keys (P := fun i => -65536 ≤ i ∧ i < 8) a b ha.2 hb.2⟩
theorem KeyOk.plus {a : List (Int × Int)} (ha : KeyOk a) (n : Int) : KeyOk (plusV a n) :=
  ⟨plusV_up ha.1, fun y hy => by obtain ⟨z, hz, rfl⟩ := List.mem_map.1 hy; exact ha.2 z hz⟩
theorem Vd.key {l : Lv} (h : Vd l) : KeyOk l.vars := ⟨h.up, fun y hy => ⟨h.i0 y hy, h.i1 y hy⟩⟩
theorem KeyOk.plusL {l : Lv} (h : Vd l) (n : Int) : KeyOk (plusL l n).1.vars := by
  have e : (Go.Proofs.YtcfcolkbeelegaaGreat.plusL l n).1.vars = [] ∨ (Go.Proofs.YtcfcolkbeelegaaGreat.plusL l n).1.vars = plusV l.vars n := by
    unfold Go.Proofs.YtcfcolkbeelegaaGreat.plusL
    simp only
    generalize (if 0 < l.c ∨ l.vars = [] then l.c + n else 0) = c
    by_cases h1 : 100 < c
    · rw [if_pos h1]; exact .inl rfl
    · rw [if_neg h1]
      by_cases h2 : l.vars.all (fun x => decide (x.2 + n ≤ 100)) = true
      · rw [if_pos h2]; exact .inr rfl
      · rw [if_neg h2]; exact .inl rfl
  rcases e with e | e <;> rw [e]
  · exact ⟨trivial, by simp⟩
  · exact h.key.plus n
set_option maxRecDepth 8000 in
set_option maxHeartbeats 8000000 in
theorem rreplace_any (h : Heap) (hh : WF h) (l : Lv) (vals : List Lv) (metas : Bool) (hl : Vd l) (hv : ∀ x ∈ vals, Vd x ∧ validB x = true) (hb : l.vars.length ≤ 1048576) (_hbs : vals.length ≤ 1048576) :
    ACalls Tryz.prog 167 [l.av, .p (.sl 2 (lvPs vals)), bA metas] h fun o h' => o = .ret (.tup [(replL vals metas l.vars ⟨l.c, []⟩).1.av, iA (replL vals metas l.vars ⟨l.c, []⟩).2]) ∧ h' = h := by
  have hkey := hl.key
  have hp0 := hl.v0
  have hp1 := hl.v1
  obtain ⟨c, vs⟩ := l
  simp only at hb hkey hp0 hp1
  obtain ⟨r, hr⟩ : ∃ r, replL vals metas vs ⟨c, []⟩ = r := ⟨_, rfl⟩
  simp only [hr]
  simp only [Lv.av, Lv.cells, List.map]
  refine ACalls.of_run Tryz.func167 rfl ?_
  simp only [Tryz.ntmps167, List.length_cons, List.length_nil]
  refine nv ?_
  refine Run.reg fun K hK => ?_
  simp
  try (simp (disch := omega) only [wrap_id])
  refine hK _ _ _ ?_; clear hK K
  refine nv ?_
  refine Run.reg fun K hK => ?_
  simp
  try (simp (disch := omega) only [wrap_id])
  refine hK _ _ _ ?_; clear hK K
  refine nv ?_
  refine Run.call rfl (by first | rfl | simp) (by simp) rfl (rnumber_any _ (hh.app (by simp)) c) ?_ ?_
  rotate_left
  · rintro v h' ⟨hv, _⟩; cases hv
  rintro v h' ⟨hv, rfl⟩
  simp only [AOut.ret.injEq] at hv
  subst hv
  simp only [Lv.av, Lv.cells, List.map]
  refine Run.ops fun K hK => ?_
  simp
  try (simp (disch := omega) only [wrap_id])
  refine hK _ _ _ ?_; clear hK K
  refine nv ?_
  refine Run.reg fun K hK => ?_
  simp
  try (simp (disch := omega) only [wrap_id])
  refine hK _ _ _ ?_; clear hK K
  refine nv ?_
  refine Run.loopS (ι := Nat × Lv) [1, 2, 3, 6, 8] (fun p => p.1 ≤ vs.length ∧ KeyOk p.2.vars ∧ replL vals metas (vs.drop p.1) p.2 = r) (fun p => vs.length - p.1) (fun p => [(9, iA p.1)])
    (fun p => h ++ [some (.cells [iA c, .p (.sl 2 (varPs vs))]), some (.cells [iA 0, .p (.prim (.slice none 0 0))]), some (.cells (p.2.cells.map .p))]) (0, ⟨c, []⟩) ⟨by simp, ⟨trivial, by simp⟩, by simpa using hr⟩ ?_ (by simp [Lv.cells, varPs]) ?_
  · simp
    repeat' (first | exact WeakL.nil | apply WeakL.cons)
    all_goals first | exact Weak.junk _ | exact Weak.refl _ | exact Weak.nil _ | exact Weak.own _ _ _ | exact Weak.int (by omega)
  rintro ⟨j, o⟩ ⟨hj, hok, hrr⟩ IH
  simp only at hj hok hrr
  have hol := hok.len
  obtain ⟨oc, ov⟩ := o
  simp only at hol hok
  simp [Lv.cells]
  refine nv ?_
  refine Run.reg fun K hK => ?_
  simp
  try (simp (disch := omega) only [wrap_id])
  refine hK _ _ _ ?_; clear hK K
  refine nv ?_
  by_cases hjl : j < vs.length
  · have hg : vs[j]? = some vs[j] := List.getElem?_eq_getElem hjl
    have k0 := hp0 _ (List.getElem_mem hjl)
    have k1 := hp1 _ (List.getElem_mem hjl)
    have k2 := hkey.2 _ (List.getElem_mem hjl)
    rw [drop_of_get hg] at hrr
    simp only [replL] at hrr
    generalize vs[j] = v at hg k0 k1 k2 hrr
    obtain ⟨a, b⟩ := v
    simp only at k0 k1 k2
    obtain ⟨i, hi⟩ : ∃ i, (if metas then -1 - a else a) = i := ⟨_, rfl⟩
    have w1 : IntKind.i64.wrap (-1 - a) = -1 - a := wrap_id (by omega) (by omega)
    refine nv ?_
    refine Run.cond (b := true) (by simp [hjl]) ?_
    simp only [if_true]
    refine nv ?_
    refine Run.reg fun K hK => ?_
    simp [hg]
    try (simp (disch := omega) only [wrap_id])
    refine hK _ _ _ ?_; clear hK K
    refine nv ?_
    refine Run.reg fun K hK => ?_
    simp
    try (simp (disch := omega) only [wrap_id])
    refine hK _ _ _ ?_; clear hK K
    refine nv ?_
    refine Run.reg fun K hK => ?_
    simp
    try (simp (disch := omega) only [wrap_id])
    refine hK _ _ _ ?_; clear hK K
    refine nv ?_
    refine Run.joinH [1, 2, 3, 6, 8, 9, 10] [(11, iA i)] (h ++ [some (.cells [iA c, .p (.sl 2 (varPs vs))]), some (.cells [iA 0, .p (.prim (.slice none 0 0))]), some (.cells [iA oc, .p (.sl 2 (varPs ov))]), some (.cells [iA a, iA b])]) (fun hJ => ?_) ?_
    · cases metas with
      | true =>
        simp only [if_true] at hi
        subst hi
        refine Run.cond (b := true) (by simp) ?_
        simp only [if_true]
        refine nv ?_
        refine Run.reg fun K hK => ?_
        simp [w1]
        try (simp (disch := omega) only [wrap_id])
        refine hK _ _ _ ?_; clear hK K
        repeat (first | refine Run.skip ?_ | refine Run.opsNil ?_ | refine Run.inBlock ?_)
        refine hJ _ ?_
        simp
        repeat' (first | exact WeakL.nil | apply WeakL.cons)
        all_goals first | exact Weak.junk _ | exact Weak.refl _ | exact Weak.nil _ | exact Weak.own _ _ _ | exact Weak.int (by omega)
      | false =>
        simp only [Bool.false_eq_true, if_false] at hi
        subst hi
        refine Run.cond (b := false) (by simp) ?_
        simp only [Bool.false_eq_true, if_false]
        refine Run.skip ?_
        refine hJ _ ?_
        simp
        repeat' (first | exact WeakL.nil | apply WeakL.cons)
        all_goals first | exact Weak.junk _ | exact Weak.refl _ | exact Weak.nil _ | exact Weak.own _ _ _ | exact Weak.int (by omega)
    simp only [setMany, keepT, keepT.go, List.contains_cons, List.set_cons_succ, List.set_cons_zero]
    simp
    refine nv ?_
    refine Run.reg fun K hK => ?_
    simp
    try (simp (disch := omega) only [wrap_id])
    refine hK _ _ _ ?_; clear hK K
    refine nv ?_
    have hhit : hitL vals metas (a, b) = if decide (a < 0) = metas then vals[i.toNat]? else none := by unfold hitL; simp only; rw [hi]
    by_cases hm : decide (a < 0) = metas
    · have hbe : (decide (a < 0) == metas) = true := by rw [hm]; simp
      have hi0 : 0 ≤ i := by rw [← hi, ← hm]; by_cases ha : a < 0 <;> simp [ha] <;> omega
      rw [if_pos hm] at hhit
      by_cases hil : i < (vals.length : Int)
      · have hgx : vals[i.toNat]? = some vals[i.toNat] := List.getElem?_eq_getElem (by omega)
        have hVx := hv _ (List.getElem_mem (show i.toNat < vals.length by omega))
        generalize vals[i.toNat] = x at hgx hVx
        rw [hgx] at hhit
        have hpart : partL vals metas (a, b) = plusL x b := by unfold partL; rw [hhit]
        have hxl := hVx.1.key.len
        have hpk := KeyOk.plusL hVx.1 b
        have hcp := fun (g : Heap) (hg : WF g) => rplus_any g hg x b hVx.1 hVx.2 (by omega) k0 k1
        rw [hpart] at hrr
        obtain ⟨⟨⟨pc, pv⟩, pe⟩, hpe⟩ : ∃ q, plusL x b = q := ⟨_, rfl⟩
        rw [hpe] at hrr hpk
        simp only [hpe, Lv.av, Lv.cells, List.map] at hcp
        simp only at hrr hpk
        have hpl := hpk.len
        obtain ⟨xc, xv⟩ := x
        have hin : ¬ i < 0 := by omega
        refine nv ?_
        refine Run.reg fun K hK => ?_
        simp [hbe, hil]
        try (simp (disch := omega) only [wrap_id])
        refine hK _ _ _ ?_; clear hK K
        refine nv ?_
        refine Run.cond (b := true) (by simp) ?_
        simp only [if_true]
        refine nv ?_
        refine PC.Run.drawP (pc := [6]) [0, 0, 0, 0, 0, 0, 0, 0, 0, 0, 0, 1, 2] [0, 0, 0, 0, 0, 0, 0, 0, 0, 0, 0, 1, 0] [0, 0, 3, 7, 0, 16, 63, 127, 255, 255, 0, 1535, 4095] [10, 0, 1, 2, 3, 4, 5, 6, 7, 8, 11, 9, 12] (by kernel_rfl) (by kernel_rfl) ?_
        refine PC.DR.go fun K hK => ?_
        simp [hgx, hin, Lv.cells]
        refine hK _ _ _ _ ?_; clear hK K
        refine PC.DR.pcall rfl rfl rfl (by simp) rfl rfl (fun g hg => (hcp) g ?_) ?_
        · simp at hg; (first | (rcases hg with rfl | rfl | rfl | rfl) | (rcases hg with rfl | rfl | rfl) | (rcases hg with rfl | rfl) | subst hg) <;> exact hh.app (by simp)
        refine PC.DR.go fun K hK => ?_
        simp
        try (simp (disch := omega) only [wrap_id])
        refine hK _ _ _ _ ?_; clear hK K
        change Run _ _ _ _ _ _ _ _
        refine nv ?_
        refine Run.reg fun K hK => ?_
        simp
        try (simp (disch := omega) only [wrap_id])
        refine hK _ _ _ ?_; clear hK K
        refine nv ?_
        by_cases he : pe = 0
        · rw [if_neg (by simp [he])] at hrr
          refine nv ?_
          refine Run.cond (b := false) (by simp [he]) ?_
          simp only [Bool.false_eq_true, if_false]
          refine nv ?_
          refine Run.reg fun K hK => ?_
          simp
          try (simp (disch := omega) only [wrap_id])
          refine hK _ _ _ ?_; clear hK K
          refine nv ?_
          refine Run.reg fun K hK => ?_
          simp
          try (simp (disch := omega) only [wrap_id])
          refine hK _ _ _ ?_; clear hK K
          refine nv ?_
          refine Run.call (args := [(Lv.mk oc ov).av, (Lv.mk pc pv).av]) rfl rfl (by simp [Lv.av, Lv.cells, varPs]) rfl (rjoin_any _ (hh.app (by simp)) ⟨oc, ov⟩ ⟨pc, pv⟩ (by simp only; omega) (by simp only; omega)) ?_ ?_
          rotate_left
          · rintro v h' ⟨hv, _⟩; cases hv
          rintro v h' ⟨hv, rfl⟩
          simp only [AOut.ret.injEq] at hv
          subst hv
          obtain ⟨⟨c2, v2⟩, hj2⟩ : ∃ q, joinL ⟨oc, ov⟩ ⟨pc, pv⟩ = q := ⟨_, rfl⟩
          have hk2 : KeyOk v2 := by
            have : KeyOk (joinL ⟨oc, ov⟩ ⟨pc, pv⟩).vars := hok.merge hpk
            rw [hj2] at this
            exact this
          rw [hj2] at hrr ⊢
          simp only [Lv.av, Lv.cells, List.map]
          refine Run.ops fun K hK => ?_
          simp
          try (simp (disch := omega) only [wrap_id])
          refine hK _ _ _ ?_; clear hK K
          refine nv ?_
          refine Run.keep [1, 2, 3, 6, 8, 9] ?_
          simp only [keepT, keepT.go, List.contains_cons]
          simp
          refine Run.cutAt 3 hh rfl (by omega) (by simp) (by simp) (by simp) rfl ?_
          simp
          refine nv ?_
          refine Run.reg fun K hK => ?_
          simp
          try (simp (disch := omega) only [wrap_id])
          refine hK _ _ _ ?_; clear hK K
          refine nv ?_
          refine IH (j + 1, ⟨c2, v2⟩) _ _ ⟨by simp; omega, hk2, hrr⟩ (by simp; omega) ?_ ?_
          · simp
            repeat' (first | exact WeakL.nil | apply WeakL.cons)
            all_goals first | exact Weak.junk _ | exact Weak.refl _ | exact Weak.nil _ | exact Weak.own _ _ _ | exact Weak.int (by omega)
          · simp [Lv.cells]
        · rw [if_pos he] at hrr
          subst hrr
          refine nv ?_
          refine Run.cond (b := true) (by simp [he]) ?_
          simp only [if_true]
          refine nv ?_
          refine Run.reg fun K hK => ?_
          simp
          try (simp (disch := omega) only [wrap_id])
          refine hK _ _ _ ?_; clear hK K
          refine nv ?_
          refine Run.ret ?_
          refine Fin.ret' (h0 := h) (by simp) rfl hh rfl (by simp; rfl) rfl (y := .tup [.agg [iA 0, .p (.sl 2 (varPs []))], iA pe]) ?_ (by simp) ⟨rfl, rfl⟩
          refine Weak.tup (WeakL.cons (Weak.agg ?_) (WeakL.cons (Weak.refl _) WeakL.nil))
          repeat' (first | exact WeakL.nil | apply WeakL.cons)
          all_goals first | exact Weak.junk _ | exact Weak.refl _ | exact Weak.nil _ | exact Weak.own _ _ _ | exact Weak.int (by omega)
      · have hgx : vals[i.toNat]? = none := List.getElem?_eq_none (by omega)
        rw [hgx] at hhit
        have hpart : partL vals metas (a, b) = (⟨0, [(a, b)]⟩, 0) := by unfold partL; rw [hhit]
        rw [hpart] at hrr
        simp only [ne_eq, not_true_eq_false, if_false] at hrr
        refine nv ?_
        refine Run.reg fun K hK => ?_
        simp [hbe, hil]
        try (simp (disch := omega) only [wrap_id])
        refine hK _ _ _ ?_; clear hK K
        refine nv ?_
        refine Run.cond (b := false) (by simp) ?_
        simp only [Bool.false_eq_true, if_false]
        refine nv ?_
        refine Run.reg fun K hK => ?_
        simp
        try (simp (disch := omega) only [wrap_id])
        refine hK _ _ _ ?_; clear hK K
        refine nv ?_
        refine Run.call (args := [(Lv.mk oc ov).av, (Lv.mk 0 [(a, b)]).av]) rfl rfl (by simp [Lv.av, Lv.cells, varPs]) rfl (rjoin_any _ (hh.app (by simp)) ⟨oc, ov⟩ ⟨0, [(a, b)]⟩ (by simp only; omega) (by simp)) ?_ ?_
        rotate_left
        · rintro v h' ⟨hv, _⟩; cases hv
        rintro v h' ⟨hv, rfl⟩
        simp only [AOut.ret.injEq] at hv
        subst hv
        obtain ⟨⟨c2, v2⟩, hj2⟩ : ∃ q, joinL ⟨oc, ov⟩ ⟨0, [(a, b)]⟩ = q := ⟨_, rfl⟩
        have hk2 : KeyOk v2 := by
          have : KeyOk (joinL ⟨oc, ov⟩ ⟨0, [(a, b)]⟩).vars := hok.merge ⟨⟨by simp, trivial⟩, by simpa using k2⟩
          rw [hj2] at this
          exact this
        rw [hj2] at hrr ⊢
        simp only [Lv.av, Lv.cells, List.map]
        refine Run.ops fun K hK => ?_
        simp
        try (simp (disch := omega) only [wrap_id])
        refine hK _ _ _ ?_; clear hK K
        refine nv ?_
        refine Run.keep [1, 2, 3, 6, 8, 9] ?_
        simp only [keepT, keepT.go, List.contains_cons]
        simp
        refine Run.cutAt 3 hh rfl (by omega) (by simp) (by simp) (by simp) rfl ?_
        simp
        refine nv ?_
        refine Run.reg fun K hK => ?_
        simp
        try (simp (disch := omega) only [wrap_id])
        refine hK _ _ _ ?_; clear hK K
        refine nv ?_
        refine IH (j + 1, ⟨c2, v2⟩) _ _ ⟨by simp; omega, hk2, hrr⟩ (by simp; omega) ?_ ?_
        · simp
          repeat' (first | exact WeakL.nil | apply WeakL.cons)
          all_goals first | exact Weak.junk _ | exact Weak.refl _ | exact Weak.nil _ | exact Weak.own _ _ _ | exact Weak.int (by omega)
        · simp [Lv.cells]
    · have hbe : (decide (a < 0) == metas) = false := by simpa using hm
      rw [if_neg hm] at hhit
      have hpart : partL vals metas (a, b) = (⟨0, [(a, b)]⟩, 0) := by unfold partL; rw [hhit]
      rw [hpart] at hrr
      simp only [ne_eq, not_true_eq_false, if_false] at hrr
      refine nv ?_
      refine Run.reg fun K hK => ?_
      simp [hbe]
      try (simp (disch := omega) only [wrap_id])
      refine hK _ _ _ ?_; clear hK K
      refine nv ?_
      refine Run.cond (b := false) (by simp) ?_
      simp only [Bool.false_eq_true, if_false]
      refine nv ?_
      refine Run.reg fun K hK => ?_
      simp
      try (simp (disch := omega) only [wrap_id])
      refine hK _ _ _ ?_; clear hK K
      refine nv ?_
      refine Run.call (args := [(Lv.mk oc ov).av, (Lv.mk 0 [(a, b)]).av]) rfl rfl (by simp [Lv.av, Lv.cells, varPs]) rfl (rjoin_any _ (hh.app (by simp)) ⟨oc, ov⟩ ⟨0, [(a, b)]⟩ (by simp only; omega) (by simp)) ?_ ?_
      rotate_left
      · rintro v h' ⟨hv, _⟩; cases hv
      rintro v h' ⟨hv, rfl⟩
      simp only [AOut.ret.injEq] at hv
      subst hv
      obtain ⟨⟨c2, v2⟩, hj2⟩ : ∃ q, joinL ⟨oc, ov⟩ ⟨0, [(a, b)]⟩ = q := ⟨_, rfl⟩
      have hk2 : KeyOk v2 := by
        have : KeyOk (joinL ⟨oc, ov⟩ ⟨0, [(a, b)]⟩).vars := hok.merge ⟨⟨by simp, trivial⟩, by simpa using k2⟩
        rw [hj2] at this
        exact this
      rw [hj2] at hrr ⊢
      simp only [Lv.av, Lv.cells, List.map]
      refine Run.ops fun K hK => ?_
      simp
      try (simp (disch := omega) only [wrap_id])
      refine hK _ _ _ ?_; clear hK K
      refine nv ?_
      refine Run.keep [1, 2, 3, 6, 8, 9] ?_
      simp only [keepT, keepT.go, List.contains_cons]
      simp
      refine Run.cutAt 3 hh rfl (by omega) (by simp) (by simp) (by simp) rfl ?_
      simp
      refine nv ?_
      refine Run.reg fun K hK => ?_
      simp
      try (simp (disch := omega) only [wrap_id])
      refine hK _ _ _ ?_; clear hK K
      refine nv ?_
      refine IH (j + 1, ⟨c2, v2⟩) _ _ ⟨by simp; omega, hk2, hrr⟩ (by simp; omega) ?_ ?_
      · simp
        repeat' (first | exact WeakL.nil | apply WeakL.cons)
        all_goals first | exact Weak.junk _ | exact Weak.refl _ | exact Weak.nil _ | exact Weak.own _ _ _ | exact Weak.int (by omega)
      · simp [Lv.cells]
  · have hje : j = vs.length := by omega
    subst hje
    rw [List.drop_length] at hrr
    simp only [replL] at hrr
    subst hrr
    refine nv ?_
    refine Run.cond (b := false) (by simp) ?_
    simp only [Bool.false_eq_true, if_false]
    refine nv ?_
    refine Run.exit rfl ?_
    refine nv ?_
    refine Run.reg fun K hK => ?_
    simp
    try (simp (disch := omega) only [wrap_id])
    refine hK _ _ _ ?_; clear hK K
    refine nv ?_
    refine Run.ret ?_
    refine Fin.ret' (h0 := h) (by simp) rfl hh rfl (by simp; rfl) rfl (Weak.refl _) (by simp) ⟨rfl, rfl⟩

end Go.Proofs.YtcfcolkbeelegaaGreat
