/-
  The reference's levels: number, Plus, join.
-/
import Derived.Test.YtcfcolkbeelegaaGreatLLC
import Derived.Test.YtcfcolkbeelegaaGreatLD
import Derived.Test.YtcfcolkbeelegaaGreatLE8

namespace Go.Proofs.YtcfcolkbeelegaaGreat

open Go Go.AI
set_option maxRecDepth 8000 in
theorem rnumber_any (h : Heap) (hh : WF h) (c : Int) : ACalls Tryz.prog 198 [iA c] h fun o h' => o = .ret ((⟨c, []⟩ : Lv).av) ∧ h' = h := by
  refine ACalls.of_run Tryz.func198 rfl ?_
  simp only [Tryz.ntmps198, List.length_cons, List.length_nil]
  refine nv ?_
  refine Run.reg fun K hK => ?_
  simp
  try (simp (disch := omega) only [wrap_id])
  refine hK _ _ _ ?_; clear hK K
  refine nv ?_
  refine Run.reg fun K hK => ?_
  simp
  try (simp (disch := omega) only [wrap_id])
  refine hK _ _ _ ?_; clear hK K
  refine nv ?_
  refine Run.ret ?_
  refine Fin.ret' (h0 := h) (by simp) rfl hh rfl (by simp; rfl) rfl (y := .agg [iA c, .p (.sl 2 (varPs []))]) ?_ (by simp) ⟨rfl, rfl⟩
  refine Weak.agg ?_
  repeat' (first | exact WeakL.nil | apply WeakL.cons)
  all_goals first | exact Weak.junk _ | exact Weak.refl _ | exact Weak.nil _ | exact Weak.own _ _ _ | exact Weak.int (by omega)
theorem plusV_take (vs : List (Int × Int)) (n : Int) {j : Nat} {v : Int × Int} (h : vs[j]? = some v) : plusV (vs.take (j + 1)) n = plusV (vs.take j) n ++ [(v.1, v.2 + n)] := by
  have e : vs.take (j + 1) = vs.take j ++ [v] := by rw [List.take_add_one, h]; rfl
  rw [e]; simp [plusV]
theorem plusV_length (vs : List (Int × Int)) (n : Int) : (plusV vs n).length = vs.length := by simp [plusV]
theorem varPs_snoc' (l : List (Int × Int)) (v : Int × Int) : varPs (l ++ [v]) = varPs l ++ [[iP v.1, iP v.2]] := by simp [varPs]
theorem all_take {vs : List (Int × Int)} {p : Int × Int → Bool} {j : Nat} {v : Int × Int} (h : vs[j]? = some v) (hv : p v = false) : vs.all p = false := by
  rw [List.all_eq_false]
  exact ⟨v, List.mem_of_getElem? h, by simp [hv]⟩
theorem all_snoc {vs : List (Int × Int)} {p : Int × Int → Bool} {j : Nat} {v : Int × Int} (h : vs[j]? = some v) (h0 : (vs.take j).all p = true) (hv : p v = true) : (vs.take (j + 1)).all p = true := by
  have e : vs.take (j + 1) = vs.take j ++ [v] := by rw [List.take_add_one, h]; rfl
  rw [e, List.all_append, h0]; simp [hv]
set_option maxRecDepth 8000 in
set_option maxHeartbeats 8000000 in
theorem rplus_any (h : Heap) (hh : WF h) (l : Lv) (n : Int) (hl : Vd l) (hlb : validB l = true) (hb : l.vars.length ≤ 1048576) (hn0 : 0 ≤ n) (hn1 : n ≤ 100) :
    ACalls Tryz.prog 199 [l.av, iA n] h fun o h' => o = .ret (.tup [(plusL l n).1.av, iA (plusL l n).2]) ∧ h' = h := by
  have hv := fun (g : Heap) (hg : WF g) => valid_any g hg l hb
  rw [hlb] at hv
  obtain ⟨c, vs⟩ := l
  have c0 := hl.c0
  have c1 := hl.c1
  have v0 := hl.v0
  have v1 := hl.v1
  simp only at hb c0 c1 v0 v1
  obtain ⟨r, hr⟩ : ∃ r, plusL ⟨c, vs⟩ n = r := ⟨_, rfl⟩
  rw [hr]
  unfold plusL at hr
  simp only at hr
  have w1 : IntKind.i64.wrap (c + n) = c + n := wrap_id (by omega) (by omega)
  simp only [Lv.av, Lv.cells, List.map] at hv ⊢
  have hn0' : ¬ n < 0 := by omega
  have hn1' : ¬ 100 < n := by omega
  refine ACalls.of_run Tryz.func199 rfl ?_
  simp only [Tryz.ntmps199, List.length_cons, List.length_nil]
  refine nv ?_
  refine Run.reg fun K hK => ?_
  simp
  try (simp (disch := omega) only [wrap_id])
  refine hK _ _ _ ?_; clear hK K
  refine nv ?_
  refine Run.reg fun K hK => ?_
  simp
  try (simp (disch := omega) only [wrap_id])
  refine hK _ _ _ ?_; clear hK K
  refine nv ?_
  refine Run.call rfl (by first | rfl | simp) (by simp) rfl (hv _ (hh.app (by simp))) ?_ ?_
  rotate_left
  · rintro v h' ⟨hv, _⟩; cases hv
  rintro v h' ⟨hv, rfl⟩
  simp only [AOut.ret.injEq] at hv
  subst hv
  refine Run.ops fun K hK => ?_
  simp
  try (simp (disch := omega) only [wrap_id])
  refine hK _ _ _ ?_; clear hK K
  refine nv ?_
  refine Run.cond (b := false) (by simp) ?_
  simp only [Bool.false_eq_true, if_false]
  refine nv ?_
  refine Run.reg fun K hK => ?_
  simp
  try (simp (disch := omega) only [wrap_id])
  refine hK _ _ _ ?_; clear hK K
  refine nv ?_
  refine Run.cond (b := false) (by simp [hn0']) ?_
  simp only [Bool.false_eq_true, if_false]
  refine nv ?_
  refine Run.reg fun K hK => ?_
  simp
  try (simp (disch := omega) only [wrap_id])
  refine hK _ _ _ ?_; clear hK K
  refine nv ?_
  refine Run.cond (b := false) (by simp [hn1']) ?_
  simp only [Bool.false_eq_true, if_false]
  refine nv ?_
  refine Run.reg fun K hK => ?_
  simp
  try (simp (disch := omega) only [wrap_id])
  refine hK _ _ _ ?_; clear hK K
  refine nv ?_
  obtain ⟨c2, hc2⟩ : ∃ c2, (if 0 < c ∨ vs = [] then c + n else 0) = c2 := ⟨_, rfl⟩
  rw [hc2] at hr
  have hge : 0 ≤ c2 := by rw [← hc2]; split <;> omega
  refine nv ?_
  refine Run.regJ [1, 2, 4, 5, 6] 27 (decide (0 < c) || decide ((vs.length : Int) = 0)) (fun K hK => ?_) ?_
  · simp
    repeat' (first | apply And.intro | intro _)
    all_goals
      try (simp (disch := omega) only [wrap_id])
      refine hK _ ?_
      simp
      repeat' (first | exact WeakL.nil | apply WeakL.cons)
      all_goals first | exact Weak.junk _ | (refine Weak.bool ?_; clear hK K; rw [Bool.eq_iff_iff]; simp; done) | (refine Weak.bool ?_; clear hK K; rw [Bool.eq_iff_iff]; simp; omega) | (refine Weak.bool ?_; clear hK K; simp_all; done) | (refine Weak.bool ?_; clear hK K; simp [*]; done) | (refine Weak.bool ?_; clear hK K; rw [Bool.eq_iff_iff]; simp [*]; omega) | exact Weak.refl _
  simp only [setMany, keepT, keepT.go, List.contains_cons, List.set_cons_succ, List.set_cons_zero]
  simp
  refine Run.joinH [1, 2, 4, 5, 6] [] (h ++ [some (.cells [iA c, .p (.sl 2 (varPs vs))]), some (.cells [iA 0, .p (.prim (.slice none 0 0))]), some (.cells [iA c2, .p (.prim (.slice none 0 0))])]) (fun hJ => ?_) ?_
  · by_cases hd : 0 < c ∨ vs = []
    · rw [if_pos hd] at hc2
      refine Run.cond (b := true) (by simp [hd]) ?_
      simp only [if_true]
      refine nv ?_
      refine Run.reg fun K hK => ?_
      simp [w1]
      try (simp (disch := omega) only [wrap_id])
      refine hK _ _ _ ?_; clear hK K
      repeat (first | refine Run.skip ?_ | refine Run.opsNil ?_ | refine Run.inBlock ?_)
      rw [hc2]
      refine hJ _ ?_
      simp
      repeat' (first | exact WeakL.nil | apply WeakL.cons)
      all_goals first | exact Weak.junk _ | exact Weak.refl _ | exact Weak.nil _ | exact Weak.own _ _ _ | exact Weak.int (by omega)
    · rw [if_neg hd] at hc2
      subst hc2
      have hd1 : c ≤ 0 ∧ ¬ vs = [] := ⟨Int.not_lt.1 fun x => hd (.inl x), fun x => hd (.inr x)⟩
      refine Run.cond (b := false) (by simp [hd1]) ?_
      simp only [Bool.false_eq_true, if_false]
      refine Run.skip ?_
      refine hJ _ ?_
      simp
      repeat' (first | exact WeakL.nil | apply WeakL.cons)
      all_goals first | exact Weak.junk _ | exact Weak.refl _ | exact Weak.nil _ | exact Weak.own _ _ _ | exact Weak.int (by omega)
  simp only [setMany, keepT, keepT.go, List.contains_cons]
  simp
  refine nv ?_
  refine Run.reg fun K hK => ?_
  simp
  try (simp (disch := omega) only [wrap_id])
  refine hK _ _ _ ?_; clear hK K
  refine nv ?_
  by_cases h100 : 100 < c2
  · refine nv ?_
    refine Run.cond (b := true) (by simp [h100]) ?_
    simp only [if_true]
    refine nv ?_
    rw [if_pos h100] at hr
    subst hr
    refine nv ?_
    refine Run.reg fun K hK => ?_
    simp
    try (simp (disch := omega) only [wrap_id])
    refine hK _ _ _ ?_; clear hK K
    refine nv ?_
    refine Run.ret ?_
    refine Fin.ret' (h0 := h) (by simp) rfl hh rfl (by simp; rfl) rfl (y := .tup [.agg [iA 0, .p (.sl 2 (varPs []))], iA 15]) ?_ (by simp) ⟨rfl, rfl⟩
    refine Weak.tup (WeakL.cons (Weak.agg ?_) (WeakL.cons (Weak.refl _) WeakL.nil))
    repeat' (first | exact WeakL.nil | apply WeakL.cons)
    all_goals first | exact Weak.junk _ | exact Weak.refl _ | exact Weak.nil _ | exact Weak.own _ _ _ | exact Weak.int (by omega)
  rw [if_neg h100] at hr
  refine nv ?_
  refine Run.cond (b := false) (by simp [h100]) ?_
  simp only [Bool.false_eq_true, if_false]
  refine nv ?_
  refine Run.reg fun K hK => ?_
  simp
  try (simp (disch := omega) only [wrap_id])
  refine hK _ _ _ ?_; clear hK K
  refine nv ?_
  refine Run.tokAt (h.length + 2) 1 2 (by simp; rfl) (by simp) ?_
  simp
  refine Run.loopS [1, 2, 4, 6] (fun j : Nat => j ≤ vs.length ∧ (vs.take j).all (fun x => decide (x.2 + n ≤ 100)) = true) (fun j => vs.length - j) (fun j => [(7, iA j)])
    (fun j => h ++ [some (.cells [iA c, .p (.sl 2 (varPs vs))]), some (.cells [iA 0, .p (.prim (.slice none 0 0))]), some (.cells [iA c2, .own (h.length + 3) 2 (varPs (plusV (vs.take j) n))]), some (.tok j 2)]) 0 (by simp) ?_ (by simp [varPs, plusV]) ?_
  · simp
    repeat' (first | exact WeakL.nil | apply WeakL.cons)
    all_goals first | exact Weak.junk _ | exact Weak.refl _ | exact Weak.nil _ | exact Weak.own _ _ _ | exact Weak.int (by omega)
  rintro j ⟨hj, hall⟩ IH
  simp
  refine nv ?_
  refine Run.reg fun K hK => ?_
  simp
  try (simp (disch := omega) only [wrap_id])
  refine hK _ _ _ ?_; clear hK K
  refine nv ?_
  by_cases hjl : j < vs.length
  · have hg : vs[j]? = some vs[j] := List.getElem?_eq_getElem hjl
    have k0 := v0 _ (List.getElem_mem hjl)
    have k1 := v1 _ (List.getElem_mem hjl)
    have hpt := plusV_take vs n hg
    have hat := fun hp => all_take (p := fun x => decide (x.2 + n ≤ 100)) hg hp
    have has := all_snoc (p := fun x => decide (x.2 + n ≤ 100)) hg hall
    obtain ⟨⟨a, b⟩, hab⟩ : ∃ p, vs[j] = p := ⟨_, rfl⟩
    rw [hab] at hg k0 k1 hpt hat has
    simp only at k0 k1 hpt hat has
    have w2 : IntKind.i64.wrap (b + n) = b + n := wrap_id (by omega) (by omega)
    refine nv ?_
    refine Run.cond (b := true) (by simp [hjl]) ?_
    simp only [if_true]
    refine nv ?_
    refine Run.reg fun K hK => ?_
    simp [hg, w2]
    try (simp (disch := omega) only [wrap_id])
    refine hK _ _ _ ?_; clear hK K
    refine nv ?_
    by_cases hb1 : 100 < b + n
    · refine nv ?_
      refine Run.cond (b := true) (by simp [hb1]) ?_
      simp only [if_true]
      refine nv ?_
      rw [if_neg (by rw [hat (by simp; omega)]; simp)] at hr
      subst hr
      refine nv ?_
      refine Run.reg fun K hK => ?_
      simp
      try (simp (disch := omega) only [wrap_id])
      refine hK _ _ _ ?_; clear hK K
      refine nv ?_
      refine Run.ret ?_
      refine Fin.ret' (h0 := h) (by simp) rfl hh rfl (by simp; rfl) rfl (y := .tup [.agg [iA 0, .p (.sl 2 (varPs []))], iA 15]) ?_ (by simp) ⟨rfl, rfl⟩
      refine Weak.tup (WeakL.cons (Weak.agg ?_) (WeakL.cons (Weak.refl _) WeakL.nil))
      repeat' (first | exact WeakL.nil | apply WeakL.cons)
      all_goals first | exact Weak.junk _ | exact Weak.refl _ | exact Weak.nil _ | exact Weak.own _ _ _ | exact Weak.int (by omega)
    · have hb3 : (j + 1) * 16 ≤ 140737488355328 := by omega
      have hb4 : j + 1 ≤ 9223372036854775807 := by omega
      have hmin : min j vs.length = j := Nat.min_eq_left hj
      have hpl := plusV_length (vs.take j) n
      rw [List.length_take, hmin] at hpl
      refine nv ?_
      refine Run.cond (b := false) (by simp [hb1]) ?_
      simp only [Bool.false_eq_true, if_false]
      refine nv ?_
      refine Run.draw [0, 0, 0, 0, 0, 0, 0, 0, 0, 0, 0, 0, 0, 0, 0, 0, 0, 0, 0, 1, 1] [0, 0, 0, 0, 0, 0, 0, 0, 0, 0, 0, 0, 0, 0, 0, 0, 0, 0, 0, 0, 1] [0, 1, 0, 4, 0, 28, 60, 124, 0, 256, 0, 1792, 3840, 7936, 0, 32512, 65532, 131068, 262143, 524287, 1048575] [0, 1, 2, 3, 4, 5, 6, 7, 8, 9, 10, 11, 12, 13, 14, 15, 16, 17, 18, 19, 20] (by kernel_rfl) (by kernel_rfl) ?_
      refine DR.go fun K hK => ?_
      simp [hg, w2, hpl, hb3, hb4]
      try (simp (disch := omega) only [wrap_id])
      refine hK _ _ _ _ ?_; clear hK K
      change Run _ _ _ _ _ _ _ _
      refine nv ?_
      refine Run.reg fun K hK => ?_
      simp
      try (simp (disch := omega) only [wrap_id])
      refine hK _ _ _ ?_; clear hK K
      refine nv ?_
      refine IH (j + 1) _ _ ⟨by omega, has (by simp; omega)⟩ (by omega) ?_ ?_
      · simp
        repeat' (first | exact WeakL.nil | apply WeakL.cons)
        all_goals first | exact Weak.junk _ | exact Weak.refl _ | exact Weak.nil _ | exact Weak.own _ _ _ | exact Weak.int (by omega)
      · rw [hpt, varPs_snoc']
  · have hje : j = vs.length := by omega
    subst hje
    rw [List.take_length] at hall ⊢
    rw [if_pos hall] at hr
    subst hr
    refine nv ?_
    refine Run.cond (b := false) (by simp) ?_
    simp only [Bool.false_eq_true, if_false]
    refine nv ?_
    refine Run.exit rfl ?_
    refine nv ?_
    refine Run.reg fun K hK => ?_
    simp
    try (simp (disch := omega) only [wrap_id])
    refine hK _ _ _ ?_; clear hK K
    refine nv ?_
    refine Run.ret ?_
    refine Fin.ret' (h0 := h) (by simp) rfl hh rfl (by simp; rfl) rfl (y := .tup [.agg [iA c2, .p (.sl 2 (varPs (plusV vs n)))], iA 0]) ?_ (by simp) ⟨rfl, rfl⟩
    refine Weak.tup (WeakL.cons (Weak.agg ?_) (WeakL.cons (Weak.refl _) WeakL.nil))
    repeat' (first | exact WeakL.nil | apply WeakL.cons)
    all_goals first | exact Weak.junk _ | exact Weak.refl _ | exact Weak.nil _ | exact Weak.own _ _ _ | exact Weak.int (by omega)

end Go.Proofs.YtcfcolkbeelegaaGreat
