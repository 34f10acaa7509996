/-
  term: Depth, Same; slices' Equal, EqualFunc.
-/
import Derived.Test.YtcfcolkbeelegaaGreatLD
import Derived.Test.YtcfcolkbeelegaaGreatLE1

namespace Go.Proofs.YtcfcolkbeelegaaGreat

open Go Go.AI
set_option maxRecDepth 4000 in
set_option maxHeartbeats 4000000 in
theorem tdepth_any (N : Nat) : ∀ (t : Tm) (h : Heap), t.size ≤ N → t.size ≤ 1099511627776 → WF h → ACalls Tryz.prog 146 [t.av] h fun o h' => o = .ret (iA t.depth) ∧ h' = h := by
  induction N with
  | zero => intro t h hN; cases t; simp [Tm.size] at hN
  | succ N ih =>
  intro t h hN hsz hh
  obtain ⟨k, i, n, ls, ks⟩ := t
  simp only [Tm.size] at hN hsz
  have hll := length_le_sizes ks
  refine ACalls.of_run Tryz.func146 rfl ?_
  simp only [Tryz.ntmps146, List.length_cons, List.length_nil, Tm.av, cells_mk, List.map]
  refine nv ?_
  refine Run.reg fun K hK => ?_
  simp
  try (simp (disch := omega) only [wrap_id])
  refine hK _ _ _ ?_; clear hK K
  refine nv ?_
  refine Run.reg fun K hK => ?_
  simp
  try (simp (disch := omega) only [wrap_id])
  refine hK _ _ _ ?_; clear hK K
  refine nv ?_
  refine Run.reg fun K hK => ?_
  simp
  try (simp (disch := omega) only [wrap_id])
  refine hK _ _ _ ?_; clear hK K
  refine nv ?_
  refine Run.loopS [7, 8] (fun j : Nat => j ≤ ks.length) (fun j => ks.length - j) (fun j => [(3, iA (Tm.depths (ks.take j) : Nat)), (9, iA j)]) (fun _ => _) 0 (by simp) ?_ rfl ?_
  · simp [Tm.depths]
    repeat' (first | exact WeakL.nil | apply WeakL.cons)
    all_goals first | exact Weak.junk _ | exact Weak.refl _ | exact Weak.nil _ | exact Weak.own _ _ _ | exact Weak.int (by omega)
  · intro j hj IH
    simp
    refine nv ?_
    refine Run.reg fun K hK => ?_
    simp
    try (simp (disch := omega) only [wrap_id])
    refine hK _ _ _ ?_; clear hK K
    refine nv ?_
    by_cases hjl : j < ks.length
    · have hg : ks[j]? = some ks[j] := List.getElem?_eq_getElem hjl
      have hs := kid_size hjl
      have htk : ks.take (j + 1) = ks.take j ++ [ks[j]] := List.take_succ_eq_append_getElem hjl
      have hd1 := depth_le_size ks[j]
      have hd2 := depths_take_le ks j
      refine nv ?_
      refine Run.cond (b := true) (by simp [hjl]) ?_
      simp only [if_true]
      refine nv ?_
      refine Run.reg fun K hK => ?_
      simp [hg]
      try (simp (disch := omega) only [wrap_id])
      refine hK _ _ _ ?_; clear hK K
      refine nv ?_
      refine Run.reg fun K hK => ?_
      simp
      try (simp (disch := omega) only [wrap_id])
      refine hK _ _ _ ?_; clear hK K
      refine nv ?_
      refine Run.call (args := [ks[j].av]) rfl rfl (by simp) rfl (ih ks[j] _ (by omega) (by omega) (hh.app (by simp))) ?_ ?_
      · rintro v h' ⟨hv, rfl⟩
        simp only [AOut.ret.injEq] at hv
        subst hv
        refine Run.ops fun K hK => ?_
        simp
        try (simp (disch := omega) only [wrap_id])
        refine hK _ _ _ ?_; clear hK K
        refine nv ?_
        refine Run.reg fun K hK => ?_
        simp
        try (simp (disch := omega) only [wrap_id])
        refine hK _ _ _ ?_; clear hK K
        refine nv ?_
        refine Run.keep [3, 7, 8, 9] ?_
        simp
        refine Run.cutAt 1 hh rfl (by omega) (by simp) (by simp) (by simp) rfl ?_
        refine IH (j + 1) _ _ (by omega) (by omega) ?_ (by simp)
        rw [htk, depths_snoc]
        simp
        repeat' (first | exact WeakL.nil | apply WeakL.cons)
        all_goals first | exact Weak.junk _ | exact Weak.refl _ | exact Weak.int (by omega) | (refine Weak.int ?_; split <;> omega)
      · rintro v h' ⟨hv, _⟩; cases hv
    · have hje : j = ks.length := by omega
      subst hje
      rw [List.take_length]
      have hd2 := depths_le_sizes ks
      refine nv ?_
      refine Run.cond (b := false) (by simp) ?_
      simp only [Bool.false_eq_true, if_false]
      refine nv ?_
      refine Run.exit rfl ?_
      refine nv ?_
      repeat (first
        | refine Run.seq ?_ | refine Run.block ?_ | refine Run.skip ?_ | refine Run.inBlock ?_ | refine Run.opsNil ?_
        | (refine Run.reg fun K hK => ?_; simp; (try (simp (disch := omega) only [wrap_id])); refine hK _ _ _ ?_; clear hK K)
        | (refine Run.cond (b := true) rfl ?_; simp only [if_true])
        | (refine Run.cond (b := false) rfl ?_; simp only [Bool.false_eq_true, if_false])
        | refine Run.exit rfl ?_ | refine Run.ret ?_)
      refine Fin.ret' (by simp) rfl hh rfl rfl rfl (Weak.refl _) rfl ⟨by simp [Tm.depth], rfl⟩
@[simp] theorem patch2 (a b : AV) (t : Lv) : patch [a, b] 0 (t.cells.map AV.p) = t.cells.map AV.p := by cases t; rfl
def eqVars (xs ys : List (Int × Int)) : Bool := !((xs.length : Int) != ys.length) && allTo (varsAt xs ys) xs.length
set_option maxRecDepth 8000 in
set_option maxHeartbeats 4000000 in
theorem eqVars_any (h : Heap) (hh : WF h) (xs ys : List (Int × Int)) (hb : xs.length ≤ 1048576) : ACalls Tryz.prog 183 [.p (.sl 2 (varPs xs)), .p (.sl 2 (varPs ys))] h fun o h' => o = .ret (bA (eqVars xs ys)) ∧ h' = h := by
  refine ACalls.of_run Tryz.func183 rfl ?_
  simp only [Tryz.ntmps183, List.length_cons, List.length_nil]
  refine nv ?_
  refine Run.reg fun K hK => ?_
  simp
  try (simp (disch := omega) only [wrap_id])
  refine hK _ _ _ ?_; clear hK K
  refine nv ?_
  refine Run.reg fun K hK => ?_
  simp
  try (simp (disch := omega) only [wrap_id])
  refine hK _ _ _ ?_; clear hK K
  refine nv ?_
  by_cases hl : xs.length = ys.length
  · have h0 : ((xs.length : Int) != ys.length) = false := by simp [hl]
    refine nv ?_
    refine Run.cond (b := false) (by simp [hl]) ?_
    simp only [Bool.false_eq_true, if_false]
    refine nv ?_
    refine Run.reg fun K hK => ?_
    simp
    try (simp (disch := omega) only [wrap_id])
    refine hK _ _ _ ?_; clear hK K
    refine nv ?_
    refine Run.loopS [0, 1, 11, 12] (fun j : Nat => j ≤ xs.length ∧ allTo (varsAt xs ys) j = true) (fun j => xs.length - j) (fun j => [(13, iA j)]) (fun _ => _) 0 (by simp [allTo]) ?_ rfl ?_
    · simp
      repeat' (first | exact WeakL.nil | apply WeakL.cons)
      all_goals first | exact Weak.junk _ | exact Weak.refl _ | exact Weak.nil _ | exact Weak.own _ _ _ | exact Weak.int (by omega)
    · rintro j ⟨hj, hall⟩ IH
      simp
      refine nv ?_
      refine Run.reg fun K hK => ?_
      simp
      try (simp (disch := omega) only [wrap_id])
      refine hK _ _ _ ?_; clear hK K
      refine nv ?_
      by_cases hjl : j < xs.length
      · have hg : xs[j]? = some xs[j] := List.getElem?_eq_getElem hjl
        have hg' : ys[j]? = some ys[j] := List.getElem?_eq_getElem (by omega)
        generalize xs[j] = u at hg
        generalize ys[j]'(by omega) = v at hg'
        obtain ⟨x, y⟩ := u
        obtain ⟨x', y'⟩ := v
        refine nv ?_
        refine Run.cond (b := true) (by simp [hjl]) ?_
        simp only [if_true]
        refine nv ?_
        refine Run.reg fun K hK => ?_
        simp
        try (simp (disch := omega) only [wrap_id])
        refine hK _ _ _ ?_; clear hK K
        refine nv ?_
        refine Run.draw [0, 0, 0, 0, 0, 0, 0, 0, 0] [0, 0, 0, 0, 0, 0, 0, 0, 0] [0, 0, 3, 7, 0, 0, 48, 112, 255] [0, 1, 2, 3, 4, 5, 6, 7, 8] (by kernel_rfl) (by kernel_rfl) ?_
        refine DR.go fun K hK => ?_
        simp [hg, hg']
        try (simp (disch := omega) only [wrap_id])
        refine hK _ _ _ _ ?_; clear hK K
        change Run _ _ _ _ _ _ _ _
        refine nv ?_
        refine Run.condB rfl (fun h1 => ?_) (fun h1 => ?_)
        · repeat (first
            | refine Run.seq ?_ | refine Run.block ?_ | refine Run.skip ?_ | refine Run.inBlock ?_ | refine Run.opsNil ?_
            | (refine Run.reg fun K hK => ?_; simp; (try (simp (disch := omega) only [wrap_id])); refine hK _ _ _ ?_; clear hK K)
            | (refine Run.cond (b := true) rfl ?_; simp only [if_true])
            | (refine Run.cond (b := false) rfl ?_; simp only [Bool.false_eq_true, if_false])
            | refine Run.exit rfl ?_ | refine Run.ret ?_)
          have h2 : sameVar (x, y) (x', y') = false := by simp only [sameVar]; simp at h1 ⊢; omega
          have := allTo_false (p := varsAt xs ys) hjl (by simp only [varsAt, hg, hg', h2])
          exact Fin.ret' (by simp) rfl hh (List.append_nil _).symm rfl rfl (Weak.refl _) rfl ⟨by simp only [eqVars, this]; simp, rfl⟩
        · refine nv ?_
          refine Run.reg fun K hK => ?_
          simp
          try (simp (disch := omega) only [wrap_id])
          refine hK _ _ _ ?_; clear hK K
          refine nv ?_
          have h2 : sameVar (x, y) (x', y') = true := by simpa [sameVar] using h1
          refine IH (j + 1) _ _ ⟨by omega, by rw [allTo_succ, hall]; simp only [varsAt, hg, hg', h2]; rfl⟩ (by omega) ?_ rfl
          simp
          repeat' (first | exact WeakL.nil | apply WeakL.cons)
          all_goals first | exact Weak.junk _ | exact Weak.refl _ | exact Weak.nil _ | exact Weak.own _ _ _ | exact Weak.int (by omega)
      · have hje : j = xs.length := by omega
        subst hje
        refine nv ?_
        refine Run.cond (b := false) (by simp) ?_
        simp only [Bool.false_eq_true, if_false]
        refine nv ?_
        refine Run.exit rfl ?_
        refine nv ?_
        repeat (first
          | refine Run.seq ?_ | refine Run.block ?_ | refine Run.skip ?_ | refine Run.inBlock ?_ | refine Run.opsNil ?_
          | (refine Run.reg fun K hK => ?_; simp; (try (simp (disch := omega) only [wrap_id])); refine hK _ _ _ ?_; clear hK K)
          | (refine Run.cond (b := true) rfl ?_; simp only [if_true])
          | (refine Run.cond (b := false) rfl ?_; simp only [Bool.false_eq_true, if_false])
          | refine Run.exit rfl ?_ | refine Run.ret ?_)
        exact Fin.ret' (by simp) rfl hh (List.append_nil _).symm rfl rfl (Weak.refl _) rfl ⟨by simp only [eqVars, h0, hall]; simp, rfl⟩
  · have h0 : ((xs.length : Int) != ys.length) = true := by simp; omega
    have hl' : ¬ (xs.length : Int) = ys.length := by omega
    refine nv ?_
    refine Run.cond (b := true) (by simp [hl']) ?_
    simp only [if_true]
    refine nv ?_
    repeat (first
      | refine Run.seq ?_ | refine Run.block ?_ | refine Run.skip ?_ | refine Run.inBlock ?_ | refine Run.opsNil ?_
      | (refine Run.reg fun K hK => ?_; simp; (try (simp (disch := omega) only [wrap_id])); refine hK _ _ _ ?_; clear hK K)
      | (refine Run.cond (b := true) rfl ?_; simp only [if_true])
      | (refine Run.cond (b := false) rfl ?_; simp only [Bool.false_eq_true, if_false])
      | refine Run.exit rfl ?_ | refine Run.ret ?_)
    exact Fin.ret' (by simp) rfl hh (List.append_nil _).symm rfl rfl (Weak.refl _) rfl ⟨by simp only [eqVars, h0]; simp, rfl⟩
theorem sameLv_eq (a b : Lv) : sameLv a b = (a.c == b.c && eqVars a.vars b.vars) := by
  simp only [sameLv, eqVars]
  cases h1 : a.c != b.c <;> cases h2 : (a.vars.length : Int) != b.vars.length <;> simp_all
set_option maxRecDepth 8000 in
set_option maxHeartbeats 4000000 in
theorem sameLevel_any (h : Heap) (hh : WF h) (a b : Lv) (hb : a.vars.length ≤ 1048576) : ACalls Tryz.prog 142 [a.av, b.av] h fun o h' => o = .ret (bA (sameLv a b)) ∧ h' = h := by
  rw [sameLv_eq]
  obtain ⟨c, vs⟩ := a
  obtain ⟨c', vs'⟩ := b
  simp only at hb ⊢
  have he := eqVars_any (h ++ [some (.cells [iA c, .p (.sl 2 (varPs vs))]), some (.cells [iA c', .p (.sl 2 (varPs vs'))])]) (hh.app (by simp)) vs vs' hb
  simp only [Lv.av, Lv.cells, List.map]
  refine ACalls.of_run Tryz.func142 rfl ?_
  simp only [Tryz.ntmps142, List.length_cons, List.length_nil]
  refine nv ?_
  refine Run.reg fun K hK => ?_
  simp
  try (simp (disch := omega) only [wrap_id])
  refine hK _ _ _ ?_; clear hK K
  refine nv ?_
  cases h1 : c == c' with
  | false =>
    refine nv ?_
    refine Run.reg fun K hK => ?_
    simp [h1]
    try (simp (disch := omega) only [wrap_id])
    refine hK _ _ _ ?_; clear hK K
    refine nv ?_
    refine Run.ret ?_
    exact Fin.ret' (by simp) rfl hh rfl rfl rfl (Weak.refl _) rfl ⟨rfl, rfl⟩
  | true =>
    refine nv ?_
    refine Run.reg fun K hK => ?_
    simp [h1]
    try (simp (disch := omega) only [wrap_id])
    refine hK _ _ _ ?_; clear hK K
    refine nv ?_
    refine Run.call rfl (by simp) (by simp) rfl he ?_ ?_
    · rintro v h' ⟨hv, rfl⟩
      simp only [AOut.ret.injEq] at hv
      subst hv
      refine Run.ops fun K hK => ?_
      simp
      try (simp (disch := omega) only [wrap_id])
      refine hK _ _ _ ?_; clear hK K
      refine nv ?_
      refine Run.ret ?_
      exact Fin.ret' (by simp) rfl hh rfl rfl rfl (Weak.of_eq (by simp [atuple])) rfl ⟨rfl, rfl⟩
    · rintro v h' ⟨hv, _⟩; cases hv
set_option maxRecDepth 8000 in
set_option maxHeartbeats 4000000 in
theorem eqLvs_any (h : Heap) (hh : WF h) (xs ys : List Lv) (hb : xs.length ≤ 1048576) (hbv : ∀ l ∈ xs, l.vars.length ≤ 1048576) :
    ACalls Tryz.prog 141 [.p (.sl 2 (lvPs xs)), .p (.sl 2 (lvPs ys)), .p (.prim (.func (.func 142) #[] #[]))] h fun o h' => o = .ret (bA (sameLvs xs ys)) ∧ h' = h := by
  refine ACalls.of_run Tryz.func141 rfl ?_
  simp only [Tryz.ntmps141, List.length_cons, List.length_nil]
  refine nv ?_
  refine Run.reg fun K hK => ?_
  simp
  try (simp (disch := omega) only [wrap_id])
  refine hK _ _ _ ?_; clear hK K
  refine nv ?_
  refine Run.reg fun K hK => ?_
  simp
  try (simp (disch := omega) only [wrap_id])
  refine hK _ _ _ ?_; clear hK K
  refine nv ?_
  by_cases hl : xs.length = ys.length
  · have h0 : ((xs.length : Int) != ys.length) = false := by simp [hl]
    refine nv ?_
    refine Run.cond (b := false) (by simp [hl]) ?_
    simp only [Bool.false_eq_true, if_false]
    refine nv ?_
    refine Run.reg fun K hK => ?_
    simp
    try (simp (disch := omega) only [wrap_id])
    refine hK _ _ _ ?_; clear hK K
    refine nv ?_
    refine Run.loopS [0, 1, 2, 15, 16] (fun j : Nat => j ≤ xs.length ∧ allTo (lvsAt xs ys) j = true) (fun j => xs.length - j) (fun j => [(17, iA j)]) (fun _ => _) 0 (by simp [allTo]) ?_ rfl ?_
    · simp
      repeat' (first | exact WeakL.nil | apply WeakL.cons)
      all_goals first | exact Weak.junk _ | exact Weak.refl _ | exact Weak.nil _ | exact Weak.own _ _ _ | exact Weak.int (by omega)
    · rintro j ⟨hj, hall⟩ IH
      simp
      refine nv ?_
      refine Run.reg fun K hK => ?_
      simp
      try (simp (disch := omega) only [wrap_id])
      refine hK _ _ _ ?_; clear hK K
      refine nv ?_
      by_cases hjl : j < xs.length
      · have hg : xs[j]? = some xs[j] := List.getElem?_eq_getElem hjl
        have hg' : ys[j]? = some ys[j] := List.getElem?_eq_getElem (by omega)
        have hv := hbv _ (List.getElem_mem hjl)
        generalize xs[j] = u at hg hv
        generalize ys[j]'(by omega) = v at hg'
        refine nv ?_
        refine Run.cond (b := true) (by simp [hjl]) ?_
        simp only [if_true]
        refine nv ?_
        refine Run.reg fun K hK => ?_
        simp [hg]
        try (simp (disch := omega) only [wrap_id])
        refine hK _ _ _ ?_; clear hK K
        refine nv ?_
        refine Run.reg fun K hK => ?_
        simp [hg']
        try (simp (disch := omega) only [wrap_id])
        refine hK _ _ _ ?_; clear hK K
        refine nv ?_
        refine Run.reg fun K hK => ?_
        simp
        try (simp (disch := omega) only [wrap_id])
        refine hK _ _ _ ?_; clear hK K
        refine nv ?_
        refine Run.call (args := [u.av, v.av]) rfl rfl (by simp) rfl (sameLevel_any _ (hh.app (by simp)) u v hv) ?_ ?_
        rotate_left
        · rintro v h' ⟨hv, _⟩; cases hv
        rintro v0 h' ⟨hv0, rfl⟩
        simp only [AOut.ret.injEq] at hv0
        subst hv0
        refine Run.ops fun K hK => ?_
        simp
        try (simp (disch := omega) only [wrap_id])
        refine hK _ _ _ ?_; clear hK K
        refine nv ?_
        refine Run.condB rfl (fun h1 => ?_) (fun h1 => ?_)
        · repeat (first
            | refine Run.seq ?_ | refine Run.block ?_ | refine Run.skip ?_ | refine Run.inBlock ?_ | refine Run.opsNil ?_
            | (refine Run.reg fun K hK => ?_; simp; (try (simp (disch := omega) only [wrap_id])); refine hK _ _ _ ?_; clear hK K)
            | (refine Run.cond (b := true) rfl ?_; simp only [if_true])
            | (refine Run.cond (b := false) rfl ?_; simp only [Bool.false_eq_true, if_false])
            | refine Run.exit rfl ?_ | refine Run.ret ?_)
          have h2 : sameLv u v = false := by simpa using h1
          have := allTo_false (p := lvsAt xs ys) hjl (by simp only [lvsAt, hg, hg', h2])
          exact Fin.ret' (by simp) rfl hh rfl rfl rfl (Weak.refl _) rfl ⟨by simp only [sameLvs, this]; simp, rfl⟩
        · refine nv ?_
          refine Run.reg fun K hK => ?_
          simp
          try (simp (disch := omega) only [wrap_id])
          refine hK _ _ _ ?_; clear hK K
          refine nv ?_
          have h2 : sameLv u v = true := by simpa using h1
          refine Run.keep [0, 1, 2, 15, 16, 17] ?_
          simp
          refine Run.cutAt 0 hh rfl (by omega) (by simp) (by simp) (by simp) rfl ?_
          refine IH (j + 1) _ _ ⟨by omega, by rw [allTo_succ, hall]; simp only [lvsAt, hg, hg', h2]; rfl⟩ (by omega) ?_ (by simp)
          simp
          repeat' (first | exact WeakL.nil | apply WeakL.cons)
          all_goals first | exact Weak.junk _ | exact Weak.refl _ | exact Weak.nil _ | exact Weak.own _ _ _ | exact Weak.int (by omega)
      · have hje : j = xs.length := by omega
        subst hje
        refine nv ?_
        refine Run.cond (b := false) (by simp) ?_
        simp only [Bool.false_eq_true, if_false]
        refine nv ?_
        refine Run.exit rfl ?_
        refine nv ?_
        repeat (first
          | refine Run.seq ?_ | refine Run.block ?_ | refine Run.skip ?_ | refine Run.inBlock ?_ | refine Run.opsNil ?_
          | (refine Run.reg fun K hK => ?_; simp; (try (simp (disch := omega) only [wrap_id])); refine hK _ _ _ ?_; clear hK K)
          | (refine Run.cond (b := true) rfl ?_; simp only [if_true])
          | (refine Run.cond (b := false) rfl ?_; simp only [Bool.false_eq_true, if_false])
          | refine Run.exit rfl ?_ | refine Run.ret ?_)
        exact Fin.ret' (by simp) rfl hh (List.append_nil _).symm rfl rfl (Weak.refl _) rfl ⟨by simp only [sameLvs, h0, hall]; simp, rfl⟩
  · have h0 : ((xs.length : Int) != ys.length) = true := by simp; omega
    have hl' : ¬ (xs.length : Int) = ys.length := by omega
    refine nv ?_
    refine Run.cond (b := true) (by simp [hl']) ?_
    simp only [if_true]
    refine nv ?_
    repeat (first
      | refine Run.seq ?_ | refine Run.block ?_ | refine Run.skip ?_ | refine Run.inBlock ?_ | refine Run.opsNil ?_
      | (refine Run.reg fun K hK => ?_; simp; (try (simp (disch := omega) only [wrap_id])); refine hK _ _ _ ?_; clear hK K)
      | (refine Run.cond (b := true) rfl ?_; simp only [if_true])
      | (refine Run.cond (b := false) rfl ?_; simp only [Bool.false_eq_true, if_false])
      | refine Run.exit rfl ?_ | refine Run.ret ?_)
    exact Fin.ret' (by simp) rfl hh (List.append_nil _).symm rfl rfl (Weak.refl _) rfl ⟨by simp only [sameLvs, h0]; simp, rfl⟩
set_option maxRecDepth 8000 in
set_option maxHeartbeats 4000000 in
theorem eqTms_any (h : Heap) (hh : WF h) (xs ys : List Tm) (hb : xs.length ≤ 1099511627776) (H : ∀ u ∈ xs, ∀ (v : Tm) (h : Heap), WF h → ACalls Tryz.prog 88 [u.av, v.av] h fun o h' => o = .ret (bA (sameT u v)) ∧ h' = h) :
    ACalls Tryz.prog 143 [.p (.sl 5 (tmPs xs)), .p (.sl 5 (tmPs ys)), .p (.prim (.func (.func 88) #[] #[]))] h fun o h' => o = .ret (bA (!((xs.length : Int) != ys.length) && sameTs xs ys)) ∧ h' = h := by
  rw [sameTs_at]
  refine ACalls.of_run Tryz.func143 rfl ?_
  simp only [Tryz.ntmps143, List.length_cons, List.length_nil]
  refine nv ?_
  refine Run.reg fun K hK => ?_
  simp
  try (simp (disch := omega) only [wrap_id])
  refine hK _ _ _ ?_; clear hK K
  refine nv ?_
  refine Run.reg fun K hK => ?_
  simp
  try (simp (disch := omega) only [wrap_id])
  refine hK _ _ _ ?_; clear hK K
  refine nv ?_
  by_cases hl : xs.length = ys.length
  · have h0 : ((xs.length : Int) != ys.length) = false := by simp [hl]
    rw [h0]
    refine nv ?_
    refine Run.cond (b := false) (by simp) ?_
    simp only [Bool.false_eq_true, if_false]
    refine nv ?_
    refine Run.reg fun K hK => ?_
    simp
    try (simp (disch := omega) only [wrap_id])
    refine hK _ _ _ ?_; clear hK K
    refine nv ?_
    refine Run.loopS [0, 1, 2, 15, 16] (fun j : Nat => j ≤ xs.length ∧ allTo (tmsAt xs ys) j = true) (fun j => xs.length - j) (fun j => [(17, iA j)]) (fun _ => _) 0 (by simp [allTo]) ?_ rfl ?_
    · simp
      repeat' (first | exact WeakL.nil | apply WeakL.cons)
      all_goals first | exact Weak.junk _ | exact Weak.refl _ | exact Weak.nil _ | exact Weak.own _ _ _ | exact Weak.int (by omega)
    · rintro j ⟨hj, hall⟩ IH
      simp
      refine nv ?_
      refine Run.reg fun K hK => ?_
      simp
      try (simp (disch := omega) only [wrap_id])
      refine hK _ _ _ ?_; clear hK K
      refine nv ?_
      by_cases hjl : j < xs.length
      · have hg : xs[j]? = some xs[j] := List.getElem?_eq_getElem hjl
        have hg' : ys[j]? = some ys[j] := List.getElem?_eq_getElem (by omega)
        have hv := H _ (List.getElem_mem hjl)
        generalize xs[j] = u at hg hv
        generalize ys[j]'(by omega) = v at hg'
        refine nv ?_
        refine Run.cond (b := true) (by simp [hjl]) ?_
        simp only [if_true]
        refine nv ?_
        refine Run.reg fun K hK => ?_
        simp [hg]
        try (simp (disch := omega) only [wrap_id])
        refine hK _ _ _ ?_; clear hK K
        refine nv ?_
        refine Run.reg fun K hK => ?_
        simp [hg']
        try (simp (disch := omega) only [wrap_id])
        refine hK _ _ _ ?_; clear hK K
        refine nv ?_
        refine Run.reg fun K hK => ?_
        simp
        try (simp (disch := omega) only [wrap_id])
        refine hK _ _ _ ?_; clear hK K
        refine nv ?_
        refine Run.call (args := [u.av, v.av]) rfl rfl (by simp) rfl (hv v _ (hh.app (by simp))) ?_ ?_
        rotate_left
        · rintro v h' ⟨hv, _⟩; cases hv
        rintro v0 h' ⟨hv0, rfl⟩
        simp only [AOut.ret.injEq] at hv0
        subst hv0
        refine Run.ops fun K hK => ?_
        simp
        try (simp (disch := omega) only [wrap_id])
        refine hK _ _ _ ?_; clear hK K
        refine nv ?_
        refine Run.condB rfl (fun h1 => ?_) (fun h1 => ?_)
        · repeat (first
            | refine Run.seq ?_ | refine Run.block ?_ | refine Run.skip ?_ | refine Run.inBlock ?_ | refine Run.opsNil ?_
            | (refine Run.reg fun K hK => ?_; simp; (try (simp (disch := omega) only [wrap_id])); refine hK _ _ _ ?_; clear hK K)
            | (refine Run.cond (b := true) rfl ?_; simp only [if_true])
            | (refine Run.cond (b := false) rfl ?_; simp only [Bool.false_eq_true, if_false])
            | refine Run.exit rfl ?_ | refine Run.ret ?_)
          have h2 : sameT u v = false := by simpa using h1
          have := allTo_false (p := tmsAt xs ys) hjl (by simp only [tmsAt, hg, hg', h2])
          exact Fin.ret' (by simp) rfl hh rfl rfl rfl (Weak.refl _) rfl ⟨by simp only [this]; simp, rfl⟩
        · refine nv ?_
          refine Run.reg fun K hK => ?_
          simp
          try (simp (disch := omega) only [wrap_id])
          refine hK _ _ _ ?_; clear hK K
          refine nv ?_
          have h2 : sameT u v = true := by simpa using h1
          refine Run.keep [0, 1, 2, 15, 16, 17] ?_
          simp
          refine Run.cutAt 0 hh rfl (by omega) (by simp) (by simp) (by simp) rfl ?_
          refine IH (j + 1) _ _ ⟨by omega, by rw [allTo_succ, hall]; simp only [tmsAt, hg, hg', h2]; rfl⟩ (by omega) ?_ (by simp)
          simp
          repeat' (first | exact WeakL.nil | apply WeakL.cons)
          all_goals first | exact Weak.junk _ | exact Weak.refl _ | exact Weak.nil _ | exact Weak.own _ _ _ | exact Weak.int (by omega)
      · have hje : j = xs.length := by omega
        subst hje
        refine nv ?_
        refine Run.cond (b := false) (by simp) ?_
        simp only [Bool.false_eq_true, if_false]
        refine nv ?_
        refine Run.exit rfl ?_
        refine nv ?_
        repeat (first
          | refine Run.seq ?_ | refine Run.block ?_ | refine Run.skip ?_ | refine Run.inBlock ?_ | refine Run.opsNil ?_
          | (refine Run.reg fun K hK => ?_; simp; (try (simp (disch := omega) only [wrap_id])); refine hK _ _ _ ?_; clear hK K)
          | (refine Run.cond (b := true) rfl ?_; simp only [if_true])
          | (refine Run.cond (b := false) rfl ?_; simp only [Bool.false_eq_true, if_false])
          | refine Run.exit rfl ?_ | refine Run.ret ?_)
        exact Fin.ret' (by simp) rfl hh (List.append_nil _).symm rfl rfl (Weak.refl _) rfl ⟨by simp only [hall]; simp, rfl⟩
  · have h0 : ((xs.length : Int) != ys.length) = true := by simp; omega
    have hl' : ¬ (xs.length : Int) = ys.length := by omega
    rw [h0]
    refine nv ?_
    refine Run.cond (b := true) (by simp) ?_
    simp only [if_true]
    refine nv ?_
    repeat (first
      | refine Run.seq ?_ | refine Run.block ?_ | refine Run.skip ?_ | refine Run.inBlock ?_ | refine Run.opsNil ?_
      | (refine Run.reg fun K hK => ?_; simp; (try (simp (disch := omega) only [wrap_id])); refine hK _ _ _ ?_; clear hK K)
      | (refine Run.cond (b := true) rfl ?_; simp only [if_true])
      | (refine Run.cond (b := false) rfl ?_; simp only [Bool.false_eq_true, if_false])
      | refine Run.exit rfl ?_ | refine Run.ret ?_)
    exact Fin.ret' (by simp) rfl hh (List.append_nil _).symm rfl rfl (Weak.refl _) rfl ⟨by simp, rfl⟩
set_option maxRecDepth 8000 in
set_option maxHeartbeats 4000000 in
theorem tsame_any (N : Nat) : ∀ (a b : Tm) (h : Heap), a.size ≤ N → a.size ≤ 1099511627776 → a.lvs → WF h → ACalls Tryz.prog 88 [a.av, b.av] h fun o h' => o = .ret (bA (sameT a b)) ∧ h' = h := by
  induction N with
  | zero => intro t _ h hN; cases t; simp [Tm.size] at hN
  | succ N ih =>
  intro a b h hN hsz hlv hh
  obtain ⟨k, i, n, ls, ks⟩ := a
  obtain ⟨k', i', n', ls', ks'⟩ := b
  simp only [Tm.size] at hN hsz
  simp only [Tm.lvs] at hlv
  have hll := length_le_sizes ks
  obtain ⟨H, hH⟩ : ∃ H : Heap, H = h ++ [some (.cells [iA k, iA i, .p (sP n), .p (.sl 2 (lvPs ls)), .p (.sl 5 (tmPs ks))]), some (.cells [iA k', iA i', .p (sP n'), .p (.sl 2 (lvPs ls')), .p (.sl 5 (tmPs ks'))])] := ⟨_, rfl⟩
  have hwf : WF H := by rw [hH]; exact hh.app (by simp)
  have hlvs := eqLvs_any H hwf ls ls' hlv.1 hlv.2.1
  have htms := eqTms_any H hwf ks ks' (by omega) (fun u hu v h hh => by
    obtain ⟨j, hj, rfl⟩ := List.mem_iff_getElem.1 hu
    have := kid_size hj
    exact ih _ v h (by omega) (by omega) (Tm.lvss_at hlv.2.2 _ hu) hh)
  rw [hH] at hlvs htms
  refine ACalls.of_run Tryz.func88 rfl ?_
  simp only [Tryz.ntmps88, List.length_cons, List.length_nil, Tm.av, cells_mk, List.map]
  refine nv ?_
  refine Run.reg fun K hK => ?_
  simp
  try (simp (disch := omega) only [wrap_id])
  refine hK _ _ _ ?_; clear hK K
  refine nv ?_
  have hst : sameT (.mk k i n ls ks) (.mk k' i' n' ls' ks') = (!(k != k') && (!(i != i') && ((n == n') && (sameLvs ls ls' && (!((ks.length : Int) != ks'.length) && sameTs ks ks'))))) := by
    simp only [sameT, sameHead, Tm.kind, Tm.index, Tm.name, Tm.levels, Tm.kids]
    cases k != k' <;> cases i != i' <;> cases n == n' <;> cases sameLvs ls ls' <;> cases (ks.length : Int) != ks'.length <;> simp
  rw [hst]
  cases c1 : k == k' with
  | false =>
    have c1' : (k != k') = true := by simp only [bne, c1]; rfl
    refine nv ?_
    refine Run.reg fun K hK => ?_
    simp [c1]
    try (simp (disch := omega) only [wrap_id])
    refine hK _ _ _ ?_; clear hK K
    refine nv ?_
    refine Run.ret ?_
    exact Fin.ret' (by simp) rfl hh rfl rfl rfl (Weak.refl _) rfl ⟨by rw [c1']; rfl, rfl⟩
  | true =>
  have c1' : (k != k') = false := by simp only [bne, c1]; rfl
  cases c2 : i == i' with
  | false =>
    have c2' : (i != i') = true := by simp only [bne, c2]; rfl
    refine nv ?_
    refine Run.reg fun K hK => ?_
    simp [c1, c2]
    try (simp (disch := omega) only [wrap_id])
    refine hK _ _ _ ?_; clear hK K
    refine nv ?_
    refine Run.ret ?_
    exact Fin.ret' (by simp) rfl hh rfl rfl rfl (Weak.refl _) rfl ⟨by rw [c1', c2']; rfl, rfl⟩
  | true =>
  have c2' : (i != i') = false := by simp only [bne, c2]; rfl
  cases c3 : n == n' with
  | false =>
    refine nv ?_
    refine Run.reg fun K hK => ?_
    simp [c1, c2, c3]
    try (simp (disch := omega) only [wrap_id])
    refine hK _ _ _ ?_; clear hK K
    refine nv ?_
    refine Run.ret ?_
    exact Fin.ret' (by simp) rfl hh rfl rfl rfl (Weak.refl _) rfl ⟨by rw [c1', c2']; rfl, rfl⟩
  | true =>
  refine nv ?_
  refine Run.reg fun K hK => ?_
  simp [c1, c2, c3]
  try (simp (disch := omega) only [wrap_id])
  refine hK _ _ _ ?_; clear hK K
  refine nv ?_
  refine Run.call rfl (by simp) (by simp) rfl hlvs ?_ ?_
  rotate_left
  · rintro v h' ⟨hv, _⟩; cases hv
  rintro v0 h' ⟨hv0, rfl⟩
  simp only [AOut.ret.injEq] at hv0
  subst hv0
  cases c4 : sameLvs ls ls' with
  | false =>
    refine Run.ops fun K hK => ?_
    simp
    try (simp (disch := omega) only [wrap_id])
    refine hK _ _ _ ?_; clear hK K
    refine nv ?_
    refine Run.ret ?_
    exact Fin.ret' (by simp) rfl hh rfl rfl rfl (Weak.refl _) rfl ⟨by rw [c1', c2']; rfl, rfl⟩
  | true =>
  refine Run.ops fun K hK => ?_
  simp
  try (simp (disch := omega) only [wrap_id])
  refine hK _ _ _ ?_; clear hK K
  refine nv ?_
  refine Run.call rfl (by simp) (by simp) rfl htms ?_ ?_
  rotate_left
  · rintro v h' ⟨hv, _⟩; cases hv
  rintro v0 h' ⟨hv0, rfl⟩
  simp only [AOut.ret.injEq] at hv0
  subst hv0
  refine Run.ops fun K hK => ?_
  simp
  try (simp (disch := omega) only [wrap_id])
  refine hK _ _ _ ?_; clear hK K
  refine nv ?_
  refine Run.ret ?_
  exact Fin.ret' (by simp) rfl hh rfl rfl rfl (Weak.refl _) rfl ⟨by rw [c1', c2']; rfl, rfl⟩

end Go.Proofs.YtcfcolkbeelegaaGreat
