/-
  The law's Few.
-/
import Derived.Test.YtcfcolkbeelegaaGreatLE1
import Derived.Test.YtcfcolkbeelegaaGreatLE2

namespace Go.Proofs.YtcfcolkbeelegaaGreat

open Go Go.AI

mutual
def few1 : Tm → Bool
  | .mk _ _ n ls ks => !decide (200 < (n.length : Int)) && !decide (20 < (ls.length : Int)) && !anyLong ls && (!decide (200 < nd 200 0 ks) && fewAll ks)
def fewAll : List Tm → Bool
  | [] => true
  | t :: ts => few1 t && fewAll ts
end
def fews (l : List Tm) : Bool := !decide (200 < nd 200 0 l) && fewAll l
def few1At (l : List Tm) (j : Nat) : Bool := match l[j]? with | some t => few1 t | none => true
theorem fewAll_at : ∀ (l : List Tm), fewAll l = allTo (few1At l) l.length
  | [] => by simp [fewAll, allTo]
  | x :: l => by
    simp only [fewAll, fewAll_at l]
    rw [Bool.eq_iff_iff, Bool.and_eq_true, allTo_iff, allTo_iff]
    constructor
    · rintro ⟨h1, h2⟩ j hj
      cases j with
      | zero => simpa [few1At] using h1
      | succ j => simpa [few1At] using h2 j (by simpa using hj)
    · intro h
      exact ⟨by simpa [few1At] using h 0 (by simp), fun j hj => by simpa [few1At] using h (j + 1) (by simpa using hj)⟩
set_option maxRecDepth 8000 in
set_option maxHeartbeats 8000000 in
theorem few_any (N : Nat) : ∀ (l : List Tm) (h : Heap), Tm.sizes l ≤ N → Tm.sizes l ≤ 1099511627776 → Tm.lvss l → WF h →
    ACalls Tryz.prog 44 [.p (.sl 5 (tmPs l))] h fun o h' => o = .ret (bA (fews l)) ∧ h' = h := by
  induction N with
  | zero =>
    intro l h hN hsz hlv hh
    cases l with
    | cons x l => have := x.size_pos; simp only [Tm.sizes] at hN; omega
    | nil =>
    have hn := nodes_any 0 [] 200 h (by simp [Tm.sizes]) (by simp [Tm.sizes]) (by omega) (by omega) hh
    refine ACalls.of_run Tryz.func44 rfl ?_
    simp only [Tryz.ntmps44, List.length_cons, List.length_nil]
    refine nv ?_
    refine Run.reg fun K hK => ?_
    simp
    try (simp (disch := omega) only [wrap_id])
    refine hK _ _ _ ?_; clear hK K
    refine nv ?_
    refine Run.reg fun K hK => ?_
    simp
    try (simp (disch := omega) only [wrap_id])
    refine hK _ _ _ ?_; clear hK K
    refine nv ?_
    refine Run.call rfl rfl (by simp) rfl hn ?_ ?_
    · rintro v h' ⟨hv, rfl⟩
      simp only [AOut.ret.injEq] at hv
      subst hv
      refine Run.ops fun K hK => ?_
      simp [nd]
      try (simp (disch := omega) only [wrap_id])
      refine hK _ _ _ ?_; clear hK K
      refine nv ?_
      refine Run.cond (b := false) (by simp) ?_
      simp only [Bool.false_eq_true, if_false]
      refine nv ?_
      refine Run.reg fun K hK => ?_
      simp
      try (simp (disch := omega) only [wrap_id])
      refine hK _ _ _ ?_; clear hK K
      refine nv ?_
      refine Run.loopS [8, 9] (fun _ : Unit => True) (fun _ => 0) (fun _ => [(10, iA 0)]) (fun _ => _) () trivial ?_ rfl ?_
      · simp [tmPs]
        repeat' (first | exact WeakL.nil | apply WeakL.cons)
        all_goals first | exact Weak.junk _ | exact Weak.refl _ | exact Weak.nil _ | exact Weak.own _ _ _ | exact Weak.int (by omega)
      · intro _ _ _
        simp
        repeat (first
          | refine Run.seq ?_ | refine Run.block ?_ | refine Run.skip ?_ | refine Run.inBlock ?_ | refine Run.opsNil ?_
          | (refine Run.reg fun K hK => ?_; simp; (try (simp (disch := omega) only [wrap_id])); refine hK _ _ _ ?_; clear hK K)
          | (refine Run.cond (b := true) rfl ?_; simp only [if_true])
          | (refine Run.cond (b := false) rfl ?_; simp only [Bool.false_eq_true, if_false])
          | refine Run.exit rfl ?_ | refine Run.ret ?_)
        exact Fin.ret' (by simp) rfl hh (List.append_nil _).symm rfl rfl (Weak.refl _) rfl ⟨rfl, rfl⟩
    · rintro v h' ⟨hv, _⟩; cases hv
  | succ N ih =>
  intro l h hN hsz hlv hh
  have hll := length_le_sizes l
  have hn := nodes_any (Tm.sizes l) l 200 h (Nat.le_refl _) hsz (by omega) (by omega) hh
  refine ACalls.of_run Tryz.func44 rfl ?_
  simp only [Tryz.ntmps44, List.length_cons, List.length_nil]
  refine nv ?_
  refine Run.reg fun K hK => ?_
  simp
  try (simp (disch := omega) only [wrap_id])
  refine hK _ _ _ ?_; clear hK K
  refine nv ?_
  refine Run.reg fun K hK => ?_
  simp
  try (simp (disch := omega) only [wrap_id])
  refine hK _ _ _ ?_; clear hK K
  refine nv ?_
  refine Run.call rfl rfl (by simp) rfl hn ?_ ?_
  rotate_left
  · rintro v h' ⟨hv, _⟩; cases hv
  rintro v h' ⟨hv, rfl⟩
  simp only [AOut.ret.injEq] at hv
  subst hv
  refine Run.ops fun K hK => ?_
  simp
  try (simp (disch := omega) only [wrap_id])
  refine hK _ _ _ ?_; clear hK K
  refine nv ?_
  by_cases h0 : 200 < nd 200 0 l
  · refine nv ?_
    refine Run.cond (b := true) (by simp [h0]) ?_
    simp only [if_true]
    refine nv ?_
    repeat (first
      | refine Run.seq ?_ | refine Run.block ?_ | refine Run.skip ?_ | refine Run.inBlock ?_ | refine Run.opsNil ?_
      | (refine Run.reg fun K hK => ?_; simp; (try (simp (disch := omega) only [wrap_id])); refine hK _ _ _ ?_; clear hK K)
      | (refine Run.cond (b := true) rfl ?_; simp only [if_true])
      | (refine Run.cond (b := false) rfl ?_; simp only [Bool.false_eq_true, if_false])
      | refine Run.exit rfl ?_ | refine Run.ret ?_)
    exact Fin.ret' (by simp) rfl hh (List.append_nil _).symm rfl rfl (Weak.refl _) rfl ⟨by simp [fews, h0], rfl⟩
  have hfew : fews l = allTo (few1At l) l.length := by simp only [fews, h0, fewAll_at]; simp
  rw [hfew]
  refine nv ?_
  refine Run.cond (b := false) (by simp [h0]) ?_
  simp only [Bool.false_eq_true, if_false]
  refine nv ?_
  refine Run.reg fun K hK => ?_
  simp
  try (simp (disch := omega) only [wrap_id])
  refine hK _ _ _ ?_; clear hK K
  refine nv ?_
  refine Run.loopS [8, 9] (fun j : Nat => j ≤ l.length ∧ allTo (few1At l) j = true) (fun j => l.length - j) (fun j => [(10, iA j)]) (fun _ => _) 0 (by simp [allTo]) ?_ rfl ?_
  · simp
    repeat' (first | exact WeakL.nil | apply WeakL.cons)
    all_goals first | exact Weak.junk _ | exact Weak.refl _ | exact Weak.nil _ | exact Weak.own _ _ _ | exact Weak.int (by omega)
  rintro j ⟨hj, hall⟩ IH
  simp
  refine nv ?_
  refine Run.reg fun K hK => ?_
  simp
  try (simp (disch := omega) only [wrap_id])
  refine hK _ _ _ ?_; clear hK K
  refine nv ?_
  by_cases hjl : j < l.length
  · have hg : l[j]? = some l[j] := List.getElem?_eq_getElem hjl
    have hs := kid_size hjl
    have hlj := Tm.lvss_at hlv _ (List.getElem_mem hjl)
    generalize l[j] = u at hg hs hlj
    obtain ⟨k, i, nm, ls, ks⟩ := u
    simp only [Tm.size] at hs
    simp only [Tm.lvs] at hlj
    have no : few1 (.mk k i nm ls ks) = false → allTo (few1At l) l.length = false := fun e => allTo_false hjl (by simp only [few1At, hg, e])
    have yes : few1 (.mk k i nm ls ks) = true → allTo (few1At l) (j + 1) = true := fun e => by rw [allTo_succ, hall]; simp only [few1At, hg, e]; rfl
    refine nv ?_
    refine Run.cond (b := true) (by simp [hjl]) ?_
    simp only [if_true]
    refine nv ?_
    refine Run.reg fun K hK => ?_
    simp [hg]
    try (simp (disch := omega) only [wrap_id])
    refine hK _ _ _ ?_; clear hK K
    refine nv ?_
    by_cases c1 : 200 < (nm.length : Int)
    · refine nv ?_
      refine Run.reg fun K hK => ?_
      simp [ByteArray.size, c1]
      try (simp (disch := omega) only [wrap_id])
      refine hK _ _ _ ?_; clear hK K
      refine nv ?_
      repeat (first
        | refine Run.seq ?_ | refine Run.block ?_ | refine Run.skip ?_ | refine Run.inBlock ?_ | refine Run.opsNil ?_
        | (refine Run.reg fun K hK => ?_; simp; (try (simp (disch := omega) only [wrap_id])); refine hK _ _ _ ?_; clear hK K)
        | (refine Run.cond (b := true) rfl ?_; simp only [if_true])
        | (refine Run.cond (b := false) rfl ?_; simp only [Bool.false_eq_true, if_false])
        | refine Run.exit rfl ?_ | refine Run.ret ?_)
      exact Fin.ret' (by simp) rfl hh rfl rfl rfl (Weak.refl _) rfl ⟨by rw [no (by simp only [few1, c1]; rfl)]; rfl, rfl⟩
    by_cases c2 : 20 < (ls.length : Int)
    · refine nv ?_
      refine Run.reg fun K hK => ?_
      simp [ByteArray.size, c1, c2]
      try (simp (disch := omega) only [wrap_id])
      refine hK _ _ _ ?_; clear hK K
      refine nv ?_
      repeat (first
        | refine Run.seq ?_ | refine Run.block ?_ | refine Run.skip ?_ | refine Run.inBlock ?_ | refine Run.opsNil ?_
        | (refine Run.reg fun K hK => ?_; simp; (try (simp (disch := omega) only [wrap_id])); refine hK _ _ _ ?_; clear hK K)
        | (refine Run.cond (b := true) rfl ?_; simp only [if_true])
        | (refine Run.cond (b := false) rfl ?_; simp only [Bool.false_eq_true, if_false])
        | refine Run.exit rfl ?_ | refine Run.ret ?_)
      exact Fin.ret' (by simp) rfl hh rfl rfl rfl (Weak.refl _) rfl ⟨by rw [no (by simp only [few1, c1, c2]; rfl)]; rfl, rfl⟩
    refine nv ?_
    refine Run.reg fun K hK => ?_
    simp [ByteArray.size, c1, c2]
    try (simp (disch := omega) only [wrap_id])
    refine hK _ _ _ ?_; clear hK K
    refine nv ?_
    refine Run.call rfl (by simp) (by simp) rfl (contains_any _ (hh.app (by simp)) ls hlj.1) ?_ ?_
    rotate_left
    · rintro v h' ⟨hv, _⟩; cases hv
    rintro v h' ⟨hv, rfl⟩
    simp only [AOut.ret.injEq] at hv
    subst hv
    cases c3 : anyLong ls with
    | true =>
      refine Run.ops fun K hK => ?_
      simp
      try (simp (disch := omega) only [wrap_id])
      refine hK _ _ _ ?_; clear hK K
      refine nv ?_
      repeat (first
        | refine Run.seq ?_ | refine Run.block ?_ | refine Run.skip ?_ | refine Run.inBlock ?_ | refine Run.opsNil ?_
        | (refine Run.reg fun K hK => ?_; simp; (try (simp (disch := omega) only [wrap_id])); refine hK _ _ _ ?_; clear hK K)
        | (refine Run.cond (b := true) rfl ?_; simp only [if_true])
        | (refine Run.cond (b := false) rfl ?_; simp only [Bool.false_eq_true, if_false])
        | refine Run.exit rfl ?_ | refine Run.ret ?_)
      exact Fin.ret' (by simp) rfl hh rfl rfl rfl (Weak.refl _) rfl ⟨by rw [no (by simp only [few1, c1, c2, c3]; rfl)]; rfl, rfl⟩
    | false =>
      refine Run.ops fun K hK => ?_
      simp
      try (simp (disch := omega) only [wrap_id])
      refine hK _ _ _ ?_; clear hK K
      refine nv ?_
      refine Run.call rfl (by simp) (by simp) rfl (ih ks _ (by omega) (by omega) hlj.2.2 (hh.app (by simp))) ?_ ?_
      rotate_left
      · rintro v h' ⟨hv, _⟩; cases hv
      rintro v h' ⟨hv, rfl⟩
      simp only [AOut.ret.injEq] at hv
      subst hv
      have hf1 : few1 (.mk k i nm ls ks) = fews ks := by simp only [few1, c1, c2, c3, fews]; rfl
      refine Run.ops fun K hK => ?_
      simp
      try (simp (disch := omega) only [wrap_id])
      refine hK _ _ _ ?_; clear hK K
      refine nv ?_
      cases c4 : fews ks with
      | false =>
        repeat (first
          | refine Run.seq ?_ | refine Run.block ?_ | refine Run.skip ?_ | refine Run.inBlock ?_ | refine Run.opsNil ?_
          | (refine Run.reg fun K hK => ?_; simp; (try (simp (disch := omega) only [wrap_id])); refine hK _ _ _ ?_; clear hK K)
          | (refine Run.cond (b := true) rfl ?_; simp only [if_true])
          | (refine Run.cond (b := false) rfl ?_; simp only [Bool.false_eq_true, if_false])
          | refine Run.exit rfl ?_ | refine Run.ret ?_)
        exact Fin.ret' (by simp) rfl hh rfl rfl rfl (Weak.refl _) rfl ⟨by rw [no (by rw [hf1, c4])]; rfl, rfl⟩
      | true =>
        refine nv ?_
        refine Run.cond (b := false) (by simp) ?_
        simp only [Bool.false_eq_true, if_false]
        refine nv ?_
        refine Run.reg fun K hK => ?_
        simp
        try (simp (disch := omega) only [wrap_id])
        refine hK _ _ _ ?_; clear hK K
        refine nv ?_
        refine Run.keep [8, 9, 10] ?_
        simp
        refine Run.cutAt 0 hh rfl (by omega) (by simp) (by simp) (by simp) rfl ?_
        refine IH (j + 1) _ _ ⟨by omega, yes (by rw [hf1, c4])⟩ (by omega) ?_ (by simp)
        simp
        repeat' (first | exact WeakL.nil | apply WeakL.cons)
        all_goals first | exact Weak.junk _ | exact Weak.refl _ | exact Weak.nil _ | exact Weak.own _ _ _ | exact Weak.int (by omega)
  have hje : j = l.length := by omega
  subst hje
  refine nv ?_
  refine Run.cond (b := false) (by simp) ?_
  simp only [Bool.false_eq_true, if_false]
  refine nv ?_
  refine Run.exit rfl ?_
  refine nv ?_
  repeat (first
    | refine Run.seq ?_ | refine Run.block ?_ | refine Run.skip ?_ | refine Run.inBlock ?_ | refine Run.opsNil ?_
    | (refine Run.reg fun K hK => ?_; simp; (try (simp (disch := omega) only [wrap_id])); refine hK _ _ _ ?_; clear hK K)
    | (refine Run.cond (b := true) rfl ?_; simp only [if_true])
    | (refine Run.cond (b := false) rfl ?_; simp only [Bool.false_eq_true, if_false])
    | refine Run.exit rfl ?_ | refine Run.ret ?_)
  exact Fin.ret' (by simp) rfl hh (List.append_nil _).symm rfl rfl (Weak.refl _) rfl ⟨by rw [hall]; rfl, rfl⟩

end Go.Proofs.YtcfcolkbeelegaaGreat
