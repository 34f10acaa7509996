/-
  The reference's levels of a term: Subst, Assign; the walk; Levels, Assign.
-/
import Derived.Test.YtcfcolkbeelegaaGreatLLQ
import Derived.Test.YtcfcolkbeelegaaGreatLE8

namespace Go.Proofs.YtcfcolkbeelegaaGreat

open Go Go.AI
theorem substL_repl (l : Lv) (vals : List Lv) (hl : validB l = true) (hv : ∀ x ∈ vals, Vd x) (metas : Bool) : replL vals metas l.vars ⟨l.c, []⟩ = lvlP (l.vars.foldl (stepP vals metas) (l.c, [])) :=
  repl_lvl hv l.vars ⟨l.c, []⟩ (l.c, []) (fun v h => ⟨(Vd.of hl).v0 v h, (Vd.of hl).v1 v h⟩) (InvL.start (Vd.of hl))
set_option maxRecDepth 8000 in
set_option maxHeartbeats 4000000 in
theorem rsubst_any (h : Heap) (hh : WF h) (l : Lv) (vals : List Lv) (hb : l.vars.length ≤ 1048576) (hbs : vals.length ≤ 1048576) (hbv : ∀ x ∈ vals, x.vars.length ≤ 1048576) :
    ACalls Tryz.prog 114 [l.av, .p (.sl 2 (lvPs vals))] h fun o h' => o = .ret (.tup [(substL l vals).1.av, iA (substL l vals).2]) ∧ h' = h := by
  have hv := fun (g : Heap) (hg : WF g) => valid_any g hg l hb
  have hva := fun (g : Heap) (hg : WF g) => rallValid_any g hg vals hbs hbv
  have hpa := fun (g : Heap) (hg : WF g) => rparams_any g hg l hb
  have hre := fun (e : validB l = true) (e2 : vals.all validB = true) (g : Heap) (hg : WF g) => rreplace_any g hg l vals false (Vd.of e) (fun x hx => ⟨Vd.of (List.all_eq_true.1 e2 x hx), List.all_eq_true.1 e2 x hx⟩) hb hbs
  have hsr := fun (e : validB l = true) (e2 : vals.all validB = true) => substL_repl l vals e (fun x hx => Vd.of (List.all_eq_true.1 e2 x hx)) false
  obtain ⟨r, hr⟩ : ∃ r, substL l vals = r := ⟨_, rfl⟩
  rw [hr]
  unfold substL at hr
  generalize validB l = b1 at hv hr hre hsr
  generalize vals.all validB = b2 at hva hr hre hsr
  generalize paramsL l = pa at hpa hr
  obtain ⟨c, vs⟩ := l
  simp only [Lv.av, Lv.cells, List.map] at hv hpa hb hr hre ⊢
  refine ACalls.of_run Tryz.func114 rfl ?_
  simp only [Tryz.ntmps114, List.length_cons, List.length_nil]
  refine nv ?_
  refine Run.reg fun K hK => ?_
  simp
  try (simp (disch := omega) only [wrap_id])
  refine hK _ _ _ ?_; clear hK K
  refine nv ?_
  refine Run.reg fun K hK => ?_
  simp
  try (simp (disch := omega) only [wrap_id])
  refine hK _ _ _ ?_; clear hK K
  refine nv ?_
  refine Run.call rfl (by first | rfl | simp) (by simp) rfl (hv _ (hh.app (by simp))) ?_ ?_
  rotate_left
  · rintro v h' ⟨hv, _⟩; cases hv
  rintro v h' ⟨hv, rfl⟩
  simp only [AOut.ret.injEq] at hv
  subst hv
  cases b1 with
  | false =>
    refine Run.ops fun K hK => ?_
    simp
    try (simp (disch := omega) only [wrap_id])
    refine hK _ _ _ ?_; clear hK K
    refine nv ?_
    refine Run.cond (b := true) (by simp) ?_
    simp only [if_true]
    refine nv ?_
    refine Run.reg fun K hK => ?_
    simp
    try (simp (disch := omega) only [wrap_id])
    refine hK _ _ _ ?_; clear hK K
    refine nv ?_
    simp only [Bool.not_false, Bool.true_or, if_true] at hr
    subst hr
    refine Run.ret ?_
    refine Fin.ret' (h0 := h) (by simp) rfl hh rfl (by simp; rfl) rfl (y := .tup [.agg [iA 0, .p (.sl 2 (varPs []))], iA 3]) ?_ (by simp) ⟨rfl, rfl⟩
    refine Weak.tup (WeakL.cons (Weak.agg ?_) (WeakL.cons (Weak.refl _) WeakL.nil))
    repeat' (first | exact WeakL.nil | apply WeakL.cons)
    all_goals first | exact Weak.junk _ | exact Weak.refl _ | exact Weak.nil _ | exact Weak.own _ _ _ | exact Weak.int (by omega)
  | true =>
    refine Run.ops fun K hK => ?_
    simp
    try (simp (disch := omega) only [wrap_id])
    refine hK _ _ _ ?_; clear hK K
    refine nv ?_
    refine Run.call rfl (by first | rfl | simp) (by simp) rfl (hva _ (hh.app (by simp))) ?_ ?_
    rotate_left
    · rintro v h' ⟨hv, _⟩; cases hv
    rintro v h' ⟨hv, rfl⟩
    simp only [AOut.ret.injEq] at hv
    subst hv
    cases b2 with
    | false =>
      refine Run.ops fun K hK => ?_
      simp
      try (simp (disch := omega) only [wrap_id])
      refine hK _ _ _ ?_; clear hK K
      refine nv ?_
      refine Run.cond (b := true) (by simp) ?_
      simp only [if_true]
      refine nv ?_
      refine Run.reg fun K hK => ?_
      simp
      try (simp (disch := omega) only [wrap_id])
      refine hK _ _ _ ?_; clear hK K
      refine nv ?_
      simp only [Bool.not_true, Bool.not_false, Bool.false_or, if_true] at hr
      subst hr
      refine Run.ret ?_
      refine Fin.ret' (h0 := h) (by simp) rfl hh rfl (by simp; rfl) rfl (y := .tup [.agg [iA 0, .p (.sl 2 (varPs []))], iA 3]) ?_ (by simp) ⟨rfl, rfl⟩
      refine Weak.tup (WeakL.cons (Weak.agg ?_) (WeakL.cons (Weak.refl _) WeakL.nil))
      repeat' (first | exact WeakL.nil | apply WeakL.cons)
      all_goals first | exact Weak.junk _ | exact Weak.refl _ | exact Weak.nil _ | exact Weak.own _ _ _ | exact Weak.int (by omega)
    | true =>
      have hre := hre rfl rfl
      have hsr := hsr rfl rfl
      simp only [hsr] at hre
      simp only [Bool.not_true, Bool.false_or, Bool.false_eq_true, if_false] at hr
      refine Run.ops fun K hK => ?_
      simp
      try (simp (disch := omega) only [wrap_id])
      refine hK _ _ _ ?_; clear hK K
      refine nv ?_
      refine Run.cond (b := false) (by simp) ?_
      simp only [Bool.false_eq_true, if_false]
      refine nv ?_
      refine Run.reg fun K hK => ?_
      simp
      try (simp (disch := omega) only [wrap_id])
      refine hK _ _ _ ?_; clear hK K
      refine nv ?_
      refine Run.call rfl (by first | rfl | simp) (by simp) rfl (hpa _ (hh.app (by simp))) ?_ ?_
      rotate_left
      · rintro v h' ⟨hv, _⟩; cases hv
      rintro v h' ⟨hv, rfl⟩
      simp only [AOut.ret.injEq] at hv
      subst hv
      refine Run.ops fun K hK => ?_
      simp
      try (simp (disch := omega) only [wrap_id])
      refine hK _ _ _ ?_; clear hK K
      refine nv ?_
      by_cases h1 : (vals.length : Int) < pa
      · refine nv ?_
        refine Run.cond (b := true) (by simp [h1]) ?_
        simp only [if_true]
        refine nv ?_
        refine Run.reg fun K hK => ?_
        simp
        try (simp (disch := omega) only [wrap_id])
        refine hK _ _ _ ?_; clear hK K
        refine nv ?_
        rw [if_pos h1] at hr
        subst hr
        refine Run.ret ?_
        refine Fin.ret' (h0 := h) (by simp) rfl hh rfl (by simp; rfl) rfl (y := .tup [.agg [iA 0, .p (.sl 2 (varPs []))], iA 24]) ?_ (by simp) ⟨rfl, rfl⟩
        refine Weak.tup (WeakL.cons (Weak.agg ?_) (WeakL.cons (Weak.refl _) WeakL.nil))
        repeat' (first | exact WeakL.nil | apply WeakL.cons)
        all_goals first | exact Weak.junk _ | exact Weak.refl _ | exact Weak.nil _ | exact Weak.own _ _ _ | exact Weak.int (by omega)
      · refine nv ?_
        refine Run.cond (b := false) (by simp [h1]) ?_
        simp only [Bool.false_eq_true, if_false]
        refine nv ?_
        rw [if_neg h1] at hr
        simp only [hr] at hre
        obtain ⟨⟨rc, rv⟩, re⟩ := r
        simp only [] at hre ⊢
        refine nv ?_
        refine Run.reg fun K hK => ?_
        simp
        try (simp (disch := omega) only [wrap_id])
        refine hK _ _ _ ?_; clear hK K
        refine nv ?_
        refine Run.call rfl (by first | rfl | simp) (by simp) rfl (hre _ (hh.app (by simp))) ?_ ?_
        rotate_left
        · rintro v h' ⟨hv, _⟩; cases hv
        rintro v h' ⟨hv, rfl⟩
        simp only [AOut.ret.injEq] at hv
        subst hv
        refine Run.ops fun K hK => ?_
        simp
        try (simp (disch := omega) only [wrap_id])
        refine hK _ _ _ ?_; clear hK K
        refine nv ?_
        refine Run.ret ?_
        exact Fin.ret' (h0 := h) (by simp) rfl hh rfl (by simp; rfl) rfl (Weak.refl _) (by simp) ⟨rfl, rfl⟩
set_option maxRecDepth 8000 in
set_option maxHeartbeats 4000000 in
theorem rassign_any (h : Heap) (hh : WF h) (l : Lv) (vals : List Lv) (hb : l.vars.length ≤ 1048576) (hbs : vals.length ≤ 1048576) (hbv : ∀ x ∈ vals, x.vars.length ≤ 1048576) :
    ACalls Tryz.prog 115 [l.av, .p (.sl 2 (lvPs vals))] h fun o h' => o = .ret (.tup [(assignL l vals).1.av, iA (assignL l vals).2]) ∧ h' = h := by
  have hv := fun (g : Heap) (hg : WF g) => valid_any g hg l hb
  have hva := fun (g : Heap) (hg : WF g) => rallValid_any g hg vals hbs hbv
  have hre := fun (e : validB l = true) (e2 : vals.all validB = true) (g : Heap) (hg : WF g) => rreplace_any g hg l vals true (Vd.of e) (fun x hx => ⟨Vd.of (List.all_eq_true.1 e2 x hx), List.all_eq_true.1 e2 x hx⟩) hb hbs
  have hsr := fun (e : validB l = true) (e2 : vals.all validB = true) => substL_repl l vals e (fun x hx => Vd.of (List.all_eq_true.1 e2 x hx)) true
  obtain ⟨r, hr⟩ : ∃ r, assignL l vals = r := ⟨_, rfl⟩
  rw [hr]
  unfold assignL at hr
  generalize validB l = b1 at hv hr hre hsr
  generalize vals.all validB = b2 at hva hr hre hsr
  obtain ⟨c, vs⟩ := l
  simp only [Lv.av, Lv.cells, List.map] at hv hb hr hre ⊢
  refine ACalls.of_run Tryz.func115 rfl ?_
  simp only [Tryz.ntmps115, List.length_cons, List.length_nil]
  refine nv ?_
  refine Run.reg fun K hK => ?_
  simp
  try (simp (disch := omega) only [wrap_id])
  refine hK _ _ _ ?_; clear hK K
  refine nv ?_
  refine Run.reg fun K hK => ?_
  simp
  try (simp (disch := omega) only [wrap_id])
  refine hK _ _ _ ?_; clear hK K
  refine nv ?_
  refine Run.call rfl (by first | rfl | simp) (by simp) rfl (hv _ (hh.app (by simp))) ?_ ?_
  rotate_left
  · rintro v h' ⟨hv, _⟩; cases hv
  rintro v h' ⟨hv, rfl⟩
  simp only [AOut.ret.injEq] at hv
  subst hv
  cases b1 with
  | false =>
    refine Run.ops fun K hK => ?_
    simp
    try (simp (disch := omega) only [wrap_id])
    refine hK _ _ _ ?_; clear hK K
    refine nv ?_
    refine Run.cond (b := true) (by simp) ?_
    simp only [if_true]
    refine nv ?_
    refine Run.reg fun K hK => ?_
    simp
    try (simp (disch := omega) only [wrap_id])
    refine hK _ _ _ ?_; clear hK K
    refine nv ?_
    simp only [Bool.not_false, Bool.true_or, if_true] at hr
    subst hr
    refine Run.ret ?_
    refine Fin.ret' (h0 := h) (by simp) rfl hh rfl (by simp; rfl) rfl (y := .tup [.agg [iA 0, .p (.sl 2 (varPs []))], iA 3]) ?_ (by simp) ⟨rfl, rfl⟩
    refine Weak.tup (WeakL.cons (Weak.agg ?_) (WeakL.cons (Weak.refl _) WeakL.nil))
    repeat' (first | exact WeakL.nil | apply WeakL.cons)
    all_goals first | exact Weak.junk _ | exact Weak.refl _ | exact Weak.nil _ | exact Weak.own _ _ _ | exact Weak.int (by omega)
  | true =>
    refine Run.ops fun K hK => ?_
    simp
    try (simp (disch := omega) only [wrap_id])
    refine hK _ _ _ ?_; clear hK K
    refine nv ?_
    refine Run.call rfl (by first | rfl | simp) (by simp) rfl (hva _ (hh.app (by simp))) ?_ ?_
    rotate_left
    · rintro v h' ⟨hv, _⟩; cases hv
    rintro v h' ⟨hv, rfl⟩
    simp only [AOut.ret.injEq] at hv
    subst hv
    cases b2 with
    | false =>
      refine Run.ops fun K hK => ?_
      simp
      try (simp (disch := omega) only [wrap_id])
      refine hK _ _ _ ?_; clear hK K
      refine nv ?_
      refine Run.cond (b := true) (by simp) ?_
      simp only [if_true]
      refine nv ?_
      refine Run.reg fun K hK => ?_
      simp
      try (simp (disch := omega) only [wrap_id])
      refine hK _ _ _ ?_; clear hK K
      refine nv ?_
      simp only [Bool.not_true, Bool.not_false, Bool.false_or, if_true] at hr
      subst hr
      refine Run.ret ?_
      refine Fin.ret' (h0 := h) (by simp) rfl hh rfl (by simp; rfl) rfl (y := .tup [.agg [iA 0, .p (.sl 2 (varPs []))], iA 3]) ?_ (by simp) ⟨rfl, rfl⟩
      refine Weak.tup (WeakL.cons (Weak.agg ?_) (WeakL.cons (Weak.refl _) WeakL.nil))
      repeat' (first | exact WeakL.nil | apply WeakL.cons)
      all_goals first | exact Weak.junk _ | exact Weak.refl _ | exact Weak.nil _ | exact Weak.own _ _ _ | exact Weak.int (by omega)
    | true =>
      have hre := hre rfl rfl
      have hsr := hsr rfl rfl
      simp only [hsr] at hre
      simp only [Bool.not_true, Bool.false_or, Bool.false_eq_true, if_false] at hr
      simp only [hr] at hre
      obtain ⟨⟨rc, rv⟩, re⟩ := r
      simp only [] at hre ⊢
      refine Run.ops fun K hK => ?_
      simp
      try (simp (disch := omega) only [wrap_id])
      refine hK _ _ _ ?_; clear hK K
      refine nv ?_
      refine Run.cond (b := false) (by simp) ?_
      simp only [Bool.false_eq_true, if_false]
      refine nv ?_
      refine Run.reg fun K hK => ?_
      simp
      try (simp (disch := omega) only [wrap_id])
      refine hK _ _ _ ?_; clear hK K
      refine nv ?_
      refine Run.call rfl (by first | rfl | simp) (by simp) rfl (hre _ (hh.app (by simp))) ?_ ?_
      rotate_left
      · rintro v h' ⟨hv, _⟩; cases hv
      rintro v h' ⟨hv, rfl⟩
      simp only [AOut.ret.injEq] at hv
      subst hv
      refine Run.ops fun K hK => ?_
      simp
      try (simp (disch := omega) only [wrap_id])
      refine hK _ _ _ ?_; clear hK K
      refine nv ?_
      refine Run.ret ?_
      exact Fin.ret' (h0 := h) (by simp) rfl hh rfl (by simp; rfl) rfl (Weak.refl _) (by simp) ⟨rfl, rfl⟩
def errN (f : Lv → Lv × Int) (err : Int) (ls : List Lv) : Int := ls.foldl (fun e l => firstErr e (f l).2) err

mutual
def lvT (f : Lv → Lv × Int) : Tm → Tm
  | .mk k i n ls ks => .mk k i n (ls.map fun l => (f l).1) (lvTs f ks)
def lvTs (f : Lv → Lv × Int) : List Tm → List Tm
  | [] => []
  | t :: ts => lvT f t :: lvTs f ts
end

mutual
def leT (f : Lv → Lv × Int) (err : Int) : Tm → Int
  | .mk _ _ _ ls ks => leTs f (errN f err ls) ks
def leTs (f : Lv → Lv × Int) (err : Int) : List Tm → Int
  | [] => err
  | t :: ts => leTs f (leT f err t) ts
end
theorem lvTs_length (f : Lv → Lv × Int) (l : List Tm) : (lvTs f l).length = l.length := by
  induction l with
  | nil => rfl
  | cons x l ih => simp [lvTs, ih]
theorem lvTs_snoc (f : Lv → Lv × Int) (l : List Tm) (t : Tm) : lvTs f (l ++ [t]) = lvTs f l ++ [lvT f t] := by
  induction l with
  | nil => rfl
  | cons x l ih => simp [lvTs, ih]
theorem leTs_snoc (f : Lv → Lv × Int) : ∀ (l : List Tm) (t : Tm) (err : Int), leTs f err (l ++ [t]) = leT f (leTs f err l) t
  | [], t, err => by simp [leTs]
  | x :: l, t, err => by simp only [List.cons_append, leTs]; exact leTs_snoc f l t _
theorem errN_snoc (f : Lv → Lv × Int) (err : Int) {ls : List Lv} {j : Nat} {l : Lv} (h : ls[j]? = some l) : errN f err (ls.take (j + 1)) = firstErr (errN f err (ls.take j)) (f l).2 := by
  have e : ls.take (j + 1) = ls.take j ++ [l] := by rw [List.take_add_one, h]; rfl
  rw [e]; simp [errN, List.foldl_append]
theorem firstErr_zero (e : Int) : firstErr e 0 = e := by unfold firstErr; split <;> simp_all
def lvF (vals : List Lv) (metas : Bool) (l : Lv) : Lv × Int := if metas then assignL l vals else substL l vals

end Go.Proofs.YtcfcolkbeelegaaGreat
