/-
  The reference's levels: join.
-/
import Derived.Test.YtcfcolkbeelegaaGreatLLN

namespace Go.Proofs.YtcfcolkbeelegaaGreat

open Go Go.AI
def StepJ (a b : List (Int × Int)) (i k : Nat) (v : Int × Int) (i' k' : Nat) : Prop :=
  (k = b.length ∧ a[i]? = some v ∧ i + 1 = i' ∧ k = k') ∨
  (∃ y, a[i]? = some v ∧ b[k]? = some y ∧ v.1 < y.1 ∧ i + 1 = i' ∧ k = k') ∨
  (i = a.length ∧ b[k]? = some v ∧ i = i' ∧ k + 1 = k') ∨
  (∃ x, a[i]? = some x ∧ b[k]? = some v ∧ v.1 < x.1 ∧ i = i' ∧ k + 1 = k') ∨
  (∃ x y, a[i]? = some x ∧ b[k]? = some y ∧ x.1 = y.1 ∧ v = (x.1, max x.2 y.2) ∧ i + 1 = i' ∧ k + 1 = k')
theorem drop_of_get {α : Type} {l : List α} {i : Nat} {x : α} (h : l[i]? = some x) : l.drop i = x :: l.drop (i + 1) := by
  have hj : i < l.length := (List.getElem?_eq_some_iff.1 h).1
  have hg : l[i] = x := (List.getElem?_eq_some_iff.1 h).2
  rw [← hg]; exact List.drop_eq_getElem_cons hj
theorem merge_step (a b : List (Int × Int)) (i k : Nat) (hi : i ≤ a.length) (hk : k ≤ b.length) (h : i < a.length ∨ k < b.length) :
    ∃ v i' k', StepJ a b i k v i' k' ∧ mergeL (a.drop i) (b.drop k) = v :: mergeL (a.drop i') (b.drop k') ∧ i' ≤ a.length ∧ k' ≤ b.length ∧ i + k < i' + k' := by
  rcases Nat.lt_or_ge i a.length with h1 | h1
  · have ga : a[i]? = some a[i] := List.getElem?_eq_getElem h1
    generalize a[i] = x at ga
    rcases Nat.lt_or_ge k b.length with h2 | h2
    · have gb : b[k]? = some b[k] := List.getElem?_eq_getElem h2
      generalize b[k] = y at gb
      rcases Int.lt_trichotomy x.1 y.1 with c | c | c
      · refine ⟨x, i + 1, k, .inr (.inl ⟨y, ga, gb, c, rfl, rfl⟩), ?_, by omega, by omega, by omega⟩
        rw [drop_of_get ga, drop_of_get gb, mergeL, if_pos c]
      · refine ⟨(x.1, max x.2 y.2), i + 1, k + 1, .inr (.inr (.inr (.inr ⟨x, y, ga, gb, c, rfl, rfl, rfl⟩))), ?_, by omega, by omega, by omega⟩
        rw [drop_of_get ga, drop_of_get gb, mergeL, if_neg (by omega), if_neg (by omega)]
      · refine ⟨y, i, k + 1, .inr (.inr (.inr (.inl ⟨x, ga, gb, c, rfl, rfl⟩))), ?_, by omega, by omega, by omega⟩
        rw [drop_of_get ga, drop_of_get gb, mergeL, if_neg (by omega), if_pos c]
    · have e : k = b.length := by omega
      refine ⟨x, i + 1, k, .inl ⟨e, ga, rfl, rfl⟩, ?_, by omega, by omega, by omega⟩
      rw [drop_of_get ga, e, List.drop_length, mergeL_nil_right, mergeL_nil_right]
  · have e : i = a.length := by omega
    have h2 : k < b.length := by omega
    have gb : b[k]? = some b[k] := List.getElem?_eq_getElem h2
    generalize b[k] = y at gb
    refine ⟨y, i, k + 1, .inr (.inr (.inl ⟨e, gb, rfl, rfl⟩)), ?_, by omega, by omega, by omega⟩
    rw [drop_of_get gb, e, List.drop_length, mergeL_nil_left, mergeL_nil_left]
theorem mostL_snoc (l : List (Int × Int)) (v : Int × Int) : mostL (l ++ [v]) = max (mostL l) v.2 := by
  induction l with
  | nil => simp [mostL]; omega
  | cons x l ih => simp only [List.cons_append, mostL, ih]; omega
set_option maxRecDepth 8000 in
set_option maxHeartbeats 16000000 in
theorem rjoin_any (h : Heap) (hh : WF h) (l m : Lv) (hb : l.vars.length ≤ 1048576) (hb2 : m.vars.length ≤ 1048576) :
    ACalls Tryz.prog 200 [l.av, m.av] h fun o h' => o = .ret (joinL l m).av ∧ h' = h := by
  obtain ⟨c, a⟩ := l
  obtain ⟨d, b⟩ := m
  simp only at hb hb2
  obtain ⟨r, hr⟩ : ∃ r, joinL ⟨c, a⟩ ⟨d, b⟩ = r := ⟨_, rfl⟩
  rw [hr]
  unfold joinL at hr
  simp only at hr
  obtain ⟨M, hM⟩ : ∃ M, mergeL a b = M := ⟨_, rfl⟩
  obtain ⟨mx, hmx⟩ : ∃ mx, max c d = mx := ⟨_, rfl⟩
  have hmx' : (if c < d then d else c) = mx := by rw [← hmx]; split <;> omega
  rw [hM, hmx] at hr
  simp only [Lv.av, Lv.cells, List.map]
  refine ACalls.of_run Tryz.func200 rfl ?_
  simp only [Tryz.ntmps200, List.length_cons, List.length_nil]
  refine nv ?_
  refine Run.reg fun K hK => ?_
  simp
  try (simp (disch := omega) only [wrap_id])
  refine hK _ _ _ ?_; clear hK K
  refine nv ?_
  refine Run.reg fun K hK => ?_
  simp [hmx']
  try (simp (disch := omega) only [wrap_id])
  refine hK _ _ _ ?_; clear hK K
  refine nv ?_
  refine Run.reg fun K hK => ?_
  simp
  try (simp (disch := omega) only [wrap_id])
  refine hK _ _ _ ?_; clear hK K
  refine nv ?_
  refine Run.reg fun K hK => ?_
  simp
  try (simp (disch := omega) only [wrap_id])
  refine hK _ _ _ ?_; clear hK K
  refine nv ?_
  refine Run.tokAt (h.length + 3) 1 2 (by simp; rfl) (by simp) ?_
  simp
  refine Run.loopS (ι := Nat × Nat × List (Int × Int)) [2, 3, 4, 5] (fun p => p.1 ≤ a.length ∧ p.2.1 ≤ b.length ∧ p.2.2.length ≤ p.1 + p.2.1 ∧ M = p.2.2 ++ mergeL (a.drop p.1) (b.drop p.2.1)) (fun p => (a.length - p.1) + (b.length - p.2.1)) (fun p => [(6, iA p.1), (7, iA p.2.1), (8, iA (mostL p.2.2))])
    (fun p => h ++ [some (.cells [iA c, .p (.sl 2 (varPs a))]), some (.cells [iA d, .p (.sl 2 (varPs b))]), some (.cells [iA 0, .p (.prim (.slice none 0 0))]), some (.cells [iA mx, .own (h.length + 4) 2 (varPs p.2.2)]), some (.tok p.2.2.length 2)]) (0, 0, []) (by simp [hM]) ?_ (by simp [varPs]) ?_
  · simp [mostL]
    repeat' (first | exact WeakL.nil | apply WeakL.cons)
    all_goals first | exact Weak.junk _ | exact Weak.refl _ | exact Weak.nil _ | exact Weak.own _ _ _ | exact Weak.int (by omega)
  rintro ⟨i, k, dn⟩ ⟨hi, hk, hln, hdn⟩ IH
  simp only at hi hk hln hdn
  simp
  refine nv ?_
  refine Run.regJ [2, 3, 4, 5, 6, 7, 8] 27 (decide (i < a.length) || decide (k < b.length)) (fun K hK => ?_) ?_
  · simp
    repeat' (first | apply And.intro | intro _)
    all_goals
      try (simp (disch := omega) only [wrap_id])
      refine hK _ ?_
      simp
      repeat' (first | exact WeakL.nil | apply WeakL.cons)
      all_goals first | exact Weak.junk _ | (refine Weak.bool ?_; clear hK K; rw [Bool.eq_iff_iff]; simp; done) | (refine Weak.bool ?_; clear hK K; rw [Bool.eq_iff_iff]; simp; omega) | (refine Weak.bool ?_; clear hK K; simp_all; done) | (refine Weak.bool ?_; clear hK K; simp [*]; done) | (refine Weak.bool ?_; clear hK K; rw [Bool.eq_iff_iff]; simp [*]; omega) | exact Weak.refl _
  simp only [setMany, keepT, keepT.go, List.contains_cons, List.set_cons_succ, List.set_cons_zero]
  simp
  by_cases hlp : i < a.length ∨ k < b.length
  · obtain ⟨v, i', k', hs, hmg, hi', hk', hlt⟩ := merge_step a b i k hi hk hlp
    obtain ⟨v1, v2⟩ := v
    refine nv ?_
    refine Run.cond (b := true) (by simp [hlp]) ?_
    simp only [if_true]
    refine nv ?_
    refine Run.reg fun K hK => ?_
    simp
    try (simp (disch := omega) only [wrap_id])
    refine hK _ _ _ ?_; clear hK K
    repeat (first | refine Run.skip ?_ | refine Run.opsNil ?_ | refine Run.inBlock ?_)
    refine Run.seq ?_
    refine Run.joinH [2, 3, 4, 5, 8, 9] [(6, iA i'), (7, iA k')] (h ++ [some (.cells [iA c, .p (.sl 2 (varPs a))]), some (.cells [iA d, .p (.sl 2 (varPs b))]), some (.cells [iA 0, .p (.prim (.slice none 0 0))]), some (.cells [iA mx, .own (h.length + 4) 2 (varPs dn)]), some (.tok dn.length 2), some (.cells [iA v1, iA v2])]) (fun hJ => ?_) ?_
    · have i1 : IntKind.i64.wrap ((i : Int) + 1) = ((i + 1 : Nat) : Int) := by rw [wrap_id (by omega) (by omega)]; omega
      have k1 : IntKind.i64.wrap ((k : Int) + 1) = ((k + 1 : Nat) : Int) := by rw [wrap_id (by omega) (by omega)]; omega
      rcases hs with ⟨e, ga, rfl, rfl⟩ | ⟨⟨y1, y2⟩, ga, gb, hc, rfl, rfl⟩ | ⟨e, gb, rfl, rfl⟩ | ⟨⟨x1, x2⟩, ga, gb, hc, rfl, rfl⟩ | ⟨⟨x1, x2⟩, ⟨y1, y2⟩, ga, gb, hc, hvv, rfl, rfl⟩
      · subst e
        refine nv ?_
        refine Run.draw [0, 0, 0, 0, 0, 0, 0, 0, 0, 0, 0, 0, 0, 0, 0, 0, 0, 0, 0, 0, 0, 0, 0, 0, 0, 0, 0, 0] [0, 0, 0, 0, 0, 0, 0, 0, 0, 0, 0, 0, 0, 0, 0, 0, 0, 0, 0, 0, 0, 0, 0, 0, 0, 0, 0, 0] [0, 0, 2, 6, 15, 31, 63, 63, 191, 447, 1023, 2047, 4095, 8191, 4095, 32767, 65535, 131071, 4095, 266239, 4095, 1839103, 3936255, 8130559, 16777215, 33554431, 67108863, 134217727] [0, 1, 2, 3, 4, 5, 6, 7, 8, 9, 10, 11, 12, 13, 14, 15, 16, 17, 18, 19, 20, 21, 22, 23, 24, 25, 26, 27] (by kernel_rfl) (by kernel_rfl) ?_
        refine DR.go fun K hK => ?_
        simp
        try (simp (disch := omega) only [wrap_id])
        refine hK _ _ _ _ ?_; clear hK K
        change Run _ _ _ _ _ _ _ _
        refine nv ?_
        refine Run.cond (b := true) (by simp) ?_
        simp only [if_true]
        repeat (first | refine Run.skip ?_ | refine Run.opsNil ?_ | refine Run.inBlock ?_)
        refine nv ?_
        refine Run.reg fun K hK => ?_
        simp [ga]
        try (simp (disch := omega) only [wrap_id])
        refine hK _ _ _ ?_; clear hK K
        repeat (first | refine Run.skip ?_ | refine Run.opsNil ?_ | refine Run.inBlock ?_)
        refine nv ?_
        refine Run.reg fun K hK => ?_
        simp [i1]
        try (simp (disch := omega) only [wrap_id])
        refine hK _ _ _ ?_; clear hK K
        repeat (first | refine Run.skip ?_ | refine Run.opsNil ?_ | refine Run.inBlock ?_)
        refine hJ _ ?_
        simp
        repeat' (first | exact WeakL.nil | apply WeakL.cons)
        all_goals first | exact Weak.junk _ | exact Weak.refl _ | exact Weak.nil _ | exact Weak.own _ _ _ | exact Weak.int (by omega)
      · have hd1 : decide (i < a.length) = true := by simpa using (List.getElem?_eq_some_iff.1 ga).1
        have hl2 : k < b.length := (List.getElem?_eq_some_iff.1 gb).1
        have hne : ((k : Int) == (b.length : Int)) = false := by simp; omega
        simp only at hc
        refine nv ?_
        refine Run.draw [0, 0, 0, 0, 0, 0, 0, 0, 0, 0, 0, 0, 0, 0, 0, 0, 0, 0, 0, 0, 0, 0, 0, 0, 0, 0, 0, 0] [0, 0, 0, 0, 0, 0, 0, 0, 0, 0, 0, 0, 0, 0, 0, 0, 0, 0, 0, 0, 0, 0, 0, 0, 0, 0, 0, 0] [0, 0, 2, 6, 15, 31, 63, 63, 191, 447, 1023, 2047, 4095, 8191, 4095, 32767, 65535, 131071, 4095, 266239, 4095, 1839103, 3936255, 8130559, 16777215, 33554431, 67108863, 134217727] [0, 1, 2, 3, 4, 5, 6, 7, 8, 9, 10, 11, 12, 13, 14, 15, 16, 17, 18, 19, 20, 21, 22, 23, 24, 25, 26, 27] (by kernel_rfl) (by kernel_rfl) ?_
        refine DR.go fun K hK => ?_
        simp [ga, gb, hd1, hne, hc]
        try (simp (disch := omega) only [wrap_id])
        refine hK _ _ _ _ ?_; clear hK K
        change Run _ _ _ _ _ _ _ _
        refine nv ?_
        refine Run.cond (b := true) (by simp) ?_
        simp only [if_true]
        repeat (first | refine Run.skip ?_ | refine Run.opsNil ?_ | refine Run.inBlock ?_)
        refine nv ?_
        refine Run.reg fun K hK => ?_
        simp [ga]
        try (simp (disch := omega) only [wrap_id])
        refine hK _ _ _ ?_; clear hK K
        repeat (first | refine Run.skip ?_ | refine Run.opsNil ?_ | refine Run.inBlock ?_)
        refine nv ?_
        refine Run.reg fun K hK => ?_
        simp [i1]
        try (simp (disch := omega) only [wrap_id])
        refine hK _ _ _ ?_; clear hK K
        repeat (first | refine Run.skip ?_ | refine Run.opsNil ?_ | refine Run.inBlock ?_)
        refine hJ _ ?_
        simp
        repeat' (first | exact WeakL.nil | apply WeakL.cons)
        all_goals first | exact Weak.junk _ | exact Weak.refl _ | exact Weak.nil _ | exact Weak.own _ _ _ | exact Weak.int (by omega)
      · subst e
        have hl2 : k < b.length := (List.getElem?_eq_some_iff.1 gb).1
        have hne : ((k : Int) == (b.length : Int)) = false := by simp; omega
        refine nv ?_
        refine Run.draw [0, 0, 0, 0, 0, 0, 0, 0, 0, 0, 0, 0, 0, 0, 0, 0, 0, 0, 0, 0, 0, 0, 0, 0, 0, 0, 0, 0] [0, 0, 0, 0, 0, 0, 0, 0, 0, 0, 0, 0, 0, 0, 0, 0, 0, 0, 0, 0, 0, 0, 0, 0, 0, 0, 0, 0] [0, 0, 2, 6, 15, 31, 63, 63, 191, 447, 1023, 2047, 4095, 8191, 4095, 32767, 65535, 131071, 4095, 266239, 4095, 1839103, 3936255, 8130559, 16777215, 33554431, 67108863, 134217727] [0, 1, 2, 3, 4, 5, 6, 7, 8, 9, 10, 11, 12, 13, 14, 15, 16, 17, 18, 19, 20, 21, 22, 23, 24, 25, 26, 27] (by kernel_rfl) (by kernel_rfl) ?_
        refine DR.go fun K hK => ?_
        simp [hne]
        try (simp (disch := omega) only [wrap_id])
        refine hK _ _ _ _ ?_; clear hK K
        change Run _ _ _ _ _ _ _ _
        refine nv ?_
        refine Run.cond (b := false) (by simp) ?_
        simp only [Bool.false_eq_true, if_false]
        repeat (first | refine Run.skip ?_ | refine Run.opsNil ?_ | refine Run.inBlock ?_)
        refine nv ?_
        refine Run.draw [0, 0, 0, 0, 0, 0, 0, 0, 0, 0, 0, 0, 0, 0, 0, 0, 0, 0, 0, 0, 0] [0, 0, 0, 0, 0, 0, 0, 0, 0, 0, 0, 0, 0, 0, 0, 0, 0, 0, 0, 0, 0] [0, 0, 2, 6, 15, 31, 63, 127, 63, 511, 1023, 2047, 63, 4159, 63, 28735, 61503, 127039, 262143, 524287, 1048575] [0, 1, 2, 3, 4, 5, 6, 7, 8, 9, 10, 11, 12, 13, 14, 15, 16, 17, 18, 19, 20] (by kernel_rfl) (by kernel_rfl) ?_
        refine DR.go fun K hK => ?_
        simp
        try (simp (disch := omega) only [wrap_id])
        refine hK _ _ _ _ ?_; clear hK K
        change Run _ _ _ _ _ _ _ _
        refine nv ?_
        refine Run.cond (b := true) (by simp) ?_
        simp only [if_true]
        repeat (first | refine Run.skip ?_ | refine Run.opsNil ?_ | refine Run.inBlock ?_)
        refine nv ?_
        refine Run.reg fun K hK => ?_
        simp [gb]
        try (simp (disch := omega) only [wrap_id])
        refine hK _ _ _ ?_; clear hK K
        repeat (first | refine Run.skip ?_ | refine Run.opsNil ?_ | refine Run.inBlock ?_)
        refine nv ?_
        refine Run.reg fun K hK => ?_
        simp [k1]
        try (simp (disch := omega) only [wrap_id])
        refine hK _ _ _ ?_; clear hK K
        repeat (first | refine Run.skip ?_ | refine Run.opsNil ?_ | refine Run.inBlock ?_)
        refine hJ _ ?_
        simp
        repeat' (first | exact WeakL.nil | apply WeakL.cons)
        all_goals first | exact Weak.junk _ | exact Weak.refl _ | exact Weak.nil _ | exact Weak.own _ _ _ | exact Weak.int (by omega)
      · have hd1 : decide (i < a.length) = true := by simpa using (List.getElem?_eq_some_iff.1 ga).1
        have hl2 : k < b.length := (List.getElem?_eq_some_iff.1 gb).1
        have hne : ((k : Int) == (b.length : Int)) = false := by simp; omega
        have q1 := (List.getElem?_eq_some_iff.1 ga).1
        have hne2 : ((i : Int) == (a.length : Int)) = false := by simp; omega
        simp only at hc
        have hnc : ¬ x1 < v1 := by omega
        refine nv ?_
        refine Run.draw [0, 0, 0, 0, 0, 0, 0, 0, 0, 0, 0, 0, 0, 0, 0, 0, 0, 0, 0, 0, 0, 0, 0, 0, 0, 0, 0, 0] [0, 0, 0, 0, 0, 0, 0, 0, 0, 0, 0, 0, 0, 0, 0, 0, 0, 0, 0, 0, 0, 0, 0, 0, 0, 0, 0, 0] [0, 0, 2, 6, 15, 31, 63, 63, 191, 447, 1023, 2047, 4095, 8191, 4095, 32767, 65535, 131071, 4095, 266239, 4095, 1839103, 3936255, 8130559, 16777215, 33554431, 67108863, 134217727] [0, 1, 2, 3, 4, 5, 6, 7, 8, 9, 10, 11, 12, 13, 14, 15, 16, 17, 18, 19, 20, 21, 22, 23, 24, 25, 26, 27] (by kernel_rfl) (by kernel_rfl) ?_
        refine DR.go fun K hK => ?_
        simp [ga, gb, hd1, hne, hnc]
        try (simp (disch := omega) only [wrap_id])
        refine hK _ _ _ _ ?_; clear hK K
        change Run _ _ _ _ _ _ _ _
        refine nv ?_
        refine Run.cond (b := false) (by simp) ?_
        simp only [Bool.false_eq_true, if_false]
        repeat (first | refine Run.skip ?_ | refine Run.opsNil ?_ | refine Run.inBlock ?_)
        refine nv ?_
        refine Run.draw [0, 0, 0, 0, 0, 0, 0, 0, 0, 0, 0, 0, 0, 0, 0, 0, 0, 0, 0, 0, 0] [0, 0, 0, 0, 0, 0, 0, 0, 0, 0, 0, 0, 0, 0, 0, 0, 0, 0, 0, 0, 0] [0, 0, 2, 6, 15, 31, 63, 127, 63, 511, 1023, 2047, 63, 4159, 63, 28735, 61503, 127039, 262143, 524287, 1048575] [0, 1, 2, 3, 4, 5, 6, 7, 8, 9, 10, 11, 12, 13, 14, 15, 16, 17, 18, 19, 20] (by kernel_rfl) (by kernel_rfl) ?_
        refine DR.go fun K hK => ?_
        simp [ga, gb, hne2, hc]
        try (simp (disch := omega) only [wrap_id])
        refine hK _ _ _ _ ?_; clear hK K
        change Run _ _ _ _ _ _ _ _
        refine nv ?_
        refine Run.cond (b := true) (by simp) ?_
        simp only [if_true]
        repeat (first | refine Run.skip ?_ | refine Run.opsNil ?_ | refine Run.inBlock ?_)
        refine nv ?_
        refine Run.reg fun K hK => ?_
        simp [gb]
        try (simp (disch := omega) only [wrap_id])
        refine hK _ _ _ ?_; clear hK K
        repeat (first | refine Run.skip ?_ | refine Run.opsNil ?_ | refine Run.inBlock ?_)
        refine nv ?_
        refine Run.reg fun K hK => ?_
        simp [k1]
        try (simp (disch := omega) only [wrap_id])
        refine hK _ _ _ ?_; clear hK K
        repeat (first | refine Run.skip ?_ | refine Run.opsNil ?_ | refine Run.inBlock ?_)
        refine hJ _ ?_
        simp
        repeat' (first | exact WeakL.nil | apply WeakL.cons)
        all_goals first | exact Weak.junk _ | exact Weak.refl _ | exact Weak.nil _ | exact Weak.own _ _ _ | exact Weak.int (by omega)
      · have hd1 : decide (i < a.length) = true := by simpa using (List.getElem?_eq_some_iff.1 ga).1
        have hl2 : k < b.length := (List.getElem?_eq_some_iff.1 gb).1
        have hne : ((k : Int) == (b.length : Int)) = false := by simp; omega
        have q1 := (List.getElem?_eq_some_iff.1 ga).1
        have hne2 : ((i : Int) == (a.length : Int)) = false := by simp; omega
        simp only [Prod.mk.injEq] at hc hvv
        obtain ⟨rfl, rfl⟩ := hvv
        subst hc
        have hmm : (if x2 < y2 then y2 else x2) = max x2 y2 := by split <;> omega
        refine nv ?_
        refine Run.draw [0, 0, 0, 0, 0, 0, 0, 0, 0, 0, 0, 0, 0, 0, 0, 0, 0, 0, 0, 0, 0, 0, 0, 0, 0, 0, 0, 0] [0, 0, 0, 0, 0, 0, 0, 0, 0, 0, 0, 0, 0, 0, 0, 0, 0, 0, 0, 0, 0, 0, 0, 0, 0, 0, 0, 0] [0, 0, 2, 6, 15, 31, 63, 63, 191, 447, 1023, 2047, 4095, 8191, 4095, 32767, 65535, 131071, 4095, 266239, 4095, 1839103, 3936255, 8130559, 16777215, 33554431, 67108863, 134217727] [0, 1, 2, 3, 4, 5, 6, 7, 8, 9, 10, 11, 12, 13, 14, 15, 16, 17, 18, 19, 20, 21, 22, 23, 24, 25, 26, 27] (by kernel_rfl) (by kernel_rfl) ?_
        refine DR.go fun K hK => ?_
        simp [ga, gb, hd1, hne]
        try (simp (disch := omega) only [wrap_id])
        refine hK _ _ _ _ ?_; clear hK K
        change Run _ _ _ _ _ _ _ _
        refine nv ?_
        refine Run.cond (b := false) (by simp) ?_
        simp only [Bool.false_eq_true, if_false]
        repeat (first | refine Run.skip ?_ | refine Run.opsNil ?_ | refine Run.inBlock ?_)
        refine nv ?_
        refine Run.draw [0, 0, 0, 0, 0, 0, 0, 0, 0, 0, 0, 0, 0, 0, 0, 0, 0, 0, 0, 0, 0] [0, 0, 0, 0, 0, 0, 0, 0, 0, 0, 0, 0, 0, 0, 0, 0, 0, 0, 0, 0, 0] [0, 0, 2, 6, 15, 31, 63, 127, 63, 511, 1023, 2047, 63, 4159, 63, 28735, 61503, 127039, 262143, 524287, 1048575] [0, 1, 2, 3, 4, 5, 6, 7, 8, 9, 10, 11, 12, 13, 14, 15, 16, 17, 18, 19, 20] (by kernel_rfl) (by kernel_rfl) ?_
        refine DR.go fun K hK => ?_
        simp [ga, gb, hne2]
        try (simp (disch := omega) only [wrap_id])
        refine hK _ _ _ _ ?_; clear hK K
        change Run _ _ _ _ _ _ _ _
        refine nv ?_
        refine Run.cond (b := false) (by simp) ?_
        simp only [Bool.false_eq_true, if_false]
        repeat (first | refine Run.skip ?_ | refine Run.opsNil ?_ | refine Run.inBlock ?_)
        refine nv ?_
        refine Run.draw [0, 0, 0, 0, 0, 0, 0, 0, 0, 0, 0, 0, 0, 0, 0, 0, 0, 0, 0, 0, 0] [0, 0, 0, 0, 0, 0, 0, 0, 0, 0, 0, 0, 0, 0, 0, 0, 0, 0, 0, 0, 0] [0, 1, 0, 7, 15, 31, 0, 64, 0, 448, 960, 1984, 0, 4096, 0, 28672, 61440, 126976, 262080, 524287, 1048575] [0, 1, 2, 3, 4, 5, 6, 7, 8, 9, 10, 11, 12, 13, 14, 15, 16, 17, 18, 19, 20] (by kernel_rfl) (by kernel_rfl) ?_
        refine DR.go fun K hK => ?_
        simp [ga, gb, hmm]
        try (simp (disch := omega) only [wrap_id])
        refine hK _ _ _ _ ?_; clear hK K
        change Run _ _ _ _ _ _ _ _
        refine nv ?_
        refine Run.reg fun K hK => ?_
        simp [i1]
        try (simp (disch := omega) only [wrap_id])
        refine hK _ _ _ ?_; clear hK K
        repeat (first | refine Run.skip ?_ | refine Run.opsNil ?_ | refine Run.inBlock ?_)
        refine nv ?_
        refine Run.reg fun K hK => ?_
        simp [k1]
        try (simp (disch := omega) only [wrap_id])
        refine hK _ _ _ ?_; clear hK K
        repeat (first | refine Run.skip ?_ | refine Run.opsNil ?_ | refine Run.inBlock ?_)
        refine hJ _ ?_
        simp
        repeat' (first | exact WeakL.nil | apply WeakL.cons)
        all_goals first | exact Weak.junk _ | exact Weak.refl _ | exact Weak.nil _ | exact Weak.own _ _ _ | exact Weak.int (by omega)
    simp only [setMany, keepT, keepT.go, List.contains_cons, List.set_cons_succ, List.set_cons_zero]
    simp
    have hm2 : (if mostL dn < v2 then v2 else mostL dn) = mostL (dn ++ [(v1, v2)]) := by rw [mostL_snoc]; simp only; split <;> omega
    have hb3 : (dn.length + 1) * 16 ≤ 140737488355328 := by omega
    have hb4 : dn.length + 1 ≤ 9223372036854775807 := by omega
    refine Run.seq ?_
    refine nv ?_
    refine Run.reg fun K hK => ?_
    simp [hm2]
    try (simp (disch := omega) only [wrap_id])
    refine hK _ _ _ ?_; clear hK K
    refine nv ?_
    refine Run.reg fun K hK => ?_
    simp [hb3, hb4]
    try (simp (disch := omega) only [wrap_id])
    refine hK _ _ _ ?_; clear hK K
    refine nv ?_
    refine Run.keep [2, 3, 4, 5, 6, 7, 8] ?_
    simp only [keepT, keepT.go, List.contains_cons]
    simp
    refine Run.cutAt 5 hh rfl (by omega) (by simp) (by simp) (by simp) rfl ?_
    simp
    refine IH (i', k', dn ++ [(v1, v2)]) _ _ ⟨hi', hk', by simp; omega, by rw [hdn, hmg]; simp⟩ (by simp; omega) ?_ ?_
    · simp
      repeat' (first | exact WeakL.nil | apply WeakL.cons)
      all_goals first | exact Weak.junk _ | exact Weak.refl _ | exact Weak.nil _ | exact Weak.own _ _ _ | exact Weak.int (by omega)
    · simp [varPs]
  · have e1 : i = a.length := by omega
    have e2 : k = b.length := by omega
    subst e1 e2
    rw [List.drop_length, List.drop_length, mergeL_nil_left, List.append_nil] at hdn
    subst hdn
    refine nv ?_
    refine Run.cond (b := false) (by simp) ?_
    simp only [Bool.false_eq_true, if_false]
    refine nv ?_
    refine Run.exit rfl ?_
    refine nv ?_
    by_cases hM0 : M = []
    · subst hM0
      simp at hr
      subst hr
      refine nv ?_
      refine Run.reg fun K hK => ?_
      simp
      try (simp (disch := omega) only [wrap_id])
      refine hK _ _ _ ?_; clear hK K
      refine nv ?_
      refine Run.cond (b := false) (by simp) ?_
      simp only [Bool.false_eq_true, if_false]
      refine nv ?_
      refine Run.reg fun K hK => ?_
      simp
      try (simp (disch := omega) only [wrap_id])
      refine hK _ _ _ ?_; clear hK K
      refine nv ?_
      refine Run.ret ?_
      refine Fin.ret' (h0 := h) (by simp) rfl hh rfl (by simp; rfl) rfl (y := .agg [iA mx, .p (.sl 2 (varPs []))]) ?_ (by simp) ⟨rfl, rfl⟩
      refine Weak.agg ?_
      repeat' (first | exact WeakL.nil | apply WeakL.cons)
      all_goals first | exact Weak.junk _ | exact Weak.refl _ | exact Weak.nil _ | exact Weak.own _ _ _ | exact Weak.int (by omega)
    have hM1 : 0 < M.length := List.length_pos_iff.2 hM0
    simp only [hM0, ne_eq, not_false_eq_true, true_and] at hr
    refine nv ?_
    refine Run.reg fun K hK => ?_
    simp [hM1]
    try (simp (disch := omega) only [wrap_id])
    refine hK _ _ _ ?_; clear hK K
    refine nv ?_
    by_cases hce : mx ≤ mostL M
    · rw [if_pos hce] at hr
      subst hr
      refine nv ?_
      refine Run.cond (b := true) (by simp [hce]) ?_
      simp only [if_true]
      refine nv ?_
      refine Run.reg fun K hK => ?_
      simp
      try (simp (disch := omega) only [wrap_id])
      refine hK _ _ _ ?_; clear hK K
      refine nv ?_
      refine Run.reg fun K hK => ?_
      simp
      try (simp (disch := omega) only [wrap_id])
      refine hK _ _ _ ?_; clear hK K
      refine nv ?_
      refine Run.ret ?_
      refine Fin.ret' (h0 := h) (by simp) rfl hh rfl (by simp; rfl) rfl (y := .agg [iA 0, .p (.sl 2 (varPs M))]) ?_ (by simp) ⟨rfl, rfl⟩
      refine Weak.agg ?_
      repeat' (first | exact WeakL.nil | apply WeakL.cons)
      all_goals first | exact Weak.junk _ | exact Weak.refl _ | exact Weak.nil _ | exact Weak.own _ _ _ | exact Weak.int (by omega)
    · rw [if_neg hce] at hr
      subst hr
      refine nv ?_
      refine Run.cond (b := false) (by simp [hce]) ?_
      simp only [Bool.false_eq_true, if_false]
      refine nv ?_
      refine Run.reg fun K hK => ?_
      simp
      try (simp (disch := omega) only [wrap_id])
      refine hK _ _ _ ?_; clear hK K
      refine nv ?_
      refine Run.ret ?_
      refine Fin.ret' (h0 := h) (by simp) rfl hh rfl (by simp; rfl) rfl (y := .agg [iA mx, .p (.sl 2 (varPs M))]) ?_ (by simp) ⟨rfl, rfl⟩
      refine Weak.agg ?_
      repeat' (first | exact WeakL.nil | apply WeakL.cons)
      all_goals first | exact Weak.junk _ | exact Weak.refl _ | exact Weak.nil _ | exact Weak.own _ _ _ | exact Weak.int (by omega)

end Go.Proofs.YtcfcolkbeelegaaGreat
