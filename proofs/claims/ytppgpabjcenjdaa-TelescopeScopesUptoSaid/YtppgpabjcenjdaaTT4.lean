/-
  telescope: Vars, Instantiate.
-/
import Derived.Test.YtppgpabjcenjdaaTT3
namespace Go.Proofs.Ytppgpabjcenjdaa

open Go Go.AI

/-- The same, over more values. -/
theorem under_bothW (t : Tm) (vs : List Tm) (dp : Int) (hok : t.ok 65536) (hsz : t.size ≤ 4096) (hvl : vs.length ≤ 1048576) (hvo : ∀ v ∈ vs, v.ok 65536 ∧ v.size ≤ 4096) (h1 : dp ≤ 9223372036854775807) (h : Heap) (hh : WF h) :
    ACalls Try.prog 36 [t.av, .p (.sl 5 (tmPs vs)), iA dp] h (fun o h' => o = .ret (.tup [(resRefUnder t vs dp).1.av, iA (resRefUnder t vs dp).2]) ∧ h' = h) ∧
    ACalls Try.prog 37 [t.av, .p (.sl 5 (tmPs vs)), iA dp] h (fun o h' => o = .ret (.tup [(resRefUnder t vs dp).1.av, iA (resRefUnder t vs dp).2]) ∧ h' = h) := by
  have hr := res_under t vs dp hok (by omega) (by omega) (fun v hv => (hvo v hv).1) (fun v hv => by have := (hvo v hv).2; omega) h1
  have hvd : ∀ v ∈ vs, Dom 65536 v 0 := fun v hv => ⟨by simpa using (hvo v hv).1, by omega, by have := (hvo v hv).2; omega⟩
  have hok' := fun (h0 : 0 ≤ dp) => subT_ok vs (fun v hv => (hvo v hv).1) t (capD dp) (65536 + capD dp) (ok_mono t _ _ hok (by unfold capD; split <;> omega)) (by unfold capD; split <;> omega) (by omega)
  constructor
  · rw [← hr]
    refine under_any h hh t vs dp ⟨⟨by simpa using hok, by omega, by omega⟩, by omega⟩ h1 (by omega) hvd (fun v hv => by have := (hvo v hv).2; omega) ?_
    intro h0 t' s' u s2 hc hs
    have hc' := bld_cnt vs (by omega) (fun v hv => by have := (hvo v hv).2; omega) dp h0 h1 t 0 0 (by simpa using hok) (by omega) (by omega) (by omega) (by omega)
    have hs' := bld_sub vs (by omega) (fun v hv => (hvo v hv).1) dp h0 h1 t 0 0 (by simpa using hok) (by omega) (by omega)
    simp only [Int.add_zero, Int.zero_add] at hc' hs'
    by_cases h5 : 4096 < (subCnt vs (capD dp) t : Int)
    · obtain ⟨s3, e3⟩ := hc'.2 h5
      rw [e3] at hc; cases hc
    · rw [hs] at hs'
      by_cases hb : subBad vs (capD dp) t = true
      · rw [if_pos hb] at hs'; cases hs'
      · rw [if_neg hb] at hs'
        injection hs' with e1 e2
        have := (hok' h0 (by simpa using hb)).2
        rw [e1, this]; omega
  · refine refUnder_any h hh t vs dp (by omega) (fun v hv => ⟨by have := (hvo v hv).2; omega, ok_idx v 65536 (hvo v hv).1 (by have := (hvo v hv).2; omega)⟩) (by omega) (ok_idx t 65536 hok (by omega)) ?_
    intro h07
    by_cases h0 : dp < 0
    · rw [resRefUnder, if_pos h0] at h07; simp at h07
    · rw [resRef_plain t vs dp (by omega), resSub] at h07
      have hl := rsub_law vs t 0 0 (capD dp)
      by_cases h5 : 4096 < (subCnt vs (capD dp) t : Int)
      · rw [if_pos h5] at h07; simp at h07
      · rw [if_neg h5] at h07
        by_cases hb : subBad vs (capD dp) t = true
        · rw [if_pos hb] at h07; simp at h07
        · rw [hl.1 (by omega)]
          have := (hok' (by omega) (by simpa using hb)).2
          simp only
          rw [this]; omega

theorem subst_bothW (t : Tm) (vs : List Tm) (hok : t.ok 65536) (hsz : t.size ≤ 4096) (hvl : vs.length ≤ 1048576) (hvo : ∀ v ∈ vs, v.ok 65536 ∧ v.size ≤ 4096) (h : Heap) (hh : WF h) :
    ACalls Try.prog 34 [t.av, .p (.sl 5 (tmPs vs))] h (fun o h' => o = .ret (.tup [(resRefUnder t vs 0).1.av, iA (resRefUnder t vs 0).2]) ∧ h' = h) ∧
    ACalls Try.prog 35 [t.av, .p (.sl 5 (tmPs vs))] h (fun o h' => o = .ret (.tup [(resRefUnder t vs 0).1.av, iA (resRefUnder t vs 0).2]) ∧ h' = h) :=
  ⟨subst_any h hh t vs _ fun g hg => (under_bothW t vs 0 hok hsz hvl hvo (by omega) g hg).1, refSubst_any h hh t vs _ fun g hg => (under_bothW t vs 0 hok hsz hvl hvo (by omega) g hg).2⟩

/-- The cells of a variable that was just built. -/
abbrev vc (x : Int) : List PV := [iP 0, iP x, sP [], .prim (.slice none 0 0), .prim (.slice none 0 0)]

theorem vc_len (l : List Int) : ∀ e ∈ l.map vc, e.length = 5 := by
  intro e he
  obtain ⟨x, _, rfl⟩ := List.mem_map.1 he
  rfl

theorem vc_weak : ∀ l : List Int, WeakPs (l.map vc) (tmPs (l.map vr))
  | [] => WeakPs.nil
  | x :: l => by
    simp only [List.map_cons, tmPs, vr, cells_mk]
    refine WeakPs.cons ?_ (vc_weak l)
    repeat' (first | exact WeakPL.nil | apply WeakPL.cons)
    all_goals first | exact WeakP.refl _ | exact WeakP.nil _

def varZ (n fr : Int) : List Int := if n < 1 ∨ 4096 < n ∨ fr < 0 then [] else (List.range n.toNat).map fun j : Nat => fr + n - 1 - j

/-- Variables in descending order. -/
def varL (n fr : Int) : List Tm := (varZ n fr).map vr

def varRow (fr : Int) (N j : Nat) : List (List PV) := ((List.range j).map fun j : Nat => fr + N - 1 - j).map vc ++ List.replicate (N - j) z5

theorem varRow_len5 (fr : Int) (N j : Nat) : ∀ e ∈ varRow fr N j, e.length = 5 := by
  intro e he
  rcases List.mem_append.1 he with h | h
  · exact vc_len _ e h
  · rw [(List.mem_replicate.1 h).2]; rfl

theorem varRow_length (fr : Int) (N j : Nat) (hj : j ≤ N) : (varRow fr N j).length = N := by simp [varRow]; omega

theorem varRow_set (fr : Int) (N j : Nat) (hj : j < N) : (varRow fr N j).set j (vc (fr + N - 1 - j)) = varRow fr N (j + 1) := by
  unfold varRow
  rw [List.set_append_right _ _ (by simp), show N - j = N - (j + 1) + 1 by omega, List.replicate_succ]
  simp only [List.length_map, List.length_range, Nat.sub_self, List.set_cons_zero, List.range_succ, List.map_append, List.map_cons, List.map_nil, List.append_assoc, List.cons_append, List.nil_append]

theorem varRow_zero (fr : Int) (N : Nat) : (List.replicate N [iA 0, iA 0, AV.p (sP []), AV.p (.prim (.slice none 0 0)), AV.p (.prim (.slice none 0 0))]).flatten = buf 5 (varRow fr N 0) 0 := by
  rw [kidCells_zero]
  simp [kidCells, buf, varRow, tmPs]

set_option maxRecDepth 8000 in
set_option maxHeartbeats 4000000 in
theorem vars53_any (h : Heap) (hh : WF h) (n fr : Int) (hn : -9223372036854775808 ≤ n) (hn2 : n ≤ 9223372036854775807) (hf : fr ≤ 1099511627776) : ACalls Try.prog 53 [iA n, iA fr] h fun o h' => o = .ret (.p (.sl 5 (tmPs (varL n fr)))) ∧ h' = h := by
  obtain ⟨r, hr⟩ : ∃ r, r = varZ n fr := ⟨_, rfl⟩
  unfold varL
  rw [← hr]
  unfold varZ at hr
  by_cases c1 : n < 1
  · rw [if_pos (.inl c1)] at hr
    subst hr
    refine ACalls.of_run Try.func53 rfl ?_
    simp only [Try.ntmps53, List.length_cons, List.length_nil, List.map]
    repeat (first | refine Run.seq ?_ | refine Run.block ?_ | refine Run.skip ?_ | refine Run.inBlock ?_ | refine Run.opsNil ?_)
    repeat (first | refine Run.seq ?_ | refine Run.block ?_ | refine Run.skip ?_ | refine Run.inBlock ?_ | refine Run.opsNil ?_)
    refine Run.reg fun K hK => ?_
    simp
    try (simp (disch := omega) only [wrap_id])
    refine hK _ _ _ ?_; clear hK K
    repeat (first | refine Run.seq ?_ | refine Run.block ?_ | refine Run.skip ?_ | refine Run.inBlock ?_ | refine Run.opsNil ?_)
    repeat (first | refine Run.seq ?_ | refine Run.block ?_ | refine Run.skip ?_ | refine Run.inBlock ?_ | refine Run.opsNil ?_)
    refine Run.reg fun K hK => ?_
    simp [c1]
    try (simp (disch := omega) only [wrap_id])
    refine hK _ _ _ ?_; clear hK K
    repeat (first | refine Run.seq ?_ | refine Run.block ?_ | refine Run.skip ?_ | refine Run.inBlock ?_ | refine Run.opsNil ?_)
    repeat (first | refine Run.seq ?_ | refine Run.block ?_ | refine Run.skip ?_ | refine Run.inBlock ?_ | refine Run.opsNil ?_)
    refine Run.cond (b := true) (by simp) ?_
    simp only [if_true]
    repeat (first | refine Run.seq ?_ | refine Run.block ?_ | refine Run.skip ?_ | refine Run.inBlock ?_ | refine Run.opsNil ?_)
    repeat (first | refine Run.seq ?_ | refine Run.block ?_ | refine Run.skip ?_ | refine Run.inBlock ?_ | refine Run.opsNil ?_)
    refine Run.reg fun K hK => ?_
    simp
    try (simp (disch := omega) only [wrap_id])
    refine hK _ _ _ ?_; clear hK K
    repeat (first | refine Run.seq ?_ | refine Run.block ?_ | refine Run.skip ?_ | refine Run.inBlock ?_ | refine Run.opsNil ?_)
    refine Run.ret ?_
    exact Fin.ret' (h0 := h) (xs := [.p (.prim (.slice none 0 0))]) (by simp) rfl hh (List.append_nil _).symm (by simp) rfl (Weak.nil 5) rfl ⟨rfl, rfl⟩
  by_cases c2 : 4096 < n
  · rw [if_pos (.inr (.inl c2))] at hr
    subst hr
    refine ACalls.of_run Try.func53 rfl ?_
    simp only [Try.ntmps53, List.length_cons, List.length_nil, List.map]
    repeat (first | refine Run.seq ?_ | refine Run.block ?_ | refine Run.skip ?_ | refine Run.inBlock ?_ | refine Run.opsNil ?_)
    repeat (first | refine Run.seq ?_ | refine Run.block ?_ | refine Run.skip ?_ | refine Run.inBlock ?_ | refine Run.opsNil ?_)
    refine Run.reg fun K hK => ?_
    simp
    try (simp (disch := omega) only [wrap_id])
    refine hK _ _ _ ?_; clear hK K
    repeat (first | refine Run.seq ?_ | refine Run.block ?_ | refine Run.skip ?_ | refine Run.inBlock ?_ | refine Run.opsNil ?_)
    repeat (first | refine Run.seq ?_ | refine Run.block ?_ | refine Run.skip ?_ | refine Run.inBlock ?_ | refine Run.opsNil ?_)
    refine Run.reg fun K hK => ?_
    simp [c1, c2]
    try (simp (disch := omega) only [wrap_id])
    refine hK _ _ _ ?_; clear hK K
    repeat (first | refine Run.seq ?_ | refine Run.block ?_ | refine Run.skip ?_ | refine Run.inBlock ?_ | refine Run.opsNil ?_)
    repeat (first | refine Run.seq ?_ | refine Run.block ?_ | refine Run.skip ?_ | refine Run.inBlock ?_ | refine Run.opsNil ?_)
    refine Run.cond (b := true) (by simp) ?_
    simp only [if_true]
    repeat (first | refine Run.seq ?_ | refine Run.block ?_ | refine Run.skip ?_ | refine Run.inBlock ?_ | refine Run.opsNil ?_)
    repeat (first | refine Run.seq ?_ | refine Run.block ?_ | refine Run.skip ?_ | refine Run.inBlock ?_ | refine Run.opsNil ?_)
    refine Run.reg fun K hK => ?_
    simp
    try (simp (disch := omega) only [wrap_id])
    refine hK _ _ _ ?_; clear hK K
    repeat (first | refine Run.seq ?_ | refine Run.block ?_ | refine Run.skip ?_ | refine Run.inBlock ?_ | refine Run.opsNil ?_)
    refine Run.ret ?_
    exact Fin.ret' (h0 := h) (xs := [.p (.prim (.slice none 0 0))]) (by simp) rfl hh (List.append_nil _).symm (by simp) rfl (Weak.nil 5) rfl ⟨rfl, rfl⟩
  by_cases c3 : fr < 0
  · rw [if_pos (.inr (.inr c3))] at hr
    subst hr
    refine ACalls.of_run Try.func53 rfl ?_
    simp only [Try.ntmps53, List.length_cons, List.length_nil, List.map]
    repeat (first | refine Run.seq ?_ | refine Run.block ?_ | refine Run.skip ?_ | refine Run.inBlock ?_ | refine Run.opsNil ?_)
    repeat (first | refine Run.seq ?_ | refine Run.block ?_ | refine Run.skip ?_ | refine Run.inBlock ?_ | refine Run.opsNil ?_)
    refine Run.reg fun K hK => ?_
    simp
    try (simp (disch := omega) only [wrap_id])
    refine hK _ _ _ ?_; clear hK K
    repeat (first | refine Run.seq ?_ | refine Run.block ?_ | refine Run.skip ?_ | refine Run.inBlock ?_ | refine Run.opsNil ?_)
    repeat (first | refine Run.seq ?_ | refine Run.block ?_ | refine Run.skip ?_ | refine Run.inBlock ?_ | refine Run.opsNil ?_)
    refine Run.reg fun K hK => ?_
    simp [c1, c2, c3]
    try (simp (disch := omega) only [wrap_id])
    refine hK _ _ _ ?_; clear hK K
    repeat (first | refine Run.seq ?_ | refine Run.block ?_ | refine Run.skip ?_ | refine Run.inBlock ?_ | refine Run.opsNil ?_)
    repeat (first | refine Run.seq ?_ | refine Run.block ?_ | refine Run.skip ?_ | refine Run.inBlock ?_ | refine Run.opsNil ?_)
    refine Run.cond (b := true) (by simp) ?_
    simp only [if_true]
    repeat (first | refine Run.seq ?_ | refine Run.block ?_ | refine Run.skip ?_ | refine Run.inBlock ?_ | refine Run.opsNil ?_)
    repeat (first | refine Run.seq ?_ | refine Run.block ?_ | refine Run.skip ?_ | refine Run.inBlock ?_ | refine Run.opsNil ?_)
    refine Run.reg fun K hK => ?_
    simp
    try (simp (disch := omega) only [wrap_id])
    refine hK _ _ _ ?_; clear hK K
    repeat (first | refine Run.seq ?_ | refine Run.block ?_ | refine Run.skip ?_ | refine Run.inBlock ?_ | refine Run.opsNil ?_)
    refine Run.ret ?_
    exact Fin.ret' (h0 := h) (xs := [.p (.prim (.slice none 0 0))]) (by simp) rfl hh (List.append_nil _).symm (by simp) rfl (Weak.nil 5) rfl ⟨rfl, rfl⟩
  rw [if_neg (by omega)] at hr
  obtain ⟨N, hN⟩ : ∃ N : Nat, n = N := ⟨n.toNat, by omega⟩
  subst hN
  rw [Int.toNat_natCast] at hr
  have hm1 : N * 80 ≤ 140737488355328 := by omega
  have hm2 : N ≤ 1099511627776 := by omega
  refine ACalls.of_run Try.func53 rfl ?_
  simp only [Try.ntmps53, List.length_cons, List.length_nil]
  repeat (first | refine Run.seq ?_ | refine Run.block ?_ | refine Run.skip ?_ | refine Run.inBlock ?_ | refine Run.opsNil ?_)
  repeat (first | refine Run.seq ?_ | refine Run.block ?_ | refine Run.skip ?_ | refine Run.inBlock ?_ | refine Run.opsNil ?_)
  refine Run.reg fun K hK => ?_
  simp
  try (simp (disch := omega) only [wrap_id])
  refine hK _ _ _ ?_; clear hK K
  repeat (first | refine Run.seq ?_ | refine Run.block ?_ | refine Run.skip ?_ | refine Run.inBlock ?_ | refine Run.opsNil ?_)
  repeat (first | refine Run.seq ?_ | refine Run.block ?_ | refine Run.skip ?_ | refine Run.inBlock ?_ | refine Run.opsNil ?_)
  refine Run.reg fun K hK => ?_
  simp [c1, c2, c3]
  try (simp (disch := omega) only [wrap_id])
  refine hK _ _ _ ?_; clear hK K
  repeat (first | refine Run.seq ?_ | refine Run.block ?_ | refine Run.skip ?_ | refine Run.inBlock ?_ | refine Run.opsNil ?_)
  repeat (first | refine Run.seq ?_ | refine Run.block ?_ | refine Run.skip ?_ | refine Run.inBlock ?_ | refine Run.opsNil ?_)
  refine Run.cond (b := false) (by simp) ?_
  simp only [Bool.false_eq_true, if_false]
  repeat (first | refine Run.seq ?_ | refine Run.block ?_ | refine Run.skip ?_ | refine Run.inBlock ?_ | refine Run.opsNil ?_)
  repeat (first | refine Run.seq ?_ | refine Run.block ?_ | refine Run.skip ?_ | refine Run.inBlock ?_ | refine Run.opsNil ?_)
  refine Run.reg fun K hK => ?_
  simp [hm1, hm2]
  try (simp (disch := omega) only [wrap_id])
  refine hK _ _ _ ?_; clear hK K
  repeat (first | refine Run.seq ?_ | refine Run.block ?_ | refine Run.skip ?_ | refine Run.inBlock ?_ | refine Run.opsNil ?_)
  rw [varRow_zero fr N]
  repeat (first | refine Run.seq ?_ | refine Run.block ?_ | refine Run.skip ?_ | refine Run.inBlock ?_ | refine Run.opsNil ?_)
  refine Run.reg fun K hK => ?_
  simp
  try (simp (disch := omega) only [wrap_id])
  refine hK _ _ _ ?_; clear hK K
  repeat (first | refine Run.seq ?_ | refine Run.block ?_ | refine Run.skip ?_ | refine Run.inBlock ?_ | refine Run.opsNil ?_)
  refine Run.loopS [0, 1, 5, 20] (fun j : Nat => j ≤ N) (fun j => N - j) (fun j => [(21, iA j)]) (fun j => h ++ [some (.cells (buf 5 (varRow fr N j) 0))]) 0 (by simp) ?_ (by simp) ?_
  · simp
    repeat' (first | exact WeakL.nil | apply WeakL.cons)
    all_goals first | exact Weak.junk _ | exact Weak.refl _ | exact Weak.nil _ | exact Weak.own _ _ _ | exact Weak.int (by omega)
  intro j hj IH
  simp
  repeat (first | refine Run.seq ?_ | refine Run.block ?_ | refine Run.skip ?_ | refine Run.inBlock ?_ | refine Run.opsNil ?_)
  refine Run.reg fun K hK => ?_
  simp
  try (simp (disch := omega) only [wrap_id])
  refine hK _ _ _ ?_; clear hK K
  repeat (first | refine Run.seq ?_ | refine Run.block ?_ | refine Run.skip ?_ | refine Run.inBlock ?_ | refine Run.opsNil ?_)
  by_cases hjl : j < N
  · have hl := varRow_length fr N j hj
    have hw1 : IntKind.i64.wrap (fr + N) = fr + N := wrap_id (by omega) (by omega)
    have hw2 : IntKind.i64.wrap (fr + N - 1) = fr + N - 1 := wrap_id (by omega) (by omega)
    have hw3 : IntKind.i64.wrap (fr + N - 1 - j) = fr + N - 1 - j := wrap_id (by omega) (by omega)
    have hput : patch (buf 5 (varRow fr N j) 0) (j * 5) [iA 0, iA (fr + N - 1 - j), .p (sP []), .p (.prim (.slice none 0 0)), .p (.prim (.slice none 0 0))] = buf 5 (varRow fr N (j + 1)) 0 := by
      have := buf_set (m := 0) (k := j) (e := vc (fr + N - 1 - j)) (varRow_len5 fr N j) (by omega) rfl
      rw [varRow_set fr N j hjl] at this
      exact this
    have hlen : j * 5 + 5 ≤ (buf 5 (varRow fr N j) 0).length := by rw [buf_len (varRow_len5 fr N j), hl]; omega
    repeat (first | refine Run.seq ?_ | refine Run.block ?_ | refine Run.skip ?_ | refine Run.inBlock ?_ | refine Run.opsNil ?_)
    refine Run.cond (b := true) (by simp [hjl]) ?_
    simp only [if_true]
    repeat (first | refine Run.seq ?_ | refine Run.block ?_ | refine Run.skip ?_ | refine Run.inBlock ?_ | refine Run.opsNil ?_)
    repeat (first | refine Run.seq ?_ | refine Run.block ?_ | refine Run.skip ?_ | refine Run.inBlock ?_ | refine Run.opsNil ?_)
    refine Run.reg fun K hK => ?_
    simp
    try (simp (disch := omega) only [wrap_id])
    refine hK _ _ _ ?_; clear hK K
    repeat (first | refine Run.seq ?_ | refine Run.block ?_ | refine Run.skip ?_ | refine Run.inBlock ?_ | refine Run.opsNil ?_)
    repeat (first | refine Run.seq ?_ | refine Run.block ?_ | refine Run.skip ?_ | refine Run.inBlock ?_ | refine Run.opsNil ?_)
    refine Run.reg fun K hK => ?_
    simp [hjl, hw1, hw2, hw3, hlen]
    try (simp (disch := omega) only [wrap_id])
    refine hK _ _ _ ?_; clear hK K
    repeat (first | refine Run.seq ?_ | refine Run.block ?_ | refine Run.skip ?_ | refine Run.inBlock ?_ | refine Run.opsNil ?_)
    repeat (first | refine Run.seq ?_ | refine Run.block ?_ | refine Run.skip ?_ | refine Run.inBlock ?_ | refine Run.opsNil ?_)
    refine Run.reg fun K hK => ?_
    simp
    try (simp (disch := omega) only [wrap_id])
    refine hK _ _ _ ?_; clear hK K
    repeat (first | refine Run.seq ?_ | refine Run.block ?_ | refine Run.skip ?_ | refine Run.inBlock ?_ | refine Run.opsNil ?_)
    refine IH (j + 1) _ _ (by omega) (by omega) ?_ ?_
    · simp
      repeat' (first | exact WeakL.nil | apply WeakL.cons)
      all_goals first | exact Weak.junk _ | exact Weak.refl _ | exact Weak.nil _ | exact Weak.own _ _ _ | exact Weak.int (by omega)
    · exact congrArg (fun c => h ++ [some (AO.cells c)]) hput
  · have hje : j = N := by omega
    subst hje
    repeat (first | refine Run.seq ?_ | refine Run.block ?_ | refine Run.skip ?_ | refine Run.inBlock ?_ | refine Run.opsNil ?_)
    refine Run.cond (b := false) (by simp) ?_
    simp only [Bool.false_eq_true, if_false]
    repeat (first | refine Run.seq ?_ | refine Run.block ?_ | refine Run.skip ?_ | refine Run.inBlock ?_ | refine Run.opsNil ?_)
    repeat (first | refine Run.seq ?_ | refine Run.block ?_ | refine Run.skip ?_ | refine Run.inBlock ?_ | refine Run.opsNil ?_)
    refine Run.exit rfl ?_
    repeat (first | refine Run.seq ?_ | refine Run.block ?_ | refine Run.skip ?_ | refine Run.inBlock ?_ | refine Run.opsNil ?_)
    repeat (first | refine Run.seq ?_ | refine Run.block ?_ | refine Run.skip ?_ | refine Run.inBlock ?_ | refine Run.opsNil ?_)
    refine Run.reg fun K hK => ?_
    simp
    try (simp (disch := omega) only [wrap_id])
    refine hK _ _ _ ?_; clear hK K
    repeat (first | refine Run.seq ?_ | refine Run.block ?_ | refine Run.skip ?_ | refine Run.inBlock ?_ | refine Run.opsNil ?_)
    have hfin : varRow fr j j = r.map vc := by rw [hr]; simp [varRow]
    rw [hfin]
    refine Run.freezeS 4 (id := h.length) (n := j) (cap := j) (sz := 5) (m := 0) (es := r.map vc) (by simp) (by simp) (vc_len r) (by rw [← hfin, varRow_length _ _ _ (Nat.le_refl _)]) (Nat.le_refl _) ?_
    simp
    refine Run.ret ?_
    exact Fin.ret' (h0 := h) (xs := [.p (.sl 5 (r.map vc))]) (by simp) rfl hh rfl (by simp) rfl (WeakP.sl (vc_weak r)).av rfl ⟨rfl, rfl⟩

end Go.Proofs.Ytppgpabjcenjdaa
