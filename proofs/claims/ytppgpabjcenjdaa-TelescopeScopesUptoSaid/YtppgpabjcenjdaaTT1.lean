/-
  slices.Clone, slices.Reverse over rows of terms.
-/
import Derived.Test.YtppgpabjcenjdaaTG1
import Derived.Test.YtppgpabjcenjdaaTFF
namespace Go.Proofs.Ytppgpabjcenjdaa

open Go Go.AI

theorem tmPs_len5 (l : List Tm) : ∀ e ∈ tmPs l, e.length = 5 := by
  intro e he
  rw [tmPs_eq] at he; obtain ⟨t, _, rfl⟩ := List.mem_map.1 he; simp

/-- A row of terms, and room for more. -/
abbrev row (l : List Tm) (m : Nat) : Option AO := some (.cells (buf 5 (tmPs l) m))

theorem row_get {l : List Tm} {m k : Nat} (hk : k < l.length) : ((buf 5 (tmPs l) m).drop (k * 5)).take 5 = (l[k]).cells.map .p := by
  rw [buf_get (tmPs_len5 l) (by simpa using hk)]; simp [tmPs_eq]

theorem row_set {l : List Tm} {m k : Nat} (t : Tm) (hk : k < l.length) : patch (buf 5 (tmPs l) m) (k * 5) (t.cells.map .p) = buf 5 (tmPs (l.set k t)) m := by
  rw [buf_set (tmPs_len5 l) (by simpa using hk) (by simp)]; simp [tmPs_eq, List.map_set]

theorem row_len (l : List Tm) (m : Nat) : (buf 5 (tmPs l) m).length = (l.length + m) * 5 := by rw [buf_len (tmPs_len5 l)]; simp

theorem row_under (n : Nat) (l : List Tm) (m : Nat) : AO.under n (row l m) = true := buf_under n 5 (tmPs l) m

/-- The result of Clone: nothing is told of where an empty one lies. -/
def CloneR (h : Heap) (ts : List Tm) (o : AOut) (h' : Heap) : Prop :=
  (ts = [] ∧ o = .ret (.p (.sl 5 [])) ∧ h' = h) ∨ ∃ (G : Heap) (cap : Nat), WF (h ++ G) ∧ ts.length ≤ cap ∧ o = .ret (.sm (h.length + G.length) 0 ts.length cap 5) ∧ h' = h ++ (G ++ [row ts (cap - ts.length)])

set_option maxRecDepth 8000 in
set_option maxHeartbeats 4000000 in
theorem clone_any (h : Heap) (hh : WF h) (ts : List Tm) (hl : ts.length ≤ 1048576) : ACalls Try.prog 132 [.p (.sl 5 (tmPs ts))] h (CloneR h ts) := by
  refine ACalls.of_run Try.func132 rfl ?_
  simp only [Try.ntmps132, List.length_cons, List.length_nil]
  repeat (first | refine Run.seq ?_ | refine Run.block ?_ | refine Run.skip ?_ | refine Run.inBlock ?_ | refine Run.opsNil ?_)
  repeat (first | refine Run.seq ?_ | refine Run.block ?_ | refine Run.skip ?_ | refine Run.inBlock ?_ | refine Run.opsNil ?_)
  refine Run.reg fun K hK => ?_
  simp
  try (simp (disch := omega) only [wrap_id])
  refine hK _ _ _ ?_; clear hK K
  repeat (first | refine Run.seq ?_ | refine Run.block ?_ | refine Run.skip ?_ | refine Run.inBlock ?_ | refine Run.opsNil ?_)
  repeat (first | refine Run.seq ?_ | refine Run.block ?_ | refine Run.skip ?_ | refine Run.inBlock ?_ | refine Run.opsNil ?_)
  refine Run.regPre 1 fun K hK => ?_
  simp only [List.take_succ_cons, List.take_zero]
  simp
  try (simp (disch := omega) only [wrap_id])
  refine hK _ _ _ ?_; clear hK K
  simp only [List.nil_append, List.drop_succ_cons, List.drop_zero]
  refine Run.nilEq (sz := 5) (es := tmPs ts) rfl Try.underlying23 rfl (by simp) fun b hb => ?_
  refine Run.ops fun K hK => ?_
  simp
  try (simp (disch := omega) only [wrap_id])
  refine hK _ _ _ ?_; clear hK K
  repeat (first | refine Run.seq ?_ | refine Run.block ?_ | refine Run.skip ?_ | refine Run.inBlock ?_ | refine Run.opsNil ?_)
  cases b with
  | true =>
    have h0 : ts = [] := by
      have := hb rfl
      rw [tmPs_eq] at this
      simpa using this
    subst h0
    repeat (first | refine Run.seq ?_ | refine Run.block ?_ | refine Run.skip ?_ | refine Run.inBlock ?_ | refine Run.opsNil ?_)
    refine Run.cond (b := true) (by simp) ?_
    simp only [if_true]
    repeat (first | refine Run.seq ?_ | refine Run.block ?_ | refine Run.skip ?_ | refine Run.inBlock ?_ | refine Run.opsNil ?_)
    repeat (first | refine Run.seq ?_ | refine Run.block ?_ | refine Run.skip ?_ | refine Run.inBlock ?_ | refine Run.opsNil ?_)
    refine Run.reg fun K hK => ?_
    simp
    try (simp (disch := omega) only [wrap_id])
    refine hK _ _ _ ?_; clear hK K
    repeat (first | refine Run.seq ?_ | refine Run.block ?_ | refine Run.skip ?_ | refine Run.inBlock ?_ | refine Run.opsNil ?_)
    refine Run.ret ?_
    exact Fin.ret' (h0 := h) (xs := [.p (.prim (.slice none 0 0))]) (by simp) rfl hh (List.append_nil _).symm (by simp) rfl (Weak.nil 5) rfl (.inl ⟨rfl, rfl, rfl⟩)
  | false =>
    repeat (first | refine Run.seq ?_ | refine Run.block ?_ | refine Run.skip ?_ | refine Run.inBlock ?_ | refine Run.opsNil ?_)
    refine Run.cond (b := false) (by simp) ?_
    simp only [Bool.false_eq_true, if_false]
    repeat (first | refine Run.seq ?_ | refine Run.block ?_ | refine Run.skip ?_ | refine Run.inBlock ?_ | refine Run.opsNil ?_)
    cases ts with
    | nil =>
      repeat (first | refine Run.seq ?_ | refine Run.block ?_ | refine Run.skip ?_ | refine Run.inBlock ?_ | refine Run.opsNil ?_)
      refine Run.regPre 2 fun K hK => ?_
      simp only [List.take_succ_cons, List.take_zero]
      simp [tmPs]
      try (simp (disch := omega) only [wrap_id])
      refine hK _ _ _ ?_; clear hK K
      simp only [List.nil_append, List.drop_succ_cons, List.drop_zero]
      refine Run.appendZ (sz := 5) (sz' := 5) (es := []) (e := 25) rfl rfl rfl rfl (by simp) (by simp) ?_
      refine Run.ops fun K hK => ?_
      simp
      try (simp (disch := omega) only [wrap_id])
      refine hK _ _ _ ?_; clear hK K
      repeat (first | refine Run.seq ?_ | refine Run.block ?_ | refine Run.skip ?_ | refine Run.inBlock ?_ | refine Run.opsNil ?_)
      refine Run.ret ?_
      exact Fin.ret' (h0 := h) (by simp) rfl hh (by simp; rfl) (by simp; rfl) rfl (Weak.refl _) rfl (.inl ⟨rfl, rfl, rfl⟩)
    | cons t0 ts0 =>
      generalize ht : t0 :: ts0 = ts at *
      have hpos : 0 < ts.length := by rw [← ht]; simp
      clear ht t0 ts0
      repeat (first | refine Run.seq ?_ | refine Run.block ?_ | refine Run.skip ?_ | refine Run.inBlock ?_ | refine Run.opsNil ?_)
      refine Run.regPre 0 fun K hK => ?_
      simp only [List.take_zero]
      simp
      try (simp (disch := omega) only [wrap_id])
      refine hK _ _ _ ?_; clear hK K
      simp only [List.nil_append, List.drop_zero]
      refine Run.build0 (sz := 5) (e := 25) rfl rfl rfl rfl ?_
      refine Run.opsPre 1 fun K hK => ?_
      simp only [List.take_succ_cons, List.take_zero]
      simp
      try (simp (disch := omega) only [wrap_id])
      refine hK _ _ _ ?_; clear hK K
      simp only [List.nil_append, List.drop_succ_cons, List.drop_zero]
      refine Run.appendS (id := h.length) (es := []) (ys := tmPs ts) (cap := 0) (sz := 5) (by_ := 80) (e := 25) rfl rfl rfl rfl rfl rfl (by simp) (by simp [buf]) (by simp) (by simp) (by simp) (by simp) (by simpa using hpos) (by simp; omega) (by simp; omega) ?_ ?_
      · intro hc; simp only [List.length_nil, tmPs_length] at hc; omega
      · intro c' hc'
        refine Run.ops fun K hK => ?_
        simp
        try (simp (disch := omega) only [wrap_id])
        refine hK _ _ _ ?_; clear hK K
        repeat (first | refine Run.seq ?_ | refine Run.block ?_ | refine Run.skip ?_ | refine Run.inBlock ?_ | refine Run.opsNil ?_)
        refine Run.ret ?_
        refine Fin.retM (h0 := h ++ ([some (.cells (buf 5 [] 0))] ++ [row ts (c' - ts.length)])) (l := []) (by simp) (by simp) (hh.app (by simp [buf_under])) (by simp) (by simp; rfl) rfl (Weak.refl _) (by simp) (.inr ⟨[some (.cells (buf 5 [] 0))], c', hh.app (by simp [buf_under]), by simpa using hc', rfl, rfl⟩)

/-- How far a row is turned round: the first i and the last i. -/
def Turned (ts l : List Tm) (i : Nat) : Prop := l.length = ts.length ∧ ∀ k, k < ts.length → l[k]? = if k < i ∨ ts.length ≤ k + i then ts[ts.length - 1 - k]? else ts[k]?

theorem turned_zero (ts : List Tm) : Turned ts ts 0 := ⟨rfl, fun k hk => by rw [if_neg (by omega)]⟩

theorem turned_done {ts l : List Tm} {i : Nat} (h : Turned ts l i) (hi : ts.length ≤ 2 * i + 1) : l = ts.reverse := by
  apply List.ext_getElem?
  intro k
  rcases Nat.lt_or_ge k ts.length with hk | hk
  · rw [h.2 k hk, List.getElem?_reverse hk]
    by_cases hc : k < i ∨ ts.length ≤ k + i
    · rw [if_pos hc]
    · rw [if_neg hc]
      congr 1; omega
  · rw [List.getElem?_eq_none (by rw [h.1]; exact hk), List.getElem?_eq_none (by simpa using hk)]

theorem turned_step {ts l : List Tm} {i : Nat} (h : Turned ts l i) (hi : 2 * i + 1 < ts.length) (x y : Tm) (hx : l[i]? = some x) (hy : l[ts.length - 1 - i]? = some y) : Turned ts ((l.set i y).set (ts.length - 1 - i) x) (i + 1) := by
  refine ⟨by simp [h.1], fun k hk => ?_⟩
  have h1 := h.2 i (by omega)
  have h2 := h.2 (ts.length - 1 - i) (by omega)
  rw [if_neg (by omega)] at h1 h2
  rw [hx] at h1
  rw [hy] at h2
  rw [List.getElem?_set, List.getElem?_set]
  by_cases e1 : ts.length - 1 - i = k
  · rw [if_pos e1, if_pos (by simp [h.1]; omega), if_pos (by omega)]
    rw [show ts.length - 1 - k = i by omega]; exact h1
  · rw [if_neg e1]
    by_cases e2 : i = k
    · rw [if_pos e2, if_pos (by rw [h.1]; omega), if_pos (by omega), ← e2]; exact h2
    · rw [if_neg e2, h.2 k hk]
      by_cases hc : k < i ∨ ts.length ≤ k + i
      · rw [if_pos hc, if_pos (by omega)]
      · rw [if_neg hc, if_neg (by omega)]

set_option maxRecDepth 8000 in
set_option maxHeartbeats 8000000 in
theorem reverse_any (h : Heap) (hh : WF h) (ts : List Tm) (id cap m : Nat) (hl : ts.length ≤ 1048576) (hid : h[id]? = some (row ts m)) :
    ACalls Try.prog 133 [.sm id 0 ts.length cap 5] h fun o h' => o = .ret (.tup []) ∧ h' = h.set id (row ts.reverse m) := by
  obtain ⟨g1, g2, g3, g4, g5, hlt⟩ := idf hid
  refine ACalls.of_run Try.func133 rfl ?_
  simp only [Try.ntmps133, List.length_cons, List.length_nil]
  repeat (first | refine Run.seq ?_ | refine Run.block ?_ | refine Run.skip ?_ | refine Run.inBlock ?_ | refine Run.opsNil ?_)
  repeat (first | refine Run.seq ?_ | refine Run.block ?_ | refine Run.skip ?_ | refine Run.inBlock ?_ | refine Run.opsNil ?_)
  refine Run.reg fun K hK => ?_
  simp
  try (simp (disch := omega) only [wrap_id])
  refine hK _ _ _ ?_; clear hK K
  repeat (first | refine Run.seq ?_ | refine Run.block ?_ | refine Run.skip ?_ | refine Run.inBlock ?_ | refine Run.opsNil ?_)
  refine Run.loopS (ι := Nat × List Tm) [0] (fun p => 2 * p.1 ≤ ts.length + 1 ∧ Turned ts p.2 p.1) (fun p => ts.length - p.1) (fun p => [(2, iA p.1), (3, iA ((ts.length : Int) - 1 - p.1))]) (fun p => h.set id (row p.2 m)) (0, ts) ⟨by simp, turned_zero ts⟩ ?_ (by simp [set_same hid]) ?_
  · simp
    repeat' (first | exact WeakL.nil | apply WeakL.cons)
    all_goals first | exact Weak.junk _ | exact Weak.refl _ | exact Weak.nil _ | exact Weak.own _ _ _ | exact Weak.int (by omega)
  rintro ⟨i, l⟩ ⟨hi, ht⟩ IH
  simp only at hi ht
  simp
  have hll := ht.1
  by_cases hc : 2 * i + 1 < ts.length
  · obtain ⟨j, hj⟩ : ∃ j : Nat, j = ts.length - 1 - i := ⟨_, rfl⟩
    have hje : (ts.length : Int) - 1 - i = (j : Int) := by omega
    rw [hje]
    have hc2 : i < j := by omega
    have hil : i < l.length := by omega
    have hjl : j < l.length := by omega
    obtain ⟨x, hx⟩ : ∃ x, l[i] = x := ⟨_, rfl⟩
    obtain ⟨y, hy⟩ : ∃ y, l[j] = y := ⟨_, rfl⟩
    have hstep := turned_step ht hc x y (by rw [List.getElem?_eq_getElem hil, hx]) (by rw [← hj, List.getElem?_eq_getElem hjl, hy])
    rw [← hj] at hstep
    have gx : ((buf 5 (tmPs l) m).drop (i * 5)).take 5 = x.cells.map .p := by rw [row_get hil, hx]
    have gy : ((buf 5 (tmPs l) m).drop (j * 5)).take 5 = y.cells.map .p := by rw [row_get hjl, hy]
    have p1 : patch (buf 5 (tmPs l) m) (i * 5) (y.cells.map .p) = buf 5 (tmPs (l.set i y)) m := row_set y hil
    have p2 : patch (buf 5 (tmPs (l.set i y)) m) (j * 5) (x.cells.map .p) = buf 5 (tmPs ((l.set i y).set j x)) m := row_set x (by simpa using hjl)
    have l1 : i * 5 + 5 ≤ (buf 5 (tmPs l) m).length := by rw [row_len]; omega
    have l2 : j * 5 + 5 ≤ (buf 5 (tmPs l) m).length := by rw [row_len]; omega
    have l3 : j * 5 + 5 ≤ (buf 5 (tmPs (l.set i y)) m).length := by rw [row_len]; simp; omega
    have hi2 : i < ts.length := by omega
    have hj2 : j < ts.length := by omega
    repeat (first | refine Run.seq ?_ | refine Run.block ?_ | refine Run.skip ?_ | refine Run.inBlock ?_ | refine Run.opsNil ?_)
    refine Run.reg fun K hK => ?_
    simp
    try (simp (disch := omega) only [wrap_id])
    refine hK _ _ _ ?_; clear hK K
    repeat (first | refine Run.seq ?_ | refine Run.block ?_ | refine Run.skip ?_ | refine Run.inBlock ?_ | refine Run.opsNil ?_)
    repeat (first | refine Run.seq ?_ | refine Run.block ?_ | refine Run.skip ?_ | refine Run.inBlock ?_ | refine Run.opsNil ?_)
    refine Run.cond (b := true) (by simp [hc2]) ?_
    simp only [if_true]
    repeat (first | refine Run.seq ?_ | refine Run.block ?_ | refine Run.skip ?_ | refine Run.inBlock ?_ | refine Run.opsNil ?_)
    repeat (first | refine Run.seq ?_ | refine Run.block ?_ | refine Run.skip ?_ | refine Run.inBlock ?_ | refine Run.opsNil ?_)
    refine Run.draw [0, 0, 0, 0, 0, 0, 0, 0, 0, 0, 0, 0, 0, 0, 1, 1] [0, 0, 0, 0, 0, 0, 0, 0, 0, 0, 0, 0, 0, 0, 0, 1] [0, 0, 0, 0, 0, 0, 48, 112, 0, 0, 768, 1792, 4083, 8179, 16383, 32767] [0, 1, 4, 5, 6, 7, 8, 9, 10, 11, 12, 13, 2, 3, 14, 15] (by kernel_rfl) (by kernel_rfl) ?_
    refine DR.go fun K hK => ?_
    simp [hi2, hj2, l1, l2, l3, gx, gy, p1, p2, g3]
    try (simp (disch := omega) only [wrap_id])
    refine hK _ _ _ _ ?_; clear hK K
    change Run _ _ _ _ _ _ _ _
    repeat (first | refine Run.seq ?_ | refine Run.block ?_ | refine Run.skip ?_ | refine Run.inBlock ?_ | refine Run.opsNil ?_)
    repeat (first | refine Run.seq ?_ | refine Run.block ?_ | refine Run.skip ?_ | refine Run.inBlock ?_ | refine Run.opsNil ?_)
    refine Run.reg fun K hK => ?_
    simp
    try (simp (disch := omega) only [wrap_id])
    refine hK _ _ _ ?_; clear hK K
    repeat (first | refine Run.seq ?_ | refine Run.block ?_ | refine Run.skip ?_ | refine Run.inBlock ?_ | refine Run.opsNil ?_)
    refine IH (i + 1, (l.set i y).set j x) _ _ ⟨by simp only; omega, hstep⟩ (by simp only; omega) ?_ ?_
    · simp
      repeat' (first | exact WeakL.nil | apply WeakL.cons)
      all_goals first | exact Weak.junk _ | exact Weak.refl _ | exact Weak.int (by omega)
    · simp
  · have hc2 : ¬ (i : Int) < (ts.length : Int) - 1 - i := by omega
    have hd := turned_done ht (by omega)
    subst hd
    repeat (first | refine Run.seq ?_ | refine Run.block ?_ | refine Run.skip ?_ | refine Run.inBlock ?_ | refine Run.opsNil ?_)
    refine Run.reg fun K hK => ?_
    simp
    try (simp (disch := omega) only [wrap_id])
    refine hK _ _ _ ?_; clear hK K
    repeat (first | refine Run.seq ?_ | refine Run.block ?_ | refine Run.skip ?_ | refine Run.inBlock ?_ | refine Run.opsNil ?_)
    repeat (first | refine Run.seq ?_ | refine Run.block ?_ | refine Run.skip ?_ | refine Run.inBlock ?_ | refine Run.opsNil ?_)
    refine Run.cond (b := false) (by simp [hc2]) ?_
    simp only [Bool.false_eq_true, if_false]
    repeat (first | refine Run.seq ?_ | refine Run.block ?_ | refine Run.skip ?_ | refine Run.inBlock ?_ | refine Run.opsNil ?_)
    repeat (first | refine Run.seq ?_ | refine Run.block ?_ | refine Run.skip ?_ | refine Run.inBlock ?_ | refine Run.opsNil ?_)
    refine Run.exit rfl ?_
    repeat (first | refine Run.seq ?_ | refine Run.block ?_ | refine Run.skip ?_ | refine Run.inBlock ?_ | refine Run.opsNil ?_)
    refine Run.nil ?_
    exact Fin.ret' (h0 := h.set id (row ts.reverse m)) (by simp) (by simp) (hh.set (row_under _ _ _)) (List.append_nil _).symm rfl rfl (Weak.refl _) rfl ⟨rfl, rfl⟩

set_option maxRecDepth 8000 in
/-- An empty one is turned round. -/
theorem reverse_nil (h : Heap) (hh : WF h) : ACalls Try.prog 133 [.p (.sl 5 [])] h fun o h' => o = .ret (.tup []) ∧ h' = h := by
  refine ACalls.of_run Try.func133 rfl ?_
  simp only [Try.ntmps133, List.length_cons, List.length_nil]
  repeat (first | refine Run.seq ?_ | refine Run.block ?_ | refine Run.skip ?_ | refine Run.inBlock ?_ | refine Run.opsNil ?_)
  repeat (first | refine Run.seq ?_ | refine Run.block ?_ | refine Run.skip ?_ | refine Run.inBlock ?_ | refine Run.opsNil ?_)
  refine Run.reg fun K hK => ?_
  simp
  try (simp (disch := omega) only [wrap_id])
  refine hK _ _ _ ?_; clear hK K
  repeat (first | refine Run.seq ?_ | refine Run.block ?_ | refine Run.skip ?_ | refine Run.inBlock ?_ | refine Run.opsNil ?_)
  refine Run.loopS [] (fun _ : Unit => True) (fun _ => 0) (fun _ => [(2, iA 0), (3, iA (-1))]) (fun _ => h) () trivial ?_ rfl ?_
  · simp
    repeat' (first | exact WeakL.nil | apply WeakL.cons)
    all_goals first | exact Weak.junk _ | exact Weak.refl _ | exact Weak.nil _ | exact Weak.own _ _ _ | exact Weak.int (by omega)
  rintro _ _ IH
  simp
  repeat (first | refine Run.seq ?_ | refine Run.block ?_ | refine Run.skip ?_ | refine Run.inBlock ?_ | refine Run.opsNil ?_)
  refine Run.reg fun K hK => ?_
  simp
  try (simp (disch := omega) only [wrap_id])
  refine hK _ _ _ ?_; clear hK K
  repeat (first | refine Run.seq ?_ | refine Run.block ?_ | refine Run.skip ?_ | refine Run.inBlock ?_ | refine Run.opsNil ?_)
  repeat (first | refine Run.seq ?_ | refine Run.block ?_ | refine Run.skip ?_ | refine Run.inBlock ?_ | refine Run.opsNil ?_)
  refine Run.cond (b := false) (by simp) ?_
  simp only [Bool.false_eq_true, if_false]
  repeat (first | refine Run.seq ?_ | refine Run.block ?_ | refine Run.skip ?_ | refine Run.inBlock ?_ | refine Run.opsNil ?_)
  repeat (first | refine Run.seq ?_ | refine Run.block ?_ | refine Run.skip ?_ | refine Run.inBlock ?_ | refine Run.opsNil ?_)
  refine Run.exit rfl ?_
  repeat (first | refine Run.seq ?_ | refine Run.block ?_ | refine Run.skip ?_ | refine Run.inBlock ?_ | refine Run.opsNil ?_)
  refine Run.nil ?_
  exact Fin.ret' (by simp) rfl hh (List.append_nil _).symm rfl rfl (Weak.refl _) rfl ⟨rfl, rfl⟩

end Go.Proofs.Ytppgpabjcenjdaa
