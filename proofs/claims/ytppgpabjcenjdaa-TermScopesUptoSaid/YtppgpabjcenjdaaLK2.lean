/-
  term.Occurs.
-/
import Derived.Test.YtppgpabjcenjdaaLK1
namespace Go.Proofs.Ytppgpabjcenjdaa

open Go Go.AI

/-- A node is the variable that is looked for. -/
def occHit (ix d : Int) (t : Tm) : Bool := t.kind == 0 && IntKind.i64.wrap (t.index - d) == ix && decide (d ≤ t.index)

def stOcc (ix : Int) (s : Bool) (d : Int) (t : Tm) : Bool × Bool := (s || occHit ix d t, !occHit ix d t)

def occB (ix : Int) (t : Tm) : Bool := if ix < 0 then false else (vis (stOcc ix) false 0 t).1

set_option maxRecDepth 8000 in
set_option maxHeartbeats 8000000 in
theorem occurs_any (h : Heap) (hh : WF h) (t : Tm) (ix : Int) (hsz : t.size ≤ 1099511627776) : ACalls Try.prog 47 [t.av, iA ix] h fun o h' => o = .ret (bA (occB ix t)) ∧ h' = h := by
  by_cases h0 : ix < 0
  · have hr : occB ix t = false := by simp [occB, h0]
    rw [hr]
    obtain ⟨k, i, nm, ls, ks⟩ := t
    refine ACalls.of_run Try.func47 rfl ?_
    simp only [Try.ntmps47, List.length_cons, List.length_nil, Tm.av, cells_mk, List.map]
    repeat (first | refine Run.seq ?_ | refine Run.block ?_ | refine Run.skip ?_ | refine Run.inBlock ?_ | refine Run.opsNil ?_)
    repeat (first | refine Run.seq ?_ | refine Run.block ?_ | refine Run.skip ?_ | refine Run.inBlock ?_ | refine Run.opsNil ?_)
    refine Run.reg fun K hK => ?_
    simp
    try (simp (disch := omega) only [wrap_id])
    refine hK _ _ _ ?_; clear hK K
    repeat (first | refine Run.seq ?_ | refine Run.block ?_ | refine Run.skip ?_ | refine Run.inBlock ?_ | refine Run.opsNil ?_)
    repeat (first | refine Run.seq ?_ | refine Run.block ?_ | refine Run.skip ?_ | refine Run.inBlock ?_ | refine Run.opsNil ?_)
    refine Run.reg fun K hK => ?_
    simp
    try (simp (disch := omega) only [wrap_id])
    refine hK _ _ _ ?_; clear hK K
    repeat (first | refine Run.seq ?_ | refine Run.block ?_ | refine Run.skip ?_ | refine Run.inBlock ?_ | refine Run.opsNil ?_)
    repeat (first | refine Run.seq ?_ | refine Run.block ?_ | refine Run.skip ?_ | refine Run.inBlock ?_ | refine Run.opsNil ?_)
    refine Run.cond (b := true) (by simp [h0]) ?_
    simp only [if_true]
    repeat (first | refine Run.seq ?_ | refine Run.block ?_ | refine Run.skip ?_ | refine Run.inBlock ?_ | refine Run.opsNil ?_)
    repeat (first | refine Run.seq ?_ | refine Run.block ?_ | refine Run.skip ?_ | refine Run.inBlock ?_ | refine Run.opsNil ?_)
    refine Run.reg fun K hK => ?_
    simp
    try (simp (disch := omega) only [wrap_id])
    refine hK _ _ _ ?_; clear hK K
    repeat (first | refine Run.seq ?_ | refine Run.block ?_ | refine Run.skip ?_ | refine Run.inBlock ?_ | refine Run.opsNil ?_)
    refine Run.ret ?_
    refine Fin.ret' (h0 := h) (by simp) rfl hh rfl (by simp; rfl) rfl (Weak.refl _) (by simp) ⟨rfl, rfl⟩
  have hr : occB ix t = (vis (stOcc ix) false 0 t).1 := by simp [occB, h0]
  rw [hr]
  have hno := iterOf_any (h ++ [some (.cells (t.cells.map .p)), some (.cells [iA ix]), some (.cells [bA false])]) (hh.app (by simp)) t
  obtain ⟨k, i, nm, ls, ks⟩ := t
  refine ACalls.of_runM Try.func47 rfl ?_
  simp only [Try.ntmps47, List.length_cons, List.length_nil, Tm.av, cells_mk, List.map] at hno ⊢
  repeat (first | refine Run.seq ?_ | refine Run.block ?_ | refine Run.skip ?_ | refine Run.inBlock ?_ | refine Run.opsNil ?_)
  refine Run.reg fun K hK => ?_
  simp
  try (simp (disch := omega) only [wrap_id])
  refine hK _ _ _ ?_; clear hK K
  repeat (first | refine Run.seq ?_ | refine Run.block ?_ | refine Run.skip ?_ | refine Run.inBlock ?_ | refine Run.opsNil ?_)
  repeat (first | refine Run.seq ?_ | refine Run.block ?_ | refine Run.skip ?_ | refine Run.inBlock ?_ | refine Run.opsNil ?_)
  refine Run.reg fun K hK => ?_
  simp
  try (simp (disch := omega) only [wrap_id])
  refine hK _ _ _ ?_; clear hK K
  repeat (first | refine Run.seq ?_ | refine Run.block ?_ | refine Run.skip ?_ | refine Run.inBlock ?_ | refine Run.opsNil ?_)
  repeat (first | refine Run.seq ?_ | refine Run.block ?_ | refine Run.skip ?_ | refine Run.inBlock ?_ | refine Run.opsNil ?_)
  refine Run.cond (b := false) (by simp [h0]) ?_
  simp only [Bool.false_eq_true, if_false]
  repeat (first | refine Run.seq ?_ | refine Run.block ?_ | refine Run.skip ?_ | refine Run.inBlock ?_ | refine Run.opsNil ?_)
  repeat (first | refine Run.seq ?_ | refine Run.block ?_ | refine Run.skip ?_ | refine Run.inBlock ?_ | refine Run.opsNil ?_)
  refine Run.reg fun K hK => ?_
  simp
  try (simp (disch := omega) only [wrap_id])
  refine hK _ _ _ ?_; clear hK K
  repeat (first | refine Run.seq ?_ | refine Run.block ?_ | refine Run.skip ?_ | refine Run.inBlock ?_ | refine Run.opsNil ?_)
  refine Run.call rfl (by first | rfl | simp) (by simp) rfl (hno) ?_ ?_
  rotate_left
  · rintro v h' ⟨hv, _⟩; cases hv
  rintro v h' ⟨hv, rfl⟩
  simp only [AOut.ret.injEq] at hv
  subst hv
  refine Run.ops fun K hK => ?_
  simp
  try (simp (disch := omega) only [wrap_id])
  refine hK _ _ _ ?_; clear hK K
  repeat (first | refine Run.seq ?_ | refine Run.block ?_ | refine Run.skip ?_ | refine Run.inBlock ?_ | refine Run.opsNil ?_)
  refine Run.keep [2, 3, 4, 10] ?_
  simp
  refine Run.rangeG (gf := 169) (cap := [.ptr (h.length + 3) 0]) (by simp) rfl fun y Tl ag' bd' hT hag hbd => ?_
  have hTu : ∀ k, AV.underL (h.length + (4 + k)) Tl = true := fun k => by rw [hT]; simp; omega
  obtain ⟨tc, htc⟩ : ∃ tc : List AV, tc = [.p (iP k), .p (iP i), .p (sP nm), .p (.sl 2 (lvPs ls)), .p (.sl 5 (tmPs ks))] := ⟨_, rfl⟩
  have htu : ∀ n, AV.underL n tc = true := fun n => by rw [htc]; simp
  obtain ⟨B, hB⟩ : ∃ B : Bool → Heap, B = fun b => h ++ [some (.cells tc), some (.cells [iA ix]), some (.cells [bA b]), some (.cells tc), some (.aux .dblk), some (.aux (.loop y (if b = true then .done else .ready) (if b = true then some .ret else none) Tl #[11, 12] ag' bd'))] := ⟨_, rfl⟩
  obtain ⟨Z, hZ⟩ : ∃ Z : Bool → Heap, Z = fun b => h ++ [some (.cells tc), some (.cells [iA ix]), some (.cells [bA b]), some (.cells tc), some (.aux .dblk), some (.aux (.loop y .busy none Tl #[11, 12] ag' bd'))] := ⟨_, rfl⟩
  have hlen : ∀ b, (B b).length = h.length + 6 := fun b => by rw [hB]; simp
  have hlenZ : ∀ b, (Z b).length = h.length + 6 := fun b => by rw [hZ]; simp
  have hwf : ∀ b, WF (B b) := fun b => by rw [hB]; exact hh.app (by simp [AO.under, hTu 2, htu])
  have hat : ∀ (l : List (Option AO)), Heap.at (B false ++ l) (h.length + 5) = some (.aux (.loop y .ready none Tl #[11, 12] ag' bd')) := fun l => by rw [hB]; simp
  have hatZ : ∀ b (l : List (Option AO)), Heap.at (Z b ++ l) (h.length + 5) = some (.aux (.loop y .busy none Tl #[11, 12] ag' bd')) := fun b l => by rw [hZ]; simp
  have hbusy : ∀ (l : List (Option AO)), (B false ++ l).set (h.length + 5) (some (.aux (.loop y .busy none Tl #[11, 12] ag' bd'))) = Z false ++ l := fun l => by rw [hB, hZ]; simp
  have hnorm : ∀ (l : List (Option AO)), (Z false ++ l).set (h.length + 5) (some (.aux (.loop y .ready none Tl #[11, 12] ag' bd'))) = B false ++ l := fun l => by rw [hB, hZ]; simp
  have hdone : ∀ (l : List (Option AO)), (Z true ++ l).set (h.length + 5) (some (.aux (.loop y .done (some .ret) Tl #[11, 12] ag' bd'))) = B true ++ l := fun l => by rw [hB, hZ]; simp
  have c1 : ∀ b (l : List (Option AO)), (Z b ++ l)[h.length + 1]? = some (some (.cells [iA ix])) := fun b l => by rw [hZ]; simp
  have c2 : ∀ b (l : List (Option AO)), (Z b ++ l)[h.length + 2]? = some (some (.cells [bA b])) := fun b l => by rw [hZ]; simp
  have s2 : ∀ (l : List (Option AO)), (Z false ++ l).set (h.length + 2) (some (.cells [bA true])) = Z true ++ l := fun l => by rw [hZ]; simp
  have glZ : ∀ b (l l' : List (Option AO)), (Z b ++ (l ++ l'))[h.length + 6 + l.length]? = l'[0]? := fun b l l' => by rw [get_lastN (hlenZ b), get_last0]
  have slZ : ∀ b (l l' : List (Option AO)) (o : Option AO), (Z b ++ (l ++ l')).set (h.length + 6 + l.length) o = Z b ++ (l ++ l'.set 0 o) := fun b l l' o => by rw [set_lastN (hlenZ b), set_last0]
  have htk : ∀ b (l l' : List (Option AO)), (B b ++ (l ++ l')).take (h.length + 6 + l.length) = B b ++ l := fun b l l' => by rw [← List.append_assoc, show h.length + 6 + l.length = (B b ++ l).length by rw [List.length_append, hlen], take_last]
  have hit := iterL_any (stOcc ix) y (h.length + 3) (fun _ _ => True) (fun _ _ _ _ _ _ _ _ _ => trivial) (fun b => b = false) (fun s d u hs _ hg => by
      subst hs
      simp only [stOcc, Bool.not_eq_true'] at hg ⊢
      rw [hg]; rfl) (.mk k i nm ls ks) false B (h.length + 6) rfl trivial hsz hlen hwf (fun s => by rw [hB, htc]; simp)
    (fun s d u l hs _ hw => by
      subst hs
      refine AYield.of_run (hat l) (by simp) ?_
      refine Run.codeEq hag ?_
      refine Run.tEq (congrArg (fun T => putMany T _ _) hT) ?_
      obtain ⟨uk, ui, un, uls, uks⟩ := u
      simp
      repeat (first | refine Run.seq ?_ | refine Run.block ?_ | refine Run.skip ?_ | refine Run.inBlock ?_ | refine Run.opsNil ?_)
      refine Run.reg fun K hK => ?_
      simp
      try (simp (disch := omega) only [wrap_id])
      refine hK _ _ _ ?_; clear hK K
      repeat (first | refine Run.seq ?_ | refine Run.block ?_ | refine Run.skip ?_ | refine Run.inBlock ?_ | refine Run.opsNil ?_)
      repeat (first | refine Run.seq ?_ | refine Run.block ?_ | refine Run.skip ?_ | refine Run.inBlock ?_ | refine Run.opsNil ?_)
      refine Run.reg fun K hK => ?_
      simp [hlen]
      try (simp (disch := omega) only [wrap_id])
      refine hK _ _ _ ?_; clear hK K
      repeat (first | refine Run.seq ?_ | refine Run.block ?_ | refine Run.skip ?_ | refine Run.inBlock ?_ | refine Run.opsNil ?_)
      refine Run.nil ⟨rfl, rfl, hat _, ?_⟩
      rw [hbusy]
      refine Run.codeEq hbd ?_
      generalize hz : IntKind.i64.wrap (ui - d) = z
      obtain ⟨q, hq⟩ : ∃ q, q = (uk == 0 && z == ix && decide (d ≤ ui)) := ⟨_, rfl⟩
      have hst : stOcc ix false d (.mk uk ui un uls uks) = (q, !q) := by
        rw [hq, ← hz]; rfl
      rw [hst, hlen]
      have hw2 : ∀ b, WF (B b ++ l) := fun b => by
        refine (hwf b).app ?_
        have := hw.all
        rw [List.all_append, Bool.and_eq_true, List.length_append, hlen] at this
        rw [hlen]; exact this.2
      repeat (first | refine Run.seq ?_ | refine Run.block ?_ | refine Run.skip ?_ | refine Run.inBlock ?_ | refine Run.opsNil ?_)
      repeat (first | refine Run.seq ?_ | refine Run.block ?_ | refine Run.skip ?_ | refine Run.inBlock ?_ | refine Run.opsNil ?_)
      refine Run.regJ [2, 3, 4, 5, 6] 29 (uk == 0 && z == ix && decide (d ≤ ui)) (fun K hK => ?_) ?_
      · simp [glZ, c1, hz]
        repeat' (first | apply And.intro | intro _)
        all_goals
          try (simp (disch := omega) only [wrap_id])
          refine hK _ ?_
          simp
          repeat' (first | exact WeakL.nil | apply WeakL.cons)
          all_goals first | exact Weak.junk _ | (refine Weak.bool ?_; clear hK K; rw [Bool.eq_iff_iff]; simp; done) | (refine Weak.bool ?_; clear hK K; rw [Bool.eq_iff_iff]; simp; omega) | (refine Weak.bool ?_; clear hK K; simp_all; done) | (refine Weak.bool ?_; clear hK K; simp [*]; done) | (refine Weak.bool ?_; clear hK K; rw [Bool.eq_iff_iff]; simp [*]; omega) | exact Weak.refl _
      simp only [setMany, keepT, keepT.go, List.contains_cons, List.set_cons_succ, List.set_cons_zero]
      simp
      refine Run.condB rfl (fun h1 => ?_) (fun h1 => ?_)
      · rw [h1] at hq
        subst hq
        repeat (first | refine Run.seq ?_ | refine Run.block ?_ | refine Run.skip ?_ | refine Run.inBlock ?_ | refine Run.opsNil ?_)
        refine Run.reg fun K hK => ?_
        simp [c2, s2]
        try (simp (disch := omega) only [wrap_id])
        refine hK _ _ _ ?_; clear hK K
        repeat (first | refine Run.seq ?_ | refine Run.block ?_ | refine Run.skip ?_ | refine Run.inBlock ?_ | refine Run.opsNil ?_)
        refine Run.ret ?_
        refine ⟨some .ret, h.length + 6 + l.length, rfl, rfl, Nat.le_refl _, by simp [hlenZ], hatZ true _, ?_, ?_⟩
        · rw [show stOf (some Code.ret) = .done from rfl, hdone, htk]
          have := (hw2 true).all
          rwa [List.length_append, hlen] at this
        · rw [show stOf (some Code.ret) = .done from rfl, hdone, htk]
          exact ⟨rfl, rfl⟩
      · rw [h1] at hq
        subst hq
        repeat (first | refine Run.seq ?_ | refine Run.block ?_ | refine Run.skip ?_ | refine Run.inBlock ?_ | refine Run.opsNil ?_)
        refine Run.nil ?_
        refine ⟨none, h.length + 6 + l.length, rfl, rfl, Nat.le_refl _, by simp [hlenZ], hatZ false _, ?_, ?_⟩
        · rw [show stOf none = .ready from rfl, hnorm, htk]
          have := (hw2 false).all
          rwa [List.length_append, hlen] at this
        · rw [show stOf none = .ready from rfl, hnorm, htk]
          exact ⟨rfl, rfl⟩)
  have hB0 : B false = (h ++ [some (.cells tc), some (.cells [iA ix]), some (.cells [bA false]), some (.cells tc)]) ++ [some (.aux .dblk), some (.aux (.loop y .ready none Tl #[11, 12] ag' bd'))] := by rw [hB]; simp
  rw [htc] at hB0
  refine ⟨_, hB0 ▸ hit, ?_⟩
  rintro o h' ⟨rfl, rfl⟩
  generalize (vis (stOcc ix) false 0 (Tm.mk k i nm ls ks)).1 = b
  refine ⟨_, (if b = true then .done else .ready), (if b = true then some .ret else none), rfl, by rw [hB, htc]; simp [Nat.add_assoc], by cases b <;> simp, ?_⟩
  rw [hB, htc]
  simp [Nat.add_assoc]
  cases b with
  | true =>
    simp
    refine Run.ret ?_
    refine ⟨by simp, ?_⟩
    exact Fin.ret' (h0 := h) (by simp) rfl hh (by simp; rfl) (by simp; rfl) rfl (Weak.refl _) rfl ⟨rfl, rfl⟩
  | false =>
    simp
    repeat (first | refine Run.seq ?_ | refine Run.block ?_ | refine Run.skip ?_ | refine Run.inBlock ?_ | refine Run.opsNil ?_)
    refine Run.reg fun K hK => ?_
    simp
    try (simp (disch := omega) only [wrap_id])
    refine hK _ _ _ ?_; clear hK K
    repeat (first | refine Run.seq ?_ | refine Run.block ?_ | refine Run.skip ?_ | refine Run.inBlock ?_ | refine Run.opsNil ?_)
    refine Run.ret ?_
    refine ⟨by simp, ?_⟩
    exact Fin.ret' (h0 := h) (by simp) rfl hh (by simp; rfl) (by simp; rfl) rfl (Weak.refl _) rfl ⟨rfl, rfl⟩

end Go.Proofs.Ytppgpabjcenjdaa
