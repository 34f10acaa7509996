/-
  telescope: binders over a term; slices.Backward.
-/
import Derived.Test.YtppgpabjcenjdaaTT5
import Derived.Test.YtppgpabjcenjdaaTK1
namespace Go.Proofs.Ytppgpabjcenjdaa

open Go Go.AI

def bindT (k : Int) (ctx : List Tm) (t : Tm) : Tm := ctx.foldr (fun a t => .mk k 0 [] [] [a, t]) t

set_option maxRecDepth 8000 in
theorem backOf_any (h : Heap) (hh : WF h) (ctx : List Tm) : ACalls Try.prog 173 [.p (.sl 5 (tmPs ctx))] h fun o h' => o = .ret (.fn (.func 191) [] [.ptr h.length 0]) ∧ h' = h ++ [some (.cells [.p (.sl 5 (tmPs ctx))])] := by
  refine ACalls.of_run Try.func173 rfl ?_
  simp only [Try.ntmps173, List.length_cons, List.length_nil]
  repeat (first | refine Run.seq ?_ | refine Run.block ?_ | refine Run.skip ?_ | refine Run.inBlock ?_ | refine Run.opsNil ?_)
  repeat (first | refine Run.seq ?_ | refine Run.block ?_ | refine Run.skip ?_ | refine Run.inBlock ?_ | refine Run.opsNil ?_)
  refine Run.reg fun K hK => ?_
  simp
  try (simp (disch := omega) only [wrap_id])
  refine hK _ _ _ ?_; clear hK K
  repeat (first | refine Run.seq ?_ | refine Run.block ?_ | refine Run.skip ?_ | refine Run.inBlock ?_ | refine Run.opsNil ?_)
  repeat (first | refine Run.seq ?_ | refine Run.block ?_ | refine Run.skip ?_ | refine Run.inBlock ?_ | refine Run.opsNil ?_)
  refine Run.reg fun K hK => ?_
  simp
  try (simp (disch := omega) only [wrap_id])
  refine hK _ _ _ ?_; clear hK K
  repeat (first | refine Run.seq ?_ | refine Run.block ?_ | refine Run.skip ?_ | refine Run.inBlock ?_ | refine Run.opsNil ?_)
  refine Run.ret ?_
  refine Fin.retM (h0 := h ++ [some (.cells [.p (.sl 5 (tmPs ctx))])]) (l := []) (by simp) (by simp) (hh.app (by simp)) (by simp) (by simp; rfl) rfl (Weak.refl _) (by simp) ⟨rfl, rfl⟩

set_option maxRecDepth 8000 in
set_option maxHeartbeats 8000000 in
theorem back_any {σ : Type} (f : Tm → σ → σ) (y q : Nat) (ctx : List Tm) (hl : ctx.length ≤ 1048576) (s : σ) (B : σ → Heap) (n : Nat) (hlen : ∀ s, (B s).length = n) (hwf : ∀ s, WF (B s)) (hq : ∀ s, (B s)[q]? = some (some (.cells [.p (.sl 5 (tmPs ctx))])))
    (HY : ∀ s i u l, WF (B s ++ l) → AYield Try.prog y [iA i, u.av] (B s ++ l) (fun o h' => o = .ret (bA true) ∧ h' = B (f u s) ++ l)) :
    ACalls Try.prog 191 [yv y, .ptr q 0] (B s) (fun o h' => o = .ret (.tup []) ∧ h' = B (ctx.foldr f s)) := by
  have hw0 : IntKind.i64.wrap ((ctx.length : Int) - 1) = (ctx.length : Int) - 1 := wrap_id (by omega) (by omega)
  refine ACalls.of_run Try.func191 rfl ?_
  simp only [Try.ntmps191, List.length_cons, List.length_nil]
  repeat (first | refine Run.seq ?_ | refine Run.block ?_ | refine Run.skip ?_ | refine Run.inBlock ?_ | refine Run.opsNil ?_)
  rw [hlen s]
  repeat (first | refine Run.seq ?_ | refine Run.block ?_ | refine Run.skip ?_ | refine Run.inBlock ?_ | refine Run.opsNil ?_)
  refine Run.reg fun K hK => ?_
  simp [hq, hw0]
  try (simp (disch := omega) only [wrap_id])
  refine hK _ _ _ ?_; clear hK K
  repeat (first | refine Run.seq ?_ | refine Run.block ?_ | refine Run.skip ?_ | refine Run.inBlock ?_ | refine Run.opsNil ?_)
  refine Run.loopS (ι := Nat × σ) [0, 1] (fun p => p.1 ≤ ctx.length ∧ p.2 = (ctx.drop (ctx.length - p.1)).foldr f s) (fun p => ctx.length - p.1) (fun p => [(3, iA ((ctx.length : Int) - 1 - p.1))]) (fun p => B p.2) (0, s) ⟨by simp, by simp⟩ ?_ (by simp) ?_
  · simp
    repeat' (first | exact WeakL.nil | apply WeakL.cons)
    all_goals first | exact Weak.junk _ | exact Weak.refl _ | exact Weak.nil _ | exact Weak.own _ _ _ | exact Weak.int (by omega)
  rintro ⟨j, sj⟩ ⟨hj, hsj⟩ IH
  simp only at hj hsj
  simp
  by_cases hjl : j < ctx.length
  · obtain ⟨i, hi⟩ : ∃ i : Nat, i = ctx.length - 1 - j := ⟨_, rfl⟩
    have hie : (ctx.length : Int) - 1 - j = (i : Int) := by omega
    rw [hie]
    have hlt : i < ctx.length := by omega
    have hg : ctx[i]? = some ctx[i] := List.getElem?_eq_getElem hlt
    have hdr : ctx.drop (ctx.length - (j + 1)) = ctx[i] :: ctx.drop (ctx.length - j) := by
      rw [show ctx.length - (j + 1) = i by omega, List.drop_eq_getElem_cons hlt, show i + 1 = ctx.length - j by omega]
    generalize ctx[i] = u at hg hdr
    have hw2 : IntKind.i64.wrap ((i : Int) - 1) = (i : Int) - 1 := wrap_id (by omega) (by omega)
    have hy := HY sj i u [] (by rw [List.append_nil]; exact hwf sj)
    rw [List.append_nil, List.append_nil] at hy
    repeat (first | refine Run.seq ?_ | refine Run.block ?_ | refine Run.skip ?_ | refine Run.inBlock ?_ | refine Run.opsNil ?_)
    refine Run.reg fun K hK => ?_
    simp
    try (simp (disch := omega) only [wrap_id])
    refine hK _ _ _ ?_; clear hK K
    repeat (first | refine Run.seq ?_ | refine Run.block ?_ | refine Run.skip ?_ | refine Run.inBlock ?_ | refine Run.opsNil ?_)
    repeat (first | refine Run.seq ?_ | refine Run.block ?_ | refine Run.skip ?_ | refine Run.inBlock ?_ | refine Run.opsNil ?_)
    refine Run.cond (b := true) (by simp) ?_
    simp only [if_true]
    repeat (first | refine Run.seq ?_ | refine Run.block ?_ | refine Run.skip ?_ | refine Run.inBlock ?_ | refine Run.opsNil ?_)
    repeat (first | refine Run.seq ?_ | refine Run.block ?_ | refine Run.skip ?_ | refine Run.inBlock ?_ | refine Run.opsNil ?_)
    refine Run.reg fun K hK => ?_
    simp [hq, hg]
    try (simp (disch := omega) only [wrap_id])
    refine hK _ _ _ ?_; clear hK K
    repeat (first | refine Run.seq ?_ | refine Run.block ?_ | refine Run.skip ?_ | refine Run.inBlock ?_ | refine Run.opsNil ?_)
    refine Run.yield rfl rfl (by simp) hy ?_ ?_
    rotate_left
    · rintro v h' ⟨hv, _⟩; cases hv
    rintro v h' ⟨hv, rfl⟩
    simp only [AOut.ret.injEq] at hv
    subst hv
    refine Run.ops fun K hK => ?_
    simp
    try (simp (disch := omega) only [wrap_id])
    refine hK _ _ _ ?_; clear hK K
    repeat (first | refine Run.seq ?_ | refine Run.block ?_ | refine Run.skip ?_ | refine Run.inBlock ?_ | refine Run.opsNil ?_)
    repeat (first | refine Run.seq ?_ | refine Run.block ?_ | refine Run.skip ?_ | refine Run.inBlock ?_ | refine Run.opsNil ?_)
    refine Run.cond (b := false) (by simp) ?_
    simp only [Bool.false_eq_true, if_false]
    repeat (first | refine Run.seq ?_ | refine Run.block ?_ | refine Run.skip ?_ | refine Run.inBlock ?_ | refine Run.opsNil ?_)
    repeat (first | refine Run.seq ?_ | refine Run.block ?_ | refine Run.skip ?_ | refine Run.inBlock ?_ | refine Run.opsNil ?_)
    refine Run.reg fun K hK => ?_
    simp [hw2]
    try (simp (disch := omega) only [wrap_id])
    refine hK _ _ _ ?_; clear hK K
    repeat (first | refine Run.seq ?_ | refine Run.block ?_ | refine Run.skip ?_ | refine Run.inBlock ?_ | refine Run.opsNil ?_)
    refine IH (j + 1, f u sj) _ _ ⟨by simp only; omega, ?_⟩ (by simp only; omega) ?_ rfl
    · simp only
      rw [hdr, List.foldr_cons, ← hsj]
    · simp
      repeat' (first | exact WeakL.nil | apply WeakL.cons)
      all_goals first | exact Weak.junk _ | exact Weak.refl _ | exact Weak.int (by omega)
  · have hje : j = ctx.length := by omega
    subst hje
    have c4 : (ctx.length : Int) - 1 < ctx.length := by omega
    rw [Nat.sub_self, List.drop_zero] at hsj
    subst hsj
    repeat (first | refine Run.seq ?_ | refine Run.block ?_ | refine Run.skip ?_ | refine Run.inBlock ?_ | refine Run.opsNil ?_)
    refine Run.reg fun K hK => ?_
    simp
    try (simp (disch := omega) only [wrap_id])
    refine hK _ _ _ ?_; clear hK K
    repeat (first | refine Run.seq ?_ | refine Run.block ?_ | refine Run.skip ?_ | refine Run.inBlock ?_ | refine Run.opsNil ?_)
    repeat (first | refine Run.seq ?_ | refine Run.block ?_ | refine Run.skip ?_ | refine Run.inBlock ?_ | refine Run.opsNil ?_)
    refine Run.cond (b := false) (by simp [c4]) ?_
    simp only [Bool.false_eq_true, if_false]
    repeat (first | refine Run.seq ?_ | refine Run.block ?_ | refine Run.skip ?_ | refine Run.inBlock ?_ | refine Run.opsNil ?_)
    repeat (first | refine Run.seq ?_ | refine Run.block ?_ | refine Run.skip ?_ | refine Run.inBlock ?_ | refine Run.opsNil ?_)
    refine Run.exit rfl ?_
    repeat (first | refine Run.seq ?_ | refine Run.block ?_ | refine Run.skip ?_ | refine Run.inBlock ?_ | refine Run.opsNil ?_)
    refine Run.nil ?_
    exact Fin.ret' (h0 := B (ctx.foldr f s)) (by simp) (hlen _) (hwf _) (List.append_nil _).symm rfl rfl (Weak.refl _) rfl ⟨rfl, rfl⟩

set_option maxRecDepth 8000 in
set_option maxHeartbeats 8000000 in
theorem over1_any (h : Heap) (hh : WF h) (k : Int) (p : Nat) (hp : h[p]? = some (some (.cells [iA k]))) (ctx : List Tm) (t : Tm) (hl : ctx.length ≤ 1048576) :
    ACalls Try.prog 172 [.p (.sl 5 (tmPs ctx)), t.av, .ptr p 0] h fun o h' => o = .ret (bindT k ctx t).av ∧ h' = h := by
  obtain ⟨p1, p2, p3, p4, p5, p6⟩ := idf hp
  have hno := backOf_any (h ++ [some (.cells (t.cells.map .p)), some (.cells zTm)]) (hh.app (by simp)) ctx
  obtain ⟨tc, htc⟩ : ∃ tc : List AV, tc = t.cells.map .p := ⟨_, rfl⟩
  have htl : tc.length = 5 := by rw [htc]; simp
  refine ACalls.of_runM Try.func172 rfl ?_
  simp only [Try.ntmps172, List.length_cons, List.length_nil, Tm.av] at hno ⊢
  rw [← htc] at hno ⊢
  have htu : ∀ n, AV.underL n tc = true := fun n => by rw [htc]; exact underL_p _ _
  repeat (first | refine Run.seq ?_ | refine Run.block ?_ | refine Run.skip ?_ | refine Run.inBlock ?_ | refine Run.opsNil ?_)
  refine Run.reg fun K hK => ?_
  simp
  try (simp (disch := omega) only [wrap_id])
  refine hK _ _ _ ?_; clear hK K
  repeat (first | refine Run.seq ?_ | refine Run.block ?_ | refine Run.skip ?_ | refine Run.inBlock ?_ | refine Run.opsNil ?_)
  repeat (first | refine Run.seq ?_ | refine Run.block ?_ | refine Run.skip ?_ | refine Run.inBlock ?_ | refine Run.opsNil ?_)
  refine Run.reg fun K hK => ?_
  simp
  try (simp (disch := omega) only [wrap_id])
  refine hK _ _ _ ?_; clear hK K
  repeat (first | refine Run.seq ?_ | refine Run.block ?_ | refine Run.skip ?_ | refine Run.inBlock ?_ | refine Run.opsNil ?_)
  refine Run.call rfl (by first | rfl | simp) (by simp) rfl (hno) ?_ ?_
  rotate_left
  · rintro v h' ⟨hv, _⟩; cases hv
  rintro v h' ⟨hv, rfl⟩
  simp only [AOut.ret.injEq] at hv
  subst hv
  refine Run.ops fun K hK => ?_
  simp
  try (simp (disch := omega) only [wrap_id])
  refine hK _ _ _ ?_; clear hK K
  repeat (first | refine Run.seq ?_ | refine Run.block ?_ | refine Run.skip ?_ | refine Run.inBlock ?_ | refine Run.opsNil ?_)
  refine Run.keep [2, 4, 5, 9] ?_
  simp
  refine Run.rangeG (gf := 191) (cap := [.ptr (h.length + 2) 0]) (by simp) rfl fun y Tl ag' bd' hT hag hbd => ?_
  have hTu : ∀ k, AV.underL (h.length + (3 + k)) Tl = true := fun k => by rw [hT]; simp; omega
  obtain ⟨B, hB⟩ : ∃ B : Tm → Heap, B = fun s => h ++ [some (.cells (s.cells.map .p)), some (.cells zTm), some (.cells [.p (.sl 5 (tmPs ctx))]), some (.aux .dblk), some (.aux (.loop y .ready none Tl #[10, 11] ag' bd'))] := ⟨_, rfl⟩
  obtain ⟨Z, hZ⟩ : ∃ Z : List AV → Heap, Z = fun c => h ++ [some (.cells c), some (.cells zTm), some (.cells [.p (.sl 5 (tmPs ctx))]), some (.aux .dblk), some (.aux (.loop y .busy none Tl #[10, 11] ag' bd'))] := ⟨_, rfl⟩
  have hlen : ∀ b, (B b).length = h.length + 5 := fun b => by rw [hB]; simp
  have hlenZ : ∀ b, (Z b).length = h.length + 5 := fun b => by rw [hZ]; simp
  have hwf : ∀ b, WF (B b) := fun b => by rw [hB]; exact hh.app (by simp [AO.under, hTu 2])
  have hat : ∀ s (l : List (Option AO)), Heap.at (B s ++ l) (h.length + 4) = some (.aux (.loop y .ready none Tl #[10, 11] ag' bd')) := fun s l => by rw [hB]; simp
  have hatZ : ∀ c (l : List (Option AO)), Heap.at (Z c ++ l) (h.length + 4) = some (.aux (.loop y .busy none Tl #[10, 11] ag' bd')) := fun c l => by rw [hZ]; simp
  have hbusy : ∀ s (l : List (Option AO)), (B s ++ l).set (h.length + 4) (some (.aux (.loop y .busy none Tl #[10, 11] ag' bd'))) = Z (s.cells.map .p) ++ l := fun s l => by rw [hB, hZ]; simp
  have hnorm : ∀ s (l : List (Option AO)), (Z (s.cells.map .p) ++ l).set (h.length + 4) (some (.aux (.loop y .ready none Tl #[10, 11] ag' bd'))) = B s ++ l := fun s l => by rw [hB, hZ]; simp
  have c0 : ∀ c (l : List (Option AO)), (Z c ++ l)[h.length]? = some (some (.cells c)) := fun c l => by rw [hZ]; simp
  have cp : ∀ c (l : List (Option AO)), (Z c ++ l)[p]? = some (some (.cells [iA k])) := fun c l => by rw [hZ]; simp [p1]
  have s0 : ∀ c c' (l : List (Option AO)), (Z c ++ l).set h.length (some (.cells c')) = Z c' ++ l := fun c c' l => by rw [hZ]; simp
  have glZ : ∀ c (l l' : List (Option AO)), (Z c ++ (l ++ l'))[h.length + 5 + l.length]? = l'[0]? := fun b l l' => by rw [get_lastN (hlenZ b), get_last0]
  have htk : ∀ b (l l' : List (Option AO)), (B b ++ (l ++ l')).take (h.length + 5 + l.length) = B b ++ l := fun b l l' => by rw [← List.append_assoc, show h.length + 5 + l.length = (B b ++ l).length by rw [List.length_append, hlen], take_last]
  have hit := back_any (fun a t => Tm.mk k 0 [] [] [a, t]) y (h.length + 2) ctx hl t B (h.length + 5) hlen hwf (fun s => by rw [hB]; simp)
    (fun s i u l hw => by
      refine AYield.of_run (hat s l) (by simp) ?_
      refine Run.codeEq hag ?_
      refine Run.tEq (congrArg (fun T => putMany T _ _) hT) ?_
      obtain ⟨uk, ui, un, uls, uks⟩ := u
      simp
      repeat (first | refine Run.seq ?_ | refine Run.block ?_ | refine Run.skip ?_ | refine Run.inBlock ?_ | refine Run.opsNil ?_)
      refine Run.reg fun K hK => ?_
      simp [hlen]
      try (simp (disch := omega) only [wrap_id])
      refine hK _ _ _ ?_; clear hK K
      repeat (first | refine Run.seq ?_ | refine Run.block ?_ | refine Run.skip ?_ | refine Run.inBlock ?_ | refine Run.opsNil ?_)
      refine Run.nil ⟨rfl, rfl, hat s _, ?_⟩
      rw [hbusy]
      refine Run.codeEq hbd ?_
      rw [hlen]
      have hw2 : ∀ b, WF (B b ++ l) := fun b => by
        refine (hwf b).app ?_
        have := hw.all
        rw [List.all_append, Bool.and_eq_true, List.length_append, hlen] at this
        rw [hlen]; exact this.2
      obtain ⟨sk, si, sn, sls, sks⟩ := s
      repeat (first | refine Run.seq ?_ | refine Run.block ?_ | refine Run.skip ?_ | refine Run.inBlock ?_ | refine Run.opsNil ?_)
      refine Run.reg fun K hK => ?_
      simp [glZ, c0, cp, s0]
      try (simp (disch := omega) only [wrap_id])
      refine hK _ _ _ ?_; clear hK K
      repeat (first | refine Run.seq ?_ | refine Run.block ?_ | refine Run.skip ?_ | refine Run.inBlock ?_ | refine Run.opsNil ?_)
      refine Run.weakH h.length (cs' := ((Tm.mk k 0 [] [] [Tm.mk uk ui un uls uks, Tm.mk sk si sn sls sks]).cells.map .p)) (by simp only [Heap.at]; rw [c0]; rfl) ?_ ?_
      · simp only [cells_mk, List.map, lvPs, tmPs]
        repeat' (first | exact WeakL.nil | apply WeakL.cons)
        all_goals first | exact Weak.refl _ | exact Weak.nil _
      rw [s0]
      refine Run.nil ?_
      refine ⟨none, h.length + 5 + l.length, rfl, rfl, Nat.le_refl _, by simp [hlenZ], hatZ _ _, ?_, ?_⟩
      · rw [show stOf none = .ready from rfl, hnorm, htk]
        have := (hw2 (Tm.mk k 0 [] [] [Tm.mk uk ui un uls uks, Tm.mk sk si sn sls sks])).all
        rwa [List.length_append, hlen] at this
      · rw [show stOf none = .ready from rfl, hnorm, htk]
        exact ⟨rfl, rfl⟩)
  have hB0 : B t = (h ++ [some (.cells tc), some (.cells zTm), some (.cells [.p (.sl 5 (tmPs ctx))])]) ++ [some (.aux .dblk), some (.aux (.loop y .ready none Tl #[10, 11] ag' bd'))] := by rw [hB, htc]; simp
  refine ⟨_, hB0 ▸ hit, ?_⟩
  rintro o h' ⟨rfl, rfl⟩
  have hbd : ctx.foldr (fun a t => Tm.mk k 0 [] [] [a, t]) t = bindT k ctx t := rfl
  rw [hbd]
  obtain ⟨rk, ri, rn, rls, rks⟩ := bindT k ctx t
  refine ⟨_, .ready, none, rfl, by rw [hB]; simp [Nat.add_assoc], by simp, ?_⟩
  rw [hB]
  simp [Nat.add_assoc]
  repeat (first | refine Run.seq ?_ | refine Run.block ?_ | refine Run.skip ?_ | refine Run.inBlock ?_ | refine Run.opsNil ?_)
  refine Run.reg fun K hK => ?_
  simp
  try (simp (disch := omega) only [wrap_id])
  refine hK _ _ _ ?_; clear hK K
  repeat (first | refine Run.seq ?_ | refine Run.block ?_ | refine Run.skip ?_ | refine Run.inBlock ?_ | refine Run.opsNil ?_)
  refine Run.ret ?_
  refine ⟨by simp, ?_⟩
  exact Fin.ret' (h0 := h) (by simp) rfl hh (by simp; rfl) (by simp; rfl) rfl (Weak.refl _) (by simp) ⟨rfl, rfl⟩

end Go.Proofs.Ytppgpabjcenjdaa
