/-
  telescope: Spine of the reference.
-/
import Derived.Test.YtppgpabjcenjdaaT8
namespace Go.Proofs.Ytppgpabjcenjdaa
open Go Go.AI

theorem spG_len : ∀ (n : Nat) (t : Tm), (spG n t).2.length ≤ t.size
  | 0, t => by simp [spG]
  | n + 1, t => by
    simp only [spG]
    cases hb : isB 4 t with
    | none => simp
    | some p =>
      obtain ⟨f, a⟩ := p
      have := isB_size hb
      have := spG_len n f
      simp; omega
theorem resSpine_len (t : Tm) : (resSpine t).2.length ≤ t.size := spG_len _ _

set_option maxRecDepth 8000 in
set_option maxHeartbeats 8000000 in
theorem spine44_any (N : Nat) : ∀ (t : Tm) (h : Heap), t.size ≤ N → t.size ≤ 1048576 → WF h →
    ACalls Try.prog 44 [t.av] h fun o h' => ∃ G : Heap, WF (h ++ G) ∧ o = .ret (.tup [(resSpine t).1.av, .own (h.length + G.length) 5 (tmPs (resSpine t).2)]) ∧ h' = h ++ (G ++ [some (.tok (resSpine t).2.length 5)]) := by
  induction N with
  | zero => intro t _ hN; have := t.size_pos; omega
  | succ N ih =>
  intro t h hN hsz hh
  obtain ⟨r, hr⟩ : ∃ r, r = resSpine t := ⟨_, rfl⟩
  rw [← hr]
  obtain ⟨k, i, nm, ls, ks⟩ := t
  have hend : ∀ (hb : isB 4 (Tm.mk k i nm ls ks) = none), ((k != 4) = true ∨ (k = 4 ∧ ((ks.length : Int) != 2) = true)) → ACalls Try.prog 44 [(Tm.mk k i nm ls ks).av] h fun o h' => ∃ G : Heap, WF (h ++ G) ∧ o = .ret (.tup [r.1.av, .own (h.length + G.length) 5 (tmPs r.2)]) ∧ h' = h ++ (G ++ [some (.tok r.2.length 5)]) := by
    intro hb hc
    rw [resSpine_end hb] at hr
    subst hr
    refine ACalls.of_run Try.func44 rfl ?_
    simp only [Try.ntmps44, List.length_cons, List.length_nil, Tm.av, cells_mk, List.map]
    repeat (first | refine Run.seq ?_ | refine Run.block ?_ | refine Run.skip ?_ | refine Run.inBlock ?_ | refine Run.opsNil ?_)
    repeat (first | refine Run.seq ?_ | refine Run.block ?_ | refine Run.skip ?_ | refine Run.inBlock ?_ | refine Run.opsNil ?_)
    refine Run.reg fun K hK => ?_
    simp
    try (simp (disch := omega) only [wrap_id])
    refine hK _ _ _ ?_; clear hK K
    repeat (first | refine Run.seq ?_ | refine Run.block ?_ | refine Run.skip ?_ | refine Run.inBlock ?_ | refine Run.opsNil ?_)
    rcases hc with hc | ⟨rfl, hc⟩
    · repeat (first | refine Run.seq ?_ | refine Run.block ?_ | refine Run.skip ?_ | refine Run.inBlock ?_ | refine Run.opsNil ?_)
      refine Run.reg fun K hK => ?_
      simp [hc]
      try (simp (disch := omega) only [wrap_id])
      refine hK _ _ _ ?_; clear hK K
      repeat (first | refine Run.seq ?_ | refine Run.block ?_ | refine Run.skip ?_ | refine Run.inBlock ?_ | refine Run.opsNil ?_)
      repeat (first | refine Run.seq ?_ | refine Run.block ?_ | refine Run.skip ?_ | refine Run.inBlock ?_ | refine Run.opsNil ?_)
      refine Run.cond (b := true) (by simp) ?_
      simp only [if_true]
      repeat (first | refine Run.seq ?_ | refine Run.block ?_ | refine Run.skip ?_ | refine Run.inBlock ?_ | refine Run.opsNil ?_)
      repeat (first | refine Run.seq ?_ | refine Run.block ?_ | refine Run.skip ?_ | refine Run.inBlock ?_ | refine Run.opsNil ?_)
      refine Run.reg fun K hK => ?_
      simp
      try (simp (disch := omega) only [wrap_id])
      refine hK _ _ _ ?_; clear hK K
      repeat (first | refine Run.seq ?_ | refine Run.block ?_ | refine Run.skip ?_ | refine Run.inBlock ?_ | refine Run.opsNil ?_)
      refine Run.tok 3 5 (by simp) ?_
      simp
      refine Run.ret ?_
      refine Fin.retM (h0 := h ++ ([some (.cells [iA k, iA i, .p (sP nm), .p (.sl 2 (lvPs ls)), .p (.sl 5 (tmPs ks))]), some (.cells [iA k, iA i, .p (sP nm), .p (.sl 2 (lvPs ls)), .p (.sl 5 (tmPs ks))])] ++ [some (.tok 0 5)])) (l := []) (by simp) (by simp) (hh.app (by simp)) (by simp) (by simp; rfl) rfl (Weak.refl _) (by simp) ⟨_, hh.app (by simp), rfl, rfl⟩
    · repeat (first | refine Run.seq ?_ | refine Run.block ?_ | refine Run.skip ?_ | refine Run.inBlock ?_ | refine Run.opsNil ?_)
      refine Run.reg fun K hK => ?_
      simp [hc]
      try (simp (disch := omega) only [wrap_id])
      refine hK _ _ _ ?_; clear hK K
      repeat (first | refine Run.seq ?_ | refine Run.block ?_ | refine Run.skip ?_ | refine Run.inBlock ?_ | refine Run.opsNil ?_)
      repeat (first | refine Run.seq ?_ | refine Run.block ?_ | refine Run.skip ?_ | refine Run.inBlock ?_ | refine Run.opsNil ?_)
      refine Run.cond (b := true) (by simp) ?_
      simp only [if_true]
      repeat (first | refine Run.seq ?_ | refine Run.block ?_ | refine Run.skip ?_ | refine Run.inBlock ?_ | refine Run.opsNil ?_)
      repeat (first | refine Run.seq ?_ | refine Run.block ?_ | refine Run.skip ?_ | refine Run.inBlock ?_ | refine Run.opsNil ?_)
      refine Run.reg fun K hK => ?_
      simp
      try (simp (disch := omega) only [wrap_id])
      refine hK _ _ _ ?_; clear hK K
      repeat (first | refine Run.seq ?_ | refine Run.block ?_ | refine Run.skip ?_ | refine Run.inBlock ?_ | refine Run.opsNil ?_)
      refine Run.tok 3 5 (by simp) ?_
      simp
      refine Run.ret ?_
      refine Fin.retM (h0 := h ++ ([some (.cells [iA 4, iA i, .p (sP nm), .p (.sl 2 (lvPs ls)), .p (.sl 5 (tmPs ks))]), some (.cells [iA 4, iA i, .p (sP nm), .p (.sl 2 (lvPs ls)), .p (.sl 5 (tmPs ks))])] ++ [some (.tok 0 5)])) (l := []) (by simp) (by simp) (hh.app (by simp)) (by simp) (by simp; rfl) rfl (Weak.refl _) (by simp) ⟨_, hh.app (by simp), rfl, rfl⟩
  by_cases hk : k = 4
  · by_cases hks : ks.length = 2
    · subst hk
      obtain ⟨a, b, rfl⟩ : ∃ a b, ks = [a, b] := by
        match ks, hks with
        | [a, b], _ => exact ⟨a, b, rfl⟩
      have hb : isB 4 (Tm.mk 4 i nm ls [a, b]) = some (a, b) := by simp [isB]
      have hst := resSpine_step hb
      rw [hst] at hr
      subst hr
      simp only [Tm.size, Tm.sizes] at hN hsz
      have hbp := b.size_pos
      obtain ⟨f1, xs, hfa⟩ : ∃ f1 xs, resSpine a = (f1, xs) := ⟨_, _, rfl⟩
      simp only [hfa]
      have ih' := ih a
      rw [hfa] at ih'
      refine ACalls.of_run Try.func44 rfl ?_
      simp only [Try.ntmps44, List.length_cons, List.length_nil, Tm.av, cells_mk, List.map]
      repeat (first | refine Run.seq ?_ | refine Run.block ?_ | refine Run.skip ?_ | refine Run.inBlock ?_ | refine Run.opsNil ?_)
      repeat (first | refine Run.seq ?_ | refine Run.block ?_ | refine Run.skip ?_ | refine Run.inBlock ?_ | refine Run.opsNil ?_)
      refine Run.reg fun K hK => ?_
      simp
      try (simp (disch := omega) only [wrap_id])
      refine hK _ _ _ ?_; clear hK K
      repeat (first | refine Run.seq ?_ | refine Run.block ?_ | refine Run.skip ?_ | refine Run.inBlock ?_ | refine Run.opsNil ?_)
      repeat (first | refine Run.seq ?_ | refine Run.block ?_ | refine Run.skip ?_ | refine Run.inBlock ?_ | refine Run.opsNil ?_)
      refine Run.reg fun K hK => ?_
      simp
      try (simp (disch := omega) only [wrap_id])
      refine hK _ _ _ ?_; clear hK K
      repeat (first | refine Run.seq ?_ | refine Run.block ?_ | refine Run.skip ?_ | refine Run.inBlock ?_ | refine Run.opsNil ?_)
      repeat (first | refine Run.seq ?_ | refine Run.block ?_ | refine Run.skip ?_ | refine Run.inBlock ?_ | refine Run.opsNil ?_)
      refine Run.cond (b := false) (by simp) ?_
      simp only [Bool.false_eq_true, if_false]
      repeat (first | refine Run.seq ?_ | refine Run.block ?_ | refine Run.skip ?_ | refine Run.inBlock ?_ | refine Run.opsNil ?_)
      repeat (first | refine Run.seq ?_ | refine Run.block ?_ | refine Run.skip ?_ | refine Run.inBlock ?_ | refine Run.opsNil ?_)
      refine Run.regPre 4 fun K hK => ?_
      simp only [List.take_succ_cons, List.take_zero]
      simp [tmPs]
      try (simp (disch := omega) only [wrap_id])
      refine hK _ _ _ ?_; clear hK K
      simp only [List.nil_append, List.drop_succ_cons, List.drop_zero]
      refine Run.call (args := [a.av]) rfl (by first | rfl | simp) (by simp) rfl (ih' _ (by omega) (by omega) (hh.app (by simp))) ?_ ?_
      rotate_left
      · rintro v h' ⟨_, _, hv, _⟩; cases hv
      rintro v h' ⟨G, hG, hv, rfl⟩
      simp only [AOut.ret.injEq] at hv
      subst hv
      refine Run.ops fun K hK => ?_
      simp
      try (simp (disch := omega) only [wrap_id])
      refine hK _ _ _ ?_; clear hK K
      repeat (first | refine Run.seq ?_ | refine Run.block ?_ | refine Run.skip ?_ | refine Run.inBlock ?_ | refine Run.opsNil ?_)
      have hxl := resSpine_len a
      rw [hfa] at hxl
      simp only at hxl
      obtain ⟨fk, fi, fn, fls, fks⟩ := f1
      have hb1 : (xs.length + 1) * 80 ≤ 140737488355328 := by omega
      have hb2 : xs.length ≤ 9223372036854775806 := by omega
      have q1 : ∀ (a b c d : Option AO), (h ++ a :: b :: (G ++ [c, d]))[h.length + 2 + G.length]? = some c := fun a b c d => by
        rw [show h ++ a :: b :: (G ++ [c, d]) = (h ++ [a, b] ++ G) ++ [c, d] by simp, List.getElem?_append_right (by simp <;> omega), show h.length + 2 + G.length - (h ++ [a, b] ++ G).length = 0 by simp <;> omega]; rfl
      have q2 : ∀ (a b c d c' : Option AO), (h ++ a :: b :: (G ++ [c, d])).set (h.length + 2 + G.length) c' = h ++ a :: b :: (G ++ [c', d]) := fun a b c d c' => by
        rw [show h ++ a :: b :: (G ++ [c, d]) = (h ++ [a, b] ++ G) ++ [c, d] by simp, List.set_append_right _ _ (by simp <;> omega), show h.length + 2 + G.length - (h ++ [a, b] ++ G).length = 0 by simp <;> omega]; simp
      have q3 : ∀ (a b c d : Option AO), (h ++ a :: b :: (G ++ [c, d]))[h.length + (G.length + 1 + 1 + 1)]? = some d := fun a b c d => by
        rw [show h ++ a :: b :: (G ++ [c, d]) = (h ++ [a, b] ++ G ++ [c]) ++ [d] by simp, List.getElem?_append_right (by simp <;> omega), show h.length + (G.length + 1 + 1 + 1) - (h ++ [a, b] ++ G ++ [c]).length = 0 by simp <;> omega]; rfl
      repeat (first | refine Run.seq ?_ | refine Run.block ?_ | refine Run.skip ?_ | refine Run.inBlock ?_ | refine Run.opsNil ?_)
      refine Run.draw [0, 0, 0, 0, 0, 0, 0, 0, 1, 2] [0, 0, 0, 0, 0, 0, 0, 0, 1, 0] [0, 0, 0, 4, 12, 28, 60, 126, 255, 511] [1, 2, 3, 4, 5, 6, 7, 0, 8, 9] (by kernel_rfl) (by kernel_rfl) ?_
      refine DR.go fun K hK => ?_
      simp [q1, q2, hb1, hb2]
      try (simp (disch := omega) only [wrap_id])
      refine hK _ _ _ _ ?_; clear hK K
      change Run _ _ _ _ _ _ _ _
      repeat (first | refine Run.seq ?_ | refine Run.block ?_ | refine Run.skip ?_ | refine Run.inBlock ?_ | refine Run.opsNil ?_)
      refine Run.ret ?_
      have hw := hG.set (id := h.length + 1) (o := some (.cells [.p (iP fk), .p (iP fi), .p (sP fn), .p (.sl 2 (lvPs fls)), .p (.sl 5 (tmPs fks))])) (by simp)
      simp at hw
      refine Fin.retM (h0 := h ++ ([some (.cells [.p (iP 4), .p (iP i), .p (sP nm), .p (.sl 2 (lvPs ls)), .p (.sl 5 [a.cells, b.cells])]), some (.cells [.p (iP fk), .p (iP fi), .p (sP fn), .p (.sl 2 (lvPs fls)), .p (.sl 5 (tmPs fks))])] ++ G ++ [some (.tok (xs.length + 1) 5)])) (l := [some (.cells [.p (iP fk), .p (iP fi), .p (sP fn), .p (.sl 2 (lvPs fls)), .p (.sl 5 (tmPs fks))])]) (by simp) (by simp) ?_ (by simp) (by simp; rfl) rfl (Weak.refl _) (by simp; omega) ⟨[some (.cells [.p (iP 4), .p (iP i), .p (sP nm), .p (.sl 2 (lvPs ls)), .p (.sl 5 [a.cells, b.cells])]), some (.cells [.p (iP fk), .p (iP fi), .p (sP fn), .p (.sl 2 (lvPs fls)), .p (.sl 5 (tmPs fks))])] ++ G, ?_, ?_, ?_⟩
      · have := hw.app (l := [some (.tok (xs.length + 1) 5)]) (by simp)
        simpa using this
      · simpa using hw
      · simp [tmPs_snoc]; omega
      · simp
    · have hk2 : ((ks.length : Int) != 2) = true := by simp; omega
      refine hend ?_ (.inr ⟨hk, hk2⟩)
      match ks, hks with
      | [], _ => rfl
      | [_], _ => rfl
      | _ :: _ :: _ :: _, _ => rfl
  · have hkb : (k != 4) = true := by simpa using hk
    refine hend ?_ (.inl hkb)
    match ks with
    | [] => rfl
    | [_] => rfl
    | [_, _] => simp [isB, hk]
    | _ :: _ :: _ :: _ => rfl

end Go.Proofs.Ytppgpabjcenjdaa
