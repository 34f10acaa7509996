/-
  telescope: Spine.
-/
import Derived.Test.YtppgpabjcenjdaaT8
namespace Go.Proofs.Ytppgpabjcenjdaa
open Go Go.AI

abbrev SpI := Option (List Tm × Heap × Nat)
def spA : SpI → List Tm
  | none => []
  | some (a, _, _) => a
def spV (n : Nat) : SpI → AV
  | none => .p (.prim (.slice none 0 0))
  | some (a, G, c) => .sm (n + 2 + G.length) 0 a.length c 5
def spB : SpI → Heap
  | none => []
  | some (a, G, c) => G ++ [row a (c - a.length)]
def SpOk (h : Heap) : SpI → Prop
  | none => True
  | some (a, G, c) => a.length ≤ c ∧ 0 < a.length ∧ ∀ x y : Option AO, (∀ n, AO.under n x = true) → (∀ n, AO.under n y = true) → WF (h ++ x :: y :: G)

set_option maxRecDepth 8000 in
set_option maxHeartbeats 8000000 in
theorem spine72_any (h : Heap) (hh : WF h) (t : Tm) (hsz : t.size ≤ 1048576) :
    ACalls Try.prog 72 [t.av] h fun o h' => o = .ret (.tup [(resSpine t).1.av, .p (.sl 5 (tmPs (resSpine t).2))]) ∧ h' = h := by
  obtain ⟨r, hr⟩ : ∃ r, r = resSpine t := ⟨_, rfl⟩
  rw [← hr]
  obtain ⟨tc, htc⟩ : ∃ tc, tc = t.cells.map AV.p := ⟨_, rfl⟩
  simp only [Tm.av]
  rw [← htc]
  have htl : tc.length = 5 := by rw [htc]; simp
  refine ACalls.of_run Try.func72 rfl ?_
  simp only [Try.ntmps72, List.length_cons, List.length_nil]
  repeat (first | refine Run.seq ?_ | refine Run.block ?_ | refine Run.skip ?_ | refine Run.inBlock ?_ | refine Run.opsNil ?_)
  refine Run.reg fun K hK => ?_
  simp
  try (simp (disch := omega) only [wrap_id])
  refine hK _ _ _ ?_; clear hK K
  repeat (first | refine Run.seq ?_ | refine Run.block ?_ | refine Run.skip ?_ | refine Run.inBlock ?_ | refine Run.opsNil ?_)
  repeat (first | refine Run.seq ?_ | refine Run.block ?_ | refine Run.skip ?_ | refine Run.inBlock ?_ | refine Run.opsNil ?_)
  refine Run.reg fun K hK => ?_
  simp
  try (simp (disch := omega) only [wrap_id])
  refine hK _ _ _ ?_; clear hK K
  repeat (first | refine Run.seq ?_ | refine Run.block ?_ | refine Run.skip ?_ | refine Run.inBlock ?_ | refine Run.opsNil ?_)
  rw [htc]
  refine Run.loopS (ι := SpI × Tm) [1, 2, 3] (fun p => SpOk h p.1 ∧ (spA p.1).length + p.2.size ≤ t.size ∧ r = ((resSpine p.2).1, (resSpine p.2).2 ++ (spA p.1).reverse)) (fun p => p.2.size) (fun p => [(4, spV h.length p.1)])
    (fun p => h ++ some (.cells (p.2.cells.map .p)) :: some (.cells zTm) :: spB p.1) (none, t) ⟨trivial, by simp [spA], by simp [spA, hr]⟩ ?_ (by simp [spB]) ?_
  · simp [spV]
    repeat' (first | exact WeakL.nil | apply WeakL.cons)
    all_goals first | exact Weak.junk _ | exact Weak.refl _ | exact Weak.nil _ | exact Weak.own _ _ _ | exact Weak.int (by omega)
  rintro ⟨st, cur⟩ ⟨hok, hle, hra⟩ IH
  simp only at hok hle hra IH
  simp
  obtain ⟨k, i, nm, ls, ks⟩ := cur
  cases hb : isB 4 (Tm.mk k i nm ls ks) with
  | none =>
    have hc : (k == 4) = false ∨ (k = 4 ∧ ((ks.length : Int) == 2) = false) := by
      by_cases hk : k = 4
      · refine .inr ⟨hk, ?_⟩
        subst hk
        match ks, hb with
        | [], _ => rfl
        | [_], _ => rfl
        | [_, _], hb => simp [isB] at hb
        | _ :: _ :: _ :: q, _ => simp; omega
      · exact .inl (by simpa using hk)
    rw [resSpine_end hb] at hra
    simp only [List.nil_append] at hra
    subst hra
    rcases hc with hc | ⟨rfl, hc⟩
    · repeat (first | refine Run.seq ?_ | refine Run.block ?_ | refine Run.skip ?_ | refine Run.inBlock ?_ | refine Run.opsNil ?_)
      refine Run.reg fun K hK => ?_
      simp [hc]
      try (simp (disch := omega) only [wrap_id])
      refine hK _ _ _ ?_; clear hK K
      repeat (first | refine Run.seq ?_ | refine Run.block ?_ | refine Run.skip ?_ | refine Run.inBlock ?_ | refine Run.opsNil ?_)
      repeat (first | refine Run.seq ?_ | refine Run.block ?_ | refine Run.skip ?_ | refine Run.inBlock ?_ | refine Run.opsNil ?_)
      refine Run.cond (b := false) (by simp) ?_
      simp only [Bool.false_eq_true, if_false]
      repeat (first | refine Run.seq ?_ | refine Run.block ?_ | refine Run.skip ?_ | refine Run.inBlock ?_ | refine Run.opsNil ?_)
      repeat (first | refine Run.seq ?_ | refine Run.block ?_ | refine Run.skip ?_ | refine Run.inBlock ?_ | refine Run.opsNil ?_)
      refine Run.exit rfl ?_
      repeat (first | refine Run.seq ?_ | refine Run.block ?_ | refine Run.skip ?_ | refine Run.inBlock ?_ | refine Run.opsNil ?_)
      match st, hok with
      | none, _ =>
        simp only [spV, spB, spA]
        repeat (first | refine Run.seq ?_ | refine Run.block ?_ | refine Run.skip ?_ | refine Run.inBlock ?_ | refine Run.opsNil ?_)
        refine Run.reg fun K hK => ?_
        simp
        try (simp (disch := omega) only [wrap_id])
        refine hK _ _ _ ?_; clear hK K
        repeat (first | refine Run.seq ?_ | refine Run.block ?_ | refine Run.skip ?_ | refine Run.inBlock ?_ | refine Run.opsNil ?_)
        refine Run.call (args := [.p (.prim (.slice none 0 0))]) rfl (by first | rfl | simp) (by simp) rfl (ACalls.weak (WeakL.cons (Weak.nil 5) WeakL.nil) (reverse_nil _ (hh.app (by simp)))) ?_ ?_
        rotate_left
        · rintro v h' ⟨hv, _⟩; cases hv
        rintro v h' ⟨hv, rfl⟩
        simp only [AOut.ret.injEq] at hv
        subst hv
        refine Run.ops fun K hK => ?_
        simp
        try (simp (disch := omega) only [wrap_id])
        refine hK _ _ _ ?_; clear hK K
        repeat (first | refine Run.seq ?_ | refine Run.block ?_ | refine Run.skip ?_ | refine Run.inBlock ?_ | refine Run.opsNil ?_)
        repeat (first | refine Run.seq ?_ | refine Run.block ?_ | refine Run.skip ?_ | refine Run.inBlock ?_ | refine Run.opsNil ?_)
        refine Run.reg fun K hK => ?_
        simp
        try (simp (disch := omega) only [wrap_id])
        refine hK _ _ _ ?_; clear hK K
        repeat (first | refine Run.seq ?_ | refine Run.block ?_ | refine Run.skip ?_ | refine Run.inBlock ?_ | refine Run.opsNil ?_)
        refine Run.ret ?_
        refine Fin.ret' (h0 := h) (xs := [.agg [.p (iP k), .p (iP i), .p (sP nm), .p (.sl 2 (lvPs ls)), .p (.sl 5 (tmPs ks))], .p (.prim (.slice none 0 0))]) (by simp) rfl hh rfl (by simp) rfl (Weak.tup (WeakL.cons (Weak.refl _) (WeakL.cons (Weak.nil 5) WeakL.nil))) (by simp) ⟨by simp [tmPs], rfl⟩
      | some (acc, G, cap), hok =>
        obtain ⟨hcap, hpos, hW⟩ := hok
        simp only [spA] at hle
        have hget : ∀ (x y o : Option AO), (h ++ x :: y :: (G ++ [o]))[h.length + 2 + G.length]? = some o := fun x y o => by
          rw [show h ++ x :: y :: (G ++ [o]) = (h ++ [x, y] ++ G) ++ [o] by simp, List.getElem?_append_right (by simp <;> omega), show h.length + 2 + G.length - (h ++ [x, y] ++ G).length = 0 by simp <;> omega]; rfl
        have hset : ∀ (x y o o' : Option AO), (h ++ x :: y :: (G ++ [o])).set (h.length + 2 + G.length) o' = h ++ x :: y :: (G ++ [o']) := fun x y o o' => by
          rw [show h ++ x :: y :: (G ++ [o]) = (h ++ [x, y] ++ G) ++ [o] by simp, List.set_append_right _ _ (by simp <;> omega), show h.length + 2 + G.length - (h ++ [x, y] ++ G).length = 0 by simp <;> omega]; simp
        have hwf : ∀ (x y o : Option AO), (∀ n, AO.under n x = true) → (∀ n, AO.under n y = true) → (∀ n, AO.under n o = true) → WF (h ++ x :: y :: (G ++ [o])) := fun x y o hx hy ho => by
          have := (hW x y hx hy).app (l := [o]) (by simp only [List.all_cons, ho, List.all_nil, Bool.and_self])
          simpa using this
        simp only [spV, spB, spA]
        repeat (first | refine Run.seq ?_ | refine Run.block ?_ | refine Run.skip ?_ | refine Run.inBlock ?_ | refine Run.opsNil ?_)
        refine Run.reg fun K hK => ?_
        simp
        try (simp (disch := omega) only [wrap_id])
        refine hK _ _ _ ?_; clear hK K
        repeat (first | refine Run.seq ?_ | refine Run.block ?_ | refine Run.skip ?_ | refine Run.inBlock ?_ | refine Run.opsNil ?_)
        have hrv := fun (x y : Option AO) hx hy => reverse_any _ (hwf x y (row acc (cap - acc.length)) hx hy (fun n => row_under n _ _)) acc (h.length + 2 + G.length) cap (cap - acc.length) (by omega) (hget _ _ _)
        simp only [hset] at hrv
        refine Run.call (args := [.sm (h.length + 2 + G.length) 0 acc.length cap 5]) rfl (by first | rfl | simp) (by simp) rfl (hrv _ _ (fun n => by simp) (fun n => by simp)) ?_ ?_
        rotate_left
        · rintro v h' ⟨hv, _⟩; cases hv
        rintro v h' ⟨hv, rfl⟩
        simp only [AOut.ret.injEq] at hv
        subst hv
        refine Run.ops fun K hK => ?_
        simp
        try (simp (disch := omega) only [wrap_id])
        refine hK _ _ _ ?_; clear hK K
        repeat (first | refine Run.seq ?_ | refine Run.block ?_ | refine Run.skip ?_ | refine Run.inBlock ?_ | refine Run.opsNil ?_)
        refine Run.freezeS 4 (id := h.length + 2 + G.length) (n := acc.length) (cap := cap) (sz := 5) (m := cap - acc.length) (es := tmPs acc.reverse) (by simp) (by simp only [Heap.at]; rw [hget]; rfl) (tmPs_len5 _) (by simp) hcap ?_
        rw [hset]
        simp
        repeat (first | refine Run.seq ?_ | refine Run.block ?_ | refine Run.skip ?_ | refine Run.inBlock ?_ | refine Run.opsNil ?_)
        refine Run.reg fun K hK => ?_
        simp
        try (simp (disch := omega) only [wrap_id])
        refine hK _ _ _ ?_; clear hK K
        repeat (first | refine Run.seq ?_ | refine Run.block ?_ | refine Run.skip ?_ | refine Run.inBlock ?_ | refine Run.opsNil ?_)
        refine Run.ret ?_
        refine Fin.ret' (h0 := h) (by simp) rfl hh rfl (by simp; rfl) rfl (Weak.refl _) (by simp) ⟨by simp, rfl⟩
    · repeat (first | refine Run.seq ?_ | refine Run.block ?_ | refine Run.skip ?_ | refine Run.inBlock ?_ | refine Run.opsNil ?_)
      refine Run.reg fun K hK => ?_
      simp [hc]
      try (simp (disch := omega) only [wrap_id])
      refine hK _ _ _ ?_; clear hK K
      repeat (first | refine Run.seq ?_ | refine Run.block ?_ | refine Run.skip ?_ | refine Run.inBlock ?_ | refine Run.opsNil ?_)
      repeat (first | refine Run.seq ?_ | refine Run.block ?_ | refine Run.skip ?_ | refine Run.inBlock ?_ | refine Run.opsNil ?_)
      refine Run.cond (b := false) (by simp) ?_
      simp only [Bool.false_eq_true, if_false]
      repeat (first | refine Run.seq ?_ | refine Run.block ?_ | refine Run.skip ?_ | refine Run.inBlock ?_ | refine Run.opsNil ?_)
      repeat (first | refine Run.seq ?_ | refine Run.block ?_ | refine Run.skip ?_ | refine Run.inBlock ?_ | refine Run.opsNil ?_)
      refine Run.exit rfl ?_
      repeat (first | refine Run.seq ?_ | refine Run.block ?_ | refine Run.skip ?_ | refine Run.inBlock ?_ | refine Run.opsNil ?_)
      match st, hok with
      | none, _ =>
        simp only [spV, spB, spA]
        repeat (first | refine Run.seq ?_ | refine Run.block ?_ | refine Run.skip ?_ | refine Run.inBlock ?_ | refine Run.opsNil ?_)
        refine Run.reg fun K hK => ?_
        simp
        try (simp (disch := omega) only [wrap_id])
        refine hK _ _ _ ?_; clear hK K
        repeat (first | refine Run.seq ?_ | refine Run.block ?_ | refine Run.skip ?_ | refine Run.inBlock ?_ | refine Run.opsNil ?_)
        refine Run.call (args := [.p (.prim (.slice none 0 0))]) rfl (by first | rfl | simp) (by simp) rfl (ACalls.weak (WeakL.cons (Weak.nil 5) WeakL.nil) (reverse_nil _ (hh.app (by simp)))) ?_ ?_
        rotate_left
        · rintro v h' ⟨hv, _⟩; cases hv
        rintro v h' ⟨hv, rfl⟩
        simp only [AOut.ret.injEq] at hv
        subst hv
        refine Run.ops fun K hK => ?_
        simp
        try (simp (disch := omega) only [wrap_id])
        refine hK _ _ _ ?_; clear hK K
        repeat (first | refine Run.seq ?_ | refine Run.block ?_ | refine Run.skip ?_ | refine Run.inBlock ?_ | refine Run.opsNil ?_)
        repeat (first | refine Run.seq ?_ | refine Run.block ?_ | refine Run.skip ?_ | refine Run.inBlock ?_ | refine Run.opsNil ?_)
        refine Run.reg fun K hK => ?_
        simp
        try (simp (disch := omega) only [wrap_id])
        refine hK _ _ _ ?_; clear hK K
        repeat (first | refine Run.seq ?_ | refine Run.block ?_ | refine Run.skip ?_ | refine Run.inBlock ?_ | refine Run.opsNil ?_)
        refine Run.ret ?_
        refine Fin.ret' (h0 := h) (xs := [.agg [.p (iP 4), .p (iP i), .p (sP nm), .p (.sl 2 (lvPs ls)), .p (.sl 5 (tmPs ks))], .p (.prim (.slice none 0 0))]) (by simp) rfl hh rfl (by simp) rfl (Weak.tup (WeakL.cons (Weak.refl _) (WeakL.cons (Weak.nil 5) WeakL.nil))) (by simp) ⟨by simp [tmPs], rfl⟩
      | some (acc, G, cap), hok =>
        obtain ⟨hcap, hpos, hW⟩ := hok
        simp only [spA] at hle
        have hget : ∀ (x y o : Option AO), (h ++ x :: y :: (G ++ [o]))[h.length + 2 + G.length]? = some o := fun x y o => by
          rw [show h ++ x :: y :: (G ++ [o]) = (h ++ [x, y] ++ G) ++ [o] by simp, List.getElem?_append_right (by simp <;> omega), show h.length + 2 + G.length - (h ++ [x, y] ++ G).length = 0 by simp <;> omega]; rfl
        have hset : ∀ (x y o o' : Option AO), (h ++ x :: y :: (G ++ [o])).set (h.length + 2 + G.length) o' = h ++ x :: y :: (G ++ [o']) := fun x y o o' => by
          rw [show h ++ x :: y :: (G ++ [o]) = (h ++ [x, y] ++ G) ++ [o] by simp, List.set_append_right _ _ (by simp <;> omega), show h.length + 2 + G.length - (h ++ [x, y] ++ G).length = 0 by simp <;> omega]; simp
        have hwf : ∀ (x y o : Option AO), (∀ n, AO.under n x = true) → (∀ n, AO.under n y = true) → (∀ n, AO.under n o = true) → WF (h ++ x :: y :: (G ++ [o])) := fun x y o hx hy ho => by
          have := (hW x y hx hy).app (l := [o]) (by simp only [List.all_cons, ho, List.all_nil, Bool.and_self])
          simpa using this
        simp only [spV, spB, spA]
        repeat (first | refine Run.seq ?_ | refine Run.block ?_ | refine Run.skip ?_ | refine Run.inBlock ?_ | refine Run.opsNil ?_)
        refine Run.reg fun K hK => ?_
        simp
        try (simp (disch := omega) only [wrap_id])
        refine hK _ _ _ ?_; clear hK K
        repeat (first | refine Run.seq ?_ | refine Run.block ?_ | refine Run.skip ?_ | refine Run.inBlock ?_ | refine Run.opsNil ?_)
        have hrv := fun (x y : Option AO) hx hy => reverse_any _ (hwf x y (row acc (cap - acc.length)) hx hy (fun n => row_under n _ _)) acc (h.length + 2 + G.length) cap (cap - acc.length) (by omega) (hget _ _ _)
        simp only [hset] at hrv
        refine Run.call (args := [.sm (h.length + 2 + G.length) 0 acc.length cap 5]) rfl (by first | rfl | simp) (by simp) rfl (hrv _ _ (fun n => by simp) (fun n => by simp)) ?_ ?_
        rotate_left
        · rintro v h' ⟨hv, _⟩; cases hv
        rintro v h' ⟨hv, rfl⟩
        simp only [AOut.ret.injEq] at hv
        subst hv
        refine Run.ops fun K hK => ?_
        simp
        try (simp (disch := omega) only [wrap_id])
        refine hK _ _ _ ?_; clear hK K
        repeat (first | refine Run.seq ?_ | refine Run.block ?_ | refine Run.skip ?_ | refine Run.inBlock ?_ | refine Run.opsNil ?_)
        refine Run.freezeS 4 (id := h.length + 2 + G.length) (n := acc.length) (cap := cap) (sz := 5) (m := cap - acc.length) (es := tmPs acc.reverse) (by simp) (by simp only [Heap.at]; rw [hget]; rfl) (tmPs_len5 _) (by simp) hcap ?_
        rw [hset]
        simp
        repeat (first | refine Run.seq ?_ | refine Run.block ?_ | refine Run.skip ?_ | refine Run.inBlock ?_ | refine Run.opsNil ?_)
        refine Run.reg fun K hK => ?_
        simp
        try (simp (disch := omega) only [wrap_id])
        refine hK _ _ _ ?_; clear hK K
        repeat (first | refine Run.seq ?_ | refine Run.block ?_ | refine Run.skip ?_ | refine Run.inBlock ?_ | refine Run.opsNil ?_)
        refine Run.ret ?_
        refine Fin.ret' (h0 := h) (by simp) rfl hh rfl (by simp; rfl) rfl (Weak.refl _) (by simp) ⟨by simp, rfl⟩
  | some p =>
    obtain ⟨f, a⟩ := p
    obtain ⟨rfl, rfl⟩ : k = 4 ∧ ks = [f, a] := by
      match ks, hb with
      | [x, y], hb =>
        simp only [isB] at hb
        split at hb
        · rename_i hk
          injection hb with hb; injection hb with h1 h2
          exact ⟨hk, by rw [h1, h2]⟩
        · cases hb
    have hst := resSpine_step hb
    simp only [Tm.size, Tm.sizes] at hle
    have hfp := f.size_pos
    have hap := a.size_pos
    rw [hst] at hra
    simp only [List.append_assoc] at hra
    match st, hok with
    | none, _ =>
      simp only [spV, spB]
      repeat (first | refine Run.seq ?_ | refine Run.block ?_ | refine Run.skip ?_ | refine Run.inBlock ?_ | refine Run.opsNil ?_)
      refine Run.reg fun K hK => ?_
      simp
      try (simp (disch := omega) only [wrap_id])
      refine hK _ _ _ ?_; clear hK K
      repeat (first | refine Run.seq ?_ | refine Run.block ?_ | refine Run.skip ?_ | refine Run.inBlock ?_ | refine Run.opsNil ?_)
      repeat (first | refine Run.seq ?_ | refine Run.block ?_ | refine Run.skip ?_ | refine Run.inBlock ?_ | refine Run.opsNil ?_)
      refine Run.cond (b := true) (by simp) ?_
      simp only [if_true]
      repeat (first | refine Run.seq ?_ | refine Run.block ?_ | refine Run.skip ?_ | refine Run.inBlock ?_ | refine Run.opsNil ?_)
      repeat (first | refine Run.seq ?_ | refine Run.block ?_ | refine Run.skip ?_ | refine Run.inBlock ?_ | refine Run.opsNil ?_)
      refine Run.regPre 6 fun K hK => ?_
      simp only [List.take_succ_cons, List.take_zero]
      simp [tmPs]
      try (simp (disch := omega) only [wrap_id])
      refine hK _ _ _ ?_; clear hK K
      simp only [List.nil_append, List.drop_succ_cons, List.drop_zero]
      refine Run.appendN (ys := [a.cells]) (sz := 5) (by_ := 80) (e := 25) rfl rfl rfl rfl rfl rfl (by simp) (by simp) (by simp) (by simp) (by simp) (by simp) fun c' hc' => ?_
      refine Run.ops fun K hK => ?_
      simp
      try (simp (disch := omega) only [wrap_id])
      refine hK _ _ _ ?_; clear hK K
      repeat (first | refine Run.seq ?_ | refine Run.block ?_ | refine Run.skip ?_ | refine Run.inBlock ?_ | refine Run.opsNil ?_)
      repeat (first | refine Run.seq ?_ | refine Run.block ?_ | refine Run.skip ?_ | refine Run.inBlock ?_ | refine Run.opsNil ?_)
      refine Run.reg fun K hK => ?_
      simp
      try (simp (disch := omega) only [wrap_id])
      refine hK _ _ _ ?_; clear hK K
      repeat (first | refine Run.seq ?_ | refine Run.block ?_ | refine Run.skip ?_ | refine Run.inBlock ?_ | refine Run.opsNil ?_)
      refine IH (some ([a], [], c'), f) _ _ ⟨⟨by simpa using hc', by simp, fun x y hx hy => hh.app (by simp only [List.all_cons, hx, hy, List.all_nil, Bool.and_self])⟩, by simp [spA] at hle ⊢; omega, by simp [spA]; simpa [spA] using hra⟩ (by simp only [Tm.size, Tm.sizes]; omega) ?_ ?_
      · simp [spV]
        repeat' (first | exact WeakL.nil | apply WeakL.cons)
        all_goals first | exact Weak.junk _ | exact Weak.refl _ | exact Weak.nil _ | exact Weak.own _ _ _ | exact Weak.int (by omega)
      · simp [spB, row, tmPs]
    | some (acc, G, cap), hok =>
      obtain ⟨hcap, hpos, hW⟩ := hok
      simp only [spA] at hle hra
      have hget : ∀ (x y o : Option AO), (h ++ x :: y :: (G ++ [o]))[h.length + 2 + G.length]? = some o := fun x y o => by
        rw [show h ++ x :: y :: (G ++ [o]) = (h ++ [x, y] ++ G) ++ [o] by simp, List.getElem?_append_right (by simp <;> omega), show h.length + 2 + G.length - (h ++ [x, y] ++ G).length = 0 by simp <;> omega]; rfl
      have hset : ∀ (x y o o' : Option AO), (h ++ x :: y :: (G ++ [o])).set (h.length + 2 + G.length) o' = h ++ x :: y :: (G ++ [o']) := fun x y o o' => by
        rw [show h ++ x :: y :: (G ++ [o]) = (h ++ [x, y] ++ G) ++ [o] by simp, List.set_append_right _ _ (by simp <;> omega), show h.length + 2 + G.length - (h ++ [x, y] ++ G).length = 0 by simp <;> omega]; simp
      simp only [spV, spB]
      repeat (first | refine Run.seq ?_ | refine Run.block ?_ | refine Run.skip ?_ | refine Run.inBlock ?_ | refine Run.opsNil ?_)
      refine Run.reg fun K hK => ?_
      simp
      try (simp (disch := omega) only [wrap_id])
      refine hK _ _ _ ?_; clear hK K
      repeat (first | refine Run.seq ?_ | refine Run.block ?_ | refine Run.skip ?_ | refine Run.inBlock ?_ | refine Run.opsNil ?_)
      repeat (first | refine Run.seq ?_ | refine Run.block ?_ | refine Run.skip ?_ | refine Run.inBlock ?_ | refine Run.opsNil ?_)
      refine Run.cond (b := true) (by simp) ?_
      simp only [if_true]
      repeat (first | refine Run.seq ?_ | refine Run.block ?_ | refine Run.skip ?_ | refine Run.inBlock ?_ | refine Run.opsNil ?_)
      repeat (first | refine Run.seq ?_ | refine Run.block ?_ | refine Run.skip ?_ | refine Run.inBlock ?_ | refine Run.opsNil ?_)
      refine Run.regPre 6 fun K hK => ?_
      simp only [List.take_succ_cons, List.take_zero]
      simp [tmPs]
      try (simp (disch := omega) only [wrap_id])
      refine hK _ _ _ ?_; clear hK K
      simp only [List.nil_append, List.drop_succ_cons, List.drop_zero]
      refine Run.appendS (id := h.length + 2 + G.length) (es := tmPs acc) (ys := [a.cells]) (cap := cap) (sz := 5) (by_ := 80) (e := 25) rfl rfl rfl rfl rfl rfl (by simp) (by simp only [Heap.at]; rw [hget]; simp only [tmPs_length]; rfl) (tmPs_len5 _) (by simpa using hcap) (by simp) (by simp) (by simp) (by simp; omega) (by simp; omega) ?_ ?_
      · intro hc1
        rw [hset]
        refine Run.ops fun K hK => ?_
        simp
        try (simp (disch := omega) only [wrap_id])
        refine hK _ _ _ ?_; clear hK K
        repeat (first | refine Run.seq ?_ | refine Run.block ?_ | refine Run.skip ?_ | refine Run.inBlock ?_ | refine Run.opsNil ?_)
        repeat (first | refine Run.seq ?_ | refine Run.block ?_ | refine Run.skip ?_ | refine Run.inBlock ?_ | refine Run.opsNil ?_)
        refine Run.reg fun K hK => ?_
        simp
        try (simp (disch := omega) only [wrap_id])
        refine hK _ _ _ ?_; clear hK K
        repeat (first | refine Run.seq ?_ | refine Run.block ?_ | refine Run.skip ?_ | refine Run.inBlock ?_ | refine Run.opsNil ?_)
        refine IH (some (acc ++ [a], G, cap), f) _ _ ⟨⟨by simpa using hc1, by simp, hW⟩, by simp [spA]; omega, by simp [spA]; simpa using hra⟩ (by simp only [Tm.size, Tm.sizes]; omega) ?_ ?_
        · simp [spV]
          repeat' (first | exact WeakL.nil | apply WeakL.cons)
          all_goals first | exact Weak.junk _ | exact Weak.refl _ | exact Weak.nil _ | exact Weak.own _ _ _ | exact Weak.int (by omega)
        · simp [spB, row, tmPs_snoc]
      · intro c' hc1
        refine Run.ops fun K hK => ?_
        simp
        try (simp (disch := omega) only [wrap_id])
        refine hK _ _ _ ?_; clear hK K
        repeat (first | refine Run.seq ?_ | refine Run.block ?_ | refine Run.skip ?_ | refine Run.inBlock ?_ | refine Run.opsNil ?_)
        repeat (first | refine Run.seq ?_ | refine Run.block ?_ | refine Run.skip ?_ | refine Run.inBlock ?_ | refine Run.opsNil ?_)
        refine Run.reg fun K hK => ?_
        simp
        try (simp (disch := omega) only [wrap_id])
        refine hK _ _ _ ?_; clear hK K
        repeat (first | refine Run.seq ?_ | refine Run.block ?_ | refine Run.skip ?_ | refine Run.inBlock ?_ | refine Run.opsNil ?_)
        refine IH (some (acc ++ [a], G ++ [row acc (cap - acc.length)], c'), f) _ _ ⟨⟨by simpa using hc1, by simp, fun x y hx hy => ?_⟩, by simp [spA]; omega, by simp [spA]; simpa using hra⟩ (by simp only [Tm.size, Tm.sizes]; omega) ?_ ?_
        · have := (hW x y hx hy).app (l := [row acc (cap - acc.length)]) (by simp only [List.all_cons, row_under, List.all_nil, Bool.and_self])
          simpa using this
        · simp [spV]
          repeat' (first | exact WeakL.nil | apply WeakL.cons)
          all_goals first | exact Weak.junk _ | exact Weak.refl _ | exact Weak.of_eq (by congr 1; omega)
        · simp [spB, row, tmPs_snoc]

end Go.Proofs.Ytppgpabjcenjdaa
