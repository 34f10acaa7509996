/-
  telescope: Open.
-/
import Derived.Test.YtppgpabjcenjdaaTT2
namespace Go.Proofs.Ytppgpabjcenjdaa

open Go Go.AI

/-- The two kids of a node of a kind. -/
def isB (k : Int) : Tm → Option (Tm × Tm)
  | .mk k' _ _ _ [a, b] => if k' = k then some (a, b) else none
  | _ => none

/-- Function types are taken apart. -/
def openA : Nat → List Tm → Tm → List Tm × Tm × Int
  | 0, acc, t => (acc, t, 0)
  | n + 1, acc, t => match isB 6 t with
    | some (a, b) => openA n (acc ++ [a]) b
    | none => ([], zT, 13)

def resOpen (t : Tm) (n : Int) : List Tm × Tm × Int := if n < 0 then ([], zT, 2) else openA n.toNat [] t

set_option maxRecDepth 8000 in
set_option maxHeartbeats 8000000 in
theorem open67_any (h : Heap) (hh : WF h) (t : Tm) (n : Int) (hsz : t.size ≤ 1048576) (hn : n ≤ 9223372036854775807) :
    ACalls Try.prog 67 [t.av, iA n] h fun o h' => o = .ret (.tup [.p (.sl 5 (tmPs (resOpen t n).1)), (resOpen t n).2.1.av, iA (resOpen t n).2.2]) ∧ h' = h := by
  obtain ⟨r, hr⟩ : ∃ r, r = resOpen t n := ⟨_, rfl⟩
  rw [← hr]
  unfold resOpen at hr
  by_cases c0 : n < 0
  · rw [if_pos c0] at hr
    subst hr
    obtain ⟨k, i, nm, ls, ks⟩ := t
    refine ACalls.of_run Try.func67 rfl ?_
    simp only [Try.ntmps67, List.length_cons, List.length_nil, Tm.av, cells_mk, List.map]
    repeat (first | refine Run.seq ?_ | refine Run.block ?_ | refine Run.skip ?_ | refine Run.inBlock ?_ | refine Run.opsNil ?_)
    repeat (first | refine Run.seq ?_ | refine Run.block ?_ | refine Run.skip ?_ | refine Run.inBlock ?_ | refine Run.opsNil ?_)
    refine Run.reg fun K hK => ?_
    simp
    try (simp (disch := omega) only [wrap_id])
    refine hK _ _ _ ?_; clear hK K
    repeat (first | refine Run.seq ?_ | refine Run.block ?_ | refine Run.skip ?_ | refine Run.inBlock ?_ | refine Run.opsNil ?_)
    repeat (first | refine Run.seq ?_ | refine Run.block ?_ | refine Run.skip ?_ | refine Run.inBlock ?_ | refine Run.opsNil ?_)
    refine Run.reg fun K hK => ?_
    simp
    try (simp (disch := omega) only [wrap_id])
    refine hK _ _ _ ?_; clear hK K
    repeat (first | refine Run.seq ?_ | refine Run.block ?_ | refine Run.skip ?_ | refine Run.inBlock ?_ | refine Run.opsNil ?_)
    repeat (first | refine Run.seq ?_ | refine Run.block ?_ | refine Run.skip ?_ | refine Run.inBlock ?_ | refine Run.opsNil ?_)
    refine Run.cond (b := true) (by simp [c0]) ?_
    simp only [if_true]
    repeat (first | refine Run.seq ?_ | refine Run.block ?_ | refine Run.skip ?_ | refine Run.inBlock ?_ | refine Run.opsNil ?_)
    repeat (first | refine Run.seq ?_ | refine Run.block ?_ | refine Run.skip ?_ | refine Run.inBlock ?_ | refine Run.opsNil ?_)
    refine Run.reg fun K hK => ?_
    simp
    try (simp (disch := omega) only [wrap_id])
    refine hK _ _ _ ?_; clear hK K
    repeat (first | refine Run.seq ?_ | refine Run.block ?_ | refine Run.skip ?_ | refine Run.inBlock ?_ | refine Run.opsNil ?_)
    refine Run.ret ?_
    refine Fin.ret' (h0 := h) (xs := [.p (.prim (.slice none 0 0)), .agg zTm, iA 2]) (by simp) rfl hh rfl (by simp) rfl (Weak.tup (WeakL.cons (Weak.nil 5) (WeakL.cons Weak.zT (WeakL.refl _)))) (by simp) ⟨rfl, rfl⟩
  rw [if_neg c0] at hr
  obtain ⟨N, hN⟩ : ∃ N : Nat, n = N := ⟨n.toNat, by omega⟩
  subst hN
  rw [Int.toNat_natCast] at hr
  obtain ⟨tc, htc⟩ : ∃ tc, tc = t.cells.map AV.p := ⟨_, rfl⟩
  simp only [Tm.av]
  rw [← htc]
  have htl : tc.length = 5 := by rw [htc]; simp
  have htu : ∀ n, AV.underL n tc = true := fun n => by rw [htc]; exact underL_p _ _
  refine ACalls.of_run Try.func67 rfl ?_
  simp only [Try.ntmps67, List.length_cons, List.length_nil]
  repeat (first | refine Run.seq ?_ | refine Run.block ?_ | refine Run.skip ?_ | refine Run.inBlock ?_ | refine Run.opsNil ?_)
  refine Run.reg fun K hK => ?_
  simp
  try (simp (disch := omega) only [wrap_id])
  refine hK _ _ _ ?_; clear hK K
  repeat (first | refine Run.seq ?_ | refine Run.block ?_ | refine Run.skip ?_ | refine Run.inBlock ?_ | refine Run.opsNil ?_)
  repeat (first | refine Run.seq ?_ | refine Run.block ?_ | refine Run.skip ?_ | refine Run.inBlock ?_ | refine Run.opsNil ?_)
  refine Run.reg fun K hK => ?_
  simp
  try (simp (disch := omega) only [wrap_id])
  refine hK _ _ _ ?_; clear hK K
  repeat (first | refine Run.seq ?_ | refine Run.block ?_ | refine Run.skip ?_ | refine Run.inBlock ?_ | refine Run.opsNil ?_)
  repeat (first | refine Run.seq ?_ | refine Run.block ?_ | refine Run.skip ?_ | refine Run.inBlock ?_ | refine Run.opsNil ?_)
  refine Run.cond (b := false) (by simp) ?_
  simp only [Bool.false_eq_true, if_false]
  repeat (first | refine Run.seq ?_ | refine Run.block ?_ | refine Run.skip ?_ | refine Run.inBlock ?_ | refine Run.opsNil ?_)
  repeat (first | refine Run.seq ?_ | refine Run.block ?_ | refine Run.skip ?_ | refine Run.inBlock ?_ | refine Run.opsNil ?_)
  refine Run.reg fun K hK => ?_
  simp
  try (simp (disch := omega) only [wrap_id])
  refine hK _ _ _ ?_; clear hK K
  repeat (first | refine Run.seq ?_ | refine Run.block ?_ | refine Run.skip ?_ | refine Run.inBlock ?_ | refine Run.opsNil ?_)
  refine Run.tok 7 5 (by simp) ?_
  simp
  rw [htc]
  refine Run.loopS (ι := List Tm × Tm) [1, 2, 5] (fun p => p.1.length + p.2.size ≤ t.size ∧ p.1.length ≤ N ∧ r = openA (N - p.1.length) p.1 p.2) (fun p => p.2.size) (fun p => [(7, .own (h.length + 2) 5 (tmPs p.1))])
    (fun p => h ++ [some (.cells (p.2.cells.map .p)), some (.cells zTm), some (.tok p.1.length 5)]) ([], t) ⟨by simp, by simp, by simpa using hr⟩ ?_ (by simp) ?_
  · simp [tmPs]
    repeat' (first | exact WeakL.nil | apply WeakL.cons)
    all_goals first | exact Weak.junk _ | exact Weak.refl _ | exact Weak.nil _ | exact Weak.own _ _ _ | exact Weak.int (by omega)
  rintro ⟨acc, cur⟩ ⟨hs, hle, hra⟩ IH
  simp only at hs hle hra
  simp
  by_cases hlt : acc.length < N
  · repeat (first | refine Run.seq ?_ | refine Run.block ?_ | refine Run.skip ?_ | refine Run.inBlock ?_ | refine Run.opsNil ?_)
    refine Run.reg fun K hK => ?_
    simp [hlt]
    try (simp (disch := omega) only [wrap_id])
    refine hK _ _ _ ?_; clear hK K
    repeat (first | refine Run.seq ?_ | refine Run.block ?_ | refine Run.skip ?_ | refine Run.inBlock ?_ | refine Run.opsNil ?_)
    repeat (first | refine Run.seq ?_ | refine Run.block ?_ | refine Run.skip ?_ | refine Run.inBlock ?_ | refine Run.opsNil ?_)
    refine Run.cond (b := true) (by simp) ?_
    simp only [if_true]
    repeat (first | refine Run.seq ?_ | refine Run.block ?_ | refine Run.skip ?_ | refine Run.inBlock ?_ | refine Run.opsNil ?_)
    obtain ⟨m, hm⟩ : ∃ m, N - acc.length = m + 1 := ⟨N - acc.length - 1, by omega⟩
    rw [hm] at hra
    simp only [openA] at hra
    obtain ⟨k, i, nm, ls, ks⟩ := cur
    by_cases hk : k = 6
    · subst hk
      by_cases hks : ks.length = 2
      · obtain ⟨a, b, rfl⟩ : ∃ a b, ks = [a, b] := by
          match ks, hks with
          | [a, b], _ => exact ⟨a, b, rfl⟩
        simp only [isB, if_true] at hra
        simp only [Tm.size, Tm.sizes] at hs
        have hb1 : (acc.length + 1) * 80 ≤ 140737488355328 := by have := t.size_pos; omega
        have hb2 : acc.length + 1 ≤ 9223372036854775807 := by omega
        repeat (first | refine Run.seq ?_ | refine Run.block ?_ | refine Run.skip ?_ | refine Run.inBlock ?_ | refine Run.opsNil ?_)
        refine Run.reg fun K hK => ?_
        simp
        try (simp (disch := omega) only [wrap_id])
        refine hK _ _ _ ?_; clear hK K
        repeat (first | refine Run.seq ?_ | refine Run.block ?_ | refine Run.skip ?_ | refine Run.inBlock ?_ | refine Run.opsNil ?_)
        repeat (first | refine Run.seq ?_ | refine Run.block ?_ | refine Run.skip ?_ | refine Run.inBlock ?_ | refine Run.opsNil ?_)
        refine Run.cond (b := false) (by simp) ?_
        simp only [Bool.false_eq_true, if_false]
        repeat (first | refine Run.seq ?_ | refine Run.block ?_ | refine Run.skip ?_ | refine Run.inBlock ?_ | refine Run.opsNil ?_)
        repeat (first | refine Run.seq ?_ | refine Run.block ?_ | refine Run.skip ?_ | refine Run.inBlock ?_ | refine Run.opsNil ?_)
        refine Run.reg fun K hK => ?_
        simp [tmPs, hb1, hb2]
        try (simp (disch := omega) only [wrap_id])
        refine hK _ _ _ ?_; clear hK K
        repeat (first | refine Run.seq ?_ | refine Run.block ?_ | refine Run.skip ?_ | refine Run.inBlock ?_ | refine Run.opsNil ?_)
        repeat (first | refine Run.seq ?_ | refine Run.block ?_ | refine Run.skip ?_ | refine Run.inBlock ?_ | refine Run.opsNil ?_)
        refine Run.reg fun K hK => ?_
        simp
        try (simp (disch := omega) only [wrap_id])
        refine hK _ _ _ ?_; clear hK K
        repeat (first | refine Run.seq ?_ | refine Run.block ?_ | refine Run.skip ?_ | refine Run.inBlock ?_ | refine Run.opsNil ?_)
        refine IH (acc ++ [a], b) _ _ ⟨by simp only [List.length_append, List.length_singleton]; have := a.size_pos; omega, by simp; omega, ?_⟩ (by simp only [Tm.size, Tm.sizes]; have := a.size_pos; omega) ?_ ?_
        · rw [hra]
          congr 1
          simp; omega
        · simp [tmPs_snoc]
          repeat' (first | exact WeakL.nil | apply WeakL.cons)
          all_goals first | exact Weak.junk _ | exact Weak.refl _ | exact Weak.nil _ | exact Weak.own _ _ _ | exact Weak.int (by omega)
        · simp
      · have hk2 : ((ks.length : Int) != 2) = true := by simp; omega
        have hib : isB 6 (Tm.mk 6 i nm ls ks) = none := by
          match ks, hks with
          | [], _ => rfl
          | [_], _ => rfl
          | _ :: _ :: _ :: _, _ => rfl
        rw [hib] at hra
        simp only at hra
        subst hra
        repeat (first | refine Run.seq ?_ | refine Run.block ?_ | refine Run.skip ?_ | refine Run.inBlock ?_ | refine Run.opsNil ?_)
        refine Run.reg fun K hK => ?_
        simp [hk2]
        try (simp (disch := omega) only [wrap_id])
        refine hK _ _ _ ?_; clear hK K
        repeat (first | refine Run.seq ?_ | refine Run.block ?_ | refine Run.skip ?_ | refine Run.inBlock ?_ | refine Run.opsNil ?_)
        repeat (first | refine Run.seq ?_ | refine Run.block ?_ | refine Run.skip ?_ | refine Run.inBlock ?_ | refine Run.opsNil ?_)
        refine Run.cond (b := true) (by simp) ?_
        simp only [if_true]
        repeat (first | refine Run.seq ?_ | refine Run.block ?_ | refine Run.skip ?_ | refine Run.inBlock ?_ | refine Run.opsNil ?_)
        repeat (first | refine Run.seq ?_ | refine Run.block ?_ | refine Run.skip ?_ | refine Run.inBlock ?_ | refine Run.opsNil ?_)
        refine Run.reg fun K hK => ?_
        simp
        try (simp (disch := omega) only [wrap_id])
        refine hK _ _ _ ?_; clear hK K
        repeat (first | refine Run.seq ?_ | refine Run.block ?_ | refine Run.skip ?_ | refine Run.inBlock ?_ | refine Run.opsNil ?_)
        refine Run.ret ?_
        refine Fin.ret' (h0 := h) (xs := [.p (.prim (.slice none 0 0)), .agg zTm, iA 13]) (by simp) rfl hh rfl (by simp) rfl (Weak.tup (WeakL.cons (Weak.nil 5) (WeakL.cons Weak.zT (WeakL.refl _)))) (by simp) ⟨rfl, rfl⟩
    · have hkb : (k != 6) = true := by simpa using hk
      have hib : isB 6 (Tm.mk k i nm ls ks) = none := by
        match ks with
        | [] => rfl
        | [_] => rfl
        | [_, _] => simp [isB, hk]
        | _ :: _ :: _ :: _ => rfl
      rw [hib] at hra
      simp only at hra
      subst hra
      repeat (first | refine Run.seq ?_ | refine Run.block ?_ | refine Run.skip ?_ | refine Run.inBlock ?_ | refine Run.opsNil ?_)
      refine Run.reg fun K hK => ?_
      simp [hkb]
      try (simp (disch := omega) only [wrap_id])
      refine hK _ _ _ ?_; clear hK K
      repeat (first | refine Run.seq ?_ | refine Run.block ?_ | refine Run.skip ?_ | refine Run.inBlock ?_ | refine Run.opsNil ?_)
      repeat (first | refine Run.seq ?_ | refine Run.block ?_ | refine Run.skip ?_ | refine Run.inBlock ?_ | refine Run.opsNil ?_)
      refine Run.cond (b := true) (by simp) ?_
      simp only [if_true]
      repeat (first | refine Run.seq ?_ | refine Run.block ?_ | refine Run.skip ?_ | refine Run.inBlock ?_ | refine Run.opsNil ?_)
      repeat (first | refine Run.seq ?_ | refine Run.block ?_ | refine Run.skip ?_ | refine Run.inBlock ?_ | refine Run.opsNil ?_)
      refine Run.reg fun K hK => ?_
      simp
      try (simp (disch := omega) only [wrap_id])
      refine hK _ _ _ ?_; clear hK K
      repeat (first | refine Run.seq ?_ | refine Run.block ?_ | refine Run.skip ?_ | refine Run.inBlock ?_ | refine Run.opsNil ?_)
      refine Run.ret ?_
      refine Fin.ret' (h0 := h) (xs := [.p (.prim (.slice none 0 0)), .agg zTm, iA 13]) (by simp) rfl hh rfl (by simp) rfl (Weak.tup (WeakL.cons (Weak.nil 5) (WeakL.cons Weak.zT (WeakL.refl _)))) (by simp) ⟨rfl, rfl⟩
  · have he : N - acc.length = 0 := by omega
    rw [he] at hra
    simp only [openA] at hra
    subst hra
    obtain ⟨k, i, nm, ls, ks⟩ := cur
    repeat (first | refine Run.seq ?_ | refine Run.block ?_ | refine Run.skip ?_ | refine Run.inBlock ?_ | refine Run.opsNil ?_)
    refine Run.reg fun K hK => ?_
    simp [hlt]
    try (simp (disch := omega) only [wrap_id])
    refine hK _ _ _ ?_; clear hK K
    repeat (first | refine Run.seq ?_ | refine Run.block ?_ | refine Run.skip ?_ | refine Run.inBlock ?_ | refine Run.opsNil ?_)
    repeat (first | refine Run.seq ?_ | refine Run.block ?_ | refine Run.skip ?_ | refine Run.inBlock ?_ | refine Run.opsNil ?_)
    refine Run.cond (b := false) (by simp) ?_
    simp only [Bool.false_eq_true, if_false]
    repeat (first | refine Run.seq ?_ | refine Run.block ?_ | refine Run.skip ?_ | refine Run.inBlock ?_ | refine Run.opsNil ?_)
    repeat (first | refine Run.seq ?_ | refine Run.block ?_ | refine Run.skip ?_ | refine Run.inBlock ?_ | refine Run.opsNil ?_)
    refine Run.exit rfl ?_
    repeat (first | refine Run.seq ?_ | refine Run.block ?_ | refine Run.skip ?_ | refine Run.inBlock ?_ | refine Run.opsNil ?_)
    repeat (first | refine Run.seq ?_ | refine Run.block ?_ | refine Run.skip ?_ | refine Run.inBlock ?_ | refine Run.opsNil ?_)
    refine Run.draw [0, 0, 0, 0, 1] [0, 0, 0, 0, 0] [0, 0, 1, 7, 15] [0, 1, 2, 3, 4] (by kernel_rfl) (by kernel_rfl) ?_
    refine DR.go fun K hK => ?_
    simp
    try (simp (disch := omega) only [wrap_id])
    refine hK _ _ _ _ ?_; clear hK K
    change Run _ _ _ _ _ _ _ _
    repeat (first | refine Run.seq ?_ | refine Run.block ?_ | refine Run.skip ?_ | refine Run.inBlock ?_ | refine Run.opsNil ?_)
    refine Run.ret ?_
    refine Fin.ret' (h0 := h) (xs := [.own (h.length + 2) 5 (tmPs acc), (Tm.mk k i nm ls ks).av, iA 0]) (by simp) rfl hh rfl (by simp) rfl (Weak.tup (WeakL.cons (Weak.own _ _ _) (WeakL.refl _))) (by simp) ⟨rfl, rfl⟩

end Go.Proofs.Ytppgpabjcenjdaa
