/-
  Rename: the program's and the reference's.
-/
import Derived.Test.YtppgpabjcenjdaaUE14
import Derived.Test.YtppgpabjcenjdaaUG1
import Derived.Test.YtppgpabjcenjdaaUP1
import Derived.Test.YtppgpabjcenjdaaUE12
namespace Go.Proofs.Ytppgpabjcenjdaa

open Go Go.AI

def intPs (l : List Int) : List (List PV) := l.map fun x => [iP x]

@[simp] theorem intPs_length (l : List Int) : (intPs l).length = l.length := by simp [intPs]

@[simp] theorem intPs_get (l : List Int) (i : Nat) : (intPs l)[i]? = (l[i]?).map fun x => [iP x] := by simp [intPs]

/-- What takes the place of a variable when a term is renamed. -/
def repRen (to : List Int) (s : Int) (t : Tm) (d : Int) : BO Tm :=
  if t.index - d < 0 then .ok t.bare s
  else match to[(t.index - d).toNat]? with
    | none => .bad 24 s
    | some x => if x < 0 ∨ 65535 - d < x then .bad 24 s else .ok (vr (x + d)) s

mutual
def renT (to : List Int) (d : Int) : Tm → Tm
  | .mk k i n ls ks => if k = 0 then (if i < d then .mk k i n ls ks else match to[(i - d).toNat]? with
      | none => .mk k i n ls ks
      | some x => if x < 0 ∨ 65535 - d < x then .mk k i n ls ks else vr (x + d)) else .mk k i n ls (renL to d k 0 ks)
def renL (to : List Int) (d k : Int) (idx : Nat) : List Tm → List Tm
  | [] => []
  | t :: ts => renT to (d + belowZ k idx) t :: renL to d k (idx + 1) ts
end

mutual
def renBad (to : List Int) (d : Int) : Tm → Bool
  | .mk k i _ _ ks => if k = 0 then (if i < d then false else match to[(i - d).toNat]? with
      | none => true
      | some x => decide (x < 0 ∨ 65535 - d < x)) else renBads to d k 0 ks
def renBads (to : List Int) (d k : Int) (idx : Nat) : List Tm → Bool
  | [] => false
  | t :: ts => renBad to (d + belowZ k idx) t || renBads to d k (idx + 1) ts
end

mutual
theorem bld_ren (to : List Int) : ∀ (t : Tm) (s d m : Int), t.ok m → bld (visVar (repRen to)) s t d = if renBad to d t = true then .bad 24 s else .ok (renT to d t) s
  | .mk k i n ls ks, s, d, m, h => by
    simp only [Tm.ok, Tm.okN] at h
    simp only [bld, renBad, renT]
    by_cases hk : k = 0
    · obtain ⟨_, _, rfl, rfl, rfl⟩ := h.1.1 hk
      subst hk
      simp only [visVar, repRen, Tm.kind, Tm.index, if_true]
      by_cases c1 : i < d
      · have c1' : i - d < 0 := by omega
        simp [c1, c1', Tm.bare]
      · have c1' : ¬ i - d < 0 := by omega
        simp only [c1, c1', if_false]
        cases to[(i - d).toNat]? with
        | none => simp
        | some x =>
          simp only
          by_cases c2 : x < 0 ∨ 65535 - d < x
          · simp [c2]
          · simp [c2]
    · simp only [visVar, Tm.kind, hk, if_false, Tm.bare]
      rw [bldL_ren to ks s k d m 0 h.2]
      by_cases hb : renBads to d k 0 ks = true
      · simp [hb]
      · simp [hb, Tm.withKids]
theorem bldL_ren (to : List Int) : ∀ (ks : List Tm) (s k d m : Int) (idx : Nat), Tm.oks m k idx ks → bldL (visVar (repRen to)) s k d idx ks = if renBads to d k idx ks = true then .bad 24 s else .ok (renL to d k idx ks) s
  | [], s, k, d, m, idx, _ => by simp [bldL, renBads, renL]
  | t :: ts, s, k, d, m, idx, h => by
    simp only [Tm.oks] at h
    simp only [bldL, renBads, renL]
    rw [bld_ren to t s (d + belowZ k idx) _ h.1]
    by_cases hb : renBad to (d + belowZ k idx) t = true
    · simp [hb]
    · rw [if_neg hb]
      simp only
      rw [bldL_ren to ts s k d m (idx + 1) h.2]
      rw [Bool.not_eq_true] at hb
      by_cases hb2 : renBads to d k (idx + 1) ts = true
      · simp [hb, hb2]
      · simp [hb, hb2]
end

def resRen (to : List Int) (t : Tm) : Tm × Int := if renBad to 0 t = true then (zT, 24) else (renT to 0 t, 0)

/- The program's. -/

set_option maxRecDepth 8000 in
set_option maxHeartbeats 4000000 in
theorem ren2_any (h : Heap) (hh : WF h) (to : List Int) (_hl : to.length ≤ 1048576) (p : Nat) (hp : h[p]? = some (some (.cells [.p (.sl 1 (intPs to))]))) (t : Tm) (d s : Int) (hd : Dom 65536 t d) (hk : t.kind = 0) :
    ACalls Try.prog 135 ([t.av, iA d] ++ [.ptr p 0]) h (RPost (fun _ => h) [] (repRen to s t d)) := by
  obtain ⟨p1, p2, p3, p4, p5, p6⟩ := idf hp
  obtain ⟨i1, i2, i3⟩ := hd.var hk
  have hd2 := hd.2.1
  have hd3 := hd.2.2
  generalize t.index = i at *
  subst i3
  have hw : IntKind.i64.wrap (i - d) = i - d := wrap_id (by omega) (by omega)
  obtain ⟨r, hr⟩ : ∃ r, r = repRen to s (vr i) d := ⟨_, rfl⟩
  rw [← hr]
  have hr : r = if i - d < 0 then .ok (vr i) s else match to[(i - d).toNat]? with
    | none => .bad 24 s
    | some x => if x < 0 ∨ 65535 - d < x then .bad 24 s else .ok (vr (x + d)) s := hr
  simp only [vr, List.cons_append, List.nil_append]
  refine ACalls.of_run Try.func135 rfl ?_
  simp only [Try.ntmps135, List.length_cons, List.length_nil, Tm.av, cells_mk, List.map]
  repeat (first | refine Run.seq ?_ | refine Run.block ?_ | refine Run.skip ?_ | refine Run.inBlock ?_ | refine Run.opsNil ?_)
  repeat (first | refine Run.seq ?_ | refine Run.block ?_ | refine Run.skip ?_ | refine Run.inBlock ?_ | refine Run.opsNil ?_)
  refine Run.reg fun K hK => ?_
  simp
  try (simp (disch := omega) only [wrap_id])
  refine hK _ _ _ ?_; clear hK K
  repeat (first | refine Run.seq ?_ | refine Run.block ?_ | refine Run.skip ?_ | refine Run.inBlock ?_ | refine Run.opsNil ?_)
  repeat (first | refine Run.seq ?_ | refine Run.block ?_ | refine Run.skip ?_ | refine Run.inBlock ?_ | refine Run.opsNil ?_)
  refine Run.reg fun K hK => ?_
  simp [hw]
  try (simp (disch := omega) only [wrap_id])
  refine hK _ _ _ ?_; clear hK K
  repeat (first | refine Run.seq ?_ | refine Run.block ?_ | refine Run.skip ?_ | refine Run.inBlock ?_ | refine Run.opsNil ?_)
  repeat (first | refine Run.seq ?_ | refine Run.block ?_ | refine Run.skip ?_ | refine Run.inBlock ?_ | refine Run.opsNil ?_)
  refine Run.reg fun K hK => ?_
  simp
  try (simp (disch := omega) only [wrap_id])
  refine hK _ _ _ ?_; clear hK K
  repeat (first | refine Run.seq ?_ | refine Run.block ?_ | refine Run.skip ?_ | refine Run.inBlock ?_ | refine Run.opsNil ?_)
  by_cases c1 : i - d < 0
  · rw [if_pos c1] at hr
    subst hr
    repeat (first | refine Run.seq ?_ | refine Run.block ?_ | refine Run.skip ?_ | refine Run.inBlock ?_ | refine Run.opsNil ?_)
    refine Run.cond (b := true) (by simp [c1]) ?_
    simp only [if_true]
    repeat (first | refine Run.seq ?_ | refine Run.block ?_ | refine Run.skip ?_ | refine Run.inBlock ?_ | refine Run.opsNil ?_)
    repeat (first | refine Run.seq ?_ | refine Run.block ?_ | refine Run.skip ?_ | refine Run.inBlock ?_ | refine Run.opsNil ?_)
    refine Run.reg fun K hK => ?_
    simp
    try (simp (disch := omega) only [wrap_id])
    refine hK _ _ _ ?_; clear hK K
    repeat (first | refine Run.seq ?_ | refine Run.block ?_ | refine Run.skip ?_ | refine Run.inBlock ?_ | refine Run.opsNil ?_)
    refine Run.call (args := [(Tm.mk 0 i [] [] []).av]) rfl (by first | rfl | simp) (by simp) rfl (plain_any _ (hh.app (by simp)) (vr i) ⟨by simp [vr, Tm.levels], by simp [vr, Tm.levels]⟩) ?_ ?_
    rotate_left
    · rintro v h' ⟨hv, _⟩; cases hv
    rintro v h' ⟨hv, rfl⟩
    simp only [AOut.ret.injEq] at hv
    subst hv
    refine Run.ops fun K hK => ?_
    simp [vr, Tm.bare]
    try (simp (disch := omega) only [wrap_id])
    refine hK _ _ _ ?_; clear hK K
    repeat (first | refine Run.seq ?_ | refine Run.block ?_ | refine Run.skip ?_ | refine Run.inBlock ?_ | refine Run.opsNil ?_)
    refine Run.ret ?_
    refine Fin.ret' (h0 := h) (by simp) rfl hh rfl (by simp; rfl) rfl (Weak.of_eq (y := (vr i).av) (by simp [vr])) (by simp) ?_
    simp [RPost, vr]
  rw [if_neg c1] at hr
  repeat (first | refine Run.seq ?_ | refine Run.block ?_ | refine Run.skip ?_ | refine Run.inBlock ?_ | refine Run.opsNil ?_)
  refine Run.cond (b := false) (by simp [c1]) ?_
  simp only [Bool.false_eq_true, if_false]
  repeat (first | refine Run.seq ?_ | refine Run.block ?_ | refine Run.skip ?_ | refine Run.inBlock ?_ | refine Run.opsNil ?_)
  cases hx : to[(i - d).toNat]? with
  | none =>
    rw [hx] at hr
    simp only at hr
    subst hr
    rw [List.getElem?_eq_none_iff] at hx
    have c2 : (to.length : Int) ≤ i - d := by omega
    repeat (first | refine Run.seq ?_ | refine Run.block ?_ | refine Run.skip ?_ | refine Run.inBlock ?_ | refine Run.opsNil ?_)
    refine Run.reg fun K hK => ?_
    simp [p1, c2]
    try (simp (disch := omega) only [wrap_id])
    refine hK _ _ _ ?_; clear hK K
    repeat (first | refine Run.seq ?_ | refine Run.block ?_ | refine Run.skip ?_ | refine Run.inBlock ?_ | refine Run.opsNil ?_)
    repeat (first | refine Run.seq ?_ | refine Run.block ?_ | refine Run.skip ?_ | refine Run.inBlock ?_ | refine Run.opsNil ?_)
    refine Run.cond (b := true) (by simp) ?_
    simp only [if_true]
    repeat (first | refine Run.seq ?_ | refine Run.block ?_ | refine Run.skip ?_ | refine Run.inBlock ?_ | refine Run.opsNil ?_)
    repeat (first | refine Run.seq ?_ | refine Run.block ?_ | refine Run.skip ?_ | refine Run.inBlock ?_ | refine Run.opsNil ?_)
    refine Run.reg fun K hK => ?_
    simp
    try (simp (disch := omega) only [wrap_id])
    refine hK _ _ _ ?_; clear hK K
    repeat (first | refine Run.seq ?_ | refine Run.block ?_ | refine Run.skip ?_ | refine Run.inBlock ?_ | refine Run.opsNil ?_)
    refine Run.call (args := [iA 24]) rfl rfl (by simp) rfl (stop_any _ (hh.app (by simp)) 24) ?_ ?_
    · rintro v h' ⟨hv, _⟩; cases hv
    · rintro v h' ⟨hv, rfl⟩
      simp only [AOut.panic.injEq] at hv
      subst hv
      exact Fin.pan rfl hh rfl (by simp [RPost])
  | some x =>
    rw [hx] at hr
    simp only at hr
    have hxl := (List.getElem?_eq_some_iff.1 hx).1
    have c2 : ¬ (to.length : Int) ≤ i - d := by omega
    have hw2 : IntKind.i64.wrap (65535 - d) = 65535 - d := wrap_id (by omega) (by omega)
    by_cases c3 : x < 0
    · rw [if_pos (.inl c3)] at hr
      subst hr
      repeat (first | refine Run.seq ?_ | refine Run.block ?_ | refine Run.skip ?_ | refine Run.inBlock ?_ | refine Run.opsNil ?_)
      refine Run.reg fun K hK => ?_
      simp [p1, c2, c1, hx, c3]
      try (simp (disch := omega) only [wrap_id])
      refine hK _ _ _ ?_; clear hK K
      repeat (first | refine Run.seq ?_ | refine Run.block ?_ | refine Run.skip ?_ | refine Run.inBlock ?_ | refine Run.opsNil ?_)
      repeat (first | refine Run.seq ?_ | refine Run.block ?_ | refine Run.skip ?_ | refine Run.inBlock ?_ | refine Run.opsNil ?_)
      refine Run.cond (b := true) (by simp) ?_
      simp only [if_true]
      repeat (first | refine Run.seq ?_ | refine Run.block ?_ | refine Run.skip ?_ | refine Run.inBlock ?_ | refine Run.opsNil ?_)
      repeat (first | refine Run.seq ?_ | refine Run.block ?_ | refine Run.skip ?_ | refine Run.inBlock ?_ | refine Run.opsNil ?_)
      refine Run.reg fun K hK => ?_
      simp
      try (simp (disch := omega) only [wrap_id])
      refine hK _ _ _ ?_; clear hK K
      repeat (first | refine Run.seq ?_ | refine Run.block ?_ | refine Run.skip ?_ | refine Run.inBlock ?_ | refine Run.opsNil ?_)
      refine Run.call (args := [iA 24]) rfl rfl (by simp) rfl (stop_any _ (hh.app (by simp)) 24) ?_ ?_
      · rintro v h' ⟨hv, _⟩; cases hv
      · rintro v h' ⟨hv, rfl⟩
        simp only [AOut.panic.injEq] at hv
        subst hv
        exact Fin.pan rfl hh rfl (by simp [RPost])
    by_cases c4 : 65535 - d < x
    · rw [if_pos (.inr c4)] at hr
      subst hr
      repeat (first | refine Run.seq ?_ | refine Run.block ?_ | refine Run.skip ?_ | refine Run.inBlock ?_ | refine Run.opsNil ?_)
      refine Run.reg fun K hK => ?_
      simp [p1, c2, c1, hx, c3, hw2, c4]
      try (simp (disch := omega) only [wrap_id])
      refine hK _ _ _ ?_; clear hK K
      repeat (first | refine Run.seq ?_ | refine Run.block ?_ | refine Run.skip ?_ | refine Run.inBlock ?_ | refine Run.opsNil ?_)
      repeat (first | refine Run.seq ?_ | refine Run.block ?_ | refine Run.skip ?_ | refine Run.inBlock ?_ | refine Run.opsNil ?_)
      refine Run.cond (b := true) (by simp) ?_
      simp only [if_true]
      repeat (first | refine Run.seq ?_ | refine Run.block ?_ | refine Run.skip ?_ | refine Run.inBlock ?_ | refine Run.opsNil ?_)
      repeat (first | refine Run.seq ?_ | refine Run.block ?_ | refine Run.skip ?_ | refine Run.inBlock ?_ | refine Run.opsNil ?_)
      refine Run.reg fun K hK => ?_
      simp
      try (simp (disch := omega) only [wrap_id])
      refine hK _ _ _ ?_; clear hK K
      repeat (first | refine Run.seq ?_ | refine Run.block ?_ | refine Run.skip ?_ | refine Run.inBlock ?_ | refine Run.opsNil ?_)
      refine Run.call (args := [iA 24]) rfl rfl (by simp) rfl (stop_any _ (hh.app (by simp)) 24) ?_ ?_
      · rintro v h' ⟨hv, _⟩; cases hv
      · rintro v h' ⟨hv, rfl⟩
        simp only [AOut.panic.injEq] at hv
        subst hv
        exact Fin.pan rfl hh rfl (by simp [RPost])
    rw [if_neg (by omega)] at hr
    subst hr
    have hw3 : IntKind.i64.wrap (x + d) = x + d := wrap_id (by omega) (by omega)
    have c5 : ¬ 65535 < x + d := by omega
    have hm := fun (g : Heap) (hg : WF g) => moved_any g hg (x + d)
    simp only [if_neg c5] at hm
    repeat (first | refine Run.seq ?_ | refine Run.block ?_ | refine Run.skip ?_ | refine Run.inBlock ?_ | refine Run.opsNil ?_)
    refine Run.reg fun K hK => ?_
    simp [p1, c2, c1, hx, c3, hw2, c4]
    try (simp (disch := omega) only [wrap_id])
    refine hK _ _ _ ?_; clear hK K
    repeat (first | refine Run.seq ?_ | refine Run.block ?_ | refine Run.skip ?_ | refine Run.inBlock ?_ | refine Run.opsNil ?_)
    repeat (first | refine Run.seq ?_ | refine Run.block ?_ | refine Run.skip ?_ | refine Run.inBlock ?_ | refine Run.opsNil ?_)
    refine Run.cond (b := false) (by simp) ?_
    simp only [Bool.false_eq_true, if_false]
    repeat (first | refine Run.seq ?_ | refine Run.block ?_ | refine Run.skip ?_ | refine Run.inBlock ?_ | refine Run.opsNil ?_)
    repeat (first | refine Run.seq ?_ | refine Run.block ?_ | refine Run.skip ?_ | refine Run.inBlock ?_ | refine Run.opsNil ?_)
    refine Run.reg fun K hK => ?_
    simp [p1, hx, c1, hw3]
    try (simp (disch := omega) only [wrap_id])
    refine hK _ _ _ ?_; clear hK K
    repeat (first | refine Run.seq ?_ | refine Run.block ?_ | refine Run.skip ?_ | refine Run.inBlock ?_ | refine Run.opsNil ?_)
    generalize x + d = z at hm
    refine Run.call (args := [iA z]) rfl (by first | rfl | simp) (by simp) rfl (hm _ (hh.app (by simp))) ?_ ?_
    rotate_left
    · rintro v h' ⟨hv, _⟩; cases hv
    rintro v h' ⟨hv, rfl⟩
    simp only [AOut.ret.injEq] at hv
    subst hv
    refine Run.ops fun K hK => ?_
    simp [vr]
    try (simp (disch := omega) only [wrap_id])
    refine hK _ _ _ ?_; clear hK K
    repeat (first | refine Run.seq ?_ | refine Run.block ?_ | refine Run.skip ?_ | refine Run.inBlock ?_ | refine Run.opsNil ?_)
    refine Run.ret ?_
    refine Fin.ret' (h0 := h) (by simp) rfl hh rfl (by simp; rfl) rfl (Weak.of_eq (y := (vr z).av) (by simp [vr])) (by simp) ?_
    simp [RPost, vr]

end Go.Proofs.Ytppgpabjcenjdaa
