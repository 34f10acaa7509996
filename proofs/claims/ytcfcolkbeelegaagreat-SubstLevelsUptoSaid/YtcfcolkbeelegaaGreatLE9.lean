/-
  subst: what takes the place of a variable under Under.
-/
import Derived.Test.YtcfcolkbeelegaaGreatLE8

namespace Go.Proofs.YtcfcolkbeelegaaGreat

open Go Go.AI
theorem wrap_low {n : Int} (h1 : -18446744073709551616 ≤ n) (h2 : n < -9223372036854775808) : IntKind.i64.wrap n = n + 18446744073709551616 := by
  simp only [IntKind.wrap, IntKind.bits, IntKind.signed]
  simp
  omega
theorem valueZ_eq {dp : Int} {len : Nat} {t : Tm} {b : Int} (h0 : 0 ≤ dp) (h1 : dp ≤ 9223372036854775807) (h2 : -2199023255552 ≤ t.index - b) (h3 : t.index - b ≤ 2199023255552) (h4 : len ≤ 1048576) :
    valueZ dp len t b = if 0 ≤ t.index - b - dp ∧ t.index - b - dp < len then t.index - b - dp else -1 := by
  unfold valueZ
  rw [wrap_id (n := t.index - b) (by omega) (by omega)]
  by_cases hc : -9223372036854775808 ≤ t.index - b - dp
  · rw [wrap_id hc (by omega)]
  · rw [wrap_low (by omega) (by omega), if_neg (by omega), if_neg (by omega)]
def repUnder (dp : Int) (vs : List Tm) (s : Int) (t : Tm) (b : Int) : BO Tm :=
  if 0 ≤ valueZ dp vs.length t b then
    match vs[(valueZ dp vs.length t b).toNat]? with
    | some x => match shiftB (dp + b) 0 x with
      | .ok t' _ => .ok t' s
      | .bad e _ => .bad e s
    | none => .ok t s
  else if t.index - b < dp then .ok t.bare s
  else if 65535 < t.index - vs.length then .bad 24 s else .ok (vr (t.index - vs.length)) s
set_option maxRecDepth 8000 in
set_option maxHeartbeats 8000000 in
theorem under4_any (h : Heap) (hh : WF h) (dp : Int) (vs : List Tm) (hdp0 : 0 ≤ dp) (hdp1 : dp ≤ 9223372036854775807) (hvl : vs.length ≤ 1048576) (hvd : ∀ v ∈ vs, Dom 65536 v 0) (p8 p4 p5 : Nat) (h8 : h[p8]? = some (some (.cells [.fn (.func 154) [] [.ptr p5 0, .ptr p4 0]])))
    (h4 : h[p4]? = some (some (.cells [.p (.sl 5 (tmPs vs))]))) (h5 : h[p5]? = some (some (.cells [iA dp]))) (t : Tm) (b s : Int) (hd : Dom 65536 t b) (hb : b ≤ 2097152) (hk : t.kind = 0) :
    ACalls Tryz.prog 158 ([t.av, iA b] ++ [.ptr p8 0, .ptr p4 0, .ptr p5 0]) h (RPost (fun _ => h) [] (repUnder dp vs s t b)) := by
  obtain ⟨e8, _⟩ := idf h8
  obtain ⟨e4, _⟩ := idf h4
  obtain ⟨e5, _⟩ := idf h5
  obtain ⟨i1, i2, i3⟩ := hd.var hk
  have hd2 := hd.2.1
  have hvz := valueZ_eq (len := vs.length) (t := t) (b := b) hdp0 hdp1 (by omega) (by omega) hvl
  have hval := value_any (h ++ [some (.cells (t.cells.map .p)), some (.cells zTm)]) (hh.app (by simp)) t b dp vs p5 p4 (e5 _) (e4 _)
  have hvlt := valueZ_lt dp vs.length t b
  obtain ⟨v, hv⟩ : ∃ v, valueZ dp vs.length t b = v := ⟨_, rfl⟩
  have hrep : repUnder dp vs s t b = if 0 ≤ v then
    match vs[v.toNat]? with
    | some x => match shiftB (dp + b) 0 x with
      | .ok t' _ => .ok t' s
      | .bad e _ => .bad e s
    | none => .ok t s
  else if t.index - b < dp then .ok t.bare s
  else if 65535 < t.index - vs.length then .bad 24 s else .ok (vr (t.index - vs.length)) s := by rw [← hv]; rfl
  rw [hrep]
  rw [hv] at hval hvz hvlt
  clear hrep hd
  generalize t.index = i at *
  subst i3
  simp only [vr, List.cons_append, List.nil_append]
  refine ACalls.of_run Tryz.func158 rfl ?_
  simp only [Tryz.ntmps158, List.length_cons, List.length_nil, Tm.av, cells_mk, List.map]
  refine nv ?_
  refine Run.reg fun K hK => ?_
  simp
  try (simp (disch := omega) only [wrap_id])
  refine hK _ _ _ ?_; clear hK K
  refine nv ?_
  refine Run.reg fun K hK => ?_
  simp [e8]
  try (simp (disch := omega) only [wrap_id])
  refine hK _ _ _ ?_; clear hK K
  refine nv ?_
  refine Run.call (args := [(vr i).av, iA b, .ptr p5 0, .ptr p4 0]) rfl rfl (by simp [vr]) rfl hval ?_ ?_
  rotate_left
  · rintro v h' ⟨hv, _⟩; cases hv
  rintro v0 h' ⟨hv0, rfl⟩
  simp only [AOut.ret.injEq] at hv0
  subst hv0
  refine Run.ops fun K hK => ?_
  simp
  try (simp (disch := omega) only [wrap_id])
  refine hK _ _ _ ?_; clear hK K
  refine nv ?_
  refine Run.reg fun K hK => ?_
  simp
  try (simp (disch := omega) only [wrap_id])
  refine hK _ _ _ ?_; clear hK K
  refine nv ?_
  by_cases hv0 : 0 ≤ v
  · have hlt := hvlt hv0
    have hg : vs[v.toNat]? = some vs[v.toNat] := List.getElem?_eq_getElem hlt
    have hxd := hvd _ (List.getElem_mem hlt)
    generalize vs[v.toNat] = x at hg hxd
    have hn : ¬ v < 0 := by omega
    have hdpb : dp + b ≤ 1099511627776 := by
      split at hvz
      · omega
      · omega
    have hsh := shifted_any (h ++ [some (.cells ((vr i).cells.map .p)), some (.cells zTm)]) (hh.app (by simp)) x (dp + b) 0 (by omega) hdpb (by omega) (by omega) hxd
    have hw : IntKind.i64.wrap (dp + b) = dp + b := wrap_id (by omega) (by omega)
    rw [if_pos hv0, hg]
    simp only
    cases hbo : shiftB (dp + b) 0 x with
    | ok t' s' =>
      rw [hbo] at hsh
      have hsh2 := hsh.mono (R' := fun o h' => o = .ret t'.av ∧ h' = _) (fun _ _ hp => hp)
      refine nv ?_
      refine Run.cond (b := true) (by simp [hv0]) ?_
      simp only [if_true]
      refine nv ?_
      refine Run.draw [0, 0, 0, 0, 0, 0, 0, 0, 1] [0, 0, 0, 0, 0, 0, 0, 0, 1] [0, 0, 3, 7, 0, 0, 48, 127, 255] [0, 1, 2, 3, 4, 5, 6, 7, 8] (by kernel_rfl) (by kernel_rfl) ?_
      refine DR.go fun K hK => ?_
      simp [e4, e5, hg, hn, hw]
      try (simp (disch := omega) only [wrap_id])
      refine hK _ _ _ _ ?_; clear hK K
      refine DR.call (args := [x.av, iA (dp + b), iA 0]) rfl rfl rfl (by simp) rfl hsh2 ?_
      obtain ⟨k', i', n', ls', ks'⟩ := t'
      refine DR.go fun K hK => ?_
      simp [vr]
      try (simp (disch := omega) only [wrap_id])
      refine hK _ _ _ _ ?_; clear hK K
      change Run _ _ _ _ _ _ _ _
      refine nv ?_
      refine Run.ret ?_
      refine Fin.ret' (h0 := h) (by simp) rfl hh rfl (by simp; rfl) rfl (Weak.refl _) (by simp) ?_
      simp [RPost]
    | bad e s' =>
      rw [hbo] at hsh
      have hsh2 := hsh.mono (R' := fun o h' => o = .panic (.p (errP e)) ∧ h' = _) (fun _ _ hp => hp)
      refine nv ?_
      refine Run.cond (b := true) (by simp [hv0]) ?_
      simp only [if_true]
      refine nv ?_
      refine Run.drawPanic [0, 0, 0, 0, 0, 0, 0, 0, 1] [0, 0, 0, 0, 0, 0, 0, 0, 0] [0, 0, 3, 7, 0, 0, 48, 127, 255] [0, 1, 2, 3, 4, 5, 6] 7 (by kernel_rfl) (by kernel_rfl) ?_
      refine DR.go fun K hK => ?_
      simp [e4, e5, hg, hn, hw]
      try (simp (disch := omega) only [wrap_id])
      refine hK _ _ _ _ ?_; clear hK K
      refine ⟨_, _, _, [x.av, iA (dp + b), iA 0], _, _, rfl, rfl, rfl, by simp, rfl, hsh2, ?_⟩
      intro T' hT
      exact Fin.pan (h0 := h) rfl hh rfl (by simp [RPost])
  · rw [if_neg hv0]
    have hw : IntKind.i64.wrap (i - b) = i - b := wrap_id (by omega) (by omega)
    have hw2 : IntKind.i64.wrap (i - vs.length) = i - vs.length := wrap_id (by omega) (by omega)
    refine nv ?_
    refine Run.cond (b := false) (by simp [hv0]) ?_
    simp only [Bool.false_eq_true, if_false]
    refine nv ?_
    refine Run.reg fun K hK => ?_
    simp [vr, e5, hw]
    try (simp (disch := omega) only [wrap_id])
    refine hK _ _ _ ?_; clear hK K
    refine nv ?_
    by_cases c1 : i - b < dp
    · rw [if_pos c1]
      refine nv ?_
      refine Run.cond (b := true) (by simp [c1]) ?_
      simp only [if_true]
      refine nv ?_
      refine Run.reg fun K hK => ?_
      simp
      try (simp (disch := omega) only [wrap_id])
      refine hK _ _ _ ?_; clear hK K
      refine nv ?_
      refine Run.call (args := [(vr i).av]) rfl rfl (by simp [vr]) rfl (plain_any _ (hh.app (by simp)) (vr i) ⟨by simp [vr, Tm.levels], by simp [vr, Tm.levels]⟩) ?_ ?_
      rotate_left
      · rintro v h' ⟨hv, _⟩; cases hv
      rintro v0 h' ⟨hv0, rfl⟩
      simp only [AOut.ret.injEq] at hv0
      subst hv0
      refine Run.ops fun K hK => ?_
      simp [vr, Tm.bare]
      try (simp (disch := omega) only [wrap_id])
      refine hK _ _ _ ?_; clear hK K
      refine nv ?_
      refine Run.ret ?_
      refine Fin.ret' (h0 := h) (by simp) rfl hh rfl (by simp; rfl) rfl (Weak.of_eq (y := (vr i).bare.av) (by simp [vr, Tm.bare])) (by simp) ?_
      simp [RPost, vr, Tm.bare]
    · rw [if_neg c1]
      refine nv ?_
      refine Run.cond (b := false) (by simp [c1]) ?_
      simp only [Bool.false_eq_true, if_false]
      refine nv ?_
      refine Run.reg fun K hK => ?_
      simp [e4, hw2]
      try (simp (disch := omega) only [wrap_id])
      refine hK _ _ _ ?_; clear hK K
      refine nv ?_
      refine Run.call (args := [iA (i - vs.length)]) rfl rfl (by simp) rfl (moved_any _ (hh.app (by simp)) (i - vs.length)) ?_ ?_
      · rintro v0 h' ⟨hv0, rfl⟩
        by_cases c4 : 65535 < i - vs.length
        · rw [if_pos c4] at hv0; cases hv0
        · rw [if_neg c4] at hv0 ⊢
          simp only [AOut.ret.injEq] at hv0
          subst hv0
          generalize i - vs.length = z
          simp only [vr, Tm.av, cells_mk, List.map]
          refine Run.ops fun K hK => ?_
          simp
          try (simp (disch := omega) only [wrap_id])
          refine hK _ _ _ ?_; clear hK K
          refine nv ?_
          refine Run.ret ?_
          refine Fin.ret' (h0 := h) (by simp) rfl hh rfl (by simp; rfl) rfl (Weak.refl _) (by simp) ?_
          simp [RPost]
      · rintro v0 h' ⟨hv0, rfl⟩
        by_cases c4 : 65535 < i - vs.length
        · rw [if_pos c4] at hv0 ⊢
          simp only [AOut.panic.injEq] at hv0
          subst hv0
          exact Fin.pan rfl hh rfl (by simp [RPost])
        · rw [if_neg c4] at hv0; cases hv0

end Go.Proofs.YtcfcolkbeelegaaGreat
