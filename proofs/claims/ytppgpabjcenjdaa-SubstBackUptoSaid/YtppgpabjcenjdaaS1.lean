/-
  euclidlaw04.SubstAbstracts: its contract.
-/
import Derived.Test.YtppgpabjcenjdaaE14
import Derived.Test.YtppgpabjcenjdaaR1
namespace Go.Proofs.Ytppgpabjcenjdaa
open Go Go.AI

theorem good_all {l : List Tm} (hl : Tm.lvss l) (h : goodB l = true) : ∀ t ∈ l, t.ok 65536 ∧ t.size ≤ 4096 ∧ t.depth ≤ 200 := by
  intro t ht
  obtain ⟨j, hj, rfl⟩ := List.getElem_of_mem ht
  simp only [goodB, Bool.and_eq_true] at h
  have h := allTo_at h.2 hj
  simp only [goodAt, List.getElem?_eq_getElem hj, checkZ, beq_iff_eq] at h
  have hlv := Tm.lvss_at hl _ (List.getElem_mem hj)
  generalize l[j] = u at h hlv
  by_cases h1 : chk 65536 8 65536 65536 0 u = 0
  · simp only [Int.reduceLT, if_false, h1, ne_eq, not_true_eq_false] at h
    refine ⟨by simpa using chk_ok 65536 8 65536 65536 u 0 hlv h1, ?_⟩
    split at h
    · exact absurd h (by decide)
    · split at h
      · exact absurd h (by decide)
      · omega
  · simp [h1] at h

set_option maxRecDepth 8000 in
set_option maxHeartbeats 4000000 in
theorem substAbstracts_any (h : Heap) (hh : WF h) (t part : Tm) (hsz : t.size + part.size ≤ 1048576) (hlv : t.lvs) (hlv2 : part.lvs) (hf : t.fit) (hf2 : part.fit) :
    ACalls Try.prog 5 [t.av, part.av] h fun o h' => o = .ret (bA true) ∧ h' = h := by
  have hll : Tm.lvss [t, part] := by simp only [Tm.lvss]; exact ⟨hlv, hlv2, trivial⟩
  have hgood := fun (g : Heap) (hg : WF g) => good_any g hg [t, part] (by simp only [Tm.sizes]; omega) hll (by simp only [Tm.fits]; exact ⟨hf, hf2, trivial⟩)
  cases hb : goodB [t, part] with
  | false =>
    rw [hb] at hgood
    obtain ⟨k, i, nm, ls, ks⟩ := t
    obtain ⟨pk, pi, pn, pls, pks⟩ := part
    refine ACalls.of_run Try.func5 rfl ?_
    simp only [Try.ntmps5, List.length_cons, List.length_nil, Tm.av, cells_mk, List.map]
    repeat (first | refine Run.seq ?_ | refine Run.block ?_ | refine Run.skip ?_ | refine Run.inBlock ?_ | refine Run.opsNil ?_)
    repeat (first | refine Run.seq ?_ | refine Run.block ?_ | refine Run.skip ?_ | refine Run.inBlock ?_ | refine Run.opsNil ?_)
    refine Run.reg fun K hK => ?_
    simp
    try (simp (disch := omega) only [wrap_id])
    refine hK _ _ _ ?_; clear hK K
    repeat (first | refine Run.seq ?_ | refine Run.block ?_ | refine Run.skip ?_ | refine Run.inBlock ?_ | refine Run.opsNil ?_)
    repeat (first | refine Run.seq ?_ | refine Run.block ?_ | refine Run.skip ?_ | refine Run.inBlock ?_ | refine Run.opsNil ?_)
    refine Run.reg fun K hK => ?_
    simp
    try (simp (disch := omega) only [wrap_id])
    refine hK _ _ _ ?_; clear hK K
    repeat (first | refine Run.seq ?_ | refine Run.block ?_ | refine Run.skip ?_ | refine Run.inBlock ?_ | refine Run.opsNil ?_)
    refine Run.call (args := [.p (.sl 5 [(Tm.mk k i nm ls ks).cells, (Tm.mk pk pi pn pls pks).cells])]) rfl (by first | rfl | simp) (by simp) rfl (hgood _ (hh.app (by simp))) ?_ ?_
    rotate_left
    · rintro v h' ⟨hv, _⟩; cases hv
    rintro v h' ⟨hv, rfl⟩
    simp only [AOut.ret.injEq] at hv
    subst hv
    refine Run.ops fun K hK => ?_
    simp
    try (simp (disch := omega) only [wrap_id])
    refine hK _ _ _ ?_; clear hK K
    repeat (first | refine Run.seq ?_ | refine Run.block ?_ | refine Run.skip ?_ | refine Run.inBlock ?_ | refine Run.opsNil ?_)
    repeat (first | refine Run.seq ?_ | refine Run.block ?_ | refine Run.skip ?_ | refine Run.inBlock ?_ | refine Run.opsNil ?_)
    refine Run.cond (b := true) (by simp) ?_
    simp only [if_true]
    repeat (first | refine Run.seq ?_ | refine Run.block ?_ | refine Run.skip ?_ | refine Run.inBlock ?_ | refine Run.opsNil ?_)
    repeat (first | refine Run.seq ?_ | refine Run.block ?_ | refine Run.skip ?_ | refine Run.inBlock ?_ | refine Run.opsNil ?_)
    refine Run.reg fun K hK => ?_
    simp
    try (simp (disch := omega) only [wrap_id])
    refine hK _ _ _ ?_; clear hK K
    repeat (first | refine Run.seq ?_ | refine Run.block ?_ | refine Run.skip ?_ | refine Run.inBlock ?_ | refine Run.opsNil ?_)
    refine Run.call (args := []) rfl (by first | rfl | simp) (by simp) rfl (awake_any _ (hh.app (by simp))) ?_ ?_
    rotate_left
    · rintro v h' ⟨hv, _⟩; cases hv
    rintro v h' ⟨hv, rfl⟩
    simp only [AOut.ret.injEq] at hv
    subst hv
    refine Run.ops fun K hK => ?_
    simp
    try (simp (disch := omega) only [wrap_id])
    refine hK _ _ _ ?_; clear hK K
    repeat (first | refine Run.seq ?_ | refine Run.block ?_ | refine Run.skip ?_ | refine Run.inBlock ?_ | refine Run.opsNil ?_)
    refine Run.ret ?_
    refine Fin.ret' (h0 := h) (by simp) rfl hh rfl (by simp; rfl) rfl (Weak.refl _) (by simp) ⟨rfl, rfl⟩
  | true =>
    have hga := good_all hll hb
    obtain ⟨hok, hs4, _⟩ := hga t (by simp)
    obtain ⟨hok2, hs42, _⟩ := hga part (by simp)
    rw [hb] at hgood
    have hd : Dom 65536 t 0 := ⟨by simpa using hok, by omega, by omega⟩
    have hd2 : Dom 65536 part 0 := ⟨by simpa using hok2, by omega, by omega⟩
    have hix := ok_idx t 65536 hok (by omega)
    have hix2 := ok_idx part 65536 hok2 (by omega)
    have hsub := fun (g : Heap) (hg : WF g) => abstract_any g hg t part hd hd2
    have href := fun (g : Heap) (hg : WF g) => refAbs_any g hg t part (by omega) hix2 (by omega) hix hlv
    have hsm := resRefAbs_ok t part hok
    rw [res_abs t part hok (by omega) hok2] at hsub
    generalize resRefAbs t part = r at hsub href hsm
    obtain ⟨q, m, e⟩ := r
    have hsame := fun (g : Heap) (hg : WF g) => same_any q.size q q g (Nat.le_refl _) (by have := hsm.2; simp only at this; omega) (ok_lvs _ _ hsm.1) hg
    rw [sameT_refl] at hsame
    obtain ⟨k, i, nm, ls, ks⟩ := t
    obtain ⟨pk, pi, pn, pls, pks⟩ := part
    obtain ⟨k2, i2, nm2, ls2, ks2⟩ := q
    refine ACalls.of_run Try.func5 rfl ?_
    simp only [Try.ntmps5, List.length_cons, List.length_nil, Tm.av, cells_mk, List.map]
    repeat (first | refine Run.seq ?_ | refine Run.block ?_ | refine Run.skip ?_ | refine Run.inBlock ?_ | refine Run.opsNil ?_)
    repeat (first | refine Run.seq ?_ | refine Run.block ?_ | refine Run.skip ?_ | refine Run.inBlock ?_ | refine Run.opsNil ?_)
    refine Run.reg fun K hK => ?_
    simp
    try (simp (disch := omega) only [wrap_id])
    refine hK _ _ _ ?_; clear hK K
    repeat (first | refine Run.seq ?_ | refine Run.block ?_ | refine Run.skip ?_ | refine Run.inBlock ?_ | refine Run.opsNil ?_)
    repeat (first | refine Run.seq ?_ | refine Run.block ?_ | refine Run.skip ?_ | refine Run.inBlock ?_ | refine Run.opsNil ?_)
    refine Run.reg fun K hK => ?_
    simp
    try (simp (disch := omega) only [wrap_id])
    refine hK _ _ _ ?_; clear hK K
    repeat (first | refine Run.seq ?_ | refine Run.block ?_ | refine Run.skip ?_ | refine Run.inBlock ?_ | refine Run.opsNil ?_)
    refine Run.call (args := [.p (.sl 5 [(Tm.mk k i nm ls ks).cells, (Tm.mk pk pi pn pls pks).cells])]) rfl (by first | rfl | simp) (by simp) rfl (hgood _ (hh.app (by simp))) ?_ ?_
    rotate_left
    · rintro v h' ⟨hv, _⟩; cases hv
    rintro v h' ⟨hv, rfl⟩
    simp only [AOut.ret.injEq] at hv
    subst hv
    refine Run.ops fun K hK => ?_
    simp
    try (simp (disch := omega) only [wrap_id])
    refine hK _ _ _ ?_; clear hK K
    repeat (first | refine Run.seq ?_ | refine Run.block ?_ | refine Run.skip ?_ | refine Run.inBlock ?_ | refine Run.opsNil ?_)
    repeat (first | refine Run.seq ?_ | refine Run.block ?_ | refine Run.skip ?_ | refine Run.inBlock ?_ | refine Run.opsNil ?_)
    refine Run.cond (b := false) (by simp) ?_
    simp only [Bool.false_eq_true, if_false]
    repeat (first | refine Run.seq ?_ | refine Run.block ?_ | refine Run.skip ?_ | refine Run.inBlock ?_ | refine Run.opsNil ?_)
    repeat (first | refine Run.seq ?_ | refine Run.block ?_ | refine Run.skip ?_ | refine Run.inBlock ?_ | refine Run.opsNil ?_)
    refine Run.reg fun K hK => ?_
    simp
    try (simp (disch := omega) only [wrap_id])
    refine hK _ _ _ ?_; clear hK K
    repeat (first | refine Run.seq ?_ | refine Run.block ?_ | refine Run.skip ?_ | refine Run.inBlock ?_ | refine Run.opsNil ?_)
    refine Run.call (args := [(Tm.mk k i nm ls ks).av, (Tm.mk pk pi pn pls pks).av]) rfl (by first | rfl | simp) (by simp) rfl (hsub _ (hh.app (by simp))) ?_ ?_
    rotate_left
    · rintro v h' ⟨hv, _⟩; cases hv
    rintro v h' ⟨hv, rfl⟩
    simp only [AOut.ret.injEq] at hv
    subst hv
    refine Run.ops fun K hK => ?_
    simp
    try (simp (disch := omega) only [wrap_id])
    refine hK _ _ _ ?_; clear hK K
    repeat (first | refine Run.seq ?_ | refine Run.block ?_ | refine Run.skip ?_ | refine Run.inBlock ?_ | refine Run.opsNil ?_)
    repeat (first | refine Run.seq ?_ | refine Run.block ?_ | refine Run.skip ?_ | refine Run.inBlock ?_ | refine Run.opsNil ?_)
    refine Run.reg fun K hK => ?_
    simp
    try (simp (disch := omega) only [wrap_id])
    refine hK _ _ _ ?_; clear hK K
    repeat (first | refine Run.seq ?_ | refine Run.block ?_ | refine Run.skip ?_ | refine Run.inBlock ?_ | refine Run.opsNil ?_)
    refine Run.call (args := [(Tm.mk k i nm ls ks).av, (Tm.mk pk pi pn pls pks).av]) rfl (by first | rfl | simp) (by simp) rfl (href _ (hh.app (by simp))) ?_ ?_
    rotate_left
    · rintro v h' ⟨hv, _⟩; cases hv
    rintro v h' ⟨hv, rfl⟩
    simp only [AOut.ret.injEq] at hv
    subst hv
    refine Run.ops fun K hK => ?_
    simp
    try (simp (disch := omega) only [wrap_id])
    refine hK _ _ _ ?_; clear hK K
    repeat (first | refine Run.seq ?_ | refine Run.block ?_ | refine Run.skip ?_ | refine Run.inBlock ?_ | refine Run.opsNil ?_)
    repeat (first | refine Run.seq ?_ | refine Run.block ?_ | refine Run.skip ?_ | refine Run.inBlock ?_ | refine Run.opsNil ?_)
    refine Run.reg fun K hK => ?_
    simp
    try (simp (disch := omega) only [wrap_id])
    refine hK _ _ _ ?_; clear hK K
    repeat (first | refine Run.seq ?_ | refine Run.block ?_ | refine Run.skip ?_ | refine Run.inBlock ?_ | refine Run.opsNil ?_)
    refine Run.call (args := [(Tm.mk k2 i2 nm2 ls2 ks2).av, (Tm.mk k2 i2 nm2 ls2 ks2).av]) rfl (by first | rfl | simp) (by simp) rfl (hsame _ (hh.app (by simp))) ?_ ?_
    rotate_left
    · rintro v h' ⟨hv, _⟩; cases hv
    rintro v h' ⟨hv, rfl⟩
    simp only [AOut.ret.injEq] at hv
    subst hv
    refine Run.ops fun K hK => ?_
    simp
    try (simp (disch := omega) only [wrap_id])
    refine hK _ _ _ ?_; clear hK K
    repeat (first | refine Run.seq ?_ | refine Run.block ?_ | refine Run.skip ?_ | refine Run.inBlock ?_ | refine Run.opsNil ?_)
    refine Run.call (args := []) rfl (by first | rfl | simp) (by simp) rfl (awake_any _ (hh.app (by simp))) ?_ ?_
    rotate_left
    · rintro v h' ⟨hv, _⟩; cases hv
    rintro v h' ⟨hv, rfl⟩
    simp only [AOut.ret.injEq] at hv
    subst hv
    refine Run.ops fun K hK => ?_
    simp
    try (simp (disch := omega) only [wrap_id])
    refine hK _ _ _ ?_; clear hK K
    repeat (first | refine Run.seq ?_ | refine Run.block ?_ | refine Run.skip ?_ | refine Run.inBlock ?_ | refine Run.opsNil ?_)
    refine Run.ret ?_
    refine Fin.ret' (h0 := h) (by simp) rfl hh rfl (by simp; rfl) rfl (Weak.refl _) (by simp) ⟨rfl, rfl⟩

end Go.Proofs.Ytppgpabjcenjdaa
