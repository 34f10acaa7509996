/-
  euclidlaw04.SubstReplaces, SubstTwice: their contracts.
-/
import Derived.Test.YtppgpabjcenjdaaS1
import Derived.Test.YtppgpabjcenjdaaR2
import Derived.Test.YtppgpabjcenjdaaP3
namespace Go.Proofs.Ytppgpabjcenjdaa
open Go Go.AI

theorem Tm.size_le {l : List Tm} : ∀ v ∈ l, v.size ≤ Tm.sizes l := by
  intro v hv
  obtain ⟨j, hj, rfl⟩ := List.getElem_of_mem hv
  exact kid_size hj

/-- Under's and Subst's contracts over what is in order. -/
theorem under_both (t : Tm) (vs : List Tm) (dp : Int) (hok : t.ok 65536) (hsz : t.size ≤ 4096) (hvl : vs.length ≤ 8) (hvo : ∀ v ∈ vs, v.ok 65536 ∧ v.size ≤ 4096) (h1 : dp ≤ 9223372036854775807) (h : Heap) (hh : WF h) :
    ACalls Try.prog 36 [t.av, .p (.sl 5 (tmPs vs)), iA dp] h (fun o h' => o = .ret (.tup [(resRefUnder t vs dp).1.av, iA (resRefUnder t vs dp).2]) ∧ h' = h) ∧
    ACalls Try.prog 37 [t.av, .p (.sl 5 (tmPs vs)), iA dp] h (fun o h' => o = .ret (.tup [(resRefUnder t vs dp).1.av, iA (resRefUnder t vs dp).2]) ∧ h' = h) := by
  have hr := res_under t vs dp hok (by omega) (by omega) (fun v hv => (hvo v hv).1) (fun v hv => by have := (hvo v hv).2; omega) h1
  have hvd : ∀ v ∈ vs, Dom 65536 v 0 := fun v hv => ⟨by simpa using (hvo v hv).1, by omega, by have := (hvo v hv).2; omega⟩
  have hok' := fun (h0 : 0 ≤ dp) => subT_ok vs (fun v hv => (hvo v hv).1) t (capD dp) (65536 + capD dp) (ok_mono t _ _ hok (by unfold capD; split <;> omega)) (by unfold capD; split <;> omega) (by omega)
  constructor
  · rw [← hr]
    refine under_any h hh t vs dp ⟨⟨by simpa using hok, by omega, by omega⟩, by omega⟩ h1 (by omega) hvd (fun v hv => by have := (hvo v hv).2; omega) ?_
    intro h0 t' s' u s2 hc hs
    have hc' := bld_cnt vs (by omega) (fun v hv => by have := (hvo v hv).2; omega) dp h0 h1 t 0 0 (by simpa using hok) (by omega) (by omega) (by omega) (by omega)
    have hs' := bld_sub vs (by omega) (fun v hv => (hvo v hv).1) dp h0 h1 t 0 0 (by simpa using hok) (by omega) (by omega)
    simp only [Int.add_zero, Int.zero_add] at hc' hs'
    by_cases h5 : 4096 < (subCnt vs (capD dp) t : Int)
    · obtain ⟨s3, e3⟩ := hc'.2 h5
      rw [e3] at hc; cases hc
    · rw [hs] at hs'
      by_cases hb : subBad vs (capD dp) t = true
      · rw [if_pos hb] at hs'; cases hs'
      · rw [if_neg hb] at hs'
        injection hs' with e1 e2
        have := (hok' h0 (by simpa using hb)).2
        rw [e1, this]; omega
  · refine refUnder_any h hh t vs dp (by omega) (fun v hv => ⟨by have := (hvo v hv).2; omega, ok_idx v 65536 (hvo v hv).1 (by have := (hvo v hv).2; omega)⟩) (by omega) (ok_idx t 65536 hok (by omega)) ?_
    intro h07
    by_cases h0 : dp < 0
    · rw [resRefUnder, if_pos h0] at h07; simp at h07
    · rw [resRef_plain t vs dp (by omega), resSub] at h07
      have hl := rsub_law vs t 0 0 (capD dp)
      by_cases h5 : 4096 < (subCnt vs (capD dp) t : Int)
      · rw [if_pos h5] at h07; simp at h07
      · rw [if_neg h5] at h07
        by_cases hb : subBad vs (capD dp) t = true
        · rw [if_pos hb] at h07; simp at h07
        · rw [hl.1 (by omega)]
          have := (hok' (by omega) (by simpa using hb)).2
          simp only
          rw [this]; omega

/-- What Under hands back is in order. -/
theorem resRefUnder_ok (t : Tm) (vs : List Tm) (dp : Int) (hok : t.ok 65536) (hvo : ∀ v ∈ vs, v.ok 65536) : (resRefUnder t vs dp).1.lvs ∧ (resRefUnder t vs dp).1.size ≤ 4096 := by
  by_cases h0 : dp < 0
  · rw [resRefUnder, if_pos h0]
    exact ⟨by simp [zT, Tm.lvs, Tm.lvss], by simp [zT, Tm.size, Tm.sizes]⟩
  · rw [resRef_plain t vs dp (by omega)]
    have := resSub_ok t vs (capD dp) (by unfold capD; split <;> omega) hvo hok
    exact ⟨ok_lvs _ _ this.1, this.2⟩

theorem subst_both (t : Tm) (vs : List Tm) (hok : t.ok 65536) (hsz : t.size ≤ 4096) (hvl : vs.length ≤ 8) (hvo : ∀ v ∈ vs, v.ok 65536 ∧ v.size ≤ 4096) (h : Heap) (hh : WF h) :
    ACalls Try.prog 34 [t.av, .p (.sl 5 (tmPs vs))] h (fun o h' => o = .ret (.tup [(resRefUnder t vs 0).1.av, iA (resRefUnder t vs 0).2]) ∧ h' = h) ∧
    ACalls Try.prog 35 [t.av, .p (.sl 5 (tmPs vs))] h (fun o h' => o = .ret (.tup [(resRefUnder t vs 0).1.av, iA (resRefUnder t vs 0).2]) ∧ h' = h) :=
  ⟨subst_any h hh t vs _ fun g hg => (under_both t vs 0 hok hsz hvl hvo (by omega) g hg).1, refSubst_any h hh t vs _ fun g hg => (under_both t vs 0 hok hsz hvl hvo (by omega) g hg).2⟩

set_option maxRecDepth 8000 in
set_option maxHeartbeats 8000000 in
theorem substReplaces_any (h : Heap) (hh : WF h) (t : Tm) (vs : List Tm) (dp : Int) (hsz : t.size + Tm.sizes vs ≤ 1048576) (hlv : t.lvs) (hlv2 : Tm.lvss vs) (hf : t.fit) (hf2 : Tm.fits vs) (_hd1 : -9223372036854775808 ≤ dp) (hd2 : dp ≤ 9223372036854775807) :
    ACalls Try.prog 4 [t.av, .p (.sl 5 (tmPs vs)), iA dp] h fun o h' => o = .ret (bA true) ∧ h' = h := by
  have hll : Tm.lvss [t] := by simp only [Tm.lvss]; exact ⟨hlv, trivial⟩
  have hgood := fun (g : Heap) (hg : WF g) => good_any g hg [t] (by simp only [Tm.sizes]; omega) hll (by simp only [Tm.fits]; exact ⟨hf, trivial⟩)
  have hgood2 := fun (g : Heap) (hg : WF g) => good_any g hg vs (by omega) hlv2 hf2
  have hvl := length_le_sizes vs
  cases hb : goodB [t] with
  | false =>
    rw [hb] at hgood
    obtain ⟨k, i, nm, ls, ks⟩ := t
    refine ACalls.of_run Try.func4 rfl ?_
    simp only [Try.ntmps4, List.length_cons, List.length_nil, Tm.av, cells_mk, List.map]
    repeat (first | refine Run.seq ?_ | refine Run.block ?_ | refine Run.skip ?_ | refine Run.inBlock ?_ | refine Run.opsNil ?_)
    repeat (first | refine Run.seq ?_ | refine Run.block ?_ | refine Run.skip ?_ | refine Run.inBlock ?_ | refine Run.opsNil ?_)
    refine Run.reg fun K hK => ?_
    simp
    try (simp (disch := omega) only [wrap_id])
    refine hK _ _ _ ?_; clear hK K
    repeat (first | refine Run.seq ?_ | refine Run.block ?_ | refine Run.skip ?_ | refine Run.inBlock ?_ | refine Run.opsNil ?_)
    repeat (first | refine Run.seq ?_ | refine Run.block ?_ | refine Run.skip ?_ | refine Run.inBlock ?_ | refine Run.opsNil ?_)
    refine Run.reg fun K hK => ?_
    simp
    try (simp (disch := omega) only [wrap_id])
    refine hK _ _ _ ?_; clear hK K
    repeat (first | refine Run.seq ?_ | refine Run.block ?_ | refine Run.skip ?_ | refine Run.inBlock ?_ | refine Run.opsNil ?_)
    refine Run.call (args := [.p (.sl 5 [(Tm.mk k i nm ls ks).cells])]) rfl (by first | rfl | simp) (by simp) rfl (hgood _ (hh.app (by simp))) ?_ ?_
    rotate_left
    · rintro v h' ⟨hv, _⟩; cases hv
    rintro v h' ⟨hv, rfl⟩
    simp only [AOut.ret.injEq] at hv
    subst hv
    refine Run.ops fun K hK => ?_
    simp
    try (simp (disch := omega) only [wrap_id])
    refine hK _ _ _ ?_; clear hK K
    repeat (first | refine Run.seq ?_ | refine Run.block ?_ | refine Run.skip ?_ | refine Run.inBlock ?_ | refine Run.opsNil ?_)
    repeat (first | refine Run.seq ?_ | refine Run.block ?_ | refine Run.skip ?_ | refine Run.inBlock ?_ | refine Run.opsNil ?_)
    refine Run.cond (b := true) (by simp) ?_
    simp only [if_true]
    repeat (first | refine Run.seq ?_ | refine Run.block ?_ | refine Run.skip ?_ | refine Run.inBlock ?_ | refine Run.opsNil ?_)
    repeat (first | refine Run.seq ?_ | refine Run.block ?_ | refine Run.skip ?_ | refine Run.inBlock ?_ | refine Run.opsNil ?_)
    refine Run.reg fun K hK => ?_
    simp
    try (simp (disch := omega) only [wrap_id])
    refine hK _ _ _ ?_; clear hK K
    repeat (first | refine Run.seq ?_ | refine Run.block ?_ | refine Run.skip ?_ | refine Run.inBlock ?_ | refine Run.opsNil ?_)
    refine Run.call (args := []) rfl (by first | rfl | simp) (by simp) rfl (awake_any _ (hh.app (by simp))) ?_ ?_
    rotate_left
    · rintro v h' ⟨hv, _⟩; cases hv
    rintro v h' ⟨hv, rfl⟩
    simp only [AOut.ret.injEq] at hv
    subst hv
    refine Run.ops fun K hK => ?_
    simp
    try (simp (disch := omega) only [wrap_id])
    refine hK _ _ _ ?_; clear hK K
    repeat (first | refine Run.seq ?_ | refine Run.block ?_ | refine Run.skip ?_ | refine Run.inBlock ?_ | refine Run.opsNil ?_)
    refine Run.ret ?_
    refine Fin.ret' (h0 := h) (by simp) rfl hh rfl (by simp; rfl) rfl (Weak.refl _) (by simp) ⟨rfl, rfl⟩
  | true =>
  rw [hb] at hgood
  by_cases h8 : 8 < (vs.length : Int)
  · obtain ⟨k, i, nm, ls, ks⟩ := t
    refine ACalls.of_run Try.func4 rfl ?_
    simp only [Try.ntmps4, List.length_cons, List.length_nil, Tm.av, cells_mk, List.map]
    repeat (first | refine Run.seq ?_ | refine Run.block ?_ | refine Run.skip ?_ | refine Run.inBlock ?_ | refine Run.opsNil ?_)
    repeat (first | refine Run.seq ?_ | refine Run.block ?_ | refine Run.skip ?_ | refine Run.inBlock ?_ | refine Run.opsNil ?_)
    refine Run.reg fun K hK => ?_
    simp
    try (simp (disch := omega) only [wrap_id])
    refine hK _ _ _ ?_; clear hK K
    repeat (first | refine Run.seq ?_ | refine Run.block ?_ | refine Run.skip ?_ | refine Run.inBlock ?_ | refine Run.opsNil ?_)
    repeat (first | refine Run.seq ?_ | refine Run.block ?_ | refine Run.skip ?_ | refine Run.inBlock ?_ | refine Run.opsNil ?_)
    refine Run.reg fun K hK => ?_
    simp
    try (simp (disch := omega) only [wrap_id])
    refine hK _ _ _ ?_; clear hK K
    repeat (first | refine Run.seq ?_ | refine Run.block ?_ | refine Run.skip ?_ | refine Run.inBlock ?_ | refine Run.opsNil ?_)
    refine Run.call (args := [.p (.sl 5 [(Tm.mk k i nm ls ks).cells])]) rfl (by first | rfl | simp) (by simp) rfl (hgood _ (hh.app (by simp))) ?_ ?_
    rotate_left
    · rintro v h' ⟨hv, _⟩; cases hv
    rintro v h' ⟨hv, rfl⟩
    simp only [AOut.ret.injEq] at hv
    subst hv
    refine Run.ops fun K hK => ?_
    simp [h8]
    try (simp (disch := omega) only [wrap_id])
    refine hK _ _ _ ?_; clear hK K
    repeat (first | refine Run.seq ?_ | refine Run.block ?_ | refine Run.skip ?_ | refine Run.inBlock ?_ | refine Run.opsNil ?_)
    repeat (first | refine Run.seq ?_ | refine Run.block ?_ | refine Run.skip ?_ | refine Run.inBlock ?_ | refine Run.opsNil ?_)
    refine Run.cond (b := true) (by simp) ?_
    simp only [if_true]
    repeat (first | refine Run.seq ?_ | refine Run.block ?_ | refine Run.skip ?_ | refine Run.inBlock ?_ | refine Run.opsNil ?_)
    repeat (first | refine Run.seq ?_ | refine Run.block ?_ | refine Run.skip ?_ | refine Run.inBlock ?_ | refine Run.opsNil ?_)
    refine Run.reg fun K hK => ?_
    simp
    try (simp (disch := omega) only [wrap_id])
    refine hK _ _ _ ?_; clear hK K
    repeat (first | refine Run.seq ?_ | refine Run.block ?_ | refine Run.skip ?_ | refine Run.inBlock ?_ | refine Run.opsNil ?_)
    refine Run.call (args := []) rfl (by first | rfl | simp) (by simp) rfl (awake_any _ (hh.app (by simp))) ?_ ?_
    rotate_left
    · rintro v h' ⟨hv, _⟩; cases hv
    rintro v h' ⟨hv, rfl⟩
    simp only [AOut.ret.injEq] at hv
    subst hv
    refine Run.ops fun K hK => ?_
    simp
    try (simp (disch := omega) only [wrap_id])
    refine hK _ _ _ ?_; clear hK K
    repeat (first | refine Run.seq ?_ | refine Run.block ?_ | refine Run.skip ?_ | refine Run.inBlock ?_ | refine Run.opsNil ?_)
    refine Run.ret ?_
    refine Fin.ret' (h0 := h) (by simp) rfl hh rfl (by simp; rfl) rfl (Weak.refl _) (by simp) ⟨rfl, rfl⟩
  cases hb2 : goodB vs with
  | false =>
    rw [hb2] at hgood2
    obtain ⟨k, i, nm, ls, ks⟩ := t
    refine ACalls.of_run Try.func4 rfl ?_
    simp only [Try.ntmps4, List.length_cons, List.length_nil, Tm.av, cells_mk, List.map]
    repeat (first | refine Run.seq ?_ | refine Run.block ?_ | refine Run.skip ?_ | refine Run.inBlock ?_ | refine Run.opsNil ?_)
    repeat (first | refine Run.seq ?_ | refine Run.block ?_ | refine Run.skip ?_ | refine Run.inBlock ?_ | refine Run.opsNil ?_)
    refine Run.reg fun K hK => ?_
    simp
    try (simp (disch := omega) only [wrap_id])
    refine hK _ _ _ ?_; clear hK K
    repeat (first | refine Run.seq ?_ | refine Run.block ?_ | refine Run.skip ?_ | refine Run.inBlock ?_ | refine Run.opsNil ?_)
    repeat (first | refine Run.seq ?_ | refine Run.block ?_ | refine Run.skip ?_ | refine Run.inBlock ?_ | refine Run.opsNil ?_)
    refine Run.reg fun K hK => ?_
    simp
    try (simp (disch := omega) only [wrap_id])
    refine hK _ _ _ ?_; clear hK K
    repeat (first | refine Run.seq ?_ | refine Run.block ?_ | refine Run.skip ?_ | refine Run.inBlock ?_ | refine Run.opsNil ?_)
    refine Run.call (args := [.p (.sl 5 [(Tm.mk k i nm ls ks).cells])]) rfl (by first | rfl | simp) (by simp) rfl (hgood _ (hh.app (by simp))) ?_ ?_
    rotate_left
    · rintro v h' ⟨hv, _⟩; cases hv
    rintro v h' ⟨hv, rfl⟩
    simp only [AOut.ret.injEq] at hv
    subst hv
    refine Run.ops fun K hK => ?_
    simp [h8]
    try (simp (disch := omega) only [wrap_id])
    refine hK _ _ _ ?_; clear hK K
    repeat (first | refine Run.seq ?_ | refine Run.block ?_ | refine Run.skip ?_ | refine Run.inBlock ?_ | refine Run.opsNil ?_)
    refine Run.call (args := [.p (.sl 5 (tmPs vs))]) rfl (by first | rfl | simp) (by simp) rfl (hgood2 _ (hh.app (by simp))) ?_ ?_
    rotate_left
    · rintro v h' ⟨hv, _⟩; cases hv
    rintro v h' ⟨hv, rfl⟩
    simp only [AOut.ret.injEq] at hv
    subst hv
    refine Run.ops fun K hK => ?_
    simp
    try (simp (disch := omega) only [wrap_id])
    refine hK _ _ _ ?_; clear hK K
    repeat (first | refine Run.seq ?_ | refine Run.block ?_ | refine Run.skip ?_ | refine Run.inBlock ?_ | refine Run.opsNil ?_)
    repeat (first | refine Run.seq ?_ | refine Run.block ?_ | refine Run.skip ?_ | refine Run.inBlock ?_ | refine Run.opsNil ?_)
    refine Run.cond (b := true) (by simp) ?_
    simp only [if_true]
    repeat (first | refine Run.seq ?_ | refine Run.block ?_ | refine Run.skip ?_ | refine Run.inBlock ?_ | refine Run.opsNil ?_)
    repeat (first | refine Run.seq ?_ | refine Run.block ?_ | refine Run.skip ?_ | refine Run.inBlock ?_ | refine Run.opsNil ?_)
    refine Run.reg fun K hK => ?_
    simp
    try (simp (disch := omega) only [wrap_id])
    refine hK _ _ _ ?_; clear hK K
    repeat (first | refine Run.seq ?_ | refine Run.block ?_ | refine Run.skip ?_ | refine Run.inBlock ?_ | refine Run.opsNil ?_)
    refine Run.call (args := []) rfl (by first | rfl | simp) (by simp) rfl (awake_any _ (hh.app (by simp))) ?_ ?_
    rotate_left
    · rintro v h' ⟨hv, _⟩; cases hv
    rintro v h' ⟨hv, rfl⟩
    simp only [AOut.ret.injEq] at hv
    subst hv
    refine Run.ops fun K hK => ?_
    simp
    try (simp (disch := omega) only [wrap_id])
    refine hK _ _ _ ?_; clear hK K
    repeat (first | refine Run.seq ?_ | refine Run.block ?_ | refine Run.skip ?_ | refine Run.inBlock ?_ | refine Run.opsNil ?_)
    refine Run.ret ?_
    refine Fin.ret' (h0 := h) (by simp) rfl hh rfl (by simp; rfl) rfl (Weak.refl _) (by simp) ⟨rfl, rfl⟩
  | true =>
    rw [hb2] at hgood2
    obtain ⟨hok, hs4, _⟩ := good_all hll hb t (by simp)
    have hga := good_all hlv2 hb2
    have hvo : ∀ v ∈ vs, v.ok 65536 ∧ v.size ≤ 4096 := fun v hv => ⟨(hga v hv).1, (hga v hv).2.1⟩
    have hss := fun (g : Heap) (hg : WF g) => subst_both t vs hok hs4 (by omega) hvo g hg
    have huu := fun (g : Heap) (hg : WF g) => under_both t vs dp hok hs4 (by omega) hvo hd2 g hg
    have h1 := resRefUnder_ok t vs 0 hok (fun v hv => (hvo v hv).1)
    have h2 := resRefUnder_ok t vs dp hok (fun v hv => (hvo v hv).1)
    generalize resRefUnder t vs 0 = r at hss h1
    generalize resRefUnder t vs dp = r2 at huu h2
    obtain ⟨q, e⟩ := r
    obtain ⟨q2, e2⟩ := r2
    simp only at h1 h2
    have hsame := fun (g : Heap) (hg : WF g) => same_any q.size q q g (Nat.le_refl _) (by omega) h1.1 hg
    have hsame2 := fun (g : Heap) (hg : WF g) => same_any q2.size q2 q2 g (Nat.le_refl _) (by omega) h2.1 hg
    rw [sameT_refl] at hsame hsame2
    obtain ⟨k, i, nm, ls, ks⟩ := t
    obtain ⟨k2, i2, nm2, ls2, ks2⟩ := q
    obtain ⟨k3, i3, nm3, ls3, ks3⟩ := q2
    refine ACalls.of_run Try.func4 rfl ?_
    simp only [Try.ntmps4, List.length_cons, List.length_nil, Tm.av, cells_mk, List.map]
    repeat (first | refine Run.seq ?_ | refine Run.block ?_ | refine Run.skip ?_ | refine Run.inBlock ?_ | refine Run.opsNil ?_)
    repeat (first | refine Run.seq ?_ | refine Run.block ?_ | refine Run.skip ?_ | refine Run.inBlock ?_ | refine Run.opsNil ?_)
    refine Run.reg fun K hK => ?_
    simp
    try (simp (disch := omega) only [wrap_id])
    refine hK _ _ _ ?_; clear hK K
    repeat (first | refine Run.seq ?_ | refine Run.block ?_ | refine Run.skip ?_ | refine Run.inBlock ?_ | refine Run.opsNil ?_)
    repeat (first | refine Run.seq ?_ | refine Run.block ?_ | refine Run.skip ?_ | refine Run.inBlock ?_ | refine Run.opsNil ?_)
    refine Run.reg fun K hK => ?_
    simp
    try (simp (disch := omega) only [wrap_id])
    refine hK _ _ _ ?_; clear hK K
    repeat (first | refine Run.seq ?_ | refine Run.block ?_ | refine Run.skip ?_ | refine Run.inBlock ?_ | refine Run.opsNil ?_)
    refine Run.call (args := [.p (.sl 5 [(Tm.mk k i nm ls ks).cells])]) rfl (by first | rfl | simp) (by simp) rfl (hgood _ (hh.app (by simp))) ?_ ?_
    rotate_left
    · rintro v h' ⟨hv, _⟩; cases hv
    rintro v h' ⟨hv, rfl⟩
    simp only [AOut.ret.injEq] at hv
    subst hv
    refine Run.ops fun K hK => ?_
    simp [h8]
    try (simp (disch := omega) only [wrap_id])
    refine hK _ _ _ ?_; clear hK K
    repeat (first | refine Run.seq ?_ | refine Run.block ?_ | refine Run.skip ?_ | refine Run.inBlock ?_ | refine Run.opsNil ?_)
    refine Run.call (args := [.p (.sl 5 (tmPs vs))]) rfl (by first | rfl | simp) (by simp) rfl (hgood2 _ (hh.app (by simp))) ?_ ?_
    rotate_left
    · rintro v h' ⟨hv, _⟩; cases hv
    rintro v h' ⟨hv, rfl⟩
    simp only [AOut.ret.injEq] at hv
    subst hv
    refine Run.ops fun K hK => ?_
    simp
    try (simp (disch := omega) only [wrap_id])
    refine hK _ _ _ ?_; clear hK K
    repeat (first | refine Run.seq ?_ | refine Run.block ?_ | refine Run.skip ?_ | refine Run.inBlock ?_ | refine Run.opsNil ?_)
    repeat (first | refine Run.seq ?_ | refine Run.block ?_ | refine Run.skip ?_ | refine Run.inBlock ?_ | refine Run.opsNil ?_)
    refine Run.cond (b := false) (by simp) ?_
    simp only [Bool.false_eq_true, if_false]
    repeat (first | refine Run.seq ?_ | refine Run.block ?_ | refine Run.skip ?_ | refine Run.inBlock ?_ | refine Run.opsNil ?_)
    repeat (first | refine Run.seq ?_ | refine Run.block ?_ | refine Run.skip ?_ | refine Run.inBlock ?_ | refine Run.opsNil ?_)
    refine Run.reg fun K hK => ?_
    simp
    try (simp (disch := omega) only [wrap_id])
    refine hK _ _ _ ?_; clear hK K
    repeat (first | refine Run.seq ?_ | refine Run.block ?_ | refine Run.skip ?_ | refine Run.inBlock ?_ | refine Run.opsNil ?_)
    refine Run.call (args := [(Tm.mk k i nm ls ks).av, .p (.sl 5 (tmPs vs))]) rfl (by first | rfl | simp) (by simp) rfl (hss _ (hh.app (by simp))).1 ?_ ?_
    rotate_left
    · rintro v h' ⟨hv, _⟩; cases hv
    rintro v h' ⟨hv, rfl⟩
    simp only [AOut.ret.injEq] at hv
    subst hv
    refine Run.ops fun K hK => ?_
    simp
    try (simp (disch := omega) only [wrap_id])
    refine hK _ _ _ ?_; clear hK K
    repeat (first | refine Run.seq ?_ | refine Run.block ?_ | refine Run.skip ?_ | refine Run.inBlock ?_ | refine Run.opsNil ?_)
    repeat (first | refine Run.seq ?_ | refine Run.block ?_ | refine Run.skip ?_ | refine Run.inBlock ?_ | refine Run.opsNil ?_)
    refine Run.reg fun K hK => ?_
    simp
    try (simp (disch := omega) only [wrap_id])
    refine hK _ _ _ ?_; clear hK K
    repeat (first | refine Run.seq ?_ | refine Run.block ?_ | refine Run.skip ?_ | refine Run.inBlock ?_ | refine Run.opsNil ?_)
    refine Run.call (args := [(Tm.mk k i nm ls ks).av, .p (.sl 5 (tmPs vs))]) rfl (by first | rfl | simp) (by simp) rfl (hss _ (hh.app (by simp))).2 ?_ ?_
    rotate_left
    · rintro v h' ⟨hv, _⟩; cases hv
    rintro v h' ⟨hv, rfl⟩
    simp only [AOut.ret.injEq] at hv
    subst hv
    refine Run.ops fun K hK => ?_
    simp
    try (simp (disch := omega) only [wrap_id])
    refine hK _ _ _ ?_; clear hK K
    repeat (first | refine Run.seq ?_ | refine Run.block ?_ | refine Run.skip ?_ | refine Run.inBlock ?_ | refine Run.opsNil ?_)
    repeat (first | refine Run.seq ?_ | refine Run.block ?_ | refine Run.skip ?_ | refine Run.inBlock ?_ | refine Run.opsNil ?_)
    refine Run.reg fun K hK => ?_
    simp
    try (simp (disch := omega) only [wrap_id])
    refine hK _ _ _ ?_; clear hK K
    repeat (first | refine Run.seq ?_ | refine Run.block ?_ | refine Run.skip ?_ | refine Run.inBlock ?_ | refine Run.opsNil ?_)
    refine Run.call (args := [(Tm.mk k i nm ls ks).av, .p (.sl 5 (tmPs vs)), iA dp]) rfl (by first | rfl | simp) (by simp) rfl (huu _ (hh.app (by simp))).1 ?_ ?_
    rotate_left
    · rintro v h' ⟨hv, _⟩; cases hv
    rintro v h' ⟨hv, rfl⟩
    simp only [AOut.ret.injEq] at hv
    subst hv
    refine Run.ops fun K hK => ?_
    simp
    try (simp (disch := omega) only [wrap_id])
    refine hK _ _ _ ?_; clear hK K
    repeat (first | refine Run.seq ?_ | refine Run.block ?_ | refine Run.skip ?_ | refine Run.inBlock ?_ | refine Run.opsNil ?_)
    repeat (first | refine Run.seq ?_ | refine Run.block ?_ | refine Run.skip ?_ | refine Run.inBlock ?_ | refine Run.opsNil ?_)
    refine Run.reg fun K hK => ?_
    simp
    try (simp (disch := omega) only [wrap_id])
    refine hK _ _ _ ?_; clear hK K
    repeat (first | refine Run.seq ?_ | refine Run.block ?_ | refine Run.skip ?_ | refine Run.inBlock ?_ | refine Run.opsNil ?_)
    refine Run.call (args := [(Tm.mk k i nm ls ks).av, .p (.sl 5 (tmPs vs)), iA dp]) rfl (by first | rfl | simp) (by simp) rfl (huu _ (hh.app (by simp))).2 ?_ ?_
    rotate_left
    · rintro v h' ⟨hv, _⟩; cases hv
    rintro v h' ⟨hv, rfl⟩
    simp only [AOut.ret.injEq] at hv
    subst hv
    refine Run.ops fun K hK => ?_
    simp
    try (simp (disch := omega) only [wrap_id])
    refine hK _ _ _ ?_; clear hK K
    repeat (first | refine Run.seq ?_ | refine Run.block ?_ | refine Run.skip ?_ | refine Run.inBlock ?_ | refine Run.opsNil ?_)
    repeat (first | refine Run.seq ?_ | refine Run.block ?_ | refine Run.skip ?_ | refine Run.inBlock ?_ | refine Run.opsNil ?_)
    refine Run.reg fun K hK => ?_
    simp
    try (simp (disch := omega) only [wrap_id])
    refine hK _ _ _ ?_; clear hK K
    repeat (first | refine Run.seq ?_ | refine Run.block ?_ | refine Run.skip ?_ | refine Run.inBlock ?_ | refine Run.opsNil ?_)
    refine Run.call (args := [(Tm.mk k2 i2 nm2 ls2 ks2).av, (Tm.mk k2 i2 nm2 ls2 ks2).av]) rfl (by first | rfl | simp) (by simp) rfl (hsame _ (hh.app (by simp))) ?_ ?_
    rotate_left
    · rintro v h' ⟨hv, _⟩; cases hv
    rintro v h' ⟨hv, rfl⟩
    simp only [AOut.ret.injEq] at hv
    subst hv
    refine Run.ops fun K hK => ?_
    simp
    try (simp (disch := omega) only [wrap_id])
    refine hK _ _ _ ?_; clear hK K
    repeat (first | refine Run.seq ?_ | refine Run.block ?_ | refine Run.skip ?_ | refine Run.inBlock ?_ | refine Run.opsNil ?_)
    refine Run.call (args := [(Tm.mk k3 i3 nm3 ls3 ks3).av, (Tm.mk k3 i3 nm3 ls3 ks3).av]) rfl (by first | rfl | simp) (by simp) rfl (hsame2 _ (hh.app (by simp))) ?_ ?_
    rotate_left
    · rintro v h' ⟨hv, _⟩; cases hv
    rintro v h' ⟨hv, rfl⟩
    simp only [AOut.ret.injEq] at hv
    subst hv
    refine Run.ops fun K hK => ?_
    simp
    try (simp (disch := omega) only [wrap_id])
    refine hK _ _ _ ?_; clear hK K
    repeat (first | refine Run.seq ?_ | refine Run.block ?_ | refine Run.skip ?_ | refine Run.inBlock ?_ | refine Run.opsNil ?_)
    refine Run.call (args := []) rfl (by first | rfl | simp) (by simp) rfl (awake_any _ (hh.app (by simp))) ?_ ?_
    rotate_left
    · rintro v h' ⟨hv, _⟩; cases hv
    rintro v h' ⟨hv, rfl⟩
    simp only [AOut.ret.injEq] at hv
    subst hv
    refine Run.ops fun K hK => ?_
    simp
    try (simp (disch := omega) only [wrap_id])
    refine hK _ _ _ ?_; clear hK K
    repeat (first | refine Run.seq ?_ | refine Run.block ?_ | refine Run.skip ?_ | refine Run.inBlock ?_ | refine Run.opsNil ?_)
    refine Run.ret ?_
    refine Fin.ret' (h0 := h) (by simp) rfl hh rfl (by simp; rfl) rfl (Weak.refl _) (by simp) ⟨rfl, rfl⟩

end Go.Proofs.Ytppgpabjcenjdaa
