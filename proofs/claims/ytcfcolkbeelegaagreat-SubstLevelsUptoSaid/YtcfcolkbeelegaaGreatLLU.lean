/-
  euclidlaw04.SubstLevels: its contract.
-/
import Derived.Test.YtcfcolkbeelegaaGreatLLT
import Derived.Test.YtcfcolkbeelegaaGreatLE14
import Derived.Test.YtcfcolkbeelegaaGreatLG1

namespace Go.Proofs.YtcfcolkbeelegaaGreat

open Go Go.AI
theorem limL_len (l : Lv) : (limL l).1.vars.length ≤ l.vars.length := by
  unfold limL
  split
  · simp
  · split
    · simp
    · split <;> exact Nat.le_refl _
theorem lvlP_len (s : Int × List (Int × Int)) : (lvlP s).1.vars.length ≤ s.2.length := by
  unfold lvlP
  have := limL_len ⟨s.1, sortM s.2⟩
  simpa [sortM] using this
theorem lvF_len (vals : List Lv) (metas : Bool) (l : Lv) : (lvF vals metas l).1.vars.length ≤ 1048576 := by
  have key : validB l = true → vals.all validB = true → (lvlP (l.vars.foldl (stepP vals metas) (l.c, []))).1.vars.length ≤ 1048576 := by
    intro e1 e2
    have V := Vd.of e1
    have hok := StOk.all (vals := vals) (metas := metas) (fun x hx => Vd.of (List.all_eq_true.1 e2 x hx)) l.vars (fun v hv => ⟨V.i0 v hv, V.i1 v hv, V.v1 v hv⟩) (StOk.start V)
    have h1 := hok.len
    have h2 := lvlP_len (l.vars.foldl (stepP vals metas) (l.c, []))
    omega
  unfold lvF
  cases metas with
  | true =>
    simp only [if_true]
    unfold assignL
    split
    · simp
    · rename_i h
      simp only [Bool.or_eq_true, Bool.not_eq_true', not_or, Bool.not_eq_false] at h
      exact key h.1 h.2
  | false =>
    simp only [Bool.false_eq_true, if_false]
    unfold substL
    split
    · simp
    · rename_i h
      simp only [Bool.or_eq_true, Bool.not_eq_true', not_or, Bool.not_eq_false] at h
      split
      · simp
      · exact key h.1 h.2

mutual
theorem lvT_size (f : Lv → Lv × Int) : ∀ t : Tm, (lvT f t).size = t.size
  | .mk _ _ _ _ ks => by simp only [lvT, Tm.size, lvTs_sizes f ks]
theorem lvTs_sizes (f : Lv → Lv × Int) : ∀ l : List Tm, Tm.sizes (lvTs f l) = Tm.sizes l
  | [] => rfl
  | t :: ts => by simp only [lvTs, Tm.sizes, lvT_size f t, lvTs_sizes f ts]
end

mutual
theorem lvT_lvs (f : Lv → Lv × Int) (hf : ∀ l, (f l).1.vars.length ≤ 1048576) : ∀ t : Tm, t.lvs → (lvT f t).lvs
  | .mk _ _ _ ls ks, h => by
    simp only [Tm.lvs] at h
    simp only [lvT, Tm.lvs]
    refine ⟨by simpa using h.1, fun l hl => ?_, lvTs_lvs f hf ks h.2.2⟩
    obtain ⟨x, _, rfl⟩ := List.mem_map.1 hl
    exact hf x
theorem lvTs_lvs (f : Lv → Lv × Int) (hf : ∀ l, (f l).1.vars.length ≤ 1048576) : ∀ l : List Tm, Tm.lvss l → Tm.lvss (lvTs f l)
  | [], _ => trivial
  | t :: ts, h => by
    simp only [Tm.lvss] at h
    simp only [lvTs, Tm.lvss]
    exact ⟨lvT_lvs f hf t h.1, lvTs_lvs f hf ts h.2⟩
end
theorem resLv_small (f : Lv → Lv × Int) (hf : ∀ l, (f l).1.vars.length ≤ 1048576) (t : Tm) (h : t.lvs) (hs : t.size ≤ 4096) : (resLv f t).1.size ≤ 4096 ∧ (resLv f t).1.lvs := by
  unfold resLv
  split
  · exact ⟨by rw [lvT_size]; exact hs, lvT_lvs f hf t h⟩
  · simp [zT, Tm.size, Tm.sizes, Tm.lvs, Tm.lvss]
set_option maxRecDepth 8000 in
set_option maxHeartbeats 8000000 in
theorem substLevels_any (h : Heap) (hh : WF h) (t : Tm) (vals : List Lv) (hsz : t.size ≤ 1048576) (hlv : t.lvs) (hf : t.fit) (hbs : vals.length ≤ 1048576) (hbv : ∀ x ∈ vals, x.vars.length ≤ 1048576) :
    ACalls Tryz.prog 3 [t.av, .p (.sl 2 (lvPs vals))] h fun o h' => o = .ret (bA true) ∧ h' = h := by
  have hgood := fun (g : Heap) (hg : WF g) => good_any g hg [t] (by simp only [Tm.sizes]; omega) (by simp only [Tm.lvss]; exact ⟨hlv, trivial⟩) (by simp only [Tm.fits]; exact ⟨hf, trivial⟩)
  have hlaw := fun (g : Heap) (hg : WF g) => lawLv_any g hg vals hbs hbv
  cases hb : goodB [t] with
  | false =>
    rw [hb] at hgood
    obtain ⟨k, i, nm, ls, ks⟩ := t
    refine ACalls.of_run Tryz.func3 rfl ?_
    simp only [Tryz.ntmps3, List.length_cons, List.length_nil, Tm.av, cells_mk, List.map]
    refine nv ?_
    refine Run.reg fun K hK => ?_
    simp
    try (simp (disch := omega) only [wrap_id])
    refine hK _ _ _ ?_; clear hK K
    refine nv ?_
    refine Run.reg fun K hK => ?_
    simp
    try (simp (disch := omega) only [wrap_id])
    refine hK _ _ _ ?_; clear hK K
    refine nv ?_
    refine Run.call (args := [.p (.sl 5 [(Tm.mk k i nm ls ks).cells])]) rfl (by first | rfl | simp) (by simp) rfl (hgood _ (hh.app (by simp))) ?_ ?_
    rotate_left
    · rintro v h' ⟨hv, _⟩; cases hv
    rintro v h' ⟨hv, rfl⟩
    simp only [AOut.ret.injEq] at hv
    subst hv
    refine Run.ops fun K hK => ?_
    simp
    try (simp (disch := omega) only [wrap_id])
    refine hK _ _ _ ?_; clear hK K
    refine nv ?_
    refine Run.cond (b := true) (by simp) ?_
    simp only [if_true]
    refine nv ?_
    refine Run.reg fun K hK => ?_
    simp
    try (simp (disch := omega) only [wrap_id])
    refine hK _ _ _ ?_; clear hK K
    refine nv ?_
    refine Run.call (args := []) rfl (by first | rfl | simp) (by simp) rfl (awake_any _ (hh.app (by simp))) ?_ ?_
    rotate_left
    · rintro v h' ⟨hv, _⟩; cases hv
    rintro v h' ⟨hv, rfl⟩
    simp only [AOut.ret.injEq] at hv
    subst hv
    refine Run.ops fun K hK => ?_
    simp
    try (simp (disch := omega) only [wrap_id])
    refine hK _ _ _ ?_; clear hK K
    refine nv ?_
    refine Run.ret ?_
    refine Fin.ret' (h0 := h) (by simp) rfl hh rfl (by simp; rfl) rfl (Weak.refl _) (by simp) ⟨rfl, rfl⟩
  | true =>
    obtain ⟨hok, hs4⟩ := good_ok hlv hb
    rw [hb] at hgood
    have hd : Dom 65536 t 0 := ⟨by simpa using hok, by omega, by omega⟩
    have h1 := fun (g : Heap) (hg : WF g) => sLevels_any g hg t vals hd hbs hbv
    have h2 := fun (g : Heap) (hg : WF g) => refLevels_any g hg t vals hsz hlv hbs hbv
    have h3 := fun (g : Heap) (hg : WF g) => sAssign_any g hg t vals hd hbs hbv
    have h4 := fun (g : Heap) (hg : WF g) => refAssign_any g hg t vals hsz hlv hbs hbv
    have hm1 := resLv_small (lvF vals false) (lvF_len vals false) t hlv hs4
    have hm2 := resLv_small (lvF vals true) (lvF_len vals true) t hlv hs4
    generalize resLv (lvF vals false) t = r1 at h1 h2 hm1
    generalize resLv (lvF vals true) t = r2 at h3 h4 hm2
    obtain ⟨q1, e1⟩ := r1
    obtain ⟨q2, e2⟩ := r2
    have hsame1 := fun (g : Heap) (hg : WF g) => same_any q1.size q1 q1 g (Nat.le_refl _) (by have := hm1.1; simp only at this; omega) hm1.2 hg
    have hsame2 := fun (g : Heap) (hg : WF g) => same_any q2.size q2 q2 g (Nat.le_refl _) (by have := hm2.1; simp only at this; omega) hm2.2 hg
    rw [sameT_refl] at hsame1 hsame2
    obtain ⟨k, i, nm, ls, ks⟩ := t
    obtain ⟨k1, i1, nm1, ls1, ks1⟩ := q1
    obtain ⟨k2, i2, nm2, ls2, ks2⟩ := q2
    generalize lawLvs vals = lb at hlaw
    refine ACalls.of_run Tryz.func3 rfl ?_
    simp only [Tryz.ntmps3, List.length_cons, List.length_nil, Tm.av, cells_mk, List.map]
    refine nv ?_
    refine Run.reg fun K hK => ?_
    simp
    try (simp (disch := omega) only [wrap_id])
    refine hK _ _ _ ?_; clear hK K
    refine nv ?_
    refine Run.reg fun K hK => ?_
    simp
    try (simp (disch := omega) only [wrap_id])
    refine hK _ _ _ ?_; clear hK K
    refine nv ?_
    refine Run.call (args := [.p (.sl 5 [(Tm.mk k i nm ls ks).cells])]) rfl (by first | rfl | simp) (by simp) rfl (hgood _ (hh.app (by simp))) ?_ ?_
    rotate_left
    · rintro v h' ⟨hv, _⟩; cases hv
    rintro v h' ⟨hv, rfl⟩
    simp only [AOut.ret.injEq] at hv
    subst hv
    refine Run.ops fun K hK => ?_
    simp
    try (simp (disch := omega) only [wrap_id])
    refine hK _ _ _ ?_; clear hK K
    refine nv ?_
    refine Run.call rfl (by first | rfl | simp) (by simp) rfl (hlaw _ (hh.app (by simp))) ?_ ?_
    rotate_left
    · rintro v h' ⟨hv, _⟩; cases hv
    rintro v h' ⟨hv, rfl⟩
    simp only [AOut.ret.injEq] at hv
    subst hv
    cases lb with
    | false =>
      refine Run.ops fun K hK => ?_
      simp
      try (simp (disch := omega) only [wrap_id])
      refine hK _ _ _ ?_; clear hK K
      refine nv ?_
      refine Run.cond (b := true) (by simp) ?_
      simp only [if_true]
      refine nv ?_
      refine Run.reg fun K hK => ?_
      simp
      try (simp (disch := omega) only [wrap_id])
      refine hK _ _ _ ?_; clear hK K
      refine nv ?_
      refine Run.call (args := []) rfl (by first | rfl | simp) (by simp) rfl (awake_any _ (hh.app (by simp))) ?_ ?_
      rotate_left
      · rintro v h' ⟨hv, _⟩; cases hv
      rintro v h' ⟨hv, rfl⟩
      simp only [AOut.ret.injEq] at hv
      subst hv
      refine Run.ops fun K hK => ?_
      simp
      try (simp (disch := omega) only [wrap_id])
      refine hK _ _ _ ?_; clear hK K
      refine nv ?_
      refine Run.ret ?_
      refine Fin.ret' (h0 := h) (by simp) rfl hh rfl (by simp; rfl) rfl (Weak.refl _) (by simp) ⟨rfl, rfl⟩
    | true =>
      refine Run.ops fun K hK => ?_
      simp
      try (simp (disch := omega) only [wrap_id])
      refine hK _ _ _ ?_; clear hK K
      refine nv ?_
      refine Run.cond (b := false) (by simp) ?_
      simp only [Bool.false_eq_true, if_false]
      refine nv ?_
      refine Run.reg fun K hK => ?_
      simp
      try (simp (disch := omega) only [wrap_id])
      refine hK _ _ _ ?_; clear hK K
      refine nv ?_
      refine Run.call (args := [(Tm.mk k i nm ls ks).av, .p (.sl 2 (lvPs vals))]) rfl (by first | rfl | simp) (by simp) rfl (h1 _ (hh.app (by simp))) ?_ ?_
      rotate_left
      · rintro v h' ⟨hv, _⟩; cases hv
      rintro v h' ⟨hv, rfl⟩
      simp only [AOut.ret.injEq] at hv
      subst hv
      refine Run.ops fun K hK => ?_
      simp
      try (simp (disch := omega) only [wrap_id])
      refine hK _ _ _ ?_; clear hK K
      refine nv ?_
      refine Run.reg fun K hK => ?_
      simp
      try (simp (disch := omega) only [wrap_id])
      refine hK _ _ _ ?_; clear hK K
      refine nv ?_
      refine Run.call (args := [(Tm.mk k i nm ls ks).av, .p (.sl 2 (lvPs vals))]) rfl (by first | rfl | simp) (by simp) rfl (h2 _ (hh.app (by simp))) ?_ ?_
      rotate_left
      · rintro v h' ⟨hv, _⟩; cases hv
      rintro v h' ⟨hv, rfl⟩
      simp only [AOut.ret.injEq] at hv
      subst hv
      refine Run.ops fun K hK => ?_
      simp
      try (simp (disch := omega) only [wrap_id])
      refine hK _ _ _ ?_; clear hK K
      refine nv ?_
      refine Run.reg fun K hK => ?_
      simp
      try (simp (disch := omega) only [wrap_id])
      refine hK _ _ _ ?_; clear hK K
      refine nv ?_
      refine Run.call (args := [(Tm.mk k i nm ls ks).av, .p (.sl 2 (lvPs vals))]) rfl (by first | rfl | simp) (by simp) rfl (h3 _ (hh.app (by simp))) ?_ ?_
      rotate_left
      · rintro v h' ⟨hv, _⟩; cases hv
      rintro v h' ⟨hv, rfl⟩
      simp only [AOut.ret.injEq] at hv
      subst hv
      refine Run.ops fun K hK => ?_
      simp
      try (simp (disch := omega) only [wrap_id])
      refine hK _ _ _ ?_; clear hK K
      refine nv ?_
      refine Run.reg fun K hK => ?_
      simp
      try (simp (disch := omega) only [wrap_id])
      refine hK _ _ _ ?_; clear hK K
      refine nv ?_
      refine Run.call (args := [(Tm.mk k i nm ls ks).av, .p (.sl 2 (lvPs vals))]) rfl (by first | rfl | simp) (by simp) rfl (h4 _ (hh.app (by simp))) ?_ ?_
      rotate_left
      · rintro v h' ⟨hv, _⟩; cases hv
      rintro v h' ⟨hv, rfl⟩
      simp only [AOut.ret.injEq] at hv
      subst hv
      refine Run.ops fun K hK => ?_
      simp
      try (simp (disch := omega) only [wrap_id])
      refine hK _ _ _ ?_; clear hK K
      refine nv ?_
      refine Run.reg fun K hK => ?_
      simp
      try (simp (disch := omega) only [wrap_id])
      refine hK _ _ _ ?_; clear hK K
      refine nv ?_
      refine Run.call (args := [(Tm.mk k1 i1 nm1 ls1 ks1).av, (Tm.mk k1 i1 nm1 ls1 ks1).av]) rfl (by first | rfl | simp) (by simp) rfl (hsame1 _ (hh.app (by simp))) ?_ ?_
      rotate_left
      · rintro v h' ⟨hv, _⟩; cases hv
      rintro v h' ⟨hv, rfl⟩
      simp only [AOut.ret.injEq] at hv
      subst hv
      refine Run.ops fun K hK => ?_
      simp
      try (simp (disch := omega) only [wrap_id])
      refine hK _ _ _ ?_; clear hK K
      refine nv ?_
      refine Run.call (args := [(Tm.mk k2 i2 nm2 ls2 ks2).av, (Tm.mk k2 i2 nm2 ls2 ks2).av]) rfl (by first | rfl | simp) (by simp) rfl (hsame2 _ (hh.app (by simp))) ?_ ?_
      rotate_left
      · rintro v h' ⟨hv, _⟩; cases hv
      rintro v h' ⟨hv, rfl⟩
      simp only [AOut.ret.injEq] at hv
      subst hv
      refine Run.ops fun K hK => ?_
      simp
      try (simp (disch := omega) only [wrap_id])
      refine hK _ _ _ ?_; clear hK K
      refine nv ?_
      refine Run.call (args := []) rfl (by first | rfl | simp) (by simp) rfl (awake_any _ (hh.app (by simp))) ?_ ?_
      rotate_left
      · rintro v h' ⟨hv, _⟩; cases hv
      rintro v h' ⟨hv, rfl⟩
      simp only [AOut.ret.injEq] at hv
      subst hv
      refine Run.ops fun K hK => ?_
      simp
      try (simp (disch := omega) only [wrap_id])
      refine hK _ _ _ ?_; clear hK K
      refine nv ?_
      refine Run.ret ?_
      refine Fin.ret' (h0 := h) (by simp) rfl hh rfl (by simp; rfl) rfl (Weak.refl _) (by simp) ⟨rfl, rfl⟩

end Go.Proofs.YtcfcolkbeelegaaGreat
