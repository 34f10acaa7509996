/-
  euclidlaw05: the contract of TelescopeApplies.
-/
import Derived.Test.YtppgpabjcenjdaaT10
import Derived.Test.YtppgpabjcenjdaaV0
namespace Go.Proofs.Ytppgpabjcenjdaa
open Go Go.AI

theorem applyT_ok : ∀ (args : List Tm) (t : Tm), t.lvs → Tm.lvss args → (applyT t args).lvs ∧ (applyT t args).size ≤ t.size + Tm.sizes args + args.length
  | [], t, h, _ => ⟨h, by simp [applyT]⟩
  | a :: l, t, h, h2 => by
    simp only [Tm.lvss] at h2
    have hk : (appT t a).lvs ∧ (appT t a).size = 1 + t.size + a.size := by
      simp only [appT, Tm.lvs, Tm.lvss, Tm.size, Tm.sizes, List.length_nil]
      exact ⟨⟨by omega, by simp, h, h2.1, trivial⟩, by omega⟩
    have := applyT_ok l (appT t a) hk.1 h2.2
    simp only [applyT, List.foldl_cons] at this ⊢
    refine ⟨this.1, ?_⟩
    have h3 := this.2
    simp only [Tm.sizes, List.length_cons]
    omega
theorem isB_lvs {k : Int} {t a b : Tm} (h : isB k t = some (a, b)) (hl : t.lvs) : a.lvs ∧ b.lvs := by
  obtain ⟨k', i, n, ls, ks⟩ := t
  match ks, h with
  | [x, y], h =>
    simp only [isB] at h
    split at h
    · injection h with h; injection h with h1 h2
      subst h1; subst h2
      simp only [Tm.lvs, Tm.lvss] at hl
      exact ⟨hl.2.2.1, hl.2.2.2.1⟩
    · cases h
theorem spG_ok : ∀ (n : Nat) (t : Tm), t.lvs → (spG n t).1.lvs ∧ (spG n t).1.size ≤ t.size ∧ ∀ a ∈ (spG n t).2, a.lvs ∧ a.size ≤ t.size
  | 0, t, h => ⟨h, Nat.le_refl _, by simp [spG]⟩
  | n + 1, t, h => by
    simp only [spG]
    cases hb : isB 4 t with
    | none => exact ⟨h, Nat.le_refl _, by simp⟩
    | some p =>
      obtain ⟨f, a⟩ := p
      have hs := isB_size hb
      have hl := isB_lvs hb h
      have := spG_ok n f hl.1
      refine ⟨this.1, by have := this.2.1; simp only; omega, fun x hx => ?_⟩
      simp only [List.mem_append, List.mem_singleton] at hx
      rcases hx with hx | rfl
      · have := this.2.2 x hx; exact ⟨this.1, by omega⟩
      · exact ⟨hl.2, by omega⟩

set_option maxRecDepth 8000 in
set_option maxHeartbeats 8000000 in
theorem teleApplies_any (h : Heap) (hh : WF h) (t : Tm) (args : List Tm) (hsz : t.size + Tm.sizes args ≤ 1048576) (hlv2 : t.lvs) (hlv3 : Tm.lvss args) (hf2 : t.fit) (hf3 : Tm.fits args) :
    ACalls Try.prog 16 [t.av, .p (.sl 5 (tmPs args))] h fun o h' => o = .ret (bA true) ∧ h' = h := by
  have hfew2 := fun (g : Heap) (hg : WF g) => few5_any g hg t 10 (by omega) hf2
  have hfew3 := fun (g : Heap) (hg : WF g) => fewList_any g hg args 10 (by omega) (by omega) (by omega) hf3
  have hla := length_le_sizes args
  cases hb2 : few5 10 t with
  | false =>
    rw [hb2] at hfew2
    obtain ⟨i0, i1, i2, i3, i4⟩ := t
    refine ACalls.of_run Try.func16 rfl ?_
    simp only [Try.ntmps16, List.length_cons, List.length_nil, Tm.av, cells_mk, List.map]
    repeat (first | refine Run.seq ?_ | refine Run.block ?_ | refine Run.skip ?_ | refine Run.inBlock ?_ | refine Run.opsNil ?_)
    repeat (first | refine Run.seq ?_ | refine Run.block ?_ | refine Run.skip ?_ | refine Run.inBlock ?_ | refine Run.opsNil ?_)
    refine Run.reg fun K hK => ?_
    simp
    try (simp (disch := omega) only [wrap_id])
    refine hK _ _ _ ?_; clear hK K
    repeat (first | refine Run.seq ?_ | refine Run.block ?_ | refine Run.skip ?_ | refine Run.inBlock ?_ | refine Run.opsNil ?_)
    repeat (first | refine Run.seq ?_ | refine Run.block ?_ | refine Run.skip ?_ | refine Run.inBlock ?_ | refine Run.opsNil ?_)
    refine Run.reg fun K hK => ?_
    simp
    try (simp (disch := omega) only [wrap_id])
    refine hK _ _ _ ?_; clear hK K
    repeat (first | refine Run.seq ?_ | refine Run.block ?_ | refine Run.skip ?_ | refine Run.inBlock ?_ | refine Run.opsNil ?_)
    refine Run.call (args := [(Tm.mk i0 i1 i2 i3 i4).av, iA 10]) rfl (by first | rfl | simp) (by simp) rfl (hfew2 _ (hh.app (by simp))) ?_ ?_
    rotate_left
    · rintro v h' ⟨hv, _⟩; cases hv
    rintro v h' ⟨hv, rfl⟩
    simp only [AOut.ret.injEq] at hv
    subst hv
    refine Run.ops fun K hK => ?_
    simp
    try (simp (disch := omega) only [wrap_id])
    refine hK _ _ _ ?_; clear hK K
    repeat (first | refine Run.seq ?_ | refine Run.block ?_ | refine Run.skip ?_ | refine Run.inBlock ?_ | refine Run.opsNil ?_)
    repeat (first | refine Run.seq ?_ | refine Run.block ?_ | refine Run.skip ?_ | refine Run.inBlock ?_ | refine Run.opsNil ?_)
    refine Run.cond (b := true) (by simp) ?_
    simp only [if_true]
    repeat (first | refine Run.seq ?_ | refine Run.block ?_ | refine Run.skip ?_ | refine Run.inBlock ?_ | refine Run.opsNil ?_)
    repeat (first | refine Run.seq ?_ | refine Run.block ?_ | refine Run.skip ?_ | refine Run.inBlock ?_ | refine Run.opsNil ?_)
    refine Run.reg fun K hK => ?_
    simp
    try (simp (disch := omega) only [wrap_id])
    refine hK _ _ _ ?_; clear hK K
    repeat (first | refine Run.seq ?_ | refine Run.block ?_ | refine Run.skip ?_ | refine Run.inBlock ?_ | refine Run.opsNil ?_)
    refine Run.call (args := []) rfl (by first | rfl | simp) (by simp) rfl (aw05.awake05_any _ (hh.app (by simp))) ?_ ?_
    rotate_left
    · rintro v h' ⟨hv, _⟩; cases hv
    rintro v h' ⟨hv, rfl⟩
    simp only [AOut.ret.injEq] at hv
    subst hv
    refine Run.ops fun K hK => ?_
    simp
    try (simp (disch := omega) only [wrap_id])
    refine hK _ _ _ ?_; clear hK K
    repeat (first | refine Run.seq ?_ | refine Run.block ?_ | refine Run.skip ?_ | refine Run.inBlock ?_ | refine Run.opsNil ?_)
    refine Run.ret ?_
    refine Fin.ret' (h0 := h) (by simp) rfl hh rfl (by simp; rfl) rfl (Weak.refl _) (by simp) ⟨rfl, rfl⟩
  | true =>
  rw [hb2] at hfew2
  cases hb3 : fews5 10 0 args with
  | false =>
    rw [hb3] at hfew3
    obtain ⟨i0, i1, i2, i3, i4⟩ := t
    refine ACalls.of_run Try.func16 rfl ?_
    simp only [Try.ntmps16, List.length_cons, List.length_nil, Tm.av, cells_mk, List.map]
    repeat (first | refine Run.seq ?_ | refine Run.block ?_ | refine Run.skip ?_ | refine Run.inBlock ?_ | refine Run.opsNil ?_)
    repeat (first | refine Run.seq ?_ | refine Run.block ?_ | refine Run.skip ?_ | refine Run.inBlock ?_ | refine Run.opsNil ?_)
    refine Run.reg fun K hK => ?_
    simp
    try (simp (disch := omega) only [wrap_id])
    refine hK _ _ _ ?_; clear hK K
    repeat (first | refine Run.seq ?_ | refine Run.block ?_ | refine Run.skip ?_ | refine Run.inBlock ?_ | refine Run.opsNil ?_)
    repeat (first | refine Run.seq ?_ | refine Run.block ?_ | refine Run.skip ?_ | refine Run.inBlock ?_ | refine Run.opsNil ?_)
    refine Run.reg fun K hK => ?_
    simp
    try (simp (disch := omega) only [wrap_id])
    refine hK _ _ _ ?_; clear hK K
    repeat (first | refine Run.seq ?_ | refine Run.block ?_ | refine Run.skip ?_ | refine Run.inBlock ?_ | refine Run.opsNil ?_)
    refine Run.call (args := [(Tm.mk i0 i1 i2 i3 i4).av, iA 10]) rfl (by first | rfl | simp) (by simp) rfl (hfew2 _ (hh.app (by simp))) ?_ ?_
    rotate_left
    · rintro v h' ⟨hv, _⟩; cases hv
    rintro v h' ⟨hv, rfl⟩
    simp only [AOut.ret.injEq] at hv
    subst hv
    refine Run.ops fun K hK => ?_
    simp
    try (simp (disch := omega) only [wrap_id])
    refine hK _ _ _ ?_; clear hK K
    repeat (first | refine Run.seq ?_ | refine Run.block ?_ | refine Run.skip ?_ | refine Run.inBlock ?_ | refine Run.opsNil ?_)
    refine Run.call (args := [.p (.sl 5 (tmPs args)), iA 10]) rfl (by first | rfl | simp) (by simp) rfl (hfew3 _ (hh.app (by simp))) ?_ ?_
    rotate_left
    · rintro v h' ⟨hv, _⟩; cases hv
    rintro v h' ⟨hv, rfl⟩
    simp only [AOut.ret.injEq] at hv
    subst hv
    refine Run.ops fun K hK => ?_
    simp
    try (simp (disch := omega) only [wrap_id])
    refine hK _ _ _ ?_; clear hK K
    repeat (first | refine Run.seq ?_ | refine Run.block ?_ | refine Run.skip ?_ | refine Run.inBlock ?_ | refine Run.opsNil ?_)
    repeat (first | refine Run.seq ?_ | refine Run.block ?_ | refine Run.skip ?_ | refine Run.inBlock ?_ | refine Run.opsNil ?_)
    refine Run.cond (b := true) (by simp) ?_
    simp only [if_true]
    repeat (first | refine Run.seq ?_ | refine Run.block ?_ | refine Run.skip ?_ | refine Run.inBlock ?_ | refine Run.opsNil ?_)
    repeat (first | refine Run.seq ?_ | refine Run.block ?_ | refine Run.skip ?_ | refine Run.inBlock ?_ | refine Run.opsNil ?_)
    refine Run.reg fun K hK => ?_
    simp
    try (simp (disch := omega) only [wrap_id])
    refine hK _ _ _ ?_; clear hK K
    repeat (first | refine Run.seq ?_ | refine Run.block ?_ | refine Run.skip ?_ | refine Run.inBlock ?_ | refine Run.opsNil ?_)
    refine Run.call (args := []) rfl (by first | rfl | simp) (by simp) rfl (aw05.awake05_any _ (hh.app (by simp))) ?_ ?_
    rotate_left
    · rintro v h' ⟨hv, _⟩; cases hv
    rintro v h' ⟨hv, rfl⟩
    simp only [AOut.ret.injEq] at hv
    subst hv
    refine Run.ops fun K hK => ?_
    simp
    try (simp (disch := omega) only [wrap_id])
    refine hK _ _ _ ?_; clear hK K
    repeat (first | refine Run.seq ?_ | refine Run.block ?_ | refine Run.skip ?_ | refine Run.inBlock ?_ | refine Run.opsNil ?_)
    refine Run.ret ?_
    refine Fin.ret' (h0 := h) (by simp) rfl hh rfl (by simp; rfl) rfl (Weak.refl _) (by simp) ⟨rfl, rfl⟩
  | true =>
    rw [hb3] at hfew3
    have a1 := fun (g : Heap) (hg : WF g) => apply71_any g hg t args (by omega)
    have a2 := fun (g : Heap) (hg : WF g) => apply73_any g hg t args (by omega)
    have p1 := fun (g : Heap) (hg : WF g) => spine72_any g hg t (by omega)
    have p2 := fun (g : Heap) (hg : WF g) => spine44_any t.size t g (Nat.le_refl _) (by omega) hg
    have k1 := applyT_ok args t hlv2 hlv3
    have k2 := spG_ok t.size t hlv2
    have k3 := resSpine_len t
    change (resSpine t).1.lvs ∧ _ at k2
    generalize applyT t args = r1 at a1 a2 k1
    change (resSpine t).1.lvs ∧ (resSpine t).1.size ≤ t.size ∧ ∀ a ∈ (resSpine t).2, a.lvs ∧ a.size ≤ t.size at k2
    generalize resSpine t = sp at p1 p2 k2 k3
    obtain ⟨hd, xs⟩ := sp
    simp only at p1 p2 k2 k3
    have s1 := sameS r1 k1.1 (by omega)
    have s2 := sameS hd k2.1 (by omega)
    have s3 := sameLS xs (by omega) (fun x hx => ⟨(k2.2.2 x hx).1, by have := (k2.2.2 x hx).2; omega⟩)
    obtain ⟨j0, j1, j2, j3, j4⟩ := t
    refine ACalls.of_run Try.func16 rfl ?_
    simp only [Try.ntmps16, List.length_cons, List.length_nil, Tm.av, cells_mk, List.map]
    repeat (first | refine Run.seq ?_ | refine Run.block ?_ | refine Run.skip ?_ | refine Run.inBlock ?_ | refine Run.opsNil ?_)
    repeat (first | refine Run.seq ?_ | refine Run.block ?_ | refine Run.skip ?_ | refine Run.inBlock ?_ | refine Run.opsNil ?_)
    refine Run.reg fun K hK => ?_
    simp
    try (simp (disch := omega) only [wrap_id])
    refine hK _ _ _ ?_; clear hK K
    repeat (first | refine Run.seq ?_ | refine Run.block ?_ | refine Run.skip ?_ | refine Run.inBlock ?_ | refine Run.opsNil ?_)
    repeat (first | refine Run.seq ?_ | refine Run.block ?_ | refine Run.skip ?_ | refine Run.inBlock ?_ | refine Run.opsNil ?_)
    refine Run.reg fun K hK => ?_
    simp
    try (simp (disch := omega) only [wrap_id])
    refine hK _ _ _ ?_; clear hK K
    repeat (first | refine Run.seq ?_ | refine Run.block ?_ | refine Run.skip ?_ | refine Run.inBlock ?_ | refine Run.opsNil ?_)
    refine Run.call (args := [(Tm.mk j0 j1 j2 j3 j4).av, iA 10]) rfl (by first | rfl | simp) (by simp) rfl (hfew2 _ (hh.app (by simp))) ?_ ?_
    rotate_left
    · rintro v h' ⟨hv, _⟩; cases hv
    rintro v h' ⟨hv, rfl⟩
    simp only [AOut.ret.injEq] at hv
    subst hv
    refine Run.ops fun K hK => ?_
    simp
    try (simp (disch := omega) only [wrap_id])
    refine hK _ _ _ ?_; clear hK K
    repeat (first | refine Run.seq ?_ | refine Run.block ?_ | refine Run.skip ?_ | refine Run.inBlock ?_ | refine Run.opsNil ?_)
    refine Run.call (args := [.p (.sl 5 (tmPs args)), iA 10]) rfl (by first | rfl | simp) (by simp) rfl (hfew3 _ (hh.app (by simp))) ?_ ?_
    rotate_left
    · rintro v h' ⟨hv, _⟩; cases hv
    rintro v h' ⟨hv, rfl⟩
    simp only [AOut.ret.injEq] at hv
    subst hv
    refine Run.ops fun K hK => ?_
    simp
    try (simp (disch := omega) only [wrap_id])
    refine hK _ _ _ ?_; clear hK K
    repeat (first | refine Run.seq ?_ | refine Run.block ?_ | refine Run.skip ?_ | refine Run.inBlock ?_ | refine Run.opsNil ?_)
    repeat (first | refine Run.seq ?_ | refine Run.block ?_ | refine Run.skip ?_ | refine Run.inBlock ?_ | refine Run.opsNil ?_)
    refine Run.cond (b := false) (by simp) ?_
    simp only [Bool.false_eq_true, if_false]
    repeat (first | refine Run.seq ?_ | refine Run.block ?_ | refine Run.skip ?_ | refine Run.inBlock ?_ | refine Run.opsNil ?_)
    repeat (first | refine Run.seq ?_ | refine Run.block ?_ | refine Run.skip ?_ | refine Run.inBlock ?_ | refine Run.opsNil ?_)
    refine Run.reg fun K hK => ?_
    simp
    try (simp (disch := omega) only [wrap_id])
    refine hK _ _ _ ?_; clear hK K
    repeat (first | refine Run.seq ?_ | refine Run.block ?_ | refine Run.skip ?_ | refine Run.inBlock ?_ | refine Run.opsNil ?_)
    refine Run.call (args := [(Tm.mk j0 j1 j2 j3 j4).av, .p (.sl 5 (tmPs args))]) rfl (by first | rfl | simp) (by simp) rfl (a1 _ (hh.app (by simp))) ?_ ?_
    rotate_left
    · rintro v h' ⟨hv, _⟩; cases hv
    rintro v h' ⟨hv, rfl⟩
    simp only [AOut.ret.injEq] at hv
    subst hv
    refine Run.ops fun K hK => ?_
    simp
    try (simp (disch := omega) only [wrap_id])
    refine hK _ _ _ ?_; clear hK K
    repeat (first | refine Run.seq ?_ | refine Run.block ?_ | refine Run.skip ?_ | refine Run.inBlock ?_ | refine Run.opsNil ?_)
    repeat (first | refine Run.seq ?_ | refine Run.block ?_ | refine Run.skip ?_ | refine Run.inBlock ?_ | refine Run.opsNil ?_)
    refine Run.reg fun K hK => ?_
    simp
    try (simp (disch := omega) only [wrap_id])
    refine hK _ _ _ ?_; clear hK K
    repeat (first | refine Run.seq ?_ | refine Run.block ?_ | refine Run.skip ?_ | refine Run.inBlock ?_ | refine Run.opsNil ?_)
    refine Run.call (args := [(Tm.mk j0 j1 j2 j3 j4).av]) rfl (by first | rfl | simp) (by simp) rfl (p1 _ (hh.app (by simp))) ?_ ?_
    rotate_left
    · rintro v h' ⟨hv, _⟩; cases hv
    rintro v h' ⟨hv, rfl⟩
    simp only [AOut.ret.injEq] at hv
    subst hv
    refine Run.ops fun K hK => ?_
    simp
    try (simp (disch := omega) only [wrap_id])
    refine hK _ _ _ ?_; clear hK K
    repeat (first | refine Run.seq ?_ | refine Run.block ?_ | refine Run.skip ?_ | refine Run.inBlock ?_ | refine Run.opsNil ?_)
    repeat (first | refine Run.seq ?_ | refine Run.block ?_ | refine Run.skip ?_ | refine Run.inBlock ?_ | refine Run.opsNil ?_)
    refine Run.regPre 1 fun K hK => ?_
    simp only [List.take_succ_cons, List.take_zero]
    simp
    try (simp (disch := omega) only [wrap_id])
    refine hK _ _ _ ?_; clear hK K
    simp only [List.nil_append, List.drop_succ_cons, List.drop_zero]
    refine Run.call (args := [(Tm.mk j0 j1 j2 j3 j4).av]) rfl (by first | rfl | simp) (by simp) rfl (p2 _ (hh.app (by simp))) ?_ ?_
    rotate_left
    · rintro v h' ⟨_, _, hv, _⟩; cases hv
    rintro v h' ⟨G, hG, hv, rfl⟩
    simp only [AOut.ret.injEq] at hv
    subst hv
    refine Run.ops fun K hK => ?_
    simp
    try (simp (disch := omega) only [wrap_id])
    refine hK _ _ _ ?_; clear hK K
    repeat (first | refine Run.seq ?_ | refine Run.block ?_ | refine Run.skip ?_ | refine Run.inBlock ?_ | refine Run.opsNil ?_)
    have hw := hG.app (l := [some (.tok xs.length 5), some (.cells (hd.cells.map .p))]) (by simp)
    simp only [List.append_assoc, List.cons_append, List.nil_append] at hw
    have q3 : ∀ (a b c d e : Option AO), (h ++ a :: b :: c :: (G ++ [d, e]))[h.length + (G.length + 1 + 1 + 1 + 1)]? = some e := fun a b c d e => by
      rw [show h ++ a :: b :: c :: (G ++ [d, e]) = (h ++ [a, b, c] ++ G ++ [d]) ++ [e] by simp, List.getElem?_append_right (by simp <;> omega), show h.length + (G.length + 1 + 1 + 1 + 1) - (h ++ [a, b, c] ++ G ++ [d]).length = 0 by simp <;> omega]; rfl
    obtain ⟨d0, d1, d2, d3, d4⟩ := hd
    obtain ⟨e0, e1, e2, e3, e4⟩ := r1
    repeat (first | refine Run.seq ?_ | refine Run.block ?_ | refine Run.skip ?_ | refine Run.inBlock ?_ | refine Run.opsNil ?_)
    refine Run.draw [0, 1, 1, 1, 1, 1, 2, 3, 3, 3, 3, 3, 4, 4, 4, 4, 4, 5, 5] [0, 0, 0, 0, 0, 1, 2, 0, 0, 0, 0, 3, 0, 0, 0, 0, 4, 0, 0] [0, 1, 3, 3, 3, 27, 63, 127, 255, 511, 511, 2047, 4095, 8191, 16383, 16383, 65535, 131071, 262143] [0, 1, 3, 4, 5, 2, 6, 7, 8, 9, 10, 11, 12, 13, 14, 15, 16, 17, 18] (by kernel_rfl) (by kernel_rfl) ?_
    refine DR.go fun K hK => ?_
    simp
    try (simp (disch := omega) only [wrap_id])
    refine hK _ _ _ _ ?_; clear hK K
    refine DR.call (args := []) rfl rfl rfl (by simp) rfl (aw05.awake05_any _ hw) ?_
    refine DR.go fun K hK => ?_
    simp
    try (simp (disch := omega) only [wrap_id])
    refine hK _ _ _ _ ?_; clear hK K
    refine DR.call (args := [(Tm.mk j0 j1 j2 j3 j4).av, .p (.sl 5 (tmPs args))]) rfl rfl rfl (by simp) rfl (a2 _ hw) ?_
    refine DR.go fun K hK => ?_
    simp
    try (simp (disch := omega) only [wrap_id])
    refine hK _ _ _ _ ?_; clear hK K
    refine DR.call (args := [(Tm.mk e0 e1 e2 e3 e4).av, (Tm.mk e0 e1 e2 e3 e4).av]) rfl rfl rfl (by simp) rfl (s1 _ hw) ?_
    refine DR.go fun K hK => ?_
    simp
    try (simp (disch := omega) only [wrap_id])
    refine hK _ _ _ _ ?_; clear hK K
    refine DR.call (args := [(Tm.mk d0 d1 d2 d3 d4).av, (Tm.mk d0 d1 d2 d3 d4).av]) rfl rfl rfl (by simp) rfl (s2 _ hw) ?_
    refine DR.go fun K hK => ?_
    simp
    try (simp (disch := omega) only [wrap_id])
    refine hK _ _ _ _ ?_; clear hK K
    refine DR.call (args := [.p (.sl 5 (tmPs xs)), .own (h.length + 3 + G.length) 5 (tmPs xs)]) rfl rfl rfl (by simp) rfl (ACalls.weak (WeakL.cons (Weak.refl _) (WeakL.cons (Weak.own _ _ _) WeakL.nil)) (s3 _ hw)) ?_
    refine DR.go fun K hK => ?_
    simp
    try (simp (disch := omega) only [wrap_id])
    refine hK _ _ _ _ ?_; clear hK K
    change Run _ _ _ _ _ _ _ _
    repeat (first | refine Run.seq ?_ | refine Run.block ?_ | refine Run.skip ?_ | refine Run.inBlock ?_ | refine Run.opsNil ?_)
    refine Run.ret ?_
    refine Fin.ret' (h0 := h) (by simp) rfl hh rfl (by simp; rfl) rfl (Weak.refl _) (by simp) ⟨rfl, rfl⟩

end Go.Proofs.Ytppgpabjcenjdaa
