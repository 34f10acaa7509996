/-
  euclidlaw05: the contract of TelescopeInverts.
-/
import Derived.Test.YtppgpabjcenjdaaT10
import Derived.Test.YtppgpabjcenjdaaP4
namespace Go.Proofs.Ytppgpabjcenjdaa
open Go Go.AI

theorem tsameS (t : Tm) (hl : t.lvs) (hs : t.size ≤ 1099511627776) (g : Heap) (hg : WF g) : ACalls Try.prog 74 [t.av, t.av] g fun o h' => o = .ret (bA true) ∧ h' = g := by
  have := tsame_any t.size t t g (Nat.le_refl _) hs hl hg
  rwa [sameT_refl] at this

theorem sizes_le (M : Nat) : ∀ (l : List Tm), (∀ t ∈ l, t.size ≤ M) → Tm.sizes l ≤ M * l.length
  | [], _ => by simp [Tm.sizes]
  | a :: l, h => by
    have := sizes_le M l (fun t ht => h t (by simp [ht]))
    have := h a (by simp)
    simp only [Tm.sizes, List.length_cons, Nat.mul_succ]; omega
theorem applyT_size : ∀ (args : List Tm) (t : Tm), (applyT t args).size ≤ t.size + Tm.sizes args + args.length
  | [], t => by simp [applyT]
  | a :: l, t => by
    have h3 := applyT_size l (appT t a)
    have hk : (appT t a).size = 1 + t.size + a.size := by
      simp only [appT, Tm.size, Tm.sizes]; omega
    simp only [applyT, List.foldl_cons] at h3 ⊢
    simp only [Tm.sizes, List.length_cons]
    omega

set_option maxRecDepth 8000 in
set_option maxHeartbeats 16000000 in
theorem teleInverts_any (h : Heap) (hh : WF h) (ctx : List Tm) (t : Tm) (hsz : Tm.sizes ctx + t.size ≤ 1048576) (hlv : Tm.lvss ctx) (hlv2 : t.lvs) (hf : Tm.fits ctx) (hf2 : t.fit) :
    ACalls Try.prog 18 [.p (.sl 5 (tmPs ctx)), t.av] h fun o h' => o = .ret (bA true) ∧ h' = h := by
  have hfew := fun (g : Heap) (hg : WF g) => fewTel_any g hg ctx 5 (by omega) (by omega) (by omega) hf
  have hfew2 := fun (g : Heap) (hg : WF g) => few5_any g hg t (5 + ctx.length) (by omega) hf2
  have hl := length_le_sizes ctx
  have hw : IntKind.i64.wrap (5 + (ctx.length : Int)) = 5 + (ctx.length : Int) := wrap_id (by omega) (by omega)
  cases hb : fews5 5 1 ctx with
  | false =>
    rw [hb] at hfew
    obtain ⟨i0, i1, i2, i3, i4⟩ := t
    refine ACalls.of_run Try.func18 rfl ?_
    simp only [Try.ntmps18, List.length_cons, List.length_nil, Tm.av, cells_mk, List.map]
    repeat (first | refine Run.seq ?_ | refine Run.block ?_ | refine Run.skip ?_ | refine Run.inBlock ?_ | refine Run.opsNil ?_)
    repeat (first | refine Run.seq ?_ | refine Run.block ?_ | refine Run.skip ?_ | refine Run.inBlock ?_ | refine Run.opsNil ?_)
    refine Run.reg fun K hK => ?_
    simp
    try (simp (disch := omega) only [wrap_id])
    refine hK _ _ _ ?_; clear hK K
    repeat (first | refine Run.seq ?_ | refine Run.block ?_ | refine Run.skip ?_ | refine Run.inBlock ?_ | refine Run.opsNil ?_)
    repeat (first | refine Run.seq ?_ | refine Run.block ?_ | refine Run.skip ?_ | refine Run.inBlock ?_ | refine Run.opsNil ?_)
    refine Run.reg fun K hK => ?_
    simp
    try (simp (disch := omega) only [wrap_id])
    refine hK _ _ _ ?_; clear hK K
    repeat (first | refine Run.seq ?_ | refine Run.block ?_ | refine Run.skip ?_ | refine Run.inBlock ?_ | refine Run.opsNil ?_)
    refine Run.call (args := [.p (.sl 5 (tmPs ctx)), iA 5]) rfl (by first | rfl | simp) (by simp) rfl (hfew _ (hh.app (by simp))) ?_ ?_
    rotate_left
    · rintro v h' ⟨hv, _⟩; cases hv
    rintro v h' ⟨hv, rfl⟩
    simp only [AOut.ret.injEq] at hv
    subst hv
    refine Run.ops fun K hK => ?_
    simp
    try (simp (disch := omega) only [wrap_id])
    refine hK _ _ _ ?_; clear hK K
    repeat (first | refine Run.seq ?_ | refine Run.block ?_ | refine Run.skip ?_ | refine Run.inBlock ?_ | refine Run.opsNil ?_)
    repeat (first | refine Run.seq ?_ | refine Run.block ?_ | refine Run.skip ?_ | refine Run.inBlock ?_ | refine Run.opsNil ?_)
    refine Run.cond (b := true) (by simp) ?_
    simp only [if_true]
    repeat (first | refine Run.seq ?_ | refine Run.block ?_ | refine Run.skip ?_ | refine Run.inBlock ?_ | refine Run.opsNil ?_)
    repeat (first | refine Run.seq ?_ | refine Run.block ?_ | refine Run.skip ?_ | refine Run.inBlock ?_ | refine Run.opsNil ?_)
    refine Run.reg fun K hK => ?_
    simp
    try (simp (disch := omega) only [wrap_id])
    refine hK _ _ _ ?_; clear hK K
    repeat (first | refine Run.seq ?_ | refine Run.block ?_ | refine Run.skip ?_ | refine Run.inBlock ?_ | refine Run.opsNil ?_)
    refine Run.call (args := []) rfl (by first | rfl | simp) (by simp) rfl (aw05.awake05_any _ (hh.app (by simp))) ?_ ?_
    rotate_left
    · rintro v h' ⟨hv, _⟩; cases hv
    rintro v h' ⟨hv, rfl⟩
    simp only [AOut.ret.injEq] at hv
    subst hv
    refine Run.ops fun K hK => ?_
    simp
    try (simp (disch := omega) only [wrap_id])
    refine hK _ _ _ ?_; clear hK K
    repeat (first | refine Run.seq ?_ | refine Run.block ?_ | refine Run.skip ?_ | refine Run.inBlock ?_ | refine Run.opsNil ?_)
    refine Run.ret ?_
    refine Fin.ret' (h0 := h) (by simp) rfl hh rfl (by simp; rfl) rfl (Weak.refl _) (by simp) ⟨rfl, rfl⟩
  | true =>
  rw [hb] at hfew
  cases hb2 : few5 (5 + ctx.length) t with
  | false =>
    rw [hb2] at hfew2
    generalize hz : 5 + (ctx.length : Int) = z at hfew2 hw
    obtain ⟨i0, i1, i2, i3, i4⟩ := t
    refine ACalls.of_run Try.func18 rfl ?_
    simp only [Try.ntmps18, List.length_cons, List.length_nil, Tm.av, cells_mk, List.map]
    repeat (first | refine Run.seq ?_ | refine Run.block ?_ | refine Run.skip ?_ | refine Run.inBlock ?_ | refine Run.opsNil ?_)
    repeat (first | refine Run.seq ?_ | refine Run.block ?_ | refine Run.skip ?_ | refine Run.inBlock ?_ | refine Run.opsNil ?_)
    refine Run.reg fun K hK => ?_
    simp
    try (simp (disch := omega) only [wrap_id])
    refine hK _ _ _ ?_; clear hK K
    repeat (first | refine Run.seq ?_ | refine Run.block ?_ | refine Run.skip ?_ | refine Run.inBlock ?_ | refine Run.opsNil ?_)
    repeat (first | refine Run.seq ?_ | refine Run.block ?_ | refine Run.skip ?_ | refine Run.inBlock ?_ | refine Run.opsNil ?_)
    refine Run.reg fun K hK => ?_
    simp
    try (simp (disch := omega) only [wrap_id])
    refine hK _ _ _ ?_; clear hK K
    repeat (first | refine Run.seq ?_ | refine Run.block ?_ | refine Run.skip ?_ | refine Run.inBlock ?_ | refine Run.opsNil ?_)
    refine Run.call (args := [.p (.sl 5 (tmPs ctx)), iA 5]) rfl (by first | rfl | simp) (by simp) rfl (hfew _ (hh.app (by simp))) ?_ ?_
    rotate_left
    · rintro v h' ⟨hv, _⟩; cases hv
    rintro v h' ⟨hv, rfl⟩
    simp only [AOut.ret.injEq] at hv
    subst hv
    refine Run.ops fun K hK => ?_
    simp [hz, hw]
    try (simp (disch := omega) only [wrap_id])
    refine hK _ _ _ ?_; clear hK K
    repeat (first | refine Run.seq ?_ | refine Run.block ?_ | refine Run.skip ?_ | refine Run.inBlock ?_ | refine Run.opsNil ?_)
    refine Run.call (args := [(Tm.mk i0 i1 i2 i3 i4).av, iA z]) rfl (by first | rfl | simp) (by simp) rfl (hfew2 _ (hh.app (by simp))) ?_ ?_
    rotate_left
    · rintro v h' ⟨hv, _⟩; cases hv
    rintro v h' ⟨hv, rfl⟩
    simp only [AOut.ret.injEq] at hv
    subst hv
    refine Run.ops fun K hK => ?_
    simp
    try (simp (disch := omega) only [wrap_id])
    refine hK _ _ _ ?_; clear hK K
    repeat (first | refine Run.seq ?_ | refine Run.block ?_ | refine Run.skip ?_ | refine Run.inBlock ?_ | refine Run.opsNil ?_)
    repeat (first | refine Run.seq ?_ | refine Run.block ?_ | refine Run.skip ?_ | refine Run.inBlock ?_ | refine Run.opsNil ?_)
    refine Run.cond (b := true) (by simp) ?_
    simp only [if_true]
    repeat (first | refine Run.seq ?_ | refine Run.block ?_ | refine Run.skip ?_ | refine Run.inBlock ?_ | refine Run.opsNil ?_)
    repeat (first | refine Run.seq ?_ | refine Run.block ?_ | refine Run.skip ?_ | refine Run.inBlock ?_ | refine Run.opsNil ?_)
    refine Run.reg fun K hK => ?_
    simp
    try (simp (disch := omega) only [wrap_id])
    refine hK _ _ _ ?_; clear hK K
    repeat (first | refine Run.seq ?_ | refine Run.block ?_ | refine Run.skip ?_ | refine Run.inBlock ?_ | refine Run.opsNil ?_)
    refine Run.call (args := []) rfl (by first | rfl | simp) (by simp) rfl (aw05.awake05_any _ (hh.app (by simp))) ?_ ?_
    rotate_left
    · rintro v h' ⟨hv, _⟩; cases hv
    rintro v h' ⟨hv, rfl⟩
    simp only [AOut.ret.injEq] at hv
    subst hv
    refine Run.ops fun K hK => ?_
    simp
    try (simp (disch := omega) only [wrap_id])
    refine hK _ _ _ ?_; clear hK K
    repeat (first | refine Run.seq ?_ | refine Run.block ?_ | refine Run.skip ?_ | refine Run.inBlock ?_ | refine Run.opsNil ?_)
    refine Run.ret ?_
    refine Fin.ret' (h0 := h) (by simp) rfl hh rfl (by simp; rfl) rfl (Weak.refl _) (by simp) ⟨rfl, rfl⟩
  | true =>
    rw [hb2] at hfew2
    obtain ⟨hl12, hc⟩ := fews5_ok (by omega) (by omega) (by omega) (by omega) hlv hb
    have hcs := sizes_le 120 ctx (fun u hu => (hc u hu).2)
    have hts := (few5_ok (by omega) hlv2 hb2).2.1
    have hfm := few5_fm hb2
    have hcf : ∀ u ∈ ctx, u.fm := fun u hu => by
      obtain ⟨j, hj, rfl⟩ := List.getElem_of_mem hu
      exact few5_fm ((fews5_at hb).2 j hj)
    -- the head and the arguments
    have p1 := fun (g : Heap) (hg : WF g) => spine72_any g hg t (by omega)
    have k1 := spine_apply hfm
    have k1l := resSpine_len' t
    have a1 := fun (g : Heap) (hg : WF g) => apply71_any g hg (resSpine t).1 (resSpine t).2 (by omega)
    rw [k1.1] at a1
    generalize resSpine t = sp at p1 k1 k1l a1
    obtain ⟨hd, xs⟩ := sp
    simp only at p1 k1 k1l a1
    have s0 := tsameS t hlv2 (by omega)
    have s1 := sameLS ctx (by omega) (fun x hx => ⟨Tm.lvss_at hlv x hx, by have := (hc x hx).2; omega⟩)
    -- the binders
    have b1 := fun (g : Heap) (hg : WF g) => bind61_any g hg ctx t (by omega)
    have kb := bindT_ok 6 t hlv2 ctx hlv
    have hbf := bind_fm t hfm ctx hcf
    have o1 := fun (g : Heap) (hg : WF g) => open67_any g hg (bindT 6 ctx t) ctx.length (by omega) (by omega)
    rw [open_bind] at o1
    have l1 := fun (g : Heap) (hg : WF g) => all69_any g hg (bindT 6 ctx t) (by omega)
    have kl := all_bind hbf
    have kn := all_len ctx t
    have kr := resAll_ok (bindT 6 ctx t) kb.1
    have b2 := fun (g : Heap) (hg : WF g) => bind61_any g hg (resAll (bindT 6 ctx t)).1 (resAll (bindT 6 ctx t)).2 (by omega)
    rw [kl.1] at b2
    generalize resAll (bindT 6 ctx t) = al at l1 kl kn kr b2
    obtain ⟨ys, tl⟩ := al
    simp only at l1 kl kn kr b2
    have s2 := tsameS (bindT 6 ctx t) kb.1 (by omega)
    have ap := fun (g : Heap) (hg : WF g) => apply71_any g hg t ctx (by omega)
    obtain ⟨j0, j1, j2, j3, j4⟩ := t
    obtain ⟨d0, d1, d2, d3, d4⟩ := hd
    obtain ⟨e0, e1, e2, e3, e4⟩ := tl
    have hd4 : (d0 == 4) = false := by simpa [Tm.kind] using k1.2
    have ht6 : (e0 != 6) = true := by simpa [Tm.kind] using kl.2
    have hap := applyT_size ctx (.mk j0 j1 j2 j3 j4)
    have sp := fun (hn : isB 4 (.mk j0 j1 j2 j3 j4) = none) (g : Heap) (hg : WF g) => spine72_any g hg (applyT (.mk j0 j1 j2 j3 j4) ctx) (by omega)
    generalize bindT 6 ctx (.mk j0 j1 j2 j3 j4) = bT at b1 kb o1 l1 b2 s2
    generalize hz : 5 + (ctx.length : Int) = z at hfew2 hw
    by_cases hk4 : j0 = 4
    · have hj4 : (j0 != 4) = false := by simp [hk4]
      clear sp ap
      refine ACalls.of_run Try.func18 rfl ?_
      simp only [Try.ntmps18, List.length_cons, List.length_nil, Tm.av, cells_mk, List.map]
      repeat (first | refine Run.seq ?_ | refine Run.block ?_ | refine Run.skip ?_ | refine Run.inBlock ?_ | refine Run.opsNil ?_)
      repeat (first | refine Run.seq ?_ | refine Run.block ?_ | refine Run.skip ?_ | refine Run.inBlock ?_ | refine Run.opsNil ?_)
      refine Run.reg fun K hK => ?_
      simp
      try (simp (disch := omega) only [wrap_id])
      refine hK _ _ _ ?_; clear hK K
      repeat (first | refine Run.seq ?_ | refine Run.block ?_ | refine Run.skip ?_ | refine Run.inBlock ?_ | refine Run.opsNil ?_)
      repeat (first | refine Run.seq ?_ | refine Run.block ?_ | refine Run.skip ?_ | refine Run.inBlock ?_ | refine Run.opsNil ?_)
      refine Run.reg fun K hK => ?_
      simp
      try (simp (disch := omega) only [wrap_id])
      refine hK _ _ _ ?_; clear hK K
      repeat (first | refine Run.seq ?_ | refine Run.block ?_ | refine Run.skip ?_ | refine Run.inBlock ?_ | refine Run.opsNil ?_)
      refine Run.call (args := [.p (.sl 5 (tmPs ctx)), iA 5]) rfl (by first | rfl | simp) (by simp) rfl (hfew _ (hh.app (by simp))) ?_ ?_
      rotate_left
      · rintro v h' ⟨hv, _⟩; cases hv
      rintro v h' ⟨hv, rfl⟩
      simp only [AOut.ret.injEq] at hv
      subst hv
      refine Run.ops fun K hK => ?_
      simp [hz, hw]
      try (simp (disch := omega) only [wrap_id])
      refine hK _ _ _ ?_; clear hK K
      repeat (first | refine Run.seq ?_ | refine Run.block ?_ | refine Run.skip ?_ | refine Run.inBlock ?_ | refine Run.opsNil ?_)
      refine Run.call (args := [(Tm.mk j0 j1 j2 j3 j4).av, iA z]) rfl (by first | rfl | simp) (by simp) rfl (hfew2 _ (hh.app (by simp))) ?_ ?_
      rotate_left
      · rintro v h' ⟨hv, _⟩; cases hv
      rintro v h' ⟨hv, rfl⟩
      simp only [AOut.ret.injEq] at hv
      subst hv
      refine Run.ops fun K hK => ?_
      simp
      try (simp (disch := omega) only [wrap_id])
      refine hK _ _ _ ?_; clear hK K
      repeat (first | refine Run.seq ?_ | refine Run.block ?_ | refine Run.skip ?_ | refine Run.inBlock ?_ | refine Run.opsNil ?_)
      repeat (first | refine Run.seq ?_ | refine Run.block ?_ | refine Run.skip ?_ | refine Run.inBlock ?_ | refine Run.opsNil ?_)
      refine Run.cond (b := false) (by simp) ?_
      simp only [Bool.false_eq_true, if_false]
      repeat (first | refine Run.seq ?_ | refine Run.block ?_ | refine Run.skip ?_ | refine Run.inBlock ?_ | refine Run.opsNil ?_)
      repeat (first | refine Run.seq ?_ | refine Run.block ?_ | refine Run.skip ?_ | refine Run.inBlock ?_ | refine Run.opsNil ?_)
      refine Run.reg fun K hK => ?_
      simp
      try (simp (disch := omega) only [wrap_id])
      refine hK _ _ _ ?_; clear hK K
      repeat (first | refine Run.seq ?_ | refine Run.block ?_ | refine Run.skip ?_ | refine Run.inBlock ?_ | refine Run.opsNil ?_)
      refine Run.call (args := [(Tm.mk j0 j1 j2 j3 j4).av]) rfl (by first | rfl | simp) (by simp) rfl (p1 _ (hh.app (by simp))) ?_ ?_
      rotate_left
      · rintro v h' ⟨hv, _⟩; cases hv
      rintro v h' ⟨hv, rfl⟩
      simp only [AOut.ret.injEq] at hv
      subst hv
      refine Run.ops fun K hK => ?_
      simp
      try (simp (disch := omega) only [wrap_id])
      refine hK _ _ _ ?_; clear hK K
      repeat (first | refine Run.seq ?_ | refine Run.block ?_ | refine Run.skip ?_ | refine Run.inBlock ?_ | refine Run.opsNil ?_)
      repeat (first | refine Run.seq ?_ | refine Run.block ?_ | refine Run.skip ?_ | refine Run.inBlock ?_ | refine Run.opsNil ?_)
      refine Run.draw [0, 0, 0, 0, 0, 0, 0, 0, 1, 2, 2] [0, 0, 0, 0, 0, 0, 0, 0, 1, 0, 0] [0, 1, 3, 7, 15, 15, 63, 15, 255, 511, 1023] [0, 1, 2, 3, 4, 5, 6, 7, 8, 9, 10] (by kernel_rfl) (by kernel_rfl) ?_
      refine DR.go fun K hK => ?_
      simp [hd4]
      try (simp (disch := omega) only [wrap_id])
      refine hK _ _ _ _ ?_; clear hK K
      refine DR.call (args := [(Tm.mk d0 d1 d2 d3 d4).av, .p (.sl 5 (tmPs xs))]) rfl rfl rfl (by simp) rfl (a1 _ (hh.app (by simp))) ?_
      refine DR.go fun K hK => ?_
      simp
      try (simp (disch := omega) only [wrap_id])
      refine hK _ _ _ _ ?_; clear hK K
      refine DR.call (args := [(Tm.mk j0 j1 j2 j3 j4).av, (Tm.mk j0 j1 j2 j3 j4).av]) rfl rfl rfl (by simp) rfl (s0 _ (hh.app (by simp))) ?_
      refine DR.go fun K hK => ?_
      simp
      try (simp (disch := omega) only [wrap_id])
      refine hK _ _ _ _ ?_; clear hK K
      change Run _ _ _ _ _ _ _ _
      repeat (first | refine Run.seq ?_ | refine Run.block ?_ | refine Run.skip ?_ | refine Run.inBlock ?_ | refine Run.opsNil ?_)
      repeat (first | refine Run.seq ?_ | refine Run.block ?_ | refine Run.skip ?_ | refine Run.inBlock ?_ | refine Run.opsNil ?_)
      refine Run.cond (b := false) (by simp) ?_
      simp only [Bool.false_eq_true, if_false]
      repeat (first | refine Run.seq ?_ | refine Run.block ?_ | refine Run.skip ?_ | refine Run.inBlock ?_ | refine Run.opsNil ?_)
      repeat (first | refine Run.seq ?_ | refine Run.block ?_ | refine Run.skip ?_ | refine Run.inBlock ?_ | refine Run.opsNil ?_)
      refine Run.reg fun K hK => ?_
      simp [hj4]
      try (simp (disch := omega) only [wrap_id])
      refine hK _ _ _ ?_; clear hK K
      repeat (first | refine Run.seq ?_ | refine Run.block ?_ | refine Run.skip ?_ | refine Run.inBlock ?_ | refine Run.opsNil ?_)
      repeat (first | refine Run.seq ?_ | refine Run.block ?_ | refine Run.skip ?_ | refine Run.inBlock ?_ | refine Run.opsNil ?_)
      refine Run.cond (b := false) (by simp) ?_
      simp only [Bool.false_eq_true, if_false]
      repeat (first | refine Run.seq ?_ | refine Run.block ?_ | refine Run.skip ?_ | refine Run.inBlock ?_ | refine Run.opsNil ?_)
      repeat (first | refine Run.seq ?_ | refine Run.block ?_ | refine Run.skip ?_ | refine Run.inBlock ?_ | refine Run.opsNil ?_)
      refine Run.reg fun K hK => ?_
      simp
      try (simp (disch := omega) only [wrap_id])
      refine hK _ _ _ ?_; clear hK K
      repeat (first | refine Run.seq ?_ | refine Run.block ?_ | refine Run.skip ?_ | refine Run.inBlock ?_ | refine Run.opsNil ?_)
      refine Run.call (args := [.p (.sl 5 (tmPs ctx)), (Tm.mk j0 j1 j2 j3 j4).av]) rfl (by first | rfl | simp) (by simp) rfl (b1 _ (hh.app (by simp))) ?_ ?_
      rotate_left
      · rintro v h' ⟨hv, _⟩; cases hv
      rintro v h' ⟨hv, rfl⟩
      simp only [AOut.ret.injEq] at hv
      subst hv
      refine Run.ops fun K hK => ?_
      simp
      try (simp (disch := omega) only [wrap_id])
      refine hK _ _ _ ?_; clear hK K
      repeat (first | refine Run.seq ?_ | refine Run.block ?_ | refine Run.skip ?_ | refine Run.inBlock ?_ | refine Run.opsNil ?_)
      refine Run.call (args := [bT.av, iA ctx.length]) rfl (by first | rfl | simp) (by simp) rfl (o1 _ (hh.app (by simp))) ?_ ?_
      rotate_left
      · rintro v h' ⟨hv, _⟩; cases hv
      rintro v h' ⟨hv, rfl⟩
      simp only [AOut.ret.injEq] at hv
      subst hv
      refine Run.ops fun K hK => ?_
      simp
      try (simp (disch := omega) only [wrap_id])
      refine hK _ _ _ ?_; clear hK K
      repeat (first | refine Run.seq ?_ | refine Run.block ?_ | refine Run.skip ?_ | refine Run.inBlock ?_ | refine Run.opsNil ?_)
      repeat (first | refine Run.seq ?_ | refine Run.block ?_ | refine Run.skip ?_ | refine Run.inBlock ?_ | refine Run.opsNil ?_)
      refine Run.reg fun K hK => ?_
      simp
      try (simp (disch := omega) only [wrap_id])
      refine hK _ _ _ ?_; clear hK K
      repeat (first | refine Run.seq ?_ | refine Run.block ?_ | refine Run.skip ?_ | refine Run.inBlock ?_ | refine Run.opsNil ?_)
      refine Run.call (args := [.p (.sl 5 (tmPs ctx)), (Tm.mk j0 j1 j2 j3 j4).av]) rfl (by first | rfl | simp) (by simp) rfl (b1 _ (hh.app (by simp))) ?_ ?_
      rotate_left
      · rintro v h' ⟨hv, _⟩; cases hv
      rintro v h' ⟨hv, rfl⟩
      simp only [AOut.ret.injEq] at hv
      subst hv
      refine Run.ops fun K hK => ?_
      simp
      try (simp (disch := omega) only [wrap_id])
      refine hK _ _ _ ?_; clear hK K
      repeat (first | refine Run.seq ?_ | refine Run.block ?_ | refine Run.skip ?_ | refine Run.inBlock ?_ | refine Run.opsNil ?_)
      refine Run.call (args := [bT.av]) rfl (by first | rfl | simp) (by simp) rfl (l1 _ (hh.app (by simp))) ?_ ?_
      rotate_left
      · rintro v h' ⟨hv, _⟩; cases hv
      rintro v h' ⟨hv, rfl⟩
      simp only [AOut.ret.injEq] at hv
      subst hv
      refine Run.ops fun K hK => ?_
      simp
      try (simp (disch := omega) only [wrap_id])
      refine hK _ _ _ ?_; clear hK K
      repeat (first | refine Run.seq ?_ | refine Run.block ?_ | refine Run.skip ?_ | refine Run.inBlock ?_ | refine Run.opsNil ?_)
      repeat (first | refine Run.seq ?_ | refine Run.block ?_ | refine Run.skip ?_ | refine Run.inBlock ?_ | refine Run.opsNil ?_)
      refine Run.draw [0, 1, 1, 1, 1, 1, 1, 1, 1, 2, 2, 2, 2, 2, 3, 3, 3, 3, 3, 3, 3, 3, 3, 3, 3, 3, 3, 3, 3, 3, 3, 3, 3, 4, 5, 6, 6] [0, 0, 0, 0, 0, 0, 0, 0, 1, 0, 0, 0, 0, 2, 0, 0, 0, 0, 0, 0, 0, 0, 0, 0, 0, 0, 0, 0, 0, 0, 3, 0, 0, 4, 5, 0, 0] [0, 1, 3, 7, 15, 31, 63, 63, 255, 511, 1023, 2047, 2047, 8191, 16383, 32767, 65535, 131071, 65535, 327679, 1048575, 2097151, 4194303, 8388607, 16777215, 33554431, 67108863, 134217727, 268435455, 268435455, 1073741823, 268435455, 268435455, 8589934591, 17179869183, 34359738367, 68719476735] [0, 1, 2, 3, 4, 5, 6, 7, 8, 9, 10, 11, 12, 13, 14, 15, 16, 17, 18, 19, 20, 21, 22, 23, 24, 25, 26, 27, 28, 29, 30, 31, 32, 33, 34, 35, 36] (by kernel_rfl) (by kernel_rfl) ?_
      refine DR.go fun K hK => ?_
      simp
      try (simp (disch := omega) only [wrap_id])
      refine hK _ _ _ _ ?_; clear hK K
      refine DR.call (args := []) rfl rfl rfl (by simp) rfl (aw05.awake05_any _ (hh.app (by simp))) ?_
      refine DR.go fun K hK => ?_
      simp
      try (simp (disch := omega) only [wrap_id])
      refine hK _ _ _ _ ?_; clear hK K
      refine DR.call (args := [.p (.sl 5 (tmPs ctx)), .p (.sl 5 (tmPs ctx))]) rfl rfl rfl (by simp) rfl (s1 _ (hh.app (by simp))) ?_
      refine DR.go fun K hK => ?_
      simp
      try (simp (disch := omega) only [wrap_id])
      refine hK _ _ _ _ ?_; clear hK K
      refine DR.call (args := [(Tm.mk j0 j1 j2 j3 j4).av, (Tm.mk j0 j1 j2 j3 j4).av]) rfl rfl rfl (by simp) rfl (s0 _ (hh.app (by simp))) ?_
      refine DR.go fun K hK => ?_
      simp [kn, ht6]
      try (simp (disch := omega) only [wrap_id])
      refine hK _ _ _ _ ?_; clear hK K
      refine DR.call (args := [.p (.sl 5 (tmPs ys)), (Tm.mk e0 e1 e2 e3 e4).av]) rfl rfl rfl (by simp) rfl (b2 _ (hh.app (by simp))) ?_
      refine DR.go fun K hK => ?_
      simp
      try (simp (disch := omega) only [wrap_id])
      refine hK _ _ _ _ ?_; clear hK K
      refine DR.call (args := [.p (.sl 5 (tmPs ctx)), (Tm.mk j0 j1 j2 j3 j4).av]) rfl rfl rfl (by simp) rfl (b1 _ (hh.app (by simp))) ?_
      refine DR.go fun K hK => ?_
      simp
      try (simp (disch := omega) only [wrap_id])
      refine hK _ _ _ _ ?_; clear hK K
      refine DR.call (args := [bT.av, bT.av]) rfl rfl rfl (by simp) rfl (s2 _ (hh.app (by simp))) ?_
      refine DR.go fun K hK => ?_
      simp
      try (simp (disch := omega) only [wrap_id])
      refine hK _ _ _ _ ?_; clear hK K
      change Run _ _ _ _ _ _ _ _
      repeat (first | refine Run.seq ?_ | refine Run.block ?_ | refine Run.skip ?_ | refine Run.inBlock ?_ | refine Run.opsNil ?_)
      refine Run.ret ?_
      refine Fin.ret' (h0 := h) (by simp) rfl hh rfl (by simp; rfl) rfl (Weak.refl _) (by simp) ⟨rfl, rfl⟩
    · have hj4 : (j0 != 4) = true := by simpa using hk4
      have sp := sp (by
        match j4 with
        | [] => rfl
        | [_] => rfl
        | [_, _] => simp [isB, hk4]
        | _ :: _ :: _ :: _ => rfl)
      rw [apply_spine (by
        match j4 with
        | [] => rfl
        | [_] => rfl
        | [_, _] => simp [isB, hk4]
        | _ :: _ :: _ :: _ => rfl)] at sp
      generalize applyT (.mk j0 j1 j2 j3 j4) ctx = aT at ap sp hap
      refine ACalls.of_run Try.func18 rfl ?_
      simp only [Try.ntmps18, List.length_cons, List.length_nil, Tm.av, cells_mk, List.map]
      repeat (first | refine Run.seq ?_ | refine Run.block ?_ | refine Run.skip ?_ | refine Run.inBlock ?_ | refine Run.opsNil ?_)
      repeat (first | refine Run.seq ?_ | refine Run.block ?_ | refine Run.skip ?_ | refine Run.inBlock ?_ | refine Run.opsNil ?_)
      refine Run.reg fun K hK => ?_
      simp
      try (simp (disch := omega) only [wrap_id])
      refine hK _ _ _ ?_; clear hK K
      repeat (first | refine Run.seq ?_ | refine Run.block ?_ | refine Run.skip ?_ | refine Run.inBlock ?_ | refine Run.opsNil ?_)
      repeat (first | refine Run.seq ?_ | refine Run.block ?_ | refine Run.skip ?_ | refine Run.inBlock ?_ | refine Run.opsNil ?_)
      refine Run.reg fun K hK => ?_
      simp
      try (simp (disch := omega) only [wrap_id])
      refine hK _ _ _ ?_; clear hK K
      repeat (first | refine Run.seq ?_ | refine Run.block ?_ | refine Run.skip ?_ | refine Run.inBlock ?_ | refine Run.opsNil ?_)
      refine Run.call (args := [.p (.sl 5 (tmPs ctx)), iA 5]) rfl (by first | rfl | simp) (by simp) rfl (hfew _ (hh.app (by simp))) ?_ ?_
      rotate_left
      · rintro v h' ⟨hv, _⟩; cases hv
      rintro v h' ⟨hv, rfl⟩
      simp only [AOut.ret.injEq] at hv
      subst hv
      refine Run.ops fun K hK => ?_
      simp [hz, hw]
      try (simp (disch := omega) only [wrap_id])
      refine hK _ _ _ ?_; clear hK K
      repeat (first | refine Run.seq ?_ | refine Run.block ?_ | refine Run.skip ?_ | refine Run.inBlock ?_ | refine Run.opsNil ?_)
      refine Run.call (args := [(Tm.mk j0 j1 j2 j3 j4).av, iA z]) rfl (by first | rfl | simp) (by simp) rfl (hfew2 _ (hh.app (by simp))) ?_ ?_
      rotate_left
      · rintro v h' ⟨hv, _⟩; cases hv
      rintro v h' ⟨hv, rfl⟩
      simp only [AOut.ret.injEq] at hv
      subst hv
      refine Run.ops fun K hK => ?_
      simp
      try (simp (disch := omega) only [wrap_id])
      refine hK _ _ _ ?_; clear hK K
      repeat (first | refine Run.seq ?_ | refine Run.block ?_ | refine Run.skip ?_ | refine Run.inBlock ?_ | refine Run.opsNil ?_)
      repeat (first | refine Run.seq ?_ | refine Run.block ?_ | refine Run.skip ?_ | refine Run.inBlock ?_ | refine Run.opsNil ?_)
      refine Run.cond (b := false) (by simp) ?_
      simp only [Bool.false_eq_true, if_false]
      repeat (first | refine Run.seq ?_ | refine Run.block ?_ | refine Run.skip ?_ | refine Run.inBlock ?_ | refine Run.opsNil ?_)
      repeat (first | refine Run.seq ?_ | refine Run.block ?_ | refine Run.skip ?_ | refine Run.inBlock ?_ | refine Run.opsNil ?_)
      refine Run.reg fun K hK => ?_
      simp
      try (simp (disch := omega) only [wrap_id])
      refine hK _ _ _ ?_; clear hK K
      repeat (first | refine Run.seq ?_ | refine Run.block ?_ | refine Run.skip ?_ | refine Run.inBlock ?_ | refine Run.opsNil ?_)
      refine Run.call (args := [(Tm.mk j0 j1 j2 j3 j4).av]) rfl (by first | rfl | simp) (by simp) rfl (p1 _ (hh.app (by simp))) ?_ ?_
      rotate_left
      · rintro v h' ⟨hv, _⟩; cases hv
      rintro v h' ⟨hv, rfl⟩
      simp only [AOut.ret.injEq] at hv
      subst hv
      refine Run.ops fun K hK => ?_
      simp
      try (simp (disch := omega) only [wrap_id])
      refine hK _ _ _ ?_; clear hK K
      repeat (first | refine Run.seq ?_ | refine Run.block ?_ | refine Run.skip ?_ | refine Run.inBlock ?_ | refine Run.opsNil ?_)
      repeat (first | refine Run.seq ?_ | refine Run.block ?_ | refine Run.skip ?_ | refine Run.inBlock ?_ | refine Run.opsNil ?_)
      refine Run.draw [0, 0, 0, 0, 0, 0, 0, 0, 1, 2, 2] [0, 0, 0, 0, 0, 0, 0, 0, 1, 0, 0] [0, 1, 3, 7, 15, 15, 63, 15, 255, 511, 1023] [0, 1, 2, 3, 4, 5, 6, 7, 8, 9, 10] (by kernel_rfl) (by kernel_rfl) ?_
      refine DR.go fun K hK => ?_
      simp [hd4]
      try (simp (disch := omega) only [wrap_id])
      refine hK _ _ _ _ ?_; clear hK K
      refine DR.call (args := [(Tm.mk d0 d1 d2 d3 d4).av, .p (.sl 5 (tmPs xs))]) rfl rfl rfl (by simp) rfl (a1 _ (hh.app (by simp))) ?_
      refine DR.go fun K hK => ?_
      simp
      try (simp (disch := omega) only [wrap_id])
      refine hK _ _ _ _ ?_; clear hK K
      refine DR.call (args := [(Tm.mk j0 j1 j2 j3 j4).av, (Tm.mk j0 j1 j2 j3 j4).av]) rfl rfl rfl (by simp) rfl (s0 _ (hh.app (by simp))) ?_
      refine DR.go fun K hK => ?_
      simp
      try (simp (disch := omega) only [wrap_id])
      refine hK _ _ _ _ ?_; clear hK K
      change Run _ _ _ _ _ _ _ _
      repeat (first | refine Run.seq ?_ | refine Run.block ?_ | refine Run.skip ?_ | refine Run.inBlock ?_ | refine Run.opsNil ?_)
      repeat (first | refine Run.seq ?_ | refine Run.block ?_ | refine Run.skip ?_ | refine Run.inBlock ?_ | refine Run.opsNil ?_)
      refine Run.cond (b := false) (by simp) ?_
      simp only [Bool.false_eq_true, if_false]
      repeat (first | refine Run.seq ?_ | refine Run.block ?_ | refine Run.skip ?_ | refine Run.inBlock ?_ | refine Run.opsNil ?_)
      repeat (first | refine Run.seq ?_ | refine Run.block ?_ | refine Run.skip ?_ | refine Run.inBlock ?_ | refine Run.opsNil ?_)
      refine Run.reg fun K hK => ?_
      simp [hj4]
      try (simp (disch := omega) only [wrap_id])
      refine hK _ _ _ ?_; clear hK K
      repeat (first | refine Run.seq ?_ | refine Run.block ?_ | refine Run.skip ?_ | refine Run.inBlock ?_ | refine Run.opsNil ?_)
      repeat (first | refine Run.seq ?_ | refine Run.block ?_ | refine Run.skip ?_ | refine Run.inBlock ?_ | refine Run.opsNil ?_)
      refine Run.cond (b := true) (by simp) ?_
      simp only [if_true]
      repeat (first | refine Run.seq ?_ | refine Run.block ?_ | refine Run.skip ?_ | refine Run.inBlock ?_ | refine Run.opsNil ?_)
      repeat (first | refine Run.seq ?_ | refine Run.block ?_ | refine Run.skip ?_ | refine Run.inBlock ?_ | refine Run.opsNil ?_)
      refine Run.reg fun K hK => ?_
      simp
      try (simp (disch := omega) only [wrap_id])
      refine hK _ _ _ ?_; clear hK K
      repeat (first | refine Run.seq ?_ | refine Run.block ?_ | refine Run.skip ?_ | refine Run.inBlock ?_ | refine Run.opsNil ?_)
      refine Run.call (args := [(Tm.mk j0 j1 j2 j3 j4).av, .p (.sl 5 (tmPs ctx))]) rfl (by first | rfl | simp) (by simp) rfl (ap _ (hh.app (by simp))) ?_ ?_
      rotate_left
      · rintro v h' ⟨hv, _⟩; cases hv
      rintro v h' ⟨hv, rfl⟩
      simp only [AOut.ret.injEq] at hv
      subst hv
      refine Run.opsPre 1 fun K hK => ?_
      simp only [List.take_succ_cons, List.take_zero]
      simp
      try (simp (disch := omega) only [wrap_id])
      refine hK _ _ _ ?_; clear hK K
      simp only [List.drop_succ_cons, List.drop_zero]
      refine Run.call (args := [aT.av]) rfl (by first | rfl | simp) (by simp) rfl (sp _ (hh.app (by simp))) ?_ ?_
      rotate_left
      · rintro v h' ⟨hv, _⟩; cases hv
      rintro v h' ⟨hv, rfl⟩
      simp only [AOut.ret.injEq] at hv
      subst hv
      refine Run.ops fun K hK => ?_
      simp
      try (simp (disch := omega) only [wrap_id])
      refine hK _ _ _ ?_; clear hK K
      repeat (first | refine Run.seq ?_ | refine Run.block ?_ | refine Run.skip ?_ | refine Run.inBlock ?_ | refine Run.opsNil ?_)
      repeat (first | refine Run.seq ?_ | refine Run.block ?_ | refine Run.skip ?_ | refine Run.inBlock ?_ | refine Run.opsNil ?_)
      refine Run.reg fun K hK => ?_
      simp
      try (simp (disch := omega) only [wrap_id])
      refine hK _ _ _ ?_; clear hK K
      repeat (first | refine Run.seq ?_ | refine Run.block ?_ | refine Run.skip ?_ | refine Run.inBlock ?_ | refine Run.opsNil ?_)
      refine Run.call (args := [(Tm.mk j0 j1 j2 j3 j4).av, (Tm.mk j0 j1 j2 j3 j4).av]) rfl (by first | rfl | simp) (by simp) rfl (s0 _ (hh.app (by simp))) ?_ ?_
      rotate_left
      · rintro v h' ⟨hv, _⟩; cases hv
      rintro v h' ⟨hv, rfl⟩
      simp only [AOut.ret.injEq] at hv
      subst hv
      refine Run.ops fun K hK => ?_
      simp
      try (simp (disch := omega) only [wrap_id])
      refine hK _ _ _ ?_; clear hK K
      repeat (first | refine Run.seq ?_ | refine Run.block ?_ | refine Run.skip ?_ | refine Run.inBlock ?_ | refine Run.opsNil ?_)
      refine Run.call (args := [.p (.sl 5 (tmPs ctx)), .p (.sl 5 (tmPs ctx))]) rfl (by first | rfl | simp) (by simp) rfl (s1 _ (hh.app (by simp))) ?_ ?_
      rotate_left
      · rintro v h' ⟨hv, _⟩; cases hv
      rintro v h' ⟨hv, rfl⟩
      simp only [AOut.ret.injEq] at hv
      subst hv
      refine Run.ops fun K hK => ?_
      simp
      try (simp (disch := omega) only [wrap_id])
      refine hK _ _ _ ?_; clear hK K
      repeat (first | refine Run.seq ?_ | refine Run.block ?_ | refine Run.skip ?_ | refine Run.inBlock ?_ | refine Run.opsNil ?_)
      repeat (first | refine Run.seq ?_ | refine Run.block ?_ | refine Run.skip ?_ | refine Run.inBlock ?_ | refine Run.opsNil ?_)
      refine Run.cond (b := false) (by simp) ?_
      simp only [Bool.false_eq_true, if_false]
      repeat (first | refine Run.seq ?_ | refine Run.block ?_ | refine Run.skip ?_ | refine Run.inBlock ?_ | refine Run.opsNil ?_)
      repeat (first | refine Run.seq ?_ | refine Run.block ?_ | refine Run.skip ?_ | refine Run.inBlock ?_ | refine Run.opsNil ?_)
      refine Run.reg fun K hK => ?_
      simp
      try (simp (disch := omega) only [wrap_id])
      refine hK _ _ _ ?_; clear hK K
      repeat (first | refine Run.seq ?_ | refine Run.block ?_ | refine Run.skip ?_ | refine Run.inBlock ?_ | refine Run.opsNil ?_)
      refine Run.call (args := [.p (.sl 5 (tmPs ctx)), (Tm.mk j0 j1 j2 j3 j4).av]) rfl (by first | rfl | simp) (by simp) rfl (b1 _ (hh.app (by simp))) ?_ ?_
      rotate_left
      · rintro v h' ⟨hv, _⟩; cases hv
      rintro v h' ⟨hv, rfl⟩
      simp only [AOut.ret.injEq] at hv
      subst hv
      refine Run.ops fun K hK => ?_
      simp
      try (simp (disch := omega) only [wrap_id])
      refine hK _ _ _ ?_; clear hK K
      repeat (first | refine Run.seq ?_ | refine Run.block ?_ | refine Run.skip ?_ | refine Run.inBlock ?_ | refine Run.opsNil ?_)
      refine Run.call (args := [bT.av, iA ctx.length]) rfl (by first | rfl | simp) (by simp) rfl (o1 _ (hh.app (by simp))) ?_ ?_
      rotate_left
      · rintro v h' ⟨hv, _⟩; cases hv
      rintro v h' ⟨hv, rfl⟩
      simp only [AOut.ret.injEq] at hv
      subst hv
      refine Run.ops fun K hK => ?_
      simp
      try (simp (disch := omega) only [wrap_id])
      refine hK _ _ _ ?_; clear hK K
      repeat (first | refine Run.seq ?_ | refine Run.block ?_ | refine Run.skip ?_ | refine Run.inBlock ?_ | refine Run.opsNil ?_)
      repeat (first | refine Run.seq ?_ | refine Run.block ?_ | refine Run.skip ?_ | refine Run.inBlock ?_ | refine Run.opsNil ?_)
      refine Run.reg fun K hK => ?_
      simp
      try (simp (disch := omega) only [wrap_id])
      refine hK _ _ _ ?_; clear hK K
      repeat (first | refine Run.seq ?_ | refine Run.block ?_ | refine Run.skip ?_ | refine Run.inBlock ?_ | refine Run.opsNil ?_)
      refine Run.call (args := [.p (.sl 5 (tmPs ctx)), (Tm.mk j0 j1 j2 j3 j4).av]) rfl (by first | rfl | simp) (by simp) rfl (b1 _ (hh.app (by simp))) ?_ ?_
      rotate_left
      · rintro v h' ⟨hv, _⟩; cases hv
      rintro v h' ⟨hv, rfl⟩
      simp only [AOut.ret.injEq] at hv
      subst hv
      refine Run.ops fun K hK => ?_
      simp
      try (simp (disch := omega) only [wrap_id])
      refine hK _ _ _ ?_; clear hK K
      repeat (first | refine Run.seq ?_ | refine Run.block ?_ | refine Run.skip ?_ | refine Run.inBlock ?_ | refine Run.opsNil ?_)
      refine Run.call (args := [bT.av]) rfl (by first | rfl | simp) (by simp) rfl (l1 _ (hh.app (by simp))) ?_ ?_
      rotate_left
      · rintro v h' ⟨hv, _⟩; cases hv
      rintro v h' ⟨hv, rfl⟩
      simp only [AOut.ret.injEq] at hv
      subst hv
      refine Run.ops fun K hK => ?_
      simp
      try (simp (disch := omega) only [wrap_id])
      refine hK _ _ _ ?_; clear hK K
      repeat (first | refine Run.seq ?_ | refine Run.block ?_ | refine Run.skip ?_ | refine Run.inBlock ?_ | refine Run.opsNil ?_)
      repeat (first | refine Run.seq ?_ | refine Run.block ?_ | refine Run.skip ?_ | refine Run.inBlock ?_ | refine Run.opsNil ?_)
      refine Run.draw [0, 1, 1, 1, 1, 1, 1, 1, 1, 2, 2, 2, 2, 2, 3, 3, 3, 3, 3, 3, 3, 3, 3, 3, 3, 3, 3, 3, 3, 3, 3, 3, 3, 4, 5, 6, 6] [0, 0, 0, 0, 0, 0, 0, 0, 1, 0, 0, 0, 0, 2, 0, 0, 0, 0, 0, 0, 0, 0, 0, 0, 0, 0, 0, 0, 0, 0, 3, 0, 0, 4, 5, 0, 0] [0, 1, 3, 7, 15, 31, 63, 63, 255, 511, 1023, 2047, 2047, 8191, 16383, 32767, 65535, 131071, 65535, 327679, 1048575, 2097151, 4194303, 8388607, 16777215, 33554431, 67108863, 134217727, 268435455, 268435455, 1073741823, 268435455, 268435455, 8589934591, 17179869183, 34359738367, 68719476735] [0, 1, 2, 3, 4, 5, 6, 7, 8, 9, 10, 11, 12, 13, 14, 15, 16, 17, 18, 19, 20, 21, 22, 23, 24, 25, 26, 27, 28, 29, 30, 31, 32, 33, 34, 35, 36] (by kernel_rfl) (by kernel_rfl) ?_
      refine DR.go fun K hK => ?_
      simp
      try (simp (disch := omega) only [wrap_id])
      refine hK _ _ _ _ ?_; clear hK K
      refine DR.call (args := []) rfl rfl rfl (by simp) rfl (aw05.awake05_any _ (hh.app (by simp))) ?_
      refine DR.go fun K hK => ?_
      simp
      try (simp (disch := omega) only [wrap_id])
      refine hK _ _ _ _ ?_; clear hK K
      refine DR.call (args := [.p (.sl 5 (tmPs ctx)), .p (.sl 5 (tmPs ctx))]) rfl rfl rfl (by simp) rfl (s1 _ (hh.app (by simp))) ?_
      refine DR.go fun K hK => ?_
      simp
      try (simp (disch := omega) only [wrap_id])
      refine hK _ _ _ _ ?_; clear hK K
      refine DR.call (args := [(Tm.mk j0 j1 j2 j3 j4).av, (Tm.mk j0 j1 j2 j3 j4).av]) rfl rfl rfl (by simp) rfl (s0 _ (hh.app (by simp))) ?_
      refine DR.go fun K hK => ?_
      simp [kn, ht6]
      try (simp (disch := omega) only [wrap_id])
      refine hK _ _ _ _ ?_; clear hK K
      refine DR.call (args := [.p (.sl 5 (tmPs ys)), (Tm.mk e0 e1 e2 e3 e4).av]) rfl rfl rfl (by simp) rfl (b2 _ (hh.app (by simp))) ?_
      refine DR.go fun K hK => ?_
      simp
      try (simp (disch := omega) only [wrap_id])
      refine hK _ _ _ _ ?_; clear hK K
      refine DR.call (args := [.p (.sl 5 (tmPs ctx)), (Tm.mk j0 j1 j2 j3 j4).av]) rfl rfl rfl (by simp) rfl (b1 _ (hh.app (by simp))) ?_
      refine DR.go fun K hK => ?_
      simp
      try (simp (disch := omega) only [wrap_id])
      refine hK _ _ _ _ ?_; clear hK K
      refine DR.call (args := [bT.av, bT.av]) rfl rfl rfl (by simp) rfl (s2 _ (hh.app (by simp))) ?_
      refine DR.go fun K hK => ?_
      simp
      try (simp (disch := omega) only [wrap_id])
      refine hK _ _ _ _ ?_; clear hK K
      change Run _ _ _ _ _ _ _ _
      repeat (first | refine Run.seq ?_ | refine Run.block ?_ | refine Run.skip ?_ | refine Run.inBlock ?_ | refine Run.opsNil ?_)
      refine Run.ret ?_
      refine Fin.ret' (h0 := h) (by simp) rfl hh rfl (by simp; rfl) rfl (Weak.refl _) (by simp) ⟨rfl, rfl⟩

end Go.Proofs.Ytppgpabjcenjdaa
