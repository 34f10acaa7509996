/-
  telescope: Instantiate.
-/
import Derived.Test.YtppgpabjcenjdaaTT4
namespace Go.Proofs.Ytppgpabjcenjdaa

open Go Go.AI

def resInst (ctx : List Tm) (t : Tm) (args : List Tm) : Tm × Int := if args.length ≠ ctx.length then (zT, 6) else resRefUnder t args.reverse 0

set_option maxRecDepth 8000 in
set_option maxHeartbeats 8000000 in
theorem inst57_any (h : Heap) (hh : WF h) (ctx : List Tm) (t : Tm) (args : List Tm) (hl : args.length ≤ 1048576) (hok : t.ok 65536) (hsz : t.size ≤ 4096) (hvo : ∀ v ∈ args, v.ok 65536 ∧ v.size ≤ 4096) :
    ACalls Try.prog 57 [.p (.sl 5 (tmPs ctx)), t.av, .p (.sl 5 (tmPs args))] h fun o h' => o = .ret (.tup [(resInst ctx t args).1.av, iA (resInst ctx t args).2]) ∧ h' = h := by
  obtain ⟨r, hr⟩ : ∃ r, r = resInst ctx t args := ⟨_, rfl⟩
  rw [← hr]
  unfold resInst at hr
  by_cases c1 : args.length = ctx.length
  · rw [if_neg (by simp [c1])] at hr
    have hs := fun (g : Heap) (hg : WF g) => (subst_bothW t args.reverse hok hsz (by simpa using hl) (fun v hv => hvo v (by simpa using hv)) g hg).1
    rw [← hr] at hs
    clear hr
    obtain ⟨q, e⟩ := r
    obtain ⟨k, i, n, ls, ks⟩ := t
    obtain ⟨qk, qi, qn, qls, qks⟩ := q
    refine ACalls.of_run Try.func57 rfl ?_
    simp only [Try.ntmps57, List.length_cons, List.length_nil, Tm.av, cells_mk, List.map]
    repeat (first | refine Run.seq ?_ | refine Run.block ?_ | refine Run.skip ?_ | refine Run.inBlock ?_ | refine Run.opsNil ?_)
    repeat (first | refine Run.seq ?_ | refine Run.block ?_ | refine Run.skip ?_ | refine Run.inBlock ?_ | refine Run.opsNil ?_)
    refine Run.reg fun K hK => ?_
    simp
    try (simp (disch := omega) only [wrap_id])
    refine hK _ _ _ ?_; clear hK K
    repeat (first | refine Run.seq ?_ | refine Run.block ?_ | refine Run.skip ?_ | refine Run.inBlock ?_ | refine Run.opsNil ?_)
    repeat (first | refine Run.seq ?_ | refine Run.block ?_ | refine Run.skip ?_ | refine Run.inBlock ?_ | refine Run.opsNil ?_)
    refine Run.reg fun K hK => ?_
    simp [c1]
    try (simp (disch := omega) only [wrap_id])
    refine hK _ _ _ ?_; clear hK K
    repeat (first | refine Run.seq ?_ | refine Run.block ?_ | refine Run.skip ?_ | refine Run.inBlock ?_ | refine Run.opsNil ?_)
    repeat (first | refine Run.seq ?_ | refine Run.block ?_ | refine Run.skip ?_ | refine Run.inBlock ?_ | refine Run.opsNil ?_)
    refine Run.cond (b := false) (by simp) ?_
    simp only [Bool.false_eq_true, if_false]
    repeat (first | refine Run.seq ?_ | refine Run.block ?_ | refine Run.skip ?_ | refine Run.inBlock ?_ | refine Run.opsNil ?_)
    repeat (first | refine Run.seq ?_ | refine Run.block ?_ | refine Run.skip ?_ | refine Run.inBlock ?_ | refine Run.opsNil ?_)
    refine Run.reg fun K hK => ?_
    simp
    try (simp (disch := omega) only [wrap_id])
    refine hK _ _ _ ?_; clear hK K
    repeat (first | refine Run.seq ?_ | refine Run.block ?_ | refine Run.skip ?_ | refine Run.inBlock ?_ | refine Run.opsNil ?_)
    refine Run.call (args := [.p (.sl 5 (tmPs args))]) rfl rfl (by simp) rfl (clone_any _ (hh.app (by simp)) args hl) ?_ ?_
    rotate_left
    · rintro v h' (⟨_, hv, _⟩ | ⟨_, _, _, _, hv, _⟩) <;> cases hv
    rintro v h' (⟨rfl, hv, rfl⟩ | ⟨G, cap, hG, hc, hv, rfl⟩)
    · simp only [AOut.ret.injEq] at hv
      subst hv
      refine Run.ops fun K hK => ?_
      simp
      try (simp (disch := omega) only [wrap_id])
      refine hK _ _ _ ?_; clear hK K
      repeat (first | refine Run.seq ?_ | refine Run.block ?_ | refine Run.skip ?_ | refine Run.inBlock ?_ | refine Run.opsNil ?_)
      repeat (first | refine Run.seq ?_ | refine Run.block ?_ | refine Run.skip ?_ | refine Run.inBlock ?_ | refine Run.opsNil ?_)
      refine Run.reg fun K hK => ?_
      simp
      try (simp (disch := omega) only [wrap_id])
      refine hK _ _ _ ?_; clear hK K
      repeat (first | refine Run.seq ?_ | refine Run.block ?_ | refine Run.skip ?_ | refine Run.inBlock ?_ | refine Run.opsNil ?_)
      refine Run.call (args := [.p (.sl 5 [])]) rfl (by first | rfl | simp) (by simp) rfl (reverse_nil _ (hh.app (by simp))) ?_ ?_
      rotate_left
      · rintro v h' ⟨hv, _⟩; cases hv
      rintro v h' ⟨hv, rfl⟩
      simp only [AOut.ret.injEq] at hv
      subst hv
      refine Run.ops fun K hK => ?_
      simp
      try (simp (disch := omega) only [wrap_id])
      refine hK _ _ _ ?_; clear hK K
      repeat (first | refine Run.seq ?_ | refine Run.block ?_ | refine Run.skip ?_ | refine Run.inBlock ?_ | refine Run.opsNil ?_)
      repeat (first | refine Run.seq ?_ | refine Run.block ?_ | refine Run.skip ?_ | refine Run.inBlock ?_ | refine Run.opsNil ?_)
      refine Run.reg fun K hK => ?_
      simp
      try (simp (disch := omega) only [wrap_id])
      refine hK _ _ _ ?_; clear hK K
      repeat (first | refine Run.seq ?_ | refine Run.block ?_ | refine Run.skip ?_ | refine Run.inBlock ?_ | refine Run.opsNil ?_)
      refine Run.call (args := [(Tm.mk k i n ls ks).av, .p (.sl 5 [])]) rfl (by first | rfl | simp) (by simp) rfl (hs _ (hh.app (by simp))) ?_ ?_
      rotate_left
      · rintro v h' ⟨hv, _⟩; cases hv
      rintro v h' ⟨hv, rfl⟩
      simp only [AOut.ret.injEq] at hv
      subst hv
      refine Run.ops fun K hK => ?_
      simp
      try (simp (disch := omega) only [wrap_id])
      refine hK _ _ _ ?_; clear hK K
      repeat (first | refine Run.seq ?_ | refine Run.block ?_ | refine Run.skip ?_ | refine Run.inBlock ?_ | refine Run.opsNil ?_)
      refine Run.ret ?_
      refine Fin.ret' (h0 := h) (by simp) rfl hh rfl (by simp; rfl) rfl (Weak.refl _) (by simp) ⟨rfl, rfl⟩
    · simp only [AOut.ret.injEq] at hv
      subst hv
      have hget : ∀ (a b o : Option AO), (h ++ a :: b :: (G ++ [o]))[h.length + 2 + G.length]? = some o := fun a b o => by
        rw [show h ++ a :: b :: (G ++ [o]) = (h ++ [a, b] ++ G) ++ [o] by simp, List.getElem?_append_right (by simp; omega), show h.length + 2 + G.length - (h ++ [a, b] ++ G).length = 0 by simp; omega]; rfl
      have hset : ∀ (a b o o' : Option AO), (h ++ a :: b :: (G ++ [o])).set (h.length + 2 + G.length) o' = h ++ a :: b :: (G ++ [o']) := fun a b o o' => by
        rw [show h ++ a :: b :: (G ++ [o]) = (h ++ [a, b] ++ G) ++ [o] by simp, List.set_append_right _ _ (by simp; omega), show h.length + 2 + G.length - (h ++ [a, b] ++ G).length = 0 by simp; omega]; simp
      have hwf : ∀ (o : Option AO), (∀ n, AO.under n o = true) → WF (h ++ some (.cells [.p (iP k), .p (iP i), .p (sP n), .p (.sl 2 (lvPs ls)), .p (.sl 5 (tmPs ks))]) :: some (.cells zTm) :: (G ++ [o])) := fun o ho => by
        have := hG.app (l := [o]) (by rw [List.all_cons, ho]; rfl)
        simpa using this
      refine Run.ops fun K hK => ?_
      simp
      try (simp (disch := omega) only [wrap_id])
      refine hK _ _ _ ?_; clear hK K
      repeat (first | refine Run.seq ?_ | refine Run.block ?_ | refine Run.skip ?_ | refine Run.inBlock ?_ | refine Run.opsNil ?_)
      repeat (first | refine Run.seq ?_ | refine Run.block ?_ | refine Run.skip ?_ | refine Run.inBlock ?_ | refine Run.opsNil ?_)
      refine Run.reg fun K hK => ?_
      simp
      try (simp (disch := omega) only [wrap_id])
      refine hK _ _ _ ?_; clear hK K
      repeat (first | refine Run.seq ?_ | refine Run.block ?_ | refine Run.skip ?_ | refine Run.inBlock ?_ | refine Run.opsNil ?_)
      have hrv := reverse_any _ (hwf (row args (cap - args.length)) (fun n => row_under n _ _)) args (h.length + 2 + G.length) cap (cap - args.length) hl (hget _ _ _)
      rw [hset] at hrv
      refine Run.call (args := [.sm (h.length + 2 + G.length) 0 args.length cap 5]) rfl (by first | rfl | simp) (by simp) rfl (hrv) ?_ ?_
      rotate_left
      · rintro v h' ⟨hv, _⟩; cases hv
      rintro v h' ⟨hv, rfl⟩
      simp only [AOut.ret.injEq] at hv
      subst hv
      refine Run.ops fun K hK => ?_
      simp
      try (simp (disch := omega) only [wrap_id])
      refine hK _ _ _ ?_; clear hK K
      repeat (first | refine Run.seq ?_ | refine Run.block ?_ | refine Run.skip ?_ | refine Run.inBlock ?_ | refine Run.opsNil ?_)
      refine Run.freezeS 8 (id := h.length + 2 + G.length) (n := args.length) (cap := cap) (sz := 5) (m := cap - args.length) (es := tmPs args.reverse) (by simp) (by simp only [Heap.at]; rw [hget]; rfl) (tmPs_len5 _) (by simp) hc ?_
      rw [hset]
      simp
      repeat (first | refine Run.seq ?_ | refine Run.block ?_ | refine Run.skip ?_ | refine Run.inBlock ?_ | refine Run.opsNil ?_)
      refine Run.reg fun K hK => ?_
      simp
      try (simp (disch := omega) only [wrap_id])
      refine hK _ _ _ ?_; clear hK K
      repeat (first | refine Run.seq ?_ | refine Run.block ?_ | refine Run.skip ?_ | refine Run.inBlock ?_ | refine Run.opsNil ?_)
      refine Run.call (args := [(Tm.mk k i n ls ks).av, .p (.sl 5 (tmPs args.reverse))]) rfl (by first | rfl | simp) (by simp) rfl (hs _ (hwf none (fun _ => rfl))) ?_ ?_
      rotate_left
      · rintro v h' ⟨hv, _⟩; cases hv
      rintro v h' ⟨hv, rfl⟩
      simp only [AOut.ret.injEq] at hv
      subst hv
      refine Run.ops fun K hK => ?_
      simp
      try (simp (disch := omega) only [wrap_id])
      refine hK _ _ _ ?_; clear hK K
      repeat (first | refine Run.seq ?_ | refine Run.block ?_ | refine Run.skip ?_ | refine Run.inBlock ?_ | refine Run.opsNil ?_)
      refine Run.ret ?_
      refine Fin.ret' (h0 := h) (by simp) rfl hh rfl (by simp; rfl) rfl (Weak.refl _) (by simp) ⟨rfl, rfl⟩
  · rw [if_pos c1] at hr
    subst hr
    have c2 : ((args.length : Int) != ctx.length) = true := by simp; omega
    obtain ⟨k, i, n, ls, ks⟩ := t
    refine ACalls.of_run Try.func57 rfl ?_
    simp only [Try.ntmps57, List.length_cons, List.length_nil, Tm.av, cells_mk, List.map]
    repeat (first | refine Run.seq ?_ | refine Run.block ?_ | refine Run.skip ?_ | refine Run.inBlock ?_ | refine Run.opsNil ?_)
    repeat (first | refine Run.seq ?_ | refine Run.block ?_ | refine Run.skip ?_ | refine Run.inBlock ?_ | refine Run.opsNil ?_)
    refine Run.reg fun K hK => ?_
    simp
    try (simp (disch := omega) only [wrap_id])
    refine hK _ _ _ ?_; clear hK K
    repeat (first | refine Run.seq ?_ | refine Run.block ?_ | refine Run.skip ?_ | refine Run.inBlock ?_ | refine Run.opsNil ?_)
    repeat (first | refine Run.seq ?_ | refine Run.block ?_ | refine Run.skip ?_ | refine Run.inBlock ?_ | refine Run.opsNil ?_)
    refine Run.reg fun K hK => ?_
    simp [c2]
    try (simp (disch := omega) only [wrap_id])
    refine hK _ _ _ ?_; clear hK K
    repeat (first | refine Run.seq ?_ | refine Run.block ?_ | refine Run.skip ?_ | refine Run.inBlock ?_ | refine Run.opsNil ?_)
    repeat (first | refine Run.seq ?_ | refine Run.block ?_ | refine Run.skip ?_ | refine Run.inBlock ?_ | refine Run.opsNil ?_)
    refine Run.cond (b := true) (by simp) ?_
    simp only [if_true]
    repeat (first | refine Run.seq ?_ | refine Run.block ?_ | refine Run.skip ?_ | refine Run.inBlock ?_ | refine Run.opsNil ?_)
    repeat (first | refine Run.seq ?_ | refine Run.block ?_ | refine Run.skip ?_ | refine Run.inBlock ?_ | refine Run.opsNil ?_)
    refine Run.reg fun K hK => ?_
    simp
    try (simp (disch := omega) only [wrap_id])
    refine hK _ _ _ ?_; clear hK K
    repeat (first | refine Run.seq ?_ | refine Run.block ?_ | refine Run.skip ?_ | refine Run.inBlock ?_ | refine Run.opsNil ?_)
    refine Run.ret ?_
    refine Fin.ret' (h0 := h) (xs := [.agg zTm, iA 6]) (by simp) rfl hh rfl (by simp) rfl (Weak.tup (WeakL.cons Weak.zT (WeakL.refl _))) (by simp) ⟨rfl, rfl⟩

end Go.Proofs.Ytppgpabjcenjdaa
