/-
  subst: Abstract, Subst.
-/
import Derived.Test.YtcfcolkbeelegaaGreatLE10
import Derived.Test.YtcfcolkbeelegaaGreatLE11

namespace Go.Proofs.YtcfcolkbeelegaaGreat

open Go Go.AI
set_option maxRecDepth 4000 in
theorem absDef_bad (h : Heap) (hh : WF h) (p q r : Nat) {a b c d e0 : AV} {c0 c1 : AV} (hp : h[p]? = some (some (.cells [a, b, c, d, e0]))) (hq : h[q]? = some (some (.cells [c0]))) (hr : h[r]? = some (some (.cells [c1]))) (hpq : p ≠ q) (hpr : p ≠ r) (hqr : q ≠ r) (e : Int) :
    ADef Tryz.prog 99 [.ptr p 0, .ptr q 0, .ptr r 0] (some (.p (errP e))) h (((h.set p (some (.cells zTm))).set q (some (.cells [iA 0]))).set r (some (.cells [iA e]))) := by
  obtain ⟨p1, p2, p3, p4, p5, p6⟩ := idf hp
  have hq2 : (h.set p (some (.cells zTm)))[q]? = some (some (.cells [c0])) := by rw [List.getElem?_set_ne hpq]; exact hq
  have hr2 : ((h.set p (some (.cells zTm))).set q (some (.cells [iA 0])))[r]? = some (some (.cells [c1])) := by rw [List.getElem?_set_ne hqr, List.getElem?_set_ne hpr]; exact hr
  refine ADef.of_run Tryz.func99 rfl rfl rfl fun K hK => ?_
  simp only [Tryz.ntmps99, List.length_cons, List.length_nil]
  simp [recA]
  refine hK _ _ ?_; clear hK K
  have hu : Tryz.prog.underlying 20 = some (.interface #[]) := by kernel_rfl
  refine nv ?_
  refine Run.reg fun K hK => ?_
  simp [hu]
  try (simp (disch := omega) only [wrap_id])
  refine hK _ _ _ ?_; clear hK K
  refine nv ?_
  refine Run.cond (b := true) (by simp) ?_
  simp only [if_true]
  refine nv ?_
  refine Run.reg fun K hK => ?_
  simp
  try (simp (disch := omega) only [wrap_id])
  refine hK _ _ _ ?_; clear hK K
  refine nv ?_
  refine Run.call (args := [.p (errP e)]) rfl rfl (by simp) rfl (caught_any h hh e) ?_ ?_
  · rintro v h' ⟨hv, rfl⟩
    simp only [AOut.ret.injEq] at hv
    subst hv
    refine Run.ops fun K hK => ?_
    simp [hp, hq2, hr2]
    try (simp (disch := omega) only [wrap_id])
    refine hK _ _ _ ?_; clear hK K
    refine nv ?_
    refine Run.nil ?_
    refine Fin.ret' (by simp) (by simp) (((hh.set (by simp)).set (by simp)).set (by simp)) (List.append_nil _).symm rfl rfl (Weak.refl _) rfl ⟨⟨_, rfl⟩, rfl⟩
  · rintro v h' ⟨hv, _⟩; cases hv
set_option maxRecDepth 4000 in
theorem absDef_ok (h : Heap) (hh : WF h) (p q r : Nat) : ADef Tryz.prog 99 [.ptr p 0, .ptr q 0, .ptr r 0] none h h := by
  refine ADef.of_run Tryz.func99 rfl rfl rfl fun K hK => ?_
  simp only [Tryz.ntmps99, List.length_cons, List.length_nil]
  simp [recA]
  refine hK _ _ ?_; clear hK K
  have hu : Tryz.prog.underlying 20 = some (.interface #[]) := by kernel_rfl
  refine nv ?_
  refine Run.reg fun K hK => ?_
  simp [hu]
  try (simp (disch := omega) only [wrap_id])
  refine hK _ _ _ ?_; clear hK K
  refine nv ?_
  refine Run.cond (b := false) (by simp) ?_
  simp only [Bool.false_eq_true, if_false]
  refine nv ?_
  refine Run.nil ?_
  exact Fin.ret' (by simp) rfl hh (List.append_nil _).symm rfl rfl (Weak.refl _) rfl ⟨⟨_, rfl⟩, rfl⟩
def resAbs (t part : Tm) : Tm × Int × Int :=
  match bld (visAbs part) 0 t 0 with
  | .bad e _ => (zT, 0, e)
  | .ok t' s => (t', s, 0)
set_option maxRecDepth 8000 in
set_option maxHeartbeats 8000000 in
theorem abstract_any (h : Heap) (hh : WF h) (t part : Tm) (hd : Dom 65536 t 0) (hp : Dom 65536 part 0) :
    ACalls Tryz.prog 53 [t.av, part.av] h fun o h' => o = .ret (.tup [(resAbs t part).1.av, iA (resAbs t part).2.1, iA (resAbs t part).2.2]) ∧ h' = h := by
  obtain ⟨tc, htc⟩ : ∃ tc : List AV, tc = t.cells.map .p := ⟨_, rfl⟩
  obtain ⟨pc, hpc⟩ : ∃ pc : List AV, pc = part.cells.map .p := ⟨_, rfl⟩
  have hr : resAbs t part = match bld (visAbs part) 0 t 0 with
    | .bad e _ => (zT, 0, e)
    | .ok t' s => (t', s, 0) := rfl
  generalize resAbs t part = r at hr ⊢
  obtain ⟨B, hB⟩ : ∃ B : Int → Heap, B = fun s => h ++ [some (.cells tc), some (.cells pc), some (.cells zTm), some (.cells [iA s]), some (.cells [iA 0])] := ⟨_, rfl⟩
  have hlen : ∀ s, (B s).length = h.length + 5 := fun s => by rw [hB]; simp
  have htu : ∀ n, AV.underL n tc = true := fun n => by rw [htc]; exact underL_p _ _
  have hpu : ∀ n, AV.underL n pc = true := fun n => by rw [hpc]; exact underL_p _ _
  have hwf : ∀ s, WF (B s) := fun s => by rw [hB]; exact hh.app (by simp [htu, hpu])
  have hbld := build_any (visAbs part) 100 rfl [.ptr (h.length + 1) 0, .ptr (h.length + 3) 0] (Dom 65536) (Dom.one) (Dom.two) t.size t 0 0 B (h.length + 5) (Nat.le_refl _) hd hlen hwf (by simp)
    (fun s t d l hd hw => abs_any part hp B (h.length + 5) (h.length + 1) (h.length + 3) hlen hwf (fun s => by rw [hB]; simp [hpc]) (fun s => by rw [hB]; simp) (fun s s' => by rw [hB]; simp) s t d l hd hw)
  generalize bld (visAbs part) 0 t 0 = br at hbld hr
  obtain ⟨k, i, nm, ls, ks⟩ := t
  obtain ⟨pk, pi, pnm, pls, pks⟩ := part
  simp only [cells_mk, List.map] at htc hpc
  subst htc
  subst hpc
  refine ACalls.of_runD Tryz.func53 rfl ?_
  simp only [Tryz.ntmps53, List.length_cons, List.length_nil, Tm.av, cells_mk, List.map] at hbld ⊢
  refine nv ?_
  refine Run.reg fun K hK => ?_
  simp
  try (simp (disch := omega) only [wrap_id])
  refine hK _ _ _ ?_; clear hK K
  refine nv ?_
  refine Run.reg fun K hK => ?_
  simp
  try (simp (disch := omega) only [wrap_id])
  refine hK _ _ _ ?_; clear hK K
  refine nv ?_
  refine Run.defer (i := 99) (first := []) (cap := [.ptr (h.length + 2) 0, .ptr (h.length + 3) 0, .ptr (h.length + 4) 0]) rfl rfl rfl (by simp) ?_
  refine Run.ops fun K hK => ?_
  simp
  try (simp (disch := omega) only [wrap_id])
  refine hK _ _ _ ?_; clear hK K
  refine nv ?_
  refine Run.reg fun K hK => ?_
  simp
  try (simp (disch := omega) only [wrap_id])
  refine hK _ _ _ ?_; clear hK K
  refine nv ?_
  simp only [hB] at hbld
  cases br with
  | bad e s1 =>
    simp only at hr
    subst hr
    refine Run.call (args := [.agg [.fn (.func 100) [] [.ptr (h.length + 1) 0, .ptr (h.length + 3) 0]], (Tm.mk k i nm ls ks).av, iA 0]) rfl rfl (by simp) rfl hbld ?_ ?_
    · intro v h' hR; simp [BPost] at hR
    · intro v h' hR
      simp only [BPost, AOut.panic.injEq] at hR
      obtain ⟨rfl, rfl⟩ := hR
      simp only [FinD]
      refine ⟨by simp, rfl, _, absDef_bad _ (hh.app (by simp)) (h.length + 2) (h.length + 3) (h.length + 4) (by simp; exact ⟨rfl, rfl, rfl, rfl, rfl⟩) (by simp; rfl) (by simp; rfl) (by omega) (by omega) (by omega) e, ?_⟩
      simp
      refine Fin.ret' (h0 := h) (xs := [.agg zTm, iA 0, iA e]) (by simp) rfl hh rfl (by simp) rfl (Weak.tup (WeakL.cons Weak.zT (WeakL.refl _))) (by simp) ⟨rfl, rfl⟩
  | ok t2 s1 =>
    simp only at hr
    subst hr
    refine Run.call (args := [.agg [.fn (.func 100) [] [.ptr (h.length + 1) 0, .ptr (h.length + 3) 0]], (Tm.mk k i nm ls ks).av, iA 0]) rfl rfl (by simp) rfl hbld ?_ ?_
    rotate_left
    · intro v h' hR; simp [BPost] at hR
    intro v h' hR
    simp only [BPost, AOut.ret.injEq] at hR
    obtain ⟨rfl, rfl⟩ := hR
    obtain ⟨k2, i2, nm2, ls2, ks2⟩ := t2
    refine Run.ops fun K hK => ?_
    simp
    try (simp (disch := omega) only [wrap_id])
    refine hK _ _ _ ?_; clear hK K
    refine nv ?_
    refine Run.draw [0, 0, 0, 1, 2] [0, 0, 0, 1, 2] [0, 0, 1, 7, 15] [0, 2, 1, 3, 4] (by kernel_rfl) (by kernel_rfl) ?_
    refine DR.go fun K hK => ?_
    simp
    try (simp (disch := omega) only [wrap_id])
    refine hK _ _ _ _ ?_; clear hK K
    change Run _ _ _ _ _ _ _ _
    refine nv ?_
    refine Run.ret ?_
    simp only [FinD]
    refine ⟨by simp, rfl, _, absDef_ok _ (hh.app (by simp)) (h.length + 2) (h.length + 3) (h.length + 4), ?_⟩
    refine Fin.ret' (h0 := h) (by simp) rfl hh rfl (by simp; rfl) rfl (Weak.refl _) (by simp) ⟨rfl, rfl⟩
set_option maxRecDepth 8000 in
theorem subst_any (h : Heap) (hh : WF h) (t : Tm) (vs : List Tm) (r : Tm × Int) (hc : ∀ g : Heap, WF g → ACalls Tryz.prog 98 [t.av, .p (.sl 5 (tmPs vs)), iA 0] g fun o h' => o = .ret (.tup [r.1.av, iA r.2]) ∧ h' = g) :
    ACalls Tryz.prog 52 [t.av, .p (.sl 5 (tmPs vs))] h fun o h' => o = .ret (.tup [r.1.av, iA r.2]) ∧ h' = h := by
  obtain ⟨t2, e⟩ := r
  obtain ⟨k, i, nm, ls, ks⟩ := t
  obtain ⟨k2, i2, nm2, ls2, ks2⟩ := t2
  refine ACalls.of_run Tryz.func52 rfl ?_
  simp only [Tryz.ntmps52, List.length_cons, List.length_nil, Tm.av, cells_mk, List.map]
  refine nv ?_
  refine Run.reg fun K hK => ?_
  simp
  try (simp (disch := omega) only [wrap_id])
  refine hK _ _ _ ?_; clear hK K
  refine nv ?_
  refine Run.reg fun K hK => ?_
  simp
  try (simp (disch := omega) only [wrap_id])
  refine hK _ _ _ ?_; clear hK K
  refine nv ?_
  refine Run.call (args := [(Tm.mk k i nm ls ks).av, .p (.sl 5 (tmPs vs)), iA 0]) rfl rfl (by simp) rfl (hc _ (hh.app (by simp))) ?_ ?_
  rotate_left
  · rintro v h' ⟨hv, _⟩; cases hv
  rintro v h' ⟨hv, rfl⟩
  simp only [AOut.ret.injEq] at hv
  subst hv
  refine Run.ops fun K hK => ?_
  simp
  try (simp (disch := omega) only [wrap_id])
  refine hK _ _ _ ?_; clear hK K
  refine nv ?_
  refine Run.ret ?_
  refine Fin.ret' (h0 := h) (by simp) rfl hh rfl (by simp; rfl) rfl (Weak.refl _) (by simp) ⟨rfl, rfl⟩

end Go.Proofs.YtcfcolkbeelegaaGreat
