/-
  Rename: the program's and the reference's, whole; euclidlaw04.SubstRenames: its contract.
-/
import Derived.Test.YtppgpabjcenjdaaUN1
namespace Go.Proofs.Ytppgpabjcenjdaa

open Go Go.AI

set_option maxRecDepth 4000 in
/-- What Rename defers, where a panic is recovered. -/
theorem renDef_bad (h : Heap) (hh : WF h) (p q : Nat) {a b c d e0 : AV} {c0 : AV} (hp : h[p]? = some (some (.cells [a, b, c, d, e0]))) (hq : h[q]? = some (some (.cells [c0]))) (hpq : p ≠ q) (e : Int) :
    ADef Try.prog 134 [.ptr p 0, .ptr q 0] (some (.p (errP e))) h ((h.set p (some (.cells zTm))).set q (some (.cells [iA e]))) := by
  obtain ⟨p1, p2, p3, p4, p5, p6⟩ := idf hp
  have hq2 : (h.set p (some (.cells zTm)))[q]? = some (some (.cells [c0])) := by rw [List.getElem?_set_ne hpq]; exact hq
  refine ADef.of_run Try.func134 rfl rfl rfl fun K hK => ?_
  simp only [Try.ntmps134, List.length_cons, List.length_nil]
  simp [recA]
  refine hK _ _ ?_; clear hK K
  have hu : Try.prog.underlying 20 = some (.interface #[]) := by kernel_rfl
  repeat (first | refine Run.seq ?_ | refine Run.block ?_ | refine Run.skip ?_ | refine Run.inBlock ?_ | refine Run.opsNil ?_)
  refine Run.reg fun K hK => ?_
  simp [hu]
  try (simp (disch := omega) only [wrap_id])
  refine hK _ _ _ ?_; clear hK K
  repeat (first | refine Run.seq ?_ | refine Run.block ?_ | refine Run.skip ?_ | refine Run.inBlock ?_ | refine Run.opsNil ?_)
  repeat (first | refine Run.seq ?_ | refine Run.block ?_ | refine Run.skip ?_ | refine Run.inBlock ?_ | refine Run.opsNil ?_)
  refine Run.cond (b := true) (by simp) ?_
  simp only [if_true]
  repeat (first | refine Run.seq ?_ | refine Run.block ?_ | refine Run.skip ?_ | refine Run.inBlock ?_ | refine Run.opsNil ?_)
  repeat (first | refine Run.seq ?_ | refine Run.block ?_ | refine Run.skip ?_ | refine Run.inBlock ?_ | refine Run.opsNil ?_)
  refine Run.reg fun K hK => ?_
  simp
  try (simp (disch := omega) only [wrap_id])
  refine hK _ _ _ ?_; clear hK K
  repeat (first | refine Run.seq ?_ | refine Run.block ?_ | refine Run.skip ?_ | refine Run.inBlock ?_ | refine Run.opsNil ?_)
  refine Run.call (args := [.p (errP e)]) rfl rfl (by simp) rfl (caught_any h hh e) ?_ ?_
  · rintro v h' ⟨hv, rfl⟩
    simp only [AOut.ret.injEq] at hv
    subst hv
    refine Run.ops fun K hK => ?_
    simp [hp, hq2]
    try (simp (disch := omega) only [wrap_id])
    refine hK _ _ _ ?_; clear hK K
    repeat (first | refine Run.seq ?_ | refine Run.block ?_ | refine Run.skip ?_ | refine Run.inBlock ?_ | refine Run.opsNil ?_)
    refine Run.nil ?_
    refine Fin.ret' (by simp) (by simp) ((hh.set (by simp)).set (by simp)) (List.append_nil _).symm rfl rfl (Weak.refl _) rfl ⟨⟨_, rfl⟩, rfl⟩
  · rintro v h' ⟨hv, _⟩; cases hv

set_option maxRecDepth 4000 in
/-- What Rename defers, where nothing is recovered. -/
theorem renDef_ok (h : Heap) (hh : WF h) (p q : Nat) : ADef Try.prog 134 [.ptr p 0, .ptr q 0] none h h := by
  refine ADef.of_run Try.func134 rfl rfl rfl fun K hK => ?_
  simp only [Try.ntmps134, List.length_cons, List.length_nil]
  simp [recA]
  refine hK _ _ ?_; clear hK K
  have hu : Try.prog.underlying 20 = some (.interface #[]) := by kernel_rfl
  repeat (first | refine Run.seq ?_ | refine Run.block ?_ | refine Run.skip ?_ | refine Run.inBlock ?_ | refine Run.opsNil ?_)
  refine Run.reg fun K hK => ?_
  simp [hu]
  try (simp (disch := omega) only [wrap_id])
  refine hK _ _ _ ?_; clear hK K
  repeat (first | refine Run.seq ?_ | refine Run.block ?_ | refine Run.skip ?_ | refine Run.inBlock ?_ | refine Run.opsNil ?_)
  repeat (first | refine Run.seq ?_ | refine Run.block ?_ | refine Run.skip ?_ | refine Run.inBlock ?_ | refine Run.opsNil ?_)
  refine Run.cond (b := false) (by simp) ?_
  simp only [Bool.false_eq_true, if_false]
  repeat (first | refine Run.seq ?_ | refine Run.block ?_ | refine Run.skip ?_ | refine Run.inBlock ?_ | refine Run.opsNil ?_)
  refine Run.nil ?_
  exact Fin.ret' (by simp) rfl hh (List.append_nil _).symm rfl rfl (Weak.refl _) rfl ⟨⟨_, rfl⟩, rfl⟩

set_option maxRecDepth 8000 in
set_option maxHeartbeats 8000000 in
theorem rename_any (h : Heap) (hh : WF h) (t : Tm) (to : List Int) (hl : to.length ≤ 1048576) (hd : Dom 65536 t 0) :
    ACalls Try.prog 59 [t.av, .p (.sl 1 (intPs to))] h fun o h' => o = .ret (.tup [(resRen to t).1.av, iA (resRen to t).2]) ∧ h' = h := by
  obtain ⟨H, hH⟩ : ∃ H : Heap, H = h ++ [some (.cells (t.cells.map .p)), some (.cells [.p (.sl 1 (intPs to))]), some (.cells zTm), some (.cells [iA 0]), some (.cells [.fn (.func 135) [] [.ptr (h.length + 1) 0]])] := ⟨_, rfl⟩
  have hlen : H.length = h.length + 5 := by rw [hH]; simp
  have hwf : WF H := by rw [hH]; exact hh.app (by simp)
  have e1 : H[h.length + 1]? = some (some (.cells [.p (.sl 1 (intPs to))])) := by rw [hH]; simp
  have e4 : H[h.length + 4]? = some (some (.cells [.fn (.func 135) [] [.ptr (h.length + 1) 0]])) := by rw [hH]; simp
  have hbuild := build_any (visVar (repRen to)) 160 rfl [.ptr (h.length + 4) 0] (Dom 65536) Dom.one Dom.two t.size t 0 0 (fun _ => H) (h.length + 5) (Nat.le_refl _) hd (fun _ => hlen) (fun _ => hwf) (by simp)
    (fun s t d l hd hw => var_vis (repRen to) 135 rfl [.ptr (h.length + 1) 0] (fun _ => H) (h.length + 5) (h.length + 4) (fun _ => hlen) (fun _ => hwf) (by simp) (fun _ => e4) s t d l hd.lv
      (fun l hk hw => (ren2_any (H ++ l) hw to hl (h.length + 1) ((idf e1).1 l) t d s hd hk).mono fun _ _ hp => RPost.of_const (B := fun _ => H) (s := s) (fun _ => rfl) hp) hw)
  have hvar := variables_any (h ++ [some (.cells (t.cells.map .p)), some (.cells [.p (.sl 1 (intPs to))]), some (.cells zTm), some (.cells [iA 0])]) (hh.app (by simp)) 135 [.ptr (h.length + 1) 0] (by simp)
  rw [bld_ren to t 0 0 65536 (by simpa using hd.1)] at hbuild
  obtain ⟨r, hr⟩ : ∃ r, r = resRen to t := ⟨_, rfl⟩
  rw [← hr]
  unfold resRen at hr
  generalize renT to 0 t = q at hr hbuild
  generalize renBad to 0 t = bad at hr hbuild
  rw [hH] at hbuild
  clear hH hlen hwf e1 e4
  obtain ⟨k, i, nm, ls, ks⟩ := t
  obtain ⟨k', i', nm', ls', ks'⟩ := q
  refine ACalls.of_runD Try.func59 rfl ?_
  simp only [Try.ntmps59, List.length_cons, List.length_nil, Tm.av, cells_mk, List.map] at hvar hbuild ⊢
  repeat (first | refine Run.seq ?_ | refine Run.block ?_ | refine Run.skip ?_ | refine Run.inBlock ?_ | refine Run.opsNil ?_)
  refine Run.reg fun K hK => ?_
  simp
  try (simp (disch := omega) only [wrap_id])
  refine hK _ _ _ ?_; clear hK K
  repeat (first | refine Run.seq ?_ | refine Run.block ?_ | refine Run.skip ?_ | refine Run.inBlock ?_ | refine Run.opsNil ?_)
  repeat (first | refine Run.seq ?_ | refine Run.block ?_ | refine Run.skip ?_ | refine Run.inBlock ?_ | refine Run.opsNil ?_)
  refine Run.reg fun K hK => ?_
  simp
  try (simp (disch := omega) only [wrap_id])
  refine hK _ _ _ ?_; clear hK K
  repeat (first | refine Run.seq ?_ | refine Run.block ?_ | refine Run.skip ?_ | refine Run.inBlock ?_ | refine Run.opsNil ?_)
  refine Run.defer (i := 134) (first := []) (cap := [.ptr (h.length + 2) 0, .ptr (h.length + 3) 0]) rfl rfl rfl (by simp) ?_
  refine Run.ops fun K hK => ?_
  simp
  try (simp (disch := omega) only [wrap_id])
  refine hK _ _ _ ?_; clear hK K
  repeat (first | refine Run.seq ?_ | refine Run.block ?_ | refine Run.skip ?_ | refine Run.inBlock ?_ | refine Run.opsNil ?_)
  cases bad with
  | true =>
    simp only [if_true] at hr hbuild
    subst hr
    have hb2 := hbuild.mono (R' := fun o h' => o = .panic (.p (errP 24)) ∧ h' = _) (fun _ _ hp => hp)
    repeat (first | refine Run.seq ?_ | refine Run.block ?_ | refine Run.skip ?_ | refine Run.inBlock ?_ | refine Run.opsNil ?_)
    refine Run.drawPanic [0, 0, 0, 1, 2, 3] [0, 0, 0, 0, 0, 0] [0, 1, 0, 7, 15, 31] [0, 1, 2] 3 (by kernel_rfl) (by kernel_rfl) ?_
    refine DR.go fun K hK => ?_
    simp
    try (simp (disch := omega) only [wrap_id])
    refine hK _ _ _ _ ?_; clear hK K
    refine DR.call rfl rfl rfl (by simp) rfl hvar ?_
    refine DR.go fun K hK => ?_
    simp
    try (simp (disch := omega) only [wrap_id])
    refine hK _ _ _ _ ?_; clear hK K
    refine ⟨_, _, _, [.agg [.fn (.func 160) [] [.ptr (h.length + 4) 0]], (Tm.mk k i nm ls ks).av, iA 0], _, _, rfl, rfl, rfl, by simp, rfl, hb2, ?_⟩
    intro T' hT
    have hT4 := hT 4 (by simp)
    have hT5 := hT 5 (by simp)
    simp at hT4 hT5
    simp only [FinD]
    refine ⟨by simp, rfl, _, renDef_bad _ (hh.app (by simp)) (h.length + 2) (h.length + 3) (by simp; exact ⟨rfl, rfl, rfl, rfl, rfl⟩) (by simp; rfl) (by omega) 24, ?_⟩
    simp
    refine Fin.ret' (h0 := h) (xs := [.agg zTm, iA 24]) (by simp) rfl hh rfl (by simp [hT4, hT5]) rfl (Weak.tup (WeakL.cons Weak.zT (WeakL.refl _))) (by simp) ⟨rfl, rfl⟩
  | false =>
    simp only [Bool.false_eq_true, if_false] at hr hbuild
    subst hr
    have hb2 := hbuild.mono (R' := fun o h' => o = .ret (Tm.mk k' i' nm' ls' ks').av ∧ h' = _) (fun _ _ hp => hp)
    repeat (first | refine Run.seq ?_ | refine Run.block ?_ | refine Run.skip ?_ | refine Run.inBlock ?_ | refine Run.opsNil ?_)
    refine Run.draw [0, 0, 0, 1, 2, 3] [0, 0, 0, 1, 2, 3] [0, 1, 0, 7, 15, 31] [0, 1, 2, 3, 4, 5] (by kernel_rfl) (by kernel_rfl) ?_
    refine DR.go fun K hK => ?_
    simp
    try (simp (disch := omega) only [wrap_id])
    refine hK _ _ _ _ ?_; clear hK K
    refine DR.call rfl rfl rfl (by simp) rfl hvar ?_
    refine DR.go fun K hK => ?_
    simp
    try (simp (disch := omega) only [wrap_id])
    refine hK _ _ _ _ ?_; clear hK K
    refine DR.call (args := [.agg [.fn (.func 160) [] [.ptr (h.length + 4) 0]], (Tm.mk k i nm ls ks).av, iA 0]) rfl rfl rfl (by simp) rfl hb2 ?_
    refine DR.go fun K hK => ?_
    simp
    try (simp (disch := omega) only [wrap_id])
    refine hK _ _ _ _ ?_; clear hK K
    change Run _ _ _ _ _ _ _ _
    repeat (first | refine Run.seq ?_ | refine Run.block ?_ | refine Run.skip ?_ | refine Run.inBlock ?_ | refine Run.opsNil ?_)
    refine Run.ret ?_
    simp only [FinD]
    refine ⟨by simp, rfl, _, renDef_ok _ (hh.app (by simp)) (h.length + 2) (h.length + 3), ?_⟩
    refine Fin.ret' (h0 := h) (by simp) rfl hh rfl (by simp; rfl) rfl (Weak.refl _) (by simp) ⟨rfl, rfl⟩

/- The reference's. -/

end Go.Proofs.Ytppgpabjcenjdaa
