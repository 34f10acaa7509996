/-
  Rename: the program's and the reference's, whole; euclidlaw04.SubstRenames: its contract.
-/
import Derived.Test.YtppgpabjcenjdaaN1
namespace Go.Proofs.Ytppgpabjcenjdaa
open Go Go.AI

set_option maxRecDepth 4000 in
/-- What Rename defers, where a panic is recovered. -/
theorem renDef_bad (h : Heap) (hh : WF h) (p q : Nat) {a b c d e0 : AV} {c0 : AV} (hp : h[p]? = some (some (.cells [a, b, c, d, e0]))) (hq : h[q]? = some (some (.cells [c0]))) (hpq : p ≠ q) (e : Int) :
    ADef Try.prog 134 [.ptr p 0, .ptr q 0] (some (.p (errP e))) h ((h.set p (some (.cells zTm))).set q (some (.cells [iA e]))) := by
  obtain ⟨p1, p2, p3, p4, p5, p6⟩ := idf hp
  have hq2 : (h.set p (some (.cells zTm)))[q]? = some (some (.cells [c0])) := by rw [List.getElem?_set_ne hpq]; exact hq
  refine ADef.of_run Try.func134 rfl rfl rfl fun K hK => ?_
  simp only [Try.ntmps134, List.length_cons, List.length_nil]
  simp [recA]
  refine hK _ _ ?_; clear hK K
  have hu : Try.prog.underlying 20 = some (.interface #[]) := by kernel_rfl
  repeat (first | refine Run.seq ?_ | refine Run.block ?_ | refine Run.skip ?_ | refine Run.inBlock ?_ | refine Run.opsNil ?_)
  refine Run.reg fun K hK => ?_
  simp [hu]
  try (simp (disch := omega) only [wrap_id])
  refine hK _ _ _ ?_; clear hK K
  repeat (first | refine Run.seq ?_ | refine Run.block ?_ | refine Run.skip ?_ | refine Run.inBlock ?_ | refine Run.opsNil ?_)
  repeat (first | refine Run.seq ?_ | refine Run.block ?_ | refine Run.skip ?_ | refine Run.inBlock ?_ | refine Run.opsNil ?_)
  refine Run.cond (b := true) (by simp) ?_
  simp only [if_true]
  repeat (first | refine Run.seq ?_ | refine Run.block ?_ | refine Run.skip ?_ | refine Run.inBlock ?_ | refine Run.opsNil ?_)
  repeat (first | refine Run.seq ?_ | refine Run.block ?_ | refine Run.skip ?_ | refine Run.inBlock ?_ | refine Run.opsNil ?_)
  refine Run.reg fun K hK => ?_
  simp
  try (simp (disch := omega) only [wrap_id])
  refine hK _ _ _ ?_; clear hK K
  repeat (first | refine Run.seq ?_ | refine Run.block ?_ | refine Run.skip ?_ | refine Run.inBlock ?_ | refine Run.opsNil ?_)
  refine Run.call (args := [.p (errP e)]) rfl rfl (by simp) rfl (caught_any h hh e) ?_ ?_
  · rintro v h' ⟨hv, rfl⟩
    simp only [AOut.ret.injEq] at hv
    subst hv
    refine Run.ops fun K hK => ?_
    simp [hp, hq2]
    try (simp (disch := omega) only [wrap_id])
    refine hK _ _ _ ?_; clear hK K
    repeat (first | refine Run.seq ?_ | refine Run.block ?_ | refine Run.skip ?_ | refine Run.inBlock ?_ | refine Run.opsNil ?_)
    refine Run.nil ?_
    refine Fin.ret' (by simp) (by simp) ((hh.set (by simp)).set (by simp)) (List.append_nil _).symm rfl rfl (Weak.refl _) rfl ⟨⟨_, rfl⟩, rfl⟩
  · rintro v h' ⟨hv, _⟩; cases hv

set_option maxRecDepth 4000 in
/-- What Rename defers, where nothing is recovered. -/
theorem renDef_ok (h : Heap) (hh : WF h) (p q : Nat) : ADef Try.prog 134 [.ptr p 0, .ptr q 0] none h h := by
  refine ADef.of_run Try.func134 rfl rfl rfl fun K hK => ?_
  simp only [Try.ntmps134, List.length_cons, List.length_nil]
  simp [recA]
  refine hK _ _ ?_; clear hK K
  have hu : Try.prog.underlying 20 = some (.interface #[]) := by kernel_rfl
  repeat (first | refine Run.seq ?_ | refine Run.block ?_ | refine Run.skip ?_ | refine Run.inBlock ?_ | refine Run.opsNil ?_)
  refine Run.reg fun K hK => ?_
  simp [hu]
  try (simp (disch := omega) only [wrap_id])
  refine hK _ _ _ ?_; clear hK K
  repeat (first | refine Run.seq ?_ | refine Run.block ?_ | refine Run.skip ?_ | refine Run.inBlock ?_ | refine Run.opsNil ?_)
  repeat (first | refine Run.seq ?_ | refine Run.block ?_ | refine Run.skip ?_ | refine Run.inBlock ?_ | refine Run.opsNil ?_)
  refine Run.cond (b := false) (by simp) ?_
  simp only [Bool.false_eq_true, if_false]
  repeat (first | refine Run.seq ?_ | refine Run.block ?_ | refine Run.skip ?_ | refine Run.inBlock ?_ | refine Run.opsNil ?_)
  refine Run.nil ?_
  exact Fin.ret' (by simp) rfl hh (List.append_nil _).symm rfl rfl (Weak.refl _) rfl ⟨⟨_, rfl⟩, rfl⟩



set_option maxRecDepth 8000 in
set_option maxHeartbeats 8000000 in
theorem rename_any (h : Heap) (hh : WF h) (t : Tm) (to : List Int) (hl : to.length ≤ 1048576) (hd : Dom 65536 t 0) :
    ACalls Try.prog 59 [t.av, .p (.sl 1 (intPs to))] h fun o h' => o = .ret (.tup [(resRen to t).1.av, iA (resRen to t).2]) ∧ h' = h := by
  obtain ⟨H, hH⟩ : ∃ H : Heap, H = h ++ [some (.cells (t.cells.map .p)), some (.cells [.p (.sl 1 (intPs to))]), some (.cells zTm), some (.cells [iA 0]), some (.cells [.fn (.func 135) [] [.ptr (h.length + 1) 0]])] := ⟨_, rfl⟩
  have hlen : H.length = h.length + 5 := by rw [hH]; simp
  have hwf : WF H := by rw [hH]; exact hh.app (by simp)
  have e1 : H[h.length + 1]? = some (some (.cells [.p (.sl 1 (intPs to))])) := by rw [hH]; simp
  have e4 : H[h.length + 4]? = some (some (.cells [.fn (.func 135) [] [.ptr (h.length + 1) 0]])) := by rw [hH]; simp
  have hbuild := build_any (visVar (repRen to)) 160 rfl [.ptr (h.length + 4) 0] (Dom 65536) Dom.one Dom.two t.size t 0 0 (fun _ => H) (h.length + 5) (Nat.le_refl _) hd (fun _ => hlen) (fun _ => hwf) (by simp)
    (fun s t d l hd hw => var_vis (repRen to) 135 rfl [.ptr (h.length + 1) 0] (fun _ => H) (h.length + 5) (h.length + 4) (fun _ => hlen) (fun _ => hwf) (by simp) (fun _ => e4) s t d l hd.lv
      (fun l hk hw => (ren2_any (H ++ l) hw to hl (h.length + 1) ((idf e1).1 l) t d s hd hk).mono fun _ _ hp => RPost.of_const (B := fun _ => H) (s := s) (fun _ => rfl) hp) hw)
  have hvar := variables_any (h ++ [some (.cells (t.cells.map .p)), some (.cells [.p (.sl 1 (intPs to))]), some (.cells zTm), some (.cells [iA 0])]) (hh.app (by simp)) 135 [.ptr (h.length + 1) 0] (by simp)
  rw [bld_ren to t 0 0 65536 (by simpa using hd.1)] at hbuild
  obtain ⟨r, hr⟩ : ∃ r, r = resRen to t := ⟨_, rfl⟩
  rw [← hr]
  unfold resRen at hr
  generalize renT to 0 t = q at hr hbuild
  generalize renBad to 0 t = bad at hr hbuild
  rw [hH] at hbuild
  clear hH hlen hwf e1 e4
  obtain ⟨k, i, nm, ls, ks⟩ := t
  obtain ⟨k', i', nm', ls', ks'⟩ := q
  refine ACalls.of_runD Try.func59 rfl ?_
  simp only [Try.ntmps59, List.length_cons, List.length_nil, Tm.av, cells_mk, List.map] at hvar hbuild ⊢
  repeat (first | refine Run.seq ?_ | refine Run.block ?_ | refine Run.skip ?_ | refine Run.inBlock ?_ | refine Run.opsNil ?_)
  refine Run.reg fun K hK => ?_
  simp
  try (simp (disch := omega) only [wrap_id])
  refine hK _ _ _ ?_; clear hK K
  repeat (first | refine Run.seq ?_ | refine Run.block ?_ | refine Run.skip ?_ | refine Run.inBlock ?_ | refine Run.opsNil ?_)
  repeat (first | refine Run.seq ?_ | refine Run.block ?_ | refine Run.skip ?_ | refine Run.inBlock ?_ | refine Run.opsNil ?_)
  refine Run.reg fun K hK => ?_
  simp
  try (simp (disch := omega) only [wrap_id])
  refine hK _ _ _ ?_; clear hK K
  repeat (first | refine Run.seq ?_ | refine Run.block ?_ | refine Run.skip ?_ | refine Run.inBlock ?_ | refine Run.opsNil ?_)
  refine Run.defer (i := 134) (first := []) (cap := [.ptr (h.length + 2) 0, .ptr (h.length + 3) 0]) rfl rfl rfl (by simp) ?_
  refine Run.ops fun K hK => ?_
  simp
  try (simp (disch := omega) only [wrap_id])
  refine hK _ _ _ ?_; clear hK K
  repeat (first | refine Run.seq ?_ | refine Run.block ?_ | refine Run.skip ?_ | refine Run.inBlock ?_ | refine Run.opsNil ?_)
  cases bad with
  | true =>
    simp only [if_true] at hr hbuild
    subst hr
    have hb2 := hbuild.mono (R' := fun o h' => o = .panic (.p (errP 24)) ∧ h' = _) (fun _ _ hp => hp)
    repeat (first | refine Run.seq ?_ | refine Run.block ?_ | refine Run.skip ?_ | refine Run.inBlock ?_ | refine Run.opsNil ?_)
    refine Run.drawPanic [0, 0, 0, 1, 2, 3] [0, 0, 0, 0, 0, 0] [0, 1, 0, 7, 15, 31] [0, 1, 2] 3 (by kernel_rfl) (by kernel_rfl) ?_
    refine DR.go fun K hK => ?_
    simp
    try (simp (disch := omega) only [wrap_id])
    refine hK _ _ _ _ ?_; clear hK K
    refine DR.call rfl rfl rfl (by simp) rfl hvar ?_
    refine DR.go fun K hK => ?_
    simp
    try (simp (disch := omega) only [wrap_id])
    refine hK _ _ _ _ ?_; clear hK K
    refine ⟨_, _, _, [.agg [.fn (.func 160) [] [.ptr (h.length + 4) 0]], (Tm.mk k i nm ls ks).av, iA 0], _, _, rfl, rfl, rfl, by simp, rfl, hb2, ?_⟩
    intro T' hT
    have hT4 := hT 4 (by simp)
    have hT5 := hT 5 (by simp)
    simp at hT4 hT5
    simp only [FinD]
    refine ⟨by simp, rfl, _, renDef_bad _ (hh.app (by simp)) (h.length + 2) (h.length + 3) (by simp; exact ⟨rfl, rfl, rfl, rfl, rfl⟩) (by simp; rfl) (by omega) 24, ?_⟩
    simp
    refine Fin.ret' (h0 := h) (xs := [.agg zTm, iA 24]) (by simp) rfl hh rfl (by simp [hT4, hT5]) rfl (Weak.tup (WeakL.cons Weak.zT (WeakL.refl _))) (by simp) ⟨rfl, rfl⟩
  | false =>
    simp only [Bool.false_eq_true, if_false] at hr hbuild
    subst hr
    have hb2 := hbuild.mono (R' := fun o h' => o = .ret (Tm.mk k' i' nm' ls' ks').av ∧ h' = _) (fun _ _ hp => hp)
    repeat (first | refine Run.seq ?_ | refine Run.block ?_ | refine Run.skip ?_ | refine Run.inBlock ?_ | refine Run.opsNil ?_)
    refine Run.draw [0, 0, 0, 1, 2, 3] [0, 0, 0, 1, 2, 3] [0, 1, 0, 7, 15, 31] [0, 1, 2, 3, 4, 5] (by kernel_rfl) (by kernel_rfl) ?_
    refine DR.go fun K hK => ?_
    simp
    try (simp (disch := omega) only [wrap_id])
    refine hK _ _ _ _ ?_; clear hK K
    refine DR.call rfl rfl rfl (by simp) rfl hvar ?_
    refine DR.go fun K hK => ?_
    simp
    try (simp (disch := omega) only [wrap_id])
    refine hK _ _ _ _ ?_; clear hK K
    refine DR.call (args := [.agg [.fn (.func 160) [] [.ptr (h.length + 4) 0]], (Tm.mk k i nm ls ks).av, iA 0]) rfl rfl rfl (by simp) rfl hb2 ?_
    refine DR.go fun K hK => ?_
    simp
    try (simp (disch := omega) only [wrap_id])
    refine hK _ _ _ _ ?_; clear hK K
    change Run _ _ _ _ _ _ _ _
    repeat (first | refine Run.seq ?_ | refine Run.block ?_ | refine Run.skip ?_ | refine Run.inBlock ?_ | refine Run.opsNil ?_)
    refine Run.ret ?_
    simp only [FinD]
    refine ⟨by simp, rfl, _, renDef_ok _ (hh.app (by simp)) (h.length + 2) (h.length + 3), ?_⟩
    refine Fin.ret' (h0 := h) (by simp) rfl hh rfl (by simp; rfl) rfl (Weak.refl _) (by simp) ⟨rfl, rfl⟩

/- The reference's. -/
set_option maxRecDepth 8000 in
set_option maxHeartbeats 8000000 in
theorem wren_any (to : List Int) (_hl : to.length ≤ 1048576) (hto : ∀ x ∈ to, -9223372036854775808 ≤ x ∧ x ≤ 9223372036854775807) (nodes : Int) (N : Nat) :
    ∀ (t : Tm) (depth err : Int) (h : Heap) (id : Nat), t.size ≤ N → t.size ≤ 1048576 → t.idx → 0 ≤ depth → depth + t.size ≤ 1099511627776 → WF h → h[id]? = some (wk err nodes) →
    ACalls Try.prog 137 [.ptr id 0, t.av, .p (.sl 1 (intPs to)), iA depth] h fun o h' => o = .ret (renT to depth t).av ∧ h' = h.set id (wk (errIf (renBad to depth t) err) nodes) := by
  induction N with
  | zero => intro t _ _ _ _ hN; have := t.size_pos; omega
  | succ N ih =>
  intro t depth err h id hN hB hidx hdp hdB hh hid
  obtain ⟨g1, g2, g3, g4, g5, hlt⟩ := idf hid
  obtain ⟨r, hr⟩ : ∃ r, r = renT to depth t := ⟨_, rfl⟩
  obtain ⟨rb, hrb⟩ : ∃ r, r = renBad to depth t := ⟨_, rfl⟩
  rw [← hr, ← hrb]
  obtain ⟨k, i, n, ls, ks⟩ := t
  simp only [renT] at hr
  simp only [renBad] at hrb
  simp only [Tm.size] at hN hB hdB
  simp only [Tm.idx] at hidx
  refine ACalls.of_run Try.func137 rfl ?_
  simp only [Try.ntmps137, List.length_cons, List.length_nil, Tm.av, cells_mk, List.map]
  repeat (first | refine Run.seq ?_ | refine Run.block ?_ | refine Run.skip ?_ | refine Run.inBlock ?_ | refine Run.opsNil ?_)
  repeat (first | refine Run.seq ?_ | refine Run.block ?_ | refine Run.skip ?_ | refine Run.inBlock ?_ | refine Run.opsNil ?_)
  refine Run.reg fun K hK => ?_
  simp
  try (simp (disch := omega) only [wrap_id])
  refine hK _ _ _ ?_; clear hK K
  repeat (first | refine Run.seq ?_ | refine Run.block ?_ | refine Run.skip ?_ | refine Run.inBlock ?_ | refine Run.opsNil ?_)
  repeat (first | refine Run.seq ?_ | refine Run.block ?_ | refine Run.skip ?_ | refine Run.inBlock ?_ | refine Run.opsNil ?_)
  refine Run.reg fun K hK => ?_
  simp
  try (simp (disch := omega) only [wrap_id])
  refine hK _ _ _ ?_; clear hK K
  repeat (first | refine Run.seq ?_ | refine Run.block ?_ | refine Run.skip ?_ | refine Run.inBlock ?_ | refine Run.opsNil ?_)
  by_cases hk0 : k = 0
  · subst hk0
    obtain ⟨hi1, hi2⟩ := hidx.1 rfl
    rw [if_pos rfl] at hr hrb
    have hw : IntKind.i64.wrap (i - depth) = i - depth := wrap_id (by omega) (by omega)
    repeat (first | refine Run.seq ?_ | refine Run.block ?_ | refine Run.skip ?_ | refine Run.inBlock ?_ | refine Run.opsNil ?_)
    refine Run.cond (b := true) (by simp) ?_
    simp only [if_true]
    repeat (first | refine Run.seq ?_ | refine Run.block ?_ | refine Run.skip ?_ | refine Run.inBlock ?_ | refine Run.opsNil ?_)
    repeat (first | refine Run.seq ?_ | refine Run.block ?_ | refine Run.skip ?_ | refine Run.inBlock ?_ | refine Run.opsNil ?_)
    refine Run.reg fun K hK => ?_
    simp
    try (simp (disch := omega) only [wrap_id])
    refine hK _ _ _ ?_; clear hK K
    repeat (first | refine Run.seq ?_ | refine Run.block ?_ | refine Run.skip ?_ | refine Run.inBlock ?_ | refine Run.opsNil ?_)
    by_cases c1 : i < depth
    · rw [if_pos c1] at hr hrb
      subst hr
      subst hrb
      repeat (first | refine Run.seq ?_ | refine Run.block ?_ | refine Run.skip ?_ | refine Run.inBlock ?_ | refine Run.opsNil ?_)
      refine Run.cond (b := true) (by simp [c1]) ?_
      simp only [if_true]
      repeat (first | refine Run.seq ?_ | refine Run.block ?_ | refine Run.skip ?_ | refine Run.inBlock ?_ | refine Run.opsNil ?_)
      repeat (first | refine Run.seq ?_ | refine Run.block ?_ | refine Run.skip ?_ | refine Run.inBlock ?_ | refine Run.opsNil ?_)
      refine Run.reg fun K hK => ?_
      simp
      try (simp (disch := omega) only [wrap_id])
      refine hK _ _ _ ?_; clear hK K
      repeat (first | refine Run.seq ?_ | refine Run.block ?_ | refine Run.skip ?_ | refine Run.inBlock ?_ | refine Run.opsNil ?_)
      refine Run.ret ?_
      refine Fin.ret' (h0 := h) (by simp) rfl hh rfl (by simp; rfl) rfl (Weak.of_eq (by simp)) (by simp) ⟨rfl, by simp [errIf, set_same hid]⟩
    rw [if_neg c1] at hr hrb
    have c0 : ¬ i - depth < 0 := by omega
    repeat (first | refine Run.seq ?_ | refine Run.block ?_ | refine Run.skip ?_ | refine Run.inBlock ?_ | refine Run.opsNil ?_)
    refine Run.cond (b := false) (by simp [c1]) ?_
    simp only [Bool.false_eq_true, if_false]
    repeat (first | refine Run.seq ?_ | refine Run.block ?_ | refine Run.skip ?_ | refine Run.inBlock ?_ | refine Run.opsNil ?_)
    repeat (first | refine Run.seq ?_ | refine Run.block ?_ | refine Run.skip ?_ | refine Run.inBlock ?_ | refine Run.opsNil ?_)
    refine Run.reg fun K hK => ?_
    simp [hw]
    try (simp (disch := omega) only [wrap_id])
    refine hK _ _ _ ?_; clear hK K
    repeat (first | refine Run.seq ?_ | refine Run.block ?_ | refine Run.skip ?_ | refine Run.inBlock ?_ | refine Run.opsNil ?_)
    cases hx : to[(i - depth).toNat]? with
    | none =>
      rw [hx] at hr hrb
      simp only at hr hrb
      subst hr
      subst hrb
      rw [List.getElem?_eq_none_iff] at hx
      have c2 : (to.length : Int) ≤ i - depth := by omega
      repeat (first | refine Run.seq ?_ | refine Run.block ?_ | refine Run.skip ?_ | refine Run.inBlock ?_ | refine Run.opsNil ?_)
      refine Run.reg fun K hK => ?_
      simp [c2]
      try (simp (disch := omega) only [wrap_id])
      refine hK _ _ _ ?_; clear hK K
      repeat (first | refine Run.seq ?_ | refine Run.block ?_ | refine Run.skip ?_ | refine Run.inBlock ?_ | refine Run.opsNil ?_)
      repeat (first | refine Run.seq ?_ | refine Run.block ?_ | refine Run.skip ?_ | refine Run.inBlock ?_ | refine Run.opsNil ?_)
      refine Run.cond (b := true) (by simp) ?_
      simp only [if_true]
      repeat (first | refine Run.seq ?_ | refine Run.block ?_ | refine Run.skip ?_ | refine Run.inBlock ?_ | refine Run.opsNil ?_)
      repeat (first | refine Run.seq ?_ | refine Run.block ?_ | refine Run.skip ?_ | refine Run.inBlock ?_ | refine Run.opsNil ?_)
      refine Run.reg fun K hK => ?_
      simp
      try (simp (disch := omega) only [wrap_id])
      refine hK _ _ _ ?_; clear hK K
      repeat (first | refine Run.seq ?_ | refine Run.block ?_ | refine Run.skip ?_ | refine Run.inBlock ?_ | refine Run.opsNil ?_)
      refine Run.call (args := [.ptr id 0, iA 24]) rfl (by first | rfl | simp) (by simp) rfl (fail_any _ (hh.app (by simp)) id err nodes 24 (g1 _)) ?_ ?_
      rotate_left
      · rintro v h' ⟨hv, _⟩; cases hv
      rintro v h' ⟨hv, rfl⟩
      simp only [AOut.ret.injEq] at hv
      subst hv
      simp only [g2]
      refine Run.ops fun K hK => ?_
      simp
      try (simp (disch := omega) only [wrap_id])
      refine hK _ _ _ ?_; clear hK K
      repeat (first | refine Run.seq ?_ | refine Run.block ?_ | refine Run.skip ?_ | refine Run.inBlock ?_ | refine Run.opsNil ?_)
      repeat (first | refine Run.seq ?_ | refine Run.block ?_ | refine Run.skip ?_ | refine Run.inBlock ?_ | refine Run.opsNil ?_)
      refine Run.reg fun K hK => ?_
      simp
      try (simp (disch := omega) only [wrap_id])
      refine hK _ _ _ ?_; clear hK K
      repeat (first | refine Run.seq ?_ | refine Run.block ?_ | refine Run.skip ?_ | refine Run.inBlock ?_ | refine Run.opsNil ?_)
      refine Run.ret ?_
      refine Fin.ret' (h0 := h.set id (wk (firstErr err 24) nodes)) (by simp) (by simp) (hh.set (by simp)) rfl (by simp; rfl) rfl (Weak.of_eq (by simp)) (by simp) ⟨rfl, by simp [errIf]⟩
    | some x =>
      rw [hx] at hr hrb
      simp only at hr hrb
      have hxl := (List.getElem?_eq_some_iff.1 hx).1
      have hxb := hto x (List.mem_of_getElem? hx)
      have c2 : ¬ (to.length : Int) ≤ i - depth := by omega
      have hw2 : IntKind.i64.wrap (65535 - depth) = 65535 - depth := wrap_id (by omega) (by omega)
      by_cases c3 : x < 0
      · rw [if_pos (.inl c3)] at hr
        rw [decide_eq_true (p := x < 0 ∨ 65535 - depth < x) (.inl c3)] at hrb
        subst hr
        subst hrb
        repeat (first | refine Run.seq ?_ | refine Run.block ?_ | refine Run.skip ?_ | refine Run.inBlock ?_ | refine Run.opsNil ?_)
        refine Run.reg fun K hK => ?_
        simp [c2, c0, hx, c3]
        try (simp (disch := omega) only [wrap_id])
        refine hK _ _ _ ?_; clear hK K
        repeat (first | refine Run.seq ?_ | refine Run.block ?_ | refine Run.skip ?_ | refine Run.inBlock ?_ | refine Run.opsNil ?_)
        repeat (first | refine Run.seq ?_ | refine Run.block ?_ | refine Run.skip ?_ | refine Run.inBlock ?_ | refine Run.opsNil ?_)
        refine Run.cond (b := true) (by simp) ?_
        simp only [if_true]
        repeat (first | refine Run.seq ?_ | refine Run.block ?_ | refine Run.skip ?_ | refine Run.inBlock ?_ | refine Run.opsNil ?_)
        repeat (first | refine Run.seq ?_ | refine Run.block ?_ | refine Run.skip ?_ | refine Run.inBlock ?_ | refine Run.opsNil ?_)
        refine Run.reg fun K hK => ?_
        simp
        try (simp (disch := omega) only [wrap_id])
        refine hK _ _ _ ?_; clear hK K
        repeat (first | refine Run.seq ?_ | refine Run.block ?_ | refine Run.skip ?_ | refine Run.inBlock ?_ | refine Run.opsNil ?_)
        refine Run.call (args := [.ptr id 0, iA 24]) rfl (by first | rfl | simp) (by simp) rfl (fail_any _ (hh.app (by simp)) id err nodes 24 (g1 _)) ?_ ?_
        rotate_left
        · rintro v h' ⟨hv, _⟩; cases hv
        rintro v h' ⟨hv, rfl⟩
        simp only [AOut.ret.injEq] at hv
        subst hv
        simp only [g2]
        refine Run.ops fun K hK => ?_
        simp
        try (simp (disch := omega) only [wrap_id])
        refine hK _ _ _ ?_; clear hK K
        repeat (first | refine Run.seq ?_ | refine Run.block ?_ | refine Run.skip ?_ | refine Run.inBlock ?_ | refine Run.opsNil ?_)
        repeat (first | refine Run.seq ?_ | refine Run.block ?_ | refine Run.skip ?_ | refine Run.inBlock ?_ | refine Run.opsNil ?_)
        refine Run.reg fun K hK => ?_
        simp
        try (simp (disch := omega) only [wrap_id])
        refine hK _ _ _ ?_; clear hK K
        repeat (first | refine Run.seq ?_ | refine Run.block ?_ | refine Run.skip ?_ | refine Run.inBlock ?_ | refine Run.opsNil ?_)
        refine Run.ret ?_
        refine Fin.ret' (h0 := h.set id (wk (firstErr err 24) nodes)) (by simp) (by simp) (hh.set (by simp)) rfl (by simp; rfl) rfl (Weak.of_eq (by simp)) (by simp) ⟨rfl, by simp [errIf]⟩
      by_cases c4 : 65535 - depth < x
      · rw [if_pos (.inr c4)] at hr
        rw [decide_eq_true (p := x < 0 ∨ 65535 - depth < x) (.inr c4)] at hrb
        subst hr
        subst hrb
        repeat (first | refine Run.seq ?_ | refine Run.block ?_ | refine Run.skip ?_ | refine Run.inBlock ?_ | refine Run.opsNil ?_)
        refine Run.reg fun K hK => ?_
        simp [c2, c0, hx, c3, hw2, c4]
        try (simp (disch := omega) only [wrap_id])
        refine hK _ _ _ ?_; clear hK K
        repeat (first | refine Run.seq ?_ | refine Run.block ?_ | refine Run.skip ?_ | refine Run.inBlock ?_ | refine Run.opsNil ?_)
        repeat (first | refine Run.seq ?_ | refine Run.block ?_ | refine Run.skip ?_ | refine Run.inBlock ?_ | refine Run.opsNil ?_)
        refine Run.cond (b := true) (by simp) ?_
        simp only [if_true]
        repeat (first | refine Run.seq ?_ | refine Run.block ?_ | refine Run.skip ?_ | refine Run.inBlock ?_ | refine Run.opsNil ?_)
        repeat (first | refine Run.seq ?_ | refine Run.block ?_ | refine Run.skip ?_ | refine Run.inBlock ?_ | refine Run.opsNil ?_)
        refine Run.reg fun K hK => ?_
        simp
        try (simp (disch := omega) only [wrap_id])
        refine hK _ _ _ ?_; clear hK K
        repeat (first | refine Run.seq ?_ | refine Run.block ?_ | refine Run.skip ?_ | refine Run.inBlock ?_ | refine Run.opsNil ?_)
        refine Run.call (args := [.ptr id 0, iA 24]) rfl (by first | rfl | simp) (by simp) rfl (fail_any _ (hh.app (by simp)) id err nodes 24 (g1 _)) ?_ ?_
        rotate_left
        · rintro v h' ⟨hv, _⟩; cases hv
        rintro v h' ⟨hv, rfl⟩
        simp only [AOut.ret.injEq] at hv
        subst hv
        simp only [g2]
        refine Run.ops fun K hK => ?_
        simp
        try (simp (disch := omega) only [wrap_id])
        refine hK _ _ _ ?_; clear hK K
        repeat (first | refine Run.seq ?_ | refine Run.block ?_ | refine Run.skip ?_ | refine Run.inBlock ?_ | refine Run.opsNil ?_)
        repeat (first | refine Run.seq ?_ | refine Run.block ?_ | refine Run.skip ?_ | refine Run.inBlock ?_ | refine Run.opsNil ?_)
        refine Run.reg fun K hK => ?_
        simp
        try (simp (disch := omega) only [wrap_id])
        refine hK _ _ _ ?_; clear hK K
        repeat (first | refine Run.seq ?_ | refine Run.block ?_ | refine Run.skip ?_ | refine Run.inBlock ?_ | refine Run.opsNil ?_)
        refine Run.ret ?_
        refine Fin.ret' (h0 := h.set id (wk (firstErr err 24) nodes)) (by simp) (by simp) (hh.set (by simp)) rfl (by simp; rfl) rfl (Weak.of_eq (by simp)) (by simp) ⟨rfl, by simp [errIf]⟩
      rw [if_neg (by omega)] at hr
      rw [decide_eq_false (p := x < 0 ∨ 65535 - depth < x) (by omega)] at hrb
      subst hr
      subst hrb
      have hw3 : IntKind.i64.wrap (x + depth) = x + depth := wrap_id (by omega) (by omega)
      have c5 : ¬ 65535 < x + depth := by omega
      repeat (first | refine Run.seq ?_ | refine Run.block ?_ | refine Run.skip ?_ | refine Run.inBlock ?_ | refine Run.opsNil ?_)
      refine Run.reg fun K hK => ?_
      simp [c2, c0, hx, c3, hw2, c4]
      try (simp (disch := omega) only [wrap_id])
      refine hK _ _ _ ?_; clear hK K
      repeat (first | refine Run.seq ?_ | refine Run.block ?_ | refine Run.skip ?_ | refine Run.inBlock ?_ | refine Run.opsNil ?_)
      repeat (first | refine Run.seq ?_ | refine Run.block ?_ | refine Run.skip ?_ | refine Run.inBlock ?_ | refine Run.opsNil ?_)
      refine Run.cond (b := false) (by simp) ?_
      simp only [Bool.false_eq_true, if_false]
      repeat (first | refine Run.seq ?_ | refine Run.block ?_ | refine Run.skip ?_ | refine Run.inBlock ?_ | refine Run.opsNil ?_)
      repeat (first | refine Run.seq ?_ | refine Run.block ?_ | refine Run.skip ?_ | refine Run.inBlock ?_ | refine Run.opsNil ?_)
      refine Run.reg fun K hK => ?_
      simp [hx, c0, hw3]
      try (simp (disch := omega) only [wrap_id])
      refine hK _ _ _ ?_; clear hK K
      repeat (first | refine Run.seq ?_ | refine Run.block ?_ | refine Run.skip ?_ | refine Run.inBlock ?_ | refine Run.opsNil ?_)
      generalize x + depth = z at c5
      refine Run.call (args := [.ptr id 0, iA z]) rfl (by first | rfl | simp) (by simp) rfl (variable_any _ (hh.app (by simp)) id err nodes z (g1 _)) ?_ ?_
      rotate_left
      · rintro v h' ⟨hv, _⟩; cases hv
      rintro v h' ⟨hv, rfl⟩
      simp only [AOut.ret.injEq] at hv
      subst hv
      simp only [if_neg c5, g2]
      refine Run.ops fun K hK => ?_
      simp [vr]
      try (simp (disch := omega) only [wrap_id])
      refine hK _ _ _ ?_; clear hK K
      repeat (first | refine Run.seq ?_ | refine Run.block ?_ | refine Run.skip ?_ | refine Run.inBlock ?_ | refine Run.opsNil ?_)
      refine Run.ret ?_
      refine Fin.ret' (h0 := h.set id (wk err nodes)) (by simp) (by simp) (hh.set (by simp)) rfl (by simp; rfl) rfl (Weak.of_eq (by simp [vr])) (by simp) ⟨rfl, by simp [errIf]⟩
  · rw [if_neg hk0] at hr hrb
    subst hr
    subst hrb
    repeat (first | refine Run.seq ?_ | refine Run.block ?_ | refine Run.skip ?_ | refine Run.inBlock ?_ | refine Run.opsNil ?_)
    refine Run.cond (b := false) (by simp [hk0]) ?_
    simp only [Bool.false_eq_true, if_false]
    repeat (first | refine Run.seq ?_ | refine Run.block ?_ | refine Run.skip ?_ | refine Run.inBlock ?_ | refine Run.opsNil ?_)
    repeat (first | refine Run.seq ?_ | refine Run.block ?_ | refine Run.skip ?_ | refine Run.inBlock ?_ | refine Run.opsNil ?_)
    refine Run.reg fun K hK => ?_
    simp
    try (simp (disch := omega) only [wrap_id])
    refine hK _ _ _ ?_; clear hK K
    repeat (first | refine Run.seq ?_ | refine Run.block ?_ | refine Run.skip ?_ | refine Run.inBlock ?_ | refine Run.opsNil ?_)
    repeat (first | refine Run.seq ?_ | refine Run.block ?_ | refine Run.skip ?_ | refine Run.inBlock ?_ | refine Run.opsNil ?_)
    refine Run.reg fun K hK => ?_
    simp
    try (simp (disch := omega) only [wrap_id])
    refine hK _ _ _ ?_; clear hK K
    repeat (first | refine Run.seq ?_ | refine Run.block ?_ | refine Run.skip ?_ | refine Run.inBlock ?_ | refine Run.opsNil ?_)
    refine Run.tok 10 5 (by simp) ?_
    simp
    refine Run.loopS [0, 2, 3, 5, 8] (fun j : Nat => j ≤ ks.length) (fun j => ks.length - j) (fun j => [(10, .own (h.length + 2) 5 (tmPs (renL to depth k 0 (ks.take j)))), (11, iA j)])
      (fun j => h.set id (wk (errIf (renBads to depth k 0 (ks.take j)) err) nodes) ++ [some (.cells [iA k, iA i, .p (sP n), .p (.sl 2 (lvPs ls)), .p (.sl 5 (tmPs ks))]), some (.cells zTm), some (.tok j 5)])
      0 (by simp) ?_ ?_ ?_
    · simp [renL, tmPs]
      repeat' (first | exact WeakL.nil | apply WeakL.cons)
      all_goals first | exact Weak.junk _ | exact Weak.refl _ | exact Weak.nil _ | exact Weak.own _ _ _ | exact Weak.int (by omega)
    · simp [renBads, errIf, set_same hid]
    · intro j hj IH
      simp
      repeat (first | refine Run.seq ?_ | refine Run.block ?_ | refine Run.skip ?_ | refine Run.inBlock ?_ | refine Run.opsNil ?_)
      refine Run.reg fun K hK => ?_
      simp
      try (simp (disch := omega) only [wrap_id])
      refine hK _ _ _ ?_; clear hK K
      repeat (first | refine Run.seq ?_ | refine Run.block ?_ | refine Run.skip ?_ | refine Run.inBlock ?_ | refine Run.opsNil ?_)
      by_cases hjl : j < ks.length
      · repeat (first | refine Run.seq ?_ | refine Run.block ?_ | refine Run.skip ?_ | refine Run.inBlock ?_ | refine Run.opsNil ?_)
        refine Run.cond (b := true) (by simp [hjl]) ?_
        simp only [if_true]
        repeat (first | refine Run.seq ?_ | refine Run.block ?_ | refine Run.skip ?_ | refine Run.inBlock ?_ | refine Run.opsNil ?_)
        have hg : ks[j]? = some ks[j] := List.getElem?_eq_getElem hjl
        have hbz := belowZ_01 k j
        have hs := sizes_take ks j _ hg
        have hs2 := sizes_take_le ks (j + 1)
        have hs3 := length_le_sizes ks
        repeat (first | refine Run.seq ?_ | refine Run.block ?_ | refine Run.skip ?_ | refine Run.inBlock ?_ | refine Run.opsNil ?_)
        refine Run.draw [0, 0, 0, 0, 0, 0, 0, 0, 0, 0, 0, 0, 0, 1, 1, 2, 2, 3] [0, 0, 0, 0, 0, 0, 0, 0, 0, 0, 0, 0, 0, 0, 1, 0, 2, 0] [0, 0, 0, 4, 0, 28, 60, 0, 0, 0, 512, 0, 3584, 7936, 16382, 32766, 65535, 131071] [9, 10, 11, 12, 1, 2, 3, 4, 5, 6, 7, 8, 13, 14, 0, 15, 16, 17] (by kernel_rfl) (by kernel_rfl) ?_
        refine DR.go fun K hK => ?_
        simp
        try (simp (disch := omega) only [wrap_id])
        refine hK _ _ _ _ ?_; clear hK K
        refine DR.call (args := [iA k, iA j]) rfl rfl rfl (by simp) rfl (below_any _ (WF.app (WF.set hh (by simp)) (by simp)) k j) ?_
        refine DR.go fun K hK => ?_
        simp [hg]
        try (simp (disch := omega) only [wrap_id])
        refine hK _ _ _ _ ?_; clear hK K
        refine DR.call (args := [.ptr id 0, ks[j].av, .p (.sl 1 (intPs to)), iA (depth + belowZ k j)]) rfl rfl rfl (by simp) rfl (ih ks[j] (depth + belowZ k j) (errIf (renBads to depth k 0 (ks.take j)) err) _ id (by omega) (by omega) (Tm.idxs_at hidx.2 _ (List.getElem_mem hjl)) (by omega) (by omega) (WF.app (WF.set hh (by simp)) (by simp)) (g4 _ _)) ?_
        have hmin : min j ks.length = j := Nat.min_eq_left hj
        have hb1 : (j + 1) * 80 ≤ 140737488355328 := by omega
        have hb2 : j + 1 ≤ 9223372036854775807 := by omega
        refine DR.go fun K hK => ?_
        simp [g5, renL_length, hmin, hb1, hb2]
        try (simp (disch := omega) only [wrap_id])
        refine hK _ _ _ _ ?_; clear hK K
        change Run _ _ _ _ _ _ _ _
        repeat (first | refine Run.seq ?_ | refine Run.block ?_ | refine Run.skip ?_ | refine Run.inBlock ?_ | refine Run.opsNil ?_)
        repeat (first | refine Run.seq ?_ | refine Run.block ?_ | refine Run.skip ?_ | refine Run.inBlock ?_ | refine Run.opsNil ?_)
        refine Run.reg fun K hK => ?_
        simp
        try (simp (disch := omega) only [wrap_id])
        refine hK _ _ _ ?_; clear hK K
        repeat (first | refine Run.seq ?_ | refine Run.block ?_ | refine Run.skip ?_ | refine Run.inBlock ?_ | refine Run.opsNil ?_)
        have htk : ks.take (j + 1) = ks.take j ++ [ks[j]] := List.take_succ_eq_append_getElem hjl
        refine IH (j + 1) _ _ (by omega) (by omega) ?_ ?_
        · rw [htk, renL_snoc, tmPs_snoc]
          simp [hmin]
          repeat' (first | exact WeakL.nil | apply WeakL.cons)
          all_goals first | exact Weak.junk _ | exact Weak.refl _ | exact Weak.nil _ | exact Weak.own _ _ _ | exact Weak.int (by omega)
        · rw [htk, renBads_snoc, ← errIf_twice]
          simp only [List.length_take, hmin, Nat.zero_add]
      · have hje : j = ks.length := by omega
        subst hje
        repeat (first | refine Run.seq ?_ | refine Run.block ?_ | refine Run.skip ?_ | refine Run.inBlock ?_ | refine Run.opsNil ?_)
        refine Run.cond (b := false) (by simp) ?_
        simp only [Bool.false_eq_true, if_false]
        repeat (first | refine Run.seq ?_ | refine Run.block ?_ | refine Run.skip ?_ | refine Run.inBlock ?_ | refine Run.opsNil ?_)
        repeat (first | refine Run.seq ?_ | refine Run.block ?_ | refine Run.skip ?_ | refine Run.inBlock ?_ | refine Run.opsNil ?_)
        refine Run.exit rfl ?_
        repeat (first | refine Run.seq ?_ | refine Run.block ?_ | refine Run.skip ?_ | refine Run.inBlock ?_ | refine Run.opsNil ?_)
        repeat (first | refine Run.seq ?_ | refine Run.block ?_ | refine Run.skip ?_ | refine Run.inBlock ?_ | refine Run.opsNil ?_)
        refine Run.reg fun K hK => ?_
        simp
        try (simp (disch := omega) only [wrap_id])
        refine hK _ _ _ ?_; clear hK K
        repeat (first | refine Run.seq ?_ | refine Run.block ?_ | refine Run.skip ?_ | refine Run.inBlock ?_ | refine Run.opsNil ?_)
        repeat (first | refine Run.seq ?_ | refine Run.block ?_ | refine Run.skip ?_ | refine Run.inBlock ?_ | refine Run.opsNil ?_)
        refine Run.reg fun K hK => ?_
        simp
        try (simp (disch := omega) only [wrap_id])
        refine hK _ _ _ ?_; clear hK K
        repeat (first | refine Run.seq ?_ | refine Run.block ?_ | refine Run.skip ?_ | refine Run.inBlock ?_ | refine Run.opsNil ?_)
        refine Run.ret ?_
        refine Fin.ret' (h0 := h.set id (wk (errIf (renBads to depth k 0 ks) err) nodes)) (by simp) (by simp) (hh.set (by simp)) rfl (by simp; rfl) rfl ?_ ?_ ⟨rfl, rfl⟩
        · refine Weak.agg ?_
          repeat' (first | exact WeakL.nil | apply WeakL.cons)
          all_goals first | exact Weak.junk _ | exact Weak.refl _ | exact Weak.nil _ | exact Weak.own _ _ _ | exact Weak.int (by omega)
        · simp

set_option maxRecDepth 8000 in
set_option maxHeartbeats 4000000 in
theorem refRen_any (h : Heap) (hh : WF h) (t : Tm) (to : List Int) (hl : to.length ≤ 1048576) (hto : ∀ x ∈ to, -9223372036854775808 ≤ x ∧ x ≤ 9223372036854775807) (hsz : t.size ≤ 1048576) (hix : t.idx) :
    ACalls Try.prog 60 [t.av, .p (.sl 1 (intPs to))] h fun o h' => o = .ret (.tup [(resRen to t).1.av, iA (resRen to t).2]) ∧ h' = h := by
  have hw := fun (g : Heap) (hg : WF g) (id : Nat) (hid : g[id]? = some (wk 0 0)) => wren_any to hl hto 0 t.size t 0 0 g id (Nat.le_refl _) hsz hix (by omega) (by omega) hg hid
  obtain ⟨r, hr⟩ : ∃ r, r = resRen to t := ⟨_, rfl⟩
  rw [← hr]
  unfold resRen at hr
  generalize renBad to 0 t = bad at hr hw
  generalize renT to 0 t = q at hr hw
  obtain ⟨k, i, n, ls, ks⟩ := t
  obtain ⟨qk, qi, qn, qls, qks⟩ := q
  refine ACalls.of_run Try.func60 rfl ?_
  simp only [Try.ntmps60, List.length_cons, List.length_nil, Tm.av, cells_mk, List.map]
  repeat (first | refine Run.seq ?_ | refine Run.block ?_ | refine Run.skip ?_ | refine Run.inBlock ?_ | refine Run.opsNil ?_)
  repeat (first | refine Run.seq ?_ | refine Run.block ?_ | refine Run.skip ?_ | refine Run.inBlock ?_ | refine Run.opsNil ?_)
  refine Run.reg fun K hK => ?_
  simp
  try (simp (disch := omega) only [wrap_id])
  refine hK _ _ _ ?_; clear hK K
  repeat (first | refine Run.seq ?_ | refine Run.block ?_ | refine Run.skip ?_ | refine Run.inBlock ?_ | refine Run.opsNil ?_)
  repeat (first | refine Run.seq ?_ | refine Run.block ?_ | refine Run.skip ?_ | refine Run.inBlock ?_ | refine Run.opsNil ?_)
  refine Run.reg fun K hK => ?_
  simp
  try (simp (disch := omega) only [wrap_id])
  refine hK _ _ _ ?_; clear hK K
  repeat (first | refine Run.seq ?_ | refine Run.block ?_ | refine Run.skip ?_ | refine Run.inBlock ?_ | refine Run.opsNil ?_)
  repeat (first | refine Run.seq ?_ | refine Run.block ?_ | refine Run.skip ?_ | refine Run.inBlock ?_ | refine Run.opsNil ?_)
  refine Run.reg fun K hK => ?_
  simp
  try (simp (disch := omega) only [wrap_id])
  refine hK _ _ _ ?_; clear hK K
  repeat (first | refine Run.seq ?_ | refine Run.block ?_ | refine Run.skip ?_ | refine Run.inBlock ?_ | refine Run.opsNil ?_)
  refine Run.call (args := [.ptr (h.length + 2) 0, (Tm.mk k i n ls ks).av, .p (.sl 1 (intPs to)), iA 0]) rfl (by first | rfl | simp) (by simp) rfl (hw _ (hh.app (by simp)) (h.length + 2) (by simp)) ?_ ?_
  rotate_left
  · rintro v h' ⟨hv, _⟩; cases hv
  rintro v h' ⟨hv, rfl⟩
  simp only [AOut.ret.injEq] at hv
  subst hv
  refine Run.ops fun K hK => ?_
  simp
  try (simp (disch := omega) only [wrap_id])
  refine hK _ _ _ ?_; clear hK K
  repeat (first | refine Run.seq ?_ | refine Run.block ?_ | refine Run.skip ?_ | refine Run.inBlock ?_ | refine Run.opsNil ?_)
  cases bad with
  | true =>
    simp only [if_true] at hr
    subst hr
    repeat (first | refine Run.seq ?_ | refine Run.block ?_ | refine Run.skip ?_ | refine Run.inBlock ?_ | refine Run.opsNil ?_)
    refine Run.reg fun K hK => ?_
    simp [errIf, firstErr]
    try (simp (disch := omega) only [wrap_id])
    refine hK _ _ _ ?_; clear hK K
    repeat (first | refine Run.seq ?_ | refine Run.block ?_ | refine Run.skip ?_ | refine Run.inBlock ?_ | refine Run.opsNil ?_)
    repeat (first | refine Run.seq ?_ | refine Run.block ?_ | refine Run.skip ?_ | refine Run.inBlock ?_ | refine Run.opsNil ?_)
    refine Run.cond (b := true) (by simp) ?_
    simp only [if_true]
    repeat (first | refine Run.seq ?_ | refine Run.block ?_ | refine Run.skip ?_ | refine Run.inBlock ?_ | refine Run.opsNil ?_)
    repeat (first | refine Run.seq ?_ | refine Run.block ?_ | refine Run.skip ?_ | refine Run.inBlock ?_ | refine Run.opsNil ?_)
    refine Run.draw [0, 0, 0, 0, 0, 0, 1] [0, 0, 0, 0, 0, 0, 0] [0, 0, 2, 6, 14, 1, 63] [0, 5, 1, 2, 3, 4, 6] (by kernel_rfl) (by kernel_rfl) ?_
    refine DR.go fun K hK => ?_
    simp
    try (simp (disch := omega) only [wrap_id])
    refine hK _ _ _ _ ?_; clear hK K
    change Run _ _ _ _ _ _ _ _
    repeat (first | refine Run.seq ?_ | refine Run.block ?_ | refine Run.skip ?_ | refine Run.inBlock ?_ | refine Run.opsNil ?_)
    refine Run.ret ?_
    refine Fin.ret' (h0 := h) (xs := [.agg zTm, iA 24]) (by simp) rfl hh rfl (by simp) rfl (Weak.tup (WeakL.cons Weak.zT (WeakL.refl _))) (by simp) ⟨rfl, rfl⟩
  | false =>
    simp only [Bool.false_eq_true, if_false] at hr
    subst hr
    repeat (first | refine Run.seq ?_ | refine Run.block ?_ | refine Run.skip ?_ | refine Run.inBlock ?_ | refine Run.opsNil ?_)
    refine Run.reg fun K hK => ?_
    simp [errIf]
    try (simp (disch := omega) only [wrap_id])
    refine hK _ _ _ ?_; clear hK K
    repeat (first | refine Run.seq ?_ | refine Run.block ?_ | refine Run.skip ?_ | refine Run.inBlock ?_ | refine Run.opsNil ?_)
    repeat (first | refine Run.seq ?_ | refine Run.block ?_ | refine Run.skip ?_ | refine Run.inBlock ?_ | refine Run.opsNil ?_)
    refine Run.cond (b := false) (by simp) ?_
    simp only [Bool.false_eq_true, if_false]
    repeat (first | refine Run.seq ?_ | refine Run.block ?_ | refine Run.skip ?_ | refine Run.inBlock ?_ | refine Run.opsNil ?_)
    repeat (first | refine Run.seq ?_ | refine Run.block ?_ | refine Run.skip ?_ | refine Run.inBlock ?_ | refine Run.opsNil ?_)
    refine Run.reg fun K hK => ?_
    simp
    try (simp (disch := omega) only [wrap_id])
    refine hK _ _ _ ?_; clear hK K
    repeat (first | refine Run.seq ?_ | refine Run.block ?_ | refine Run.skip ?_ | refine Run.inBlock ?_ | refine Run.opsNil ?_)
    refine Run.ret ?_
    refine Fin.ret' (h0 := h) (by simp) rfl hh rfl (by simp; rfl) rfl (Weak.refl _) (by simp) ⟨rfl, rfl⟩

set_option maxRecDepth 8000 in
set_option maxHeartbeats 4000000 in
theorem substRenames_any (h : Heap) (hh : WF h) (t : Tm) (to : List Int) (hsz : t.size + to.length ≤ 1048576) (hlv : t.lvs) (hf : t.fit) (hto : ∀ x ∈ to, -9223372036854775808 ≤ x ∧ x ≤ 9223372036854775807) :
    ACalls Try.prog 13 [t.av, .p (.sl 1 (intPs to))] h fun o h' => o = .ret (bA true) ∧ h' = h := by
  have hll : Tm.lvss [t] := by simp only [Tm.lvss]; exact ⟨hlv, trivial⟩
  have hgood := fun (g : Heap) (hg : WF g) => good_any g hg [t] (by simp only [Tm.sizes]; omega) hll (by simp only [Tm.fits]; exact ⟨hf, trivial⟩)
  cases hb : goodB [t] with
  | false =>
    rw [hb] at hgood
    obtain ⟨k, i, nm, ls, ks⟩ := t
    refine ACalls.of_run Try.func13 rfl ?_
    simp only [Try.ntmps13, List.length_cons, List.length_nil, Tm.av, cells_mk, List.map]
    repeat (first | refine Run.seq ?_ | refine Run.block ?_ | refine Run.skip ?_ | refine Run.inBlock ?_ | refine Run.opsNil ?_)
    repeat (first | refine Run.seq ?_ | refine Run.block ?_ | refine Run.skip ?_ | refine Run.inBlock ?_ | refine Run.opsNil ?_)
    refine Run.reg fun K hK => ?_
    simp
    try (simp (disch := omega) only [wrap_id])
    refine hK _ _ _ ?_; clear hK K
    repeat (first | refine Run.seq ?_ | refine Run.block ?_ | refine Run.skip ?_ | refine Run.inBlock ?_ | refine Run.opsNil ?_)
    repeat (first | refine Run.seq ?_ | refine Run.block ?_ | refine Run.skip ?_ | refine Run.inBlock ?_ | refine Run.opsNil ?_)
    refine Run.reg fun K hK => ?_
    simp
    try (simp (disch := omega) only [wrap_id])
    refine hK _ _ _ ?_; clear hK K
    repeat (first | refine Run.seq ?_ | refine Run.block ?_ | refine Run.skip ?_ | refine Run.inBlock ?_ | refine Run.opsNil ?_)
    refine Run.call (args := [.p (.sl 5 [(Tm.mk k i nm ls ks).cells])]) rfl (by first | rfl | simp) (by simp) rfl (hgood _ (hh.app (by simp))) ?_ ?_
    rotate_left
    · rintro v h' ⟨hv, _⟩; cases hv
    rintro v h' ⟨hv, rfl⟩
    simp only [AOut.ret.injEq] at hv
    subst hv
    refine Run.ops fun K hK => ?_
    simp
    try (simp (disch := omega) only [wrap_id])
    refine hK _ _ _ ?_; clear hK K
    repeat (first | refine Run.seq ?_ | refine Run.block ?_ | refine Run.skip ?_ | refine Run.inBlock ?_ | refine Run.opsNil ?_)
    repeat (first | refine Run.seq ?_ | refine Run.block ?_ | refine Run.skip ?_ | refine Run.inBlock ?_ | refine Run.opsNil ?_)
    refine Run.cond (b := true) (by simp) ?_
    simp only [if_true]
    repeat (first | refine Run.seq ?_ | refine Run.block ?_ | refine Run.skip ?_ | refine Run.inBlock ?_ | refine Run.opsNil ?_)
    repeat (first | refine Run.seq ?_ | refine Run.block ?_ | refine Run.skip ?_ | refine Run.inBlock ?_ | refine Run.opsNil ?_)
    refine Run.reg fun K hK => ?_
    simp
    try (simp (disch := omega) only [wrap_id])
    refine hK _ _ _ ?_; clear hK K
    repeat (first | refine Run.seq ?_ | refine Run.block ?_ | refine Run.skip ?_ | refine Run.inBlock ?_ | refine Run.opsNil ?_)
    refine Run.call (args := []) rfl (by first | rfl | simp) (by simp) rfl (awake_any _ (hh.app (by simp))) ?_ ?_
    rotate_left
    · rintro v h' ⟨hv, _⟩; cases hv
    rintro v h' ⟨hv, rfl⟩
    simp only [AOut.ret.injEq] at hv
    subst hv
    refine Run.ops fun K hK => ?_
    simp
    try (simp (disch := omega) only [wrap_id])
    refine hK _ _ _ ?_; clear hK K
    repeat (first | refine Run.seq ?_ | refine Run.block ?_ | refine Run.skip ?_ | refine Run.inBlock ?_ | refine Run.opsNil ?_)
    refine Run.ret ?_
    refine Fin.ret' (h0 := h) (by simp) rfl hh rfl (by simp; rfl) rfl (Weak.refl _) (by simp) ⟨rfl, rfl⟩
  | true =>
    rw [hb] at hgood
    by_cases h8 : 100 < (to.length : Int)
    · obtain ⟨k, i, nm, ls, ks⟩ := t
      refine ACalls.of_run Try.func13 rfl ?_
      simp only [Try.ntmps13, List.length_cons, List.length_nil, Tm.av, cells_mk, List.map]
      repeat (first | refine Run.seq ?_ | refine Run.block ?_ | refine Run.skip ?_ | refine Run.inBlock ?_ | refine Run.opsNil ?_)
      repeat (first | refine Run.seq ?_ | refine Run.block ?_ | refine Run.skip ?_ | refine Run.inBlock ?_ | refine Run.opsNil ?_)
      refine Run.reg fun K hK => ?_
      simp
      try (simp (disch := omega) only [wrap_id])
      refine hK _ _ _ ?_; clear hK K
      repeat (first | refine Run.seq ?_ | refine Run.block ?_ | refine Run.skip ?_ | refine Run.inBlock ?_ | refine Run.opsNil ?_)
      repeat (first | refine Run.seq ?_ | refine Run.block ?_ | refine Run.skip ?_ | refine Run.inBlock ?_ | refine Run.opsNil ?_)
      refine Run.reg fun K hK => ?_
      simp
      try (simp (disch := omega) only [wrap_id])
      refine hK _ _ _ ?_; clear hK K
      repeat (first | refine Run.seq ?_ | refine Run.block ?_ | refine Run.skip ?_ | refine Run.inBlock ?_ | refine Run.opsNil ?_)
      refine Run.call (args := [.p (.sl 5 [(Tm.mk k i nm ls ks).cells])]) rfl (by first | rfl | simp) (by simp) rfl (hgood _ (hh.app (by simp))) ?_ ?_
      rotate_left
      · rintro v h' ⟨hv, _⟩; cases hv
      rintro v h' ⟨hv, rfl⟩
      simp only [AOut.ret.injEq] at hv
      subst hv
      refine Run.ops fun K hK => ?_
      simp [h8]
      try (simp (disch := omega) only [wrap_id])
      refine hK _ _ _ ?_; clear hK K
      repeat (first | refine Run.seq ?_ | refine Run.block ?_ | refine Run.skip ?_ | refine Run.inBlock ?_ | refine Run.opsNil ?_)
      repeat (first | refine Run.seq ?_ | refine Run.block ?_ | refine Run.skip ?_ | refine Run.inBlock ?_ | refine Run.opsNil ?_)
      refine Run.cond (b := true) (by simp) ?_
      simp only [if_true]
      repeat (first | refine Run.seq ?_ | refine Run.block ?_ | refine Run.skip ?_ | refine Run.inBlock ?_ | refine Run.opsNil ?_)
      repeat (first | refine Run.seq ?_ | refine Run.block ?_ | refine Run.skip ?_ | refine Run.inBlock ?_ | refine Run.opsNil ?_)
      refine Run.reg fun K hK => ?_
      simp
      try (simp (disch := omega) only [wrap_id])
      refine hK _ _ _ ?_; clear hK K
      repeat (first | refine Run.seq ?_ | refine Run.block ?_ | refine Run.skip ?_ | refine Run.inBlock ?_ | refine Run.opsNil ?_)
      refine Run.call (args := []) rfl (by first | rfl | simp) (by simp) rfl (awake_any _ (hh.app (by simp))) ?_ ?_
      rotate_left
      · rintro v h' ⟨hv, _⟩; cases hv
      rintro v h' ⟨hv, rfl⟩
      simp only [AOut.ret.injEq] at hv
      subst hv
      refine Run.ops fun K hK => ?_
      simp
      try (simp (disch := omega) only [wrap_id])
      refine hK _ _ _ ?_; clear hK K
      repeat (first | refine Run.seq ?_ | refine Run.block ?_ | refine Run.skip ?_ | refine Run.inBlock ?_ | refine Run.opsNil ?_)
      refine Run.ret ?_
      refine Fin.ret' (h0 := h) (by simp) rfl hh rfl (by simp; rfl) rfl (Weak.refl _) (by simp) ⟨rfl, rfl⟩
    obtain ⟨hok, hs4, _⟩ := good_all hll hb t (by simp)
    have hsub := fun (g : Heap) (hg : WF g) => rename_any g hg t to (by omega) ⟨by simpa using hok, by omega, by omega⟩
    have href := fun (g : Heap) (hg : WF g) => refRen_any g hg t to (by omega) hto (by omega) (ok_idx t 65536 hok (by omega))
    have hsm := resRen_ok to t hok
    generalize resRen to t = r at hsub href hsm
    obtain ⟨q, e⟩ := r
    have hsame := fun (g : Heap) (hg : WF g) => same_any q.size q q g (Nat.le_refl _) (by have := hsm.2; simp only at this; omega) (ok_lvs _ _ hsm.1) hg
    rw [sameT_refl] at hsame
    obtain ⟨k, i, nm, ls, ks⟩ := t
    obtain ⟨k2, i2, nm2, ls2, ks2⟩ := q
    refine ACalls.of_run Try.func13 rfl ?_
    simp only [Try.ntmps13, List.length_cons, List.length_nil, Tm.av, cells_mk, List.map]
    repeat (first | refine Run.seq ?_ | refine Run.block ?_ | refine Run.skip ?_ | refine Run.inBlock ?_ | refine Run.opsNil ?_)
    repeat (first | refine Run.seq ?_ | refine Run.block ?_ | refine Run.skip ?_ | refine Run.inBlock ?_ | refine Run.opsNil ?_)
    refine Run.reg fun K hK => ?_
    simp
    try (simp (disch := omega) only [wrap_id])
    refine hK _ _ _ ?_; clear hK K
    repeat (first | refine Run.seq ?_ | refine Run.block ?_ | refine Run.skip ?_ | refine Run.inBlock ?_ | refine Run.opsNil ?_)
    repeat (first | refine Run.seq ?_ | refine Run.block ?_ | refine Run.skip ?_ | refine Run.inBlock ?_ | refine Run.opsNil ?_)
    refine Run.reg fun K hK => ?_
    simp
    try (simp (disch := omega) only [wrap_id])
    refine hK _ _ _ ?_; clear hK K
    repeat (first | refine Run.seq ?_ | refine Run.block ?_ | refine Run.skip ?_ | refine Run.inBlock ?_ | refine Run.opsNil ?_)
    refine Run.call (args := [.p (.sl 5 [(Tm.mk k i nm ls ks).cells])]) rfl (by first | rfl | simp) (by simp) rfl (hgood _ (hh.app (by simp))) ?_ ?_
    rotate_left
    · rintro v h' ⟨hv, _⟩; cases hv
    rintro v h' ⟨hv, rfl⟩
    simp only [AOut.ret.injEq] at hv
    subst hv
    refine Run.ops fun K hK => ?_
    simp [h8]
    try (simp (disch := omega) only [wrap_id])
    refine hK _ _ _ ?_; clear hK K
    repeat (first | refine Run.seq ?_ | refine Run.block ?_ | refine Run.skip ?_ | refine Run.inBlock ?_ | refine Run.opsNil ?_)
    repeat (first | refine Run.seq ?_ | refine Run.block ?_ | refine Run.skip ?_ | refine Run.inBlock ?_ | refine Run.opsNil ?_)
    refine Run.cond (b := false) (by simp) ?_
    simp only [Bool.false_eq_true, if_false]
    repeat (first | refine Run.seq ?_ | refine Run.block ?_ | refine Run.skip ?_ | refine Run.inBlock ?_ | refine Run.opsNil ?_)
    repeat (first | refine Run.seq ?_ | refine Run.block ?_ | refine Run.skip ?_ | refine Run.inBlock ?_ | refine Run.opsNil ?_)
    refine Run.reg fun K hK => ?_
    simp
    try (simp (disch := omega) only [wrap_id])
    refine hK _ _ _ ?_; clear hK K
    repeat (first | refine Run.seq ?_ | refine Run.block ?_ | refine Run.skip ?_ | refine Run.inBlock ?_ | refine Run.opsNil ?_)
    refine Run.call (args := [(Tm.mk k i nm ls ks).av, .p (.sl 1 (intPs to))]) rfl (by first | rfl | simp) (by simp) rfl (hsub _ (hh.app (by simp))) ?_ ?_
    rotate_left
    · rintro v h' ⟨hv, _⟩; cases hv
    rintro v h' ⟨hv, rfl⟩
    simp only [AOut.ret.injEq] at hv
    subst hv
    refine Run.ops fun K hK => ?_
    simp
    try (simp (disch := omega) only [wrap_id])
    refine hK _ _ _ ?_; clear hK K
    repeat (first | refine Run.seq ?_ | refine Run.block ?_ | refine Run.skip ?_ | refine Run.inBlock ?_ | refine Run.opsNil ?_)
    repeat (first | refine Run.seq ?_ | refine Run.block ?_ | refine Run.skip ?_ | refine Run.inBlock ?_ | refine Run.opsNil ?_)
    refine Run.reg fun K hK => ?_
    simp
    try (simp (disch := omega) only [wrap_id])
    refine hK _ _ _ ?_; clear hK K
    repeat (first | refine Run.seq ?_ | refine Run.block ?_ | refine Run.skip ?_ | refine Run.inBlock ?_ | refine Run.opsNil ?_)
    refine Run.call (args := [(Tm.mk k i nm ls ks).av, .p (.sl 1 (intPs to))]) rfl (by first | rfl | simp) (by simp) rfl (href _ (hh.app (by simp))) ?_ ?_
    rotate_left
    · rintro v h' ⟨hv, _⟩; cases hv
    rintro v h' ⟨hv, rfl⟩
    simp only [AOut.ret.injEq] at hv
    subst hv
    refine Run.ops fun K hK => ?_
    simp
    try (simp (disch := omega) only [wrap_id])
    refine hK _ _ _ ?_; clear hK K
    repeat (first | refine Run.seq ?_ | refine Run.block ?_ | refine Run.skip ?_ | refine Run.inBlock ?_ | refine Run.opsNil ?_)
    repeat (first | refine Run.seq ?_ | refine Run.block ?_ | refine Run.skip ?_ | refine Run.inBlock ?_ | refine Run.opsNil ?_)
    refine Run.reg fun K hK => ?_
    simp
    try (simp (disch := omega) only [wrap_id])
    refine hK _ _ _ ?_; clear hK K
    repeat (first | refine Run.seq ?_ | refine Run.block ?_ | refine Run.skip ?_ | refine Run.inBlock ?_ | refine Run.opsNil ?_)
    refine Run.call (args := [(Tm.mk k2 i2 nm2 ls2 ks2).av, (Tm.mk k2 i2 nm2 ls2 ks2).av]) rfl (by first | rfl | simp) (by simp) rfl (hsame _ (hh.app (by simp))) ?_ ?_
    rotate_left
    · rintro v h' ⟨hv, _⟩; cases hv
    rintro v h' ⟨hv, rfl⟩
    simp only [AOut.ret.injEq] at hv
    subst hv
    refine Run.ops fun K hK => ?_
    simp
    try (simp (disch := omega) only [wrap_id])
    refine hK _ _ _ ?_; clear hK K
    repeat (first | refine Run.seq ?_ | refine Run.block ?_ | refine Run.skip ?_ | refine Run.inBlock ?_ | refine Run.opsNil ?_)
    refine Run.call (args := []) rfl (by first | rfl | simp) (by simp) rfl (awake_any _ (hh.app (by simp))) ?_ ?_
    rotate_left
    · rintro v h' ⟨hv, _⟩; cases hv
    rintro v h' ⟨hv, rfl⟩
    simp only [AOut.ret.injEq] at hv
    subst hv
    refine Run.ops fun K hK => ?_
    simp
    try (simp (disch := omega) only [wrap_id])
    refine hK _ _ _ ?_; clear hK K
    repeat (first | refine Run.seq ?_ | refine Run.block ?_ | refine Run.skip ?_ | refine Run.inBlock ?_ | refine Run.opsNil ?_)
    refine Run.ret ?_
    refine Fin.ret' (h0 := h) (by simp) rfl hh rfl (by simp; rfl) rfl (Weak.refl _) (by simp) ⟨rfl, rfl⟩

end Go.Proofs.Ytppgpabjcenjdaa
