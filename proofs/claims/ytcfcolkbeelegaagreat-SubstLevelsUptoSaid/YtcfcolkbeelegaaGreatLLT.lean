/-
  Levels and Assign: the program and the reference.
-/
import Derived.Test.YtcfcolkbeelegaaGreatLLS
import Derived.Test.YtcfcolkbeelegaaGreatLLM
import Derived.Test.YtcfcolkbeelegaaGreatLE12

namespace Go.Proofs.YtcfcolkbeelegaaGreat

open Go Go.AI
theorem errN_stays (f : Lv → Lv × Int) {e : Int} (h : e ≠ 0) (ls : List Lv) : errN f e ls = e := by
  unfold errN
  induction ls with
  | nil => rfl
  | cons x ls ih => rw [List.foldl_cons]; simp only [firstErr, if_neg h]; exact ih
theorem errN_errL (f : Lv → Lv × Int) (ls : List Lv) : errN f 0 ls = errL f ls := by
  induction ls with
  | nil => rfl
  | cons x ls ih =>
    have e : errN f 0 (x :: ls) = errN f (f x).2 ls := by unfold errN; rw [List.foldl_cons]; simp [firstErr]
    rw [e]
    by_cases c : (f x).2 = 0
    · rw [c, ih]; simp [errL, c]
    · rw [errN_stays f c]; simp [errL, c]

mutual
theorem leT_stays (f : Lv → Lv × Int) {e : Int} (h : e ≠ 0) : ∀ t : Tm, leT f e t = e
  | .mk _ _ _ ls ks => by simp only [leT]; rw [errN_stays f h]; exact leTs_stays f h ks
theorem leTs_stays (f : Lv → Lv × Int) {e : Int} (h : e ≠ 0) : ∀ l : List Tm, leTs f e l = e
  | [] => rfl
  | t :: ts => by simp only [leTs]; rw [leT_stays f h t]; exact leTs_stays f h ts
end

mutual
theorem bld_lv (f : Lv → Lv × Int) : ∀ (t : Tm) (s d : Int), bld (visLv f) s t d = if leT f 0 t = 0 then .ok (lvT f t) s else .bad (leT f 0 t) s
  | .mk k i n ls ks, s, d => by
    simp only [bld, visLv, Tm.levels, Tm.kind, Tm.index, Tm.name, leT, lvT, errN_errL]
    by_cases c : errL f ls = 0
    · simp only [c, if_true, bldL_lv f ks s k d 0]
      by_cases c2 : leTs f 0 ks = 0
      · simp only [c2, if_true]; rfl
      · simp only [c2, if_false]
    · simp only [c, if_false, leTs_stays f c]
theorem bldL_lv (f : Lv → Lv × Int) : ∀ (l : List Tm) (s k d : Int) (idx : Nat), bldL (visLv f) s k d idx l = if leTs f 0 l = 0 then .ok (lvTs f l) s else .bad (leTs f 0 l) s
  | [], s, k, d, idx => by simp [bldL, leTs, lvTs]
  | t :: ts, s, k, d, idx => by
    simp only [bldL, leTs, lvTs]
    rw [bld_lv f t]
    by_cases c : leT f 0 t = 0
    · simp only [c, if_true, bldL_lv f ts]
      by_cases c2 : leTs f 0 ts = 0
      · simp only [c2, if_true]
      · simp only [c2, if_false]
    · simp only [c, if_false, leTs_stays f c]
end
def resLv (f : Lv → Lv × Int) (t : Tm) : Tm × Int := if leT f 0 t = 0 then (lvT f t, 0) else (zT, leT f 0 t)
set_option maxRecDepth 8000 in
set_option maxHeartbeats 4000000 in
theorem refLevels_any (h : Heap) (hh : WF h) (t : Tm) (vals : List Lv) (hsz : t.size ≤ 1048576) (hlv : t.lvs) (hbs : vals.length ≤ 1048576) (hbv : ∀ x ∈ vals, x.vars.length ≤ 1048576) :
    ACalls Tryz.prog 15 [t.av, .p (.sl 2 (lvPs vals))] h fun o h' => o = .ret (.tup [(resLv (lvF vals false) t).1.av, iA (resLv (lvF vals false) t).2]) ∧ h' = h := by
  have hs := fun (g : Heap) (hg : WF g) (id : Nat) (hid : g[id]? = some (wk 0 0)) => wlev_any vals false hbs hbv 0 t.size t 0 g id (Nat.le_refl _) hsz hlv hg hid
  obtain ⟨r, hr⟩ : ∃ r, resLv (lvF vals false) t = r := ⟨_, rfl⟩
  rw [hr]
  unfold resLv at hr
  generalize leT (lvF vals false) 0 t = e at hs hr
  generalize lvT (lvF vals false) t = u at hs hr
  obtain ⟨k, i, nm, ls, ks⟩ := t
  obtain ⟨k', i', nm', ls', ks'⟩ := u
  refine ACalls.of_run Tryz.func15 rfl ?_
  simp only [Tryz.ntmps15, List.length_cons, List.length_nil, Tm.av, cells_mk, List.map]
  refine nv ?_
  refine Run.reg fun K hK => ?_
  simp
  try (simp (disch := omega) only [wrap_id])
  refine hK _ _ _ ?_; clear hK K
  refine nv ?_
  refine Run.reg fun K hK => ?_
  simp
  try (simp (disch := omega) only [wrap_id])
  refine hK _ _ _ ?_; clear hK K
  refine nv ?_
  refine Run.reg fun K hK => ?_
  simp
  try (simp (disch := omega) only [wrap_id])
  refine hK _ _ _ ?_; clear hK K
  refine nv ?_
  refine Run.call (args := [.ptr (h.length + 2) 0, (Tm.mk k i nm ls ks).av, .p (.sl 2 (lvPs vals)), bA false]) rfl rfl (by simp) rfl (hs _ (hh.app (by simp)) (h.length + 2) (by simp)) ?_ ?_
  rotate_left
  · rintro v h' ⟨hv, _⟩; cases hv
  rintro v h' ⟨hv, rfl⟩
  simp only [AOut.ret.injEq] at hv
  subst hv
  refine Run.ops fun K hK => ?_
  simp
  try (simp (disch := omega) only [wrap_id])
  refine hK _ _ _ ?_; clear hK K
  refine nv ?_
  refine Run.reg fun K hK => ?_
  simp
  try (simp (disch := omega) only [wrap_id])
  refine hK _ _ _ ?_; clear hK K
  refine nv ?_
  by_cases he : e = 0
  · rw [if_pos he] at hr
    subst hr
    refine nv ?_
    refine Run.cond (b := false) (by simp [he]) ?_
    simp only [Bool.false_eq_true, if_false]
    refine nv ?_
    refine Run.reg fun K hK => ?_
    simp
    try (simp (disch := omega) only [wrap_id])
    refine hK _ _ _ ?_; clear hK K
    refine nv ?_
    refine Run.ret ?_
    refine Fin.ret' (h0 := h) (by simp) rfl hh rfl (by simp; rfl) rfl (Weak.refl _) (by simp) ⟨rfl, rfl⟩
  · rw [if_neg he] at hr
    subst hr
    refine nv ?_
    refine Run.cond (b := true) (by simp [he]) ?_
    simp only [if_true]
    refine nv ?_
    refine Run.draw [0, 0, 0, 0, 0, 0, 1] [0, 0, 0, 0, 0, 0, 0] [0, 0, 2, 6, 14, 1, 63] [0, 5, 1, 2, 3, 4, 6] (by kernel_rfl) (by kernel_rfl) ?_
    refine DR.go fun K hK => ?_
    simp
    try (simp (disch := omega) only [wrap_id])
    refine hK _ _ _ _ ?_; clear hK K
    change Run _ _ _ _ _ _ _ _
    refine nv ?_
    refine Run.ret ?_
    refine Fin.ret' (h0 := h) (xs := [.agg zTm, iA e]) (by simp) rfl hh rfl (by simp) rfl (Weak.tup (WeakL.cons Weak.zT (WeakL.refl _))) (by simp) ⟨rfl, rfl⟩
set_option maxRecDepth 8000 in
set_option maxHeartbeats 4000000 in
theorem refAssign_any (h : Heap) (hh : WF h) (t : Tm) (vals : List Lv) (hsz : t.size ≤ 1048576) (hlv : t.lvs) (hbs : vals.length ≤ 1048576) (hbv : ∀ x ∈ vals, x.vars.length ≤ 1048576) :
    ACalls Tryz.prog 17 [t.av, .p (.sl 2 (lvPs vals))] h fun o h' => o = .ret (.tup [(resLv (lvF vals true) t).1.av, iA (resLv (lvF vals true) t).2]) ∧ h' = h := by
  have hs := fun (g : Heap) (hg : WF g) (id : Nat) (hid : g[id]? = some (wk 0 0)) => wlev_any vals true hbs hbv 0 t.size t 0 g id (Nat.le_refl _) hsz hlv hg hid
  obtain ⟨r, hr⟩ : ∃ r, resLv (lvF vals true) t = r := ⟨_, rfl⟩
  rw [hr]
  unfold resLv at hr
  generalize leT (lvF vals true) 0 t = e at hs hr
  generalize lvT (lvF vals true) t = u at hs hr
  obtain ⟨k, i, nm, ls, ks⟩ := t
  obtain ⟨k', i', nm', ls', ks'⟩ := u
  refine ACalls.of_run Tryz.func17 rfl ?_
  simp only [Tryz.ntmps17, List.length_cons, List.length_nil, Tm.av, cells_mk, List.map]
  refine nv ?_
  refine Run.reg fun K hK => ?_
  simp
  try (simp (disch := omega) only [wrap_id])
  refine hK _ _ _ ?_; clear hK K
  refine nv ?_
  refine Run.reg fun K hK => ?_
  simp
  try (simp (disch := omega) only [wrap_id])
  refine hK _ _ _ ?_; clear hK K
  refine nv ?_
  refine Run.reg fun K hK => ?_
  simp
  try (simp (disch := omega) only [wrap_id])
  refine hK _ _ _ ?_; clear hK K
  refine nv ?_
  refine Run.call (args := [.ptr (h.length + 2) 0, (Tm.mk k i nm ls ks).av, .p (.sl 2 (lvPs vals)), bA true]) rfl rfl (by simp) rfl (hs _ (hh.app (by simp)) (h.length + 2) (by simp)) ?_ ?_
  rotate_left
  · rintro v h' ⟨hv, _⟩; cases hv
  rintro v h' ⟨hv, rfl⟩
  simp only [AOut.ret.injEq] at hv
  subst hv
  refine Run.ops fun K hK => ?_
  simp
  try (simp (disch := omega) only [wrap_id])
  refine hK _ _ _ ?_; clear hK K
  refine nv ?_
  refine Run.reg fun K hK => ?_
  simp
  try (simp (disch := omega) only [wrap_id])
  refine hK _ _ _ ?_; clear hK K
  refine nv ?_
  by_cases he : e = 0
  · rw [if_pos he] at hr
    subst hr
    refine nv ?_
    refine Run.cond (b := false) (by simp [he]) ?_
    simp only [Bool.false_eq_true, if_false]
    refine nv ?_
    refine Run.reg fun K hK => ?_
    simp
    try (simp (disch := omega) only [wrap_id])
    refine hK _ _ _ ?_; clear hK K
    refine nv ?_
    refine Run.ret ?_
    refine Fin.ret' (h0 := h) (by simp) rfl hh rfl (by simp; rfl) rfl (Weak.refl _) (by simp) ⟨rfl, rfl⟩
  · rw [if_neg he] at hr
    subst hr
    refine nv ?_
    refine Run.cond (b := true) (by simp [he]) ?_
    simp only [if_true]
    refine nv ?_
    refine Run.draw [0, 0, 0, 0, 0, 0, 1] [0, 0, 0, 0, 0, 0, 0] [0, 0, 2, 6, 14, 1, 63] [0, 5, 1, 2, 3, 4, 6] (by kernel_rfl) (by kernel_rfl) ?_
    refine DR.go fun K hK => ?_
    simp
    try (simp (disch := omega) only [wrap_id])
    refine hK _ _ _ _ ?_; clear hK K
    change Run _ _ _ _ _ _ _ _
    refine nv ?_
    refine Run.ret ?_
    refine Fin.ret' (h0 := h) (xs := [.agg zTm, iA e]) (by simp) rfl hh rfl (by simp) rfl (Weak.tup (WeakL.cons Weak.zT (WeakL.refl _))) (by simp) ⟨rfl, rfl⟩
set_option maxRecDepth 4000 in
theorem levDef_bad (h : Heap) (hh : WF h) (p q : Nat) {a b c d e0 : AV} {c0 : AV} (hp : h[p]? = some (some (.cells [a, b, c, d, e0]))) (hq : h[q]? = some (some (.cells [c0]))) (hpq : p ≠ q) (e : Int) :
    ADef Tryz.prog 104 [.ptr p 0, .ptr q 0] (some (.p (errP e))) h ((h.set p (some (.cells zTm))).set q (some (.cells [iA e]))) := by
  obtain ⟨p1, p2, p3, p4, p5, p6⟩ := idf hp
  have hq2 : (h.set p (some (.cells zTm)))[q]? = some (some (.cells [c0])) := by rw [List.getElem?_set_ne hpq]; exact hq
  refine ADef.of_run Tryz.func104 rfl rfl rfl fun K hK => ?_
  simp only [Tryz.ntmps104, List.length_cons, List.length_nil]
  simp [recA]
  refine hK _ _ ?_; clear hK K
  have hu : Tryz.prog.underlying 20 = some (.interface #[]) := by kernel_rfl
  refine nv ?_
  refine Run.reg fun K hK => ?_
  simp [hu]
  try (simp (disch := omega) only [wrap_id])
  refine hK _ _ _ ?_; clear hK K
  refine nv ?_
  refine Run.cond (b := true) (by simp) ?_
  simp only [if_true]
  refine nv ?_
  refine Run.reg fun K hK => ?_
  simp
  try (simp (disch := omega) only [wrap_id])
  refine hK _ _ _ ?_; clear hK K
  refine nv ?_
  refine Run.call (args := [.p (errP e)]) rfl rfl (by simp) rfl (caught_any h hh e) ?_ ?_
  · rintro v h' ⟨hv, rfl⟩
    simp only [AOut.ret.injEq] at hv
    subst hv
    refine Run.ops fun K hK => ?_
    simp [hp, hq2]
    try (simp (disch := omega) only [wrap_id])
    refine hK _ _ _ ?_; clear hK K
    refine nv ?_
    refine Run.nil ?_
    refine Fin.ret' (by simp) (by simp) ((hh.set (by simp)).set (by simp)) (List.append_nil _).symm rfl rfl (Weak.refl _) rfl ⟨⟨_, rfl⟩, rfl⟩
  · rintro v h' ⟨hv, _⟩; cases hv
set_option maxRecDepth 4000 in
theorem levDef_ok (h : Heap) (hh : WF h) (p q : Nat) : ADef Tryz.prog 104 [.ptr p 0, .ptr q 0] none h h := by
  refine ADef.of_run Tryz.func104 rfl rfl rfl fun K hK => ?_
  simp only [Tryz.ntmps104, List.length_cons, List.length_nil]
  simp [recA]
  refine hK _ _ ?_; clear hK K
  have hu : Tryz.prog.underlying 20 = some (.interface #[]) := by kernel_rfl
  refine nv ?_
  refine Run.reg fun K hK => ?_
  simp [hu]
  try (simp (disch := omega) only [wrap_id])
  refine hK _ _ _ ?_; clear hK K
  refine nv ?_
  refine Run.cond (b := false) (by simp) ?_
  simp only [Bool.false_eq_true, if_false]
  refine nv ?_
  refine Run.nil ?_
  exact Fin.ret' (by simp) rfl hh (List.append_nil _).symm rfl rfl (Weak.refl _) rfl ⟨⟨_, rfl⟩, rfl⟩
set_option maxRecDepth 8000 in
set_option maxHeartbeats 8000000 in
theorem leveled_any (f : Lv → Lv × Int) (g : FuncId) (hg : enterable Tryz.prog g = true) (q : Nat) (h : Heap) (hh : WF h) (hq : q < h.length)
    (hR : ∀ l lv, lv.vars.length ≤ 1048576 → WF (h ++ l) → ACalls Tryz.prog g ([lv.av] ++ [.ptr q 0]) (h ++ l) fun o h' => o = .ret (.tup [(f lv).1.av, iA (f lv).2]) ∧ h' = h ++ l)
    (t : Tm) (hd : Dom 65536 t 0) :
    ACalls Tryz.prog 54 [t.av, .fn (.func g) [] [.ptr q 0]] h fun o h' => o = .ret (.tup [(resLv f t).1.av, iA (resLv f t).2]) ∧ h' = h := by
  obtain ⟨tc, htc⟩ : ∃ tc : List AV, tc = t.cells.map .p := ⟨_, rfl⟩
  have hr : resLv f t = match bld (visLv f) 0 t 0 with
    | .bad e _ => (zT, e)
    | .ok t' _ => (t', 0) := by
    rw [bld_lv]; unfold resLv
    by_cases c : leT f 0 t = 0
    · simp only [c, if_true]
    · simp only [c, if_false]
  generalize resLv f t = r at hr ⊢
  obtain ⟨H, hH⟩ : ∃ H : Heap, H = h ++ [some (.cells tc), some (.cells [.fn (.func g) [] [.ptr q 0]]), some (.cells zTm), some (.cells [iA 0])] := ⟨_, rfl⟩
  have hlen : H.length = h.length + 4 := by rw [hH]; simp
  have htu : ∀ n, AV.underL n tc = true := fun n => by rw [htc]; exact underL_p _ _
  have hwf : WF H := by rw [hH]; exact hh.app (by simp [htu]; omega)
  have hp : H[h.length + 1]? = some (some (.cells [.fn (.func g) [] [.ptr q 0]])) := by rw [hH]; simp
  have hbld := build_any (visLv f) 105 rfl [.ptr (h.length + 1) 0] (Dom 65536) (Dom.one) (Dom.two) t.size t 0 0 (fun _ => H) (h.length + 4) (Nat.le_refl _) hd (fun _ => hlen) (fun _ => hwf) (by simp)
    (fun s t d l hd hw => by
      have := lev2_any f g hg [.ptr q 0] (H ++ l) (h.length + 1) hw (fun l' => by rw [List.append_assoc]; exact (idf hp).1 (l ++ l')) (by rw [List.length_append, hlen]; omega)
        (fun l' lv hb hw' => by
          have := hR ([some (.cells tc), some (.cells [.fn (.func g) [] [.ptr q 0]]), some (.cells zTm), some (.cells [iA 0])] ++ (l ++ l')) lv hb (by rw [← List.append_assoc, ← hH, ← List.append_assoc]; exact hw')
          rw [← List.append_assoc, ← hH, ← List.append_assoc] at this
          exact this) s t d hd.lv
      refine this.mono ?_
      intro o h' hp
      cases hvv : visLv f s t d <;> rw [hvv] at hp <;> simp only [VPost, List.append_nil] at hp ⊢ <;> exact hp)
  generalize bld (visLv f) 0 t 0 = br at hbld hr
  obtain ⟨k, i, nm, ls, ks⟩ := t
  simp only [cells_mk, List.map] at htc
  subst htc
  refine ACalls.of_runD Tryz.func54 rfl ?_
  simp only [Tryz.ntmps54, List.length_cons, List.length_nil, Tm.av, cells_mk, List.map] at hbld ⊢
  refine nv ?_
  refine Run.reg fun K hK => ?_
  simp
  try (simp (disch := omega) only [wrap_id])
  refine hK _ _ _ ?_; clear hK K
  refine nv ?_
  refine Run.reg fun K hK => ?_
  simp
  try (simp (disch := omega) only [wrap_id])
  refine hK _ _ _ ?_; clear hK K
  refine nv ?_
  refine Run.defer (i := 104) (first := []) (cap := [.ptr (h.length + 2) 0, .ptr (h.length + 3) 0]) rfl rfl rfl (by simp) ?_
  refine Run.ops fun K hK => ?_
  simp
  try (simp (disch := omega) only [wrap_id])
  refine hK _ _ _ ?_; clear hK K
  refine nv ?_
  refine Run.reg fun K hK => ?_
  simp
  try (simp (disch := omega) only [wrap_id])
  refine hK _ _ _ ?_; clear hK K
  refine nv ?_
  simp only [hH] at hbld
  cases br with
  | bad e s1 =>
    simp only at hr
    subst hr
    refine Run.call (args := [.agg [.fn (.func 105) [] [.ptr (h.length + 1) 0]], (Tm.mk k i nm ls ks).av, iA 0]) rfl rfl (by simp) rfl hbld ?_ ?_
    · intro v h' hR; simp [BPost] at hR
    · intro v h' hR
      simp only [BPost, AOut.panic.injEq] at hR
      obtain ⟨rfl, rfl⟩ := hR
      simp only [FinD]
      refine ⟨by simp, rfl, _, levDef_bad _ (hh.app (by simp; omega)) (h.length + 2) (h.length + 3) (by simp; exact ⟨rfl, rfl, rfl, rfl, rfl⟩) (by simp; rfl) (by omega) e, ?_⟩
      simp
      refine Fin.ret' (h0 := h) (xs := [.agg zTm, iA e]) (by simp) rfl hh rfl (by simp) rfl (Weak.tup (WeakL.cons Weak.zT (WeakL.refl _))) (by simp) ⟨rfl, rfl⟩
  | ok t2 s1 =>
    simp only at hr
    subst hr
    refine Run.call (args := [.agg [.fn (.func 105) [] [.ptr (h.length + 1) 0]], (Tm.mk k i nm ls ks).av, iA 0]) rfl rfl (by simp) rfl hbld ?_ ?_
    rotate_left
    · intro v h' hR; simp [BPost] at hR
    intro v h' hR
    simp only [BPost, AOut.ret.injEq] at hR
    obtain ⟨rfl, rfl⟩ := hR
    obtain ⟨k2, i2, nm2, ls2, ks2⟩ := t2
    refine Run.ops fun K hK => ?_
    simp
    try (simp (disch := omega) only [wrap_id])
    refine hK _ _ _ ?_; clear hK K
    refine nv ?_
    refine Run.ret ?_
    simp only [FinD]
    refine ⟨by simp, rfl, _, levDef_ok _ (hh.app (by simp; omega)) (h.length + 2) (h.length + 3), ?_⟩
    refine Fin.ret' (h0 := h) (by simp) rfl hh rfl (by simp; rfl) rfl (Weak.refl _) (by simp) ⟨rfl, rfl⟩
set_option maxRecDepth 8000 in
theorem levClo_any (h : Heap) (hh : WF h) (vals : List Lv) (q : Nat) (hq : h[q]? = some (some (.cells [.p (.sl 2 (lvPs vals))]))) (l : Lv) (hb : l.vars.length ≤ 1048576) (hbs : vals.length ≤ 1048576) (hbv : ∀ x ∈ vals, x.vars.length ≤ 1048576) :
    ACalls Tryz.prog 55 [l.av, .ptr q 0] h fun o h' => o = .ret (.tup [(lvF vals false l).1.av, iA (lvF vals false l).2]) ∧ h' = h := by
  obtain ⟨p1, _⟩ := idf hq
  have hc := fun (g : Heap) (hg : WF g) => lsubst_any g hg l vals hb hbs hbv
  have e : lvF vals false l = substL l vals := rfl
  rw [e]
  generalize substL l vals = r at hc ⊢
  obtain ⟨c, v⟩ := l
  obtain ⟨⟨c', v'⟩, e⟩ := r
  simp only [Lv.av, Lv.cells, List.map] at hc ⊢
  refine ACalls.of_run Tryz.func55 rfl ?_
  simp only [Tryz.ntmps55, List.length_cons, List.length_nil]
  refine nv ?_
  refine Run.reg fun K hK => ?_
  simp
  try (simp (disch := omega) only [wrap_id])
  refine hK _ _ _ ?_; clear hK K
  refine nv ?_
  refine Run.reg fun K hK => ?_
  simp [p1]
  try (simp (disch := omega) only [wrap_id])
  refine hK _ _ _ ?_; clear hK K
  refine nv ?_
  refine Run.call rfl (by first | rfl | simp) (by simp) rfl (hc _ (hh.app (by simp))) ?_ ?_
  rotate_left
  · rintro v h' ⟨hv, _⟩; cases hv
  rintro v h' ⟨hv, rfl⟩
  simp only [AOut.ret.injEq] at hv
  subst hv
  refine Run.ops fun K hK => ?_
  simp
  try (simp (disch := omega) only [wrap_id])
  refine hK _ _ _ ?_; clear hK K
  refine nv ?_
  refine Run.ret ?_
  exact Fin.ret' (h0 := h) (by simp) rfl hh rfl (by simp; rfl) rfl (Weak.refl _) (by simp) ⟨rfl, rfl⟩
set_option maxRecDepth 8000 in
theorem asgClo_any (h : Heap) (hh : WF h) (vals : List Lv) (q : Nat) (hq : h[q]? = some (some (.cells [.p (.sl 2 (lvPs vals))]))) (l : Lv) (hb : l.vars.length ≤ 1048576) (hbs : vals.length ≤ 1048576) (hbv : ∀ x ∈ vals, x.vars.length ≤ 1048576) :
    ACalls Tryz.prog 58 [l.av, .ptr q 0] h fun o h' => o = .ret (.tup [(lvF vals true l).1.av, iA (lvF vals true l).2]) ∧ h' = h := by
  obtain ⟨p1, _⟩ := idf hq
  have hc := fun (g : Heap) (hg : WF g) => lassign_any g hg l vals hb hbs hbv
  have e : lvF vals true l = assignL l vals := rfl
  rw [e]
  generalize assignL l vals = r at hc ⊢
  obtain ⟨c, v⟩ := l
  obtain ⟨⟨c', v'⟩, e⟩ := r
  simp only [Lv.av, Lv.cells, List.map] at hc ⊢
  refine ACalls.of_run Tryz.func58 rfl ?_
  simp only [Tryz.ntmps58, List.length_cons, List.length_nil]
  refine nv ?_
  refine Run.reg fun K hK => ?_
  simp
  try (simp (disch := omega) only [wrap_id])
  refine hK _ _ _ ?_; clear hK K
  refine nv ?_
  refine Run.reg fun K hK => ?_
  simp [p1]
  try (simp (disch := omega) only [wrap_id])
  refine hK _ _ _ ?_; clear hK K
  refine nv ?_
  refine Run.call rfl (by first | rfl | simp) (by simp) rfl (hc _ (hh.app (by simp))) ?_ ?_
  rotate_left
  · rintro v h' ⟨hv, _⟩; cases hv
  rintro v h' ⟨hv, rfl⟩
  simp only [AOut.ret.injEq] at hv
  subst hv
  refine Run.ops fun K hK => ?_
  simp
  try (simp (disch := omega) only [wrap_id])
  refine hK _ _ _ ?_; clear hK K
  refine nv ?_
  refine Run.ret ?_
  exact Fin.ret' (h0 := h) (by simp) rfl hh rfl (by simp; rfl) rfl (Weak.refl _) (by simp) ⟨rfl, rfl⟩
set_option maxRecDepth 8000 in
theorem sLevels_any (h : Heap) (hh : WF h) (t : Tm) (vals : List Lv) (hd : Dom 65536 t 0) (hbs : vals.length ≤ 1048576) (hbv : ∀ x ∈ vals, x.vars.length ≤ 1048576) :
    ACalls Tryz.prog 14 [t.av, .p (.sl 2 (lvPs vals))] h fun o h' => o = .ret (.tup [(resLv (lvF vals false) t).1.av, iA (resLv (lvF vals false) t).2]) ∧ h' = h := by
  have hc := fun (g : Heap) (hg : WF g) (q : Nat) (hq : g[q]? = some (some (.cells [.p (.sl 2 (lvPs vals))]))) => leveled_any (lvF vals false) 55 rfl q g hg (List.getElem?_eq_some_iff.1 hq).1
    (fun l lv hb hw => levClo_any (g ++ l) hw vals q ((idf hq).1 l) lv hb hbs hbv) t hd
  generalize resLv (lvF vals false) t = r at hc ⊢
  obtain ⟨⟨k', i', n', ls', ks'⟩, e⟩ := r
  obtain ⟨k, i, nm, ls, ks⟩ := t
  refine ACalls.of_run Tryz.func14 rfl ?_
  simp only [Tryz.ntmps14, List.length_cons, List.length_nil, Tm.av, cells_mk, List.map]
  refine nv ?_
  refine Run.reg fun K hK => ?_
  simp
  try (simp (disch := omega) only [wrap_id])
  refine hK _ _ _ ?_; clear hK K
  refine nv ?_
  refine Run.reg fun K hK => ?_
  simp
  try (simp (disch := omega) only [wrap_id])
  refine hK _ _ _ ?_; clear hK K
  refine nv ?_
  refine Run.call (args := [(Tm.mk k i nm ls ks).av, .fn (.func 55) [] [.ptr (h.length + 1) 0]]) rfl (by first | rfl | simp) (by simp) rfl (hc _ (hh.app (by simp)) (h.length + 1) (by simp)) ?_ ?_
  rotate_left
  · rintro v h' ⟨hv, _⟩; cases hv
  rintro v h' ⟨hv, rfl⟩
  simp only [AOut.ret.injEq] at hv
  subst hv
  refine Run.ops fun K hK => ?_
  simp
  try (simp (disch := omega) only [wrap_id])
  refine hK _ _ _ ?_; clear hK K
  refine nv ?_
  refine Run.ret ?_
  exact Fin.ret' (h0 := h) (by simp) rfl hh rfl (by simp; rfl) rfl (Weak.refl _) (by simp) ⟨rfl, rfl⟩
set_option maxRecDepth 8000 in
theorem sAssign_any (h : Heap) (hh : WF h) (t : Tm) (vals : List Lv) (hd : Dom 65536 t 0) (hbs : vals.length ≤ 1048576) (hbv : ∀ x ∈ vals, x.vars.length ≤ 1048576) :
    ACalls Tryz.prog 16 [t.av, .p (.sl 2 (lvPs vals))] h fun o h' => o = .ret (.tup [(resLv (lvF vals true) t).1.av, iA (resLv (lvF vals true) t).2]) ∧ h' = h := by
  have hc := fun (g : Heap) (hg : WF g) (q : Nat) (hq : g[q]? = some (some (.cells [.p (.sl 2 (lvPs vals))]))) => leveled_any (lvF vals true) 58 rfl q g hg (List.getElem?_eq_some_iff.1 hq).1
    (fun l lv hb hw => asgClo_any (g ++ l) hw vals q ((idf hq).1 l) lv hb hbs hbv) t hd
  generalize resLv (lvF vals true) t = r at hc ⊢
  obtain ⟨⟨k', i', n', ls', ks'⟩, e⟩ := r
  obtain ⟨k, i, nm, ls, ks⟩ := t
  refine ACalls.of_run Tryz.func16 rfl ?_
  simp only [Tryz.ntmps16, List.length_cons, List.length_nil, Tm.av, cells_mk, List.map]
  refine nv ?_
  refine Run.reg fun K hK => ?_
  simp
  try (simp (disch := omega) only [wrap_id])
  refine hK _ _ _ ?_; clear hK K
  refine nv ?_
  refine Run.reg fun K hK => ?_
  simp
  try (simp (disch := omega) only [wrap_id])
  refine hK _ _ _ ?_; clear hK K
  refine nv ?_
  refine Run.call (args := [(Tm.mk k i nm ls ks).av, .fn (.func 58) [] [.ptr (h.length + 1) 0]]) rfl (by first | rfl | simp) (by simp) rfl (hc _ (hh.app (by simp)) (h.length + 1) (by simp)) ?_ ?_
  rotate_left
  · rintro v h' ⟨hv, _⟩; cases hv
  rintro v h' ⟨hv, rfl⟩
  simp only [AOut.ret.injEq] at hv
  subst hv
  refine Run.ops fun K hK => ?_
  simp
  try (simp (disch := omega) only [wrap_id])
  refine hK _ _ _ ?_; clear hK K
  refine nv ?_
  refine Run.ret ?_
  exact Fin.ret' (h0 := h) (by simp) rfl hh rfl (by simp; rfl) rfl (Weak.refl _) (by simp) ⟨rfl, rfl⟩

end Go.Proofs.YtcfcolkbeelegaaGreat
