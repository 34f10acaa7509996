/-
  Family, on both sides.
-/
import Derived.Test.YtppgpabjcenjdaaCX15

namespace Go.Proofs.Ytppgpabjcenjdaa

open Go Go.AI
def zDc : Dc := ⟨0, [], 0, zT, zT, 0, [], 0, zT, [], []⟩
def famZ (env : List Dc) (s : List UInt8) : Dc × Int × Bool := match findZ s env 0 with
  | some e => if e.k = 3 then ((env[e.at_.toNat]?).getD zDc, -1, true) else if e.k = 4 then ((env[e.at_.toNat]?).getD zDc, e.it, true) else if e.k = 5 then ((env[e.at_.toNat]?).getD zDc, -2, true) else (zDc, 0, false)
  | none => (zDc, 0, false)
theorem dc_weak0 : Weak (.agg [iA 0, .p (sP []), iA 0, iA 0, iA 0, .p (sP []), .p (.prim (.slice none 0 0)), .p (.prim (.slice none 0 0)), iA 0, iA 0, .p (sP []), .p (.prim (.slice none 0 0)), .p (.prim (.slice none 0 0)), iA 0, .p (.prim (.slice none 0 0)), iA 0, iA 0, iA 0, .p (sP []), .p (.prim (.slice none 0 0)), .p (.prim (.slice none 0 0)), .p (.prim (.slice none 0 0)), .p (.prim (.slice none 0 0))]) zDc.av := by
  simp only [zDc, Dc.av, Dc.cells, zT, cells_mk, List.map, lvPs, tmPs, List.cons_append, List.nil_append]
  refine Weak.agg ?_
  repeat' (first | exact WeakL.nil | apply WeakL.cons)
  all_goals first | exact Weak.refl _ | exact Weak.nil _
set_option maxRecDepth 8000 in
set_option maxHeartbeats 16000000 in
theorem family_any (h : Heap) (hh : WF h) (env : List Dc) (s : List UInt8) (hg : Env.good env) (hn : Env.short env) : ACalls Try.prog 164 [envA env, .p (sP s)] h fun o h' => o = .ret (.tup [(famZ env s).1.av, iA (famZ env s).2.1, bA (famZ env s).2.2]) ∧ h' = h := by
  have hl := hg.1
  have c1 := fun (g : Heap) (hw : WF g) => find_any g hw env s hg hn
  obtain ⟨r, hr⟩ : ∃ r, r = famZ env s := ⟨_, rfl⟩
  rw [← hr]
  unfold famZ at hr
  unfold resFind at c1
  have hok := findZ_ok s env 0
  cases hz : findZ s env 0 with
  | none =>
    rw [hz] at hr c1
    simp only [zEn, zT, En.av, En.cells, cells_mk, List.map, lvPs, tmPs] at c1 hr
    refine ACalls.of_run Try.func164 rfl ?_
    simp only [Try.ntmps164, List.length_cons, List.length_nil]
    refine Run.reg fun K hK => ?_
    simp
    refine hK _ _ _ ?_; clear hK K
    refine Run.reg fun K hK => ?_
    simp
    refine hK _ _ _ ?_; clear hK K
    refine Run.call rfl (by first | rfl | simp) (by simp) rfl (c1 _ (hh.app (by simp))) ?_ ?_
    rotate_left
    · rintro v h' ⟨hv, _⟩; cases hv
    rintro v h' ⟨hv, rfl⟩
    simp only [AOut.ret.injEq] at hv
    subst hv
    refine Run.ops fun K hK => ?_
    simp
    refine hK _ _ _ ?_; clear hK K
    refine Run.reg fun K hK => ?_
    simp
    refine hK _ _ _ ?_; clear hK K
    refine Run.cond (b := true) (by simp) ?_
    simp only [if_true]
    refine Run.reg fun K hK => ?_
    simp
    refine hK _ _ _ ?_; clear hK K
    refine Run.ret ?_
    refine Fin.ret' (h0 := h) (xs := [.agg [iA 0, .p (sP []), iA 0, iA 0, iA 0, .p (sP []), .p (.prim (.slice none 0 0)), .p (.prim (.slice none 0 0)), iA 0, iA 0, .p (sP []), .p (.prim (.slice none 0 0)), .p (.prim (.slice none 0 0)), iA 0, .p (.prim (.slice none 0 0)), iA 0, iA 0, iA 0, .p (sP []), .p (.prim (.slice none 0 0)), .p (.prim (.slice none 0 0)), .p (.prim (.slice none 0 0)), .p (.prim (.slice none 0 0))], iA 0, bA false]) (by simp) rfl hh rfl (by simp) rfl (y := .tup [zDc.av, iA 0, bA false]) (Weak.tup (WeakL.cons dc_weak0 (WeakL.refl _))) (by simp [zDc, Dc.av, Dc.cells, zT]) ⟨by rw [hr], rfl⟩
  | some e =>
    rw [hz] at hr c1
    obtain ⟨j, d, h1, h2, h3, h4, h5⟩ := hok e hz
    have hdl := dc_cells_len d
    obtain ⟨a1, a2, a3, a4, ⟨k, i, n, ls, ks⟩⟩ := e
    simp only [Nat.zero_add] at h1 h3 h4 h5
    subst h1
    simp only [Int.toNat_natCast, h2, Option.getD_some] at hr
    simp only [En.av, En.cells, cells_mk, List.map] at c1
    have hjl := (List.getElem?_eq_some_iff.1 h2).1
    obtain ⟨dc, hdc⟩ : ∃ dc, dc = d.cells.map AV.p := ⟨_, rfl⟩
    have hdu : ∀ n, AV.underL n dc = true := fun n => by rw [hdc]; simp
    have hdl' : dc.length = 23 := by rw [hdc]; simp [hdl]
    have htd : List.take 23 dc = dc := List.take_of_length_le (by omega)
    have hone : dc.all oneA = true := by
      rw [hdc, List.all_map]
      exact List.all_eq_true.2 fun _ _ => rfl
    have hpa : ∀ l : List AV, l.length = 23 → patch l 0 dc = dc := fun l hl' => by
      have := patch_full dc l [] (by rw [hl', hdl'])
      simpa only [List.append_nil] using this
    have hdav : d.av = .agg dc := by rw [hdc]; rfl
    refine ACalls.of_run Try.func164 rfl ?_
    simp only [Try.ntmps164, List.length_cons, List.length_nil]
    refine Run.reg fun K hK => ?_
    simp
    refine hK _ _ _ ?_; clear hK K
    refine Run.reg fun K hK => ?_
    simp
    refine hK _ _ _ ?_; clear hK K
    refine Run.call rfl (by first | rfl | simp) (by simp) rfl (c1 _ (hh.app (by simp))) ?_ ?_
    rotate_left
    · rintro v h' ⟨hv, _⟩; cases hv
    rintro v h' ⟨hv, rfl⟩
    simp only [AOut.ret.injEq] at hv
    subst hv
    refine Run.ops fun K hK => ?_
    simp
    refine hK _ _ _ ?_; clear hK K
    refine Run.reg fun K hK => ?_
    simp
    refine hK _ _ _ ?_; clear hK K
    refine Run.cond (b := false) (by simp) ?_
    simp only [Bool.false_eq_true, if_false]
    refine Run.reg fun K hK => ?_
    simp
    refine hK _ _ _ ?_; clear hK K
    by_cases e3 : a1 = 3
    · subst e3
      rw [if_pos rfl] at hr
      refine Run.reg fun K hK => ?_
      simp
      refine hK _ _ _ ?_; clear hK K
      refine Run.cond (b := true) (by simp) ?_
      simp only [if_true]
      refine Run.reg fun K hK => ?_
      simp [h2, hdl, ← hdc, htd, hdl', hone, hpa]
      refine hK _ _ _ ?_; clear hK K
      refine Run.ret ?_
      exact Fin.ret' (h0 := h) (by simp) rfl hh rfl (by simp [hdl', htd]; rfl) rfl (Weak.refl _) (by simp [hdu]) ⟨by rw [hr]; simp only [hdav]; rfl, rfl⟩
    rw [if_neg e3] at hr
    have e3' : (a1 == 3) = false := by simp [e3]
    by_cases e4 : a1 = 4
    · subst e4
      rw [if_pos rfl] at hr
      refine Run.reg fun K hK => ?_
      simp
      refine hK _ _ _ ?_; clear hK K
      refine Run.cond (b := false) (by simp) ?_
      simp only [Bool.false_eq_true, if_false]
      refine Run.reg fun K hK => ?_
      simp
      refine hK _ _ _ ?_; clear hK K
      refine Run.cond (b := true) (by simp) ?_
      simp only [if_true]
      refine Run.draw [0, 0, 0, 0, 0, 0, 0, 0, 1, 1] [0, 0, 0, 0, 0, 0, 0, 0, 0, 0] [0, 0, 2, 7, 15, 0, 32, 31, 255, 511] [0, 1, 2, 3, 4, 7, 5, 6, 8, 9] (by kernel_rfl) (by kernel_rfl) ?_
      refine DR.go fun K hK => ?_
      simp [h2, hdl, ← hdc, htd, hdl', hone, hpa]
      refine hK _ _ _ _ ?_; clear hK K
      change Run _ _ _ _ _ _ _ _
      refine Run.ret ?_
      exact Fin.ret' (h0 := h) (by simp) rfl hh rfl (by simp [hdl', htd]; rfl) rfl (Weak.refl _) (by simp [hdu]) ⟨by rw [hr]; simp only [hdav]; rfl, rfl⟩
    rw [if_neg e4] at hr
    have e4' : (a1 == 4) = false := by simp [e4]
    by_cases e5 : a1 = 5
    · subst e5
      rw [if_pos rfl] at hr
      refine Run.reg fun K hK => ?_
      simp
      refine hK _ _ _ ?_; clear hK K
      refine Run.cond (b := false) (by simp) ?_
      simp only [Bool.false_eq_true, if_false]
      refine Run.reg fun K hK => ?_
      simp
      refine hK _ _ _ ?_; clear hK K
      refine Run.cond (b := false) (by simp) ?_
      simp only [Bool.false_eq_true, if_false]
      refine Run.reg fun K hK => ?_
      simp
      refine hK _ _ _ ?_; clear hK K
      refine Run.cond (b := true) (by simp) ?_
      simp only [if_true]
      refine Run.reg fun K hK => ?_
      simp [h2, hdl, ← hdc, htd, hdl', hone, hpa]
      refine hK _ _ _ ?_; clear hK K
      refine Run.ret ?_
      exact Fin.ret' (h0 := h) (by simp) rfl hh rfl (by simp [hdl', htd]; rfl) rfl (Weak.refl _) (by simp [hdu]) ⟨by rw [hr]; simp only [hdav]; rfl, rfl⟩
    rw [if_neg e5] at hr
    have e5' : (a1 == 5) = false := by simp [e5]
    refine Run.reg fun K hK => ?_
    simp [e3']
    refine hK _ _ _ ?_; clear hK K
    refine Run.cond (b := false) (by simp) ?_
    simp only [Bool.false_eq_true, if_false]
    refine Run.reg fun K hK => ?_
    simp [e4']
    refine hK _ _ _ ?_; clear hK K
    refine Run.cond (b := false) (by simp) ?_
    simp only [Bool.false_eq_true, if_false]
    refine Run.reg fun K hK => ?_
    simp [e5']
    refine hK _ _ _ ?_; clear hK K
    refine Run.cond (b := false) (by simp) ?_
    simp only [Bool.false_eq_true, if_false]
    refine Run.reg fun K hK => ?_
    simp
    refine hK _ _ _ ?_; clear hK K
    refine Run.ret ?_
    refine Fin.ret' (h0 := h) (xs := [.agg [iA 0, .p (sP []), iA 0, iA 0, iA 0, .p (sP []), .p (.prim (.slice none 0 0)), .p (.prim (.slice none 0 0)), iA 0, iA 0, .p (sP []), .p (.prim (.slice none 0 0)), .p (.prim (.slice none 0 0)), iA 0, .p (.prim (.slice none 0 0)), iA 0, iA 0, iA 0, .p (sP []), .p (.prim (.slice none 0 0)), .p (.prim (.slice none 0 0)), .p (.prim (.slice none 0 0)), .p (.prim (.slice none 0 0))], iA 0, bA false]) (by simp) rfl hh rfl (by simp) rfl (y := .tup [zDc.av, iA 0, bA false]) (Weak.tup (WeakL.cons dc_weak0 (WeakL.refl _))) (by simp [zDc, Dc.av, Dc.cells, zT]) ⟨by rw [hr], rfl⟩
set_option maxRecDepth 8000 in
set_option maxHeartbeats 16000000 in
theorem refFamily_any (h : Heap) (hh : WF h) (env : List Dc) (s : List UInt8) (hg : Env.good env) (hn : Env.short env) : ACalls Try.prog 166 [envA env, .p (sP s)] h fun o h' => o = .ret (.tup [(famZ env s).1.av, iA (famZ env s).2.1, bA (famZ env s).2.2]) ∧ h' = h := by
  have hl := hg.1
  have c1 := fun (g : Heap) (hw : WF g) => refFind_any g hw env s hg hn
  obtain ⟨r, hr⟩ : ∃ r, r = famZ env s := ⟨_, rfl⟩
  rw [← hr]
  unfold famZ at hr
  unfold resFind at c1
  have hok := findZ_ok s env 0
  cases hz : findZ s env 0 with
  | none =>
    rw [hz] at hr c1
    simp only [zEn, zT, En.av, En.cells, cells_mk, List.map, lvPs, tmPs] at c1 hr
    refine ACalls.of_run Try.func166 rfl ?_
    simp only [Try.ntmps166, List.length_cons, List.length_nil]
    refine Run.reg fun K hK => ?_
    simp
    refine hK _ _ _ ?_; clear hK K
    refine Run.reg fun K hK => ?_
    simp
    refine hK _ _ _ ?_; clear hK K
    refine Run.call rfl (by first | rfl | simp) (by simp) rfl (c1 _ (hh.app (by simp))) ?_ ?_
    rotate_left
    · rintro v h' ⟨hv, _⟩; cases hv
    rintro v h' ⟨hv, rfl⟩
    simp only [AOut.ret.injEq] at hv
    subst hv
    refine Run.ops fun K hK => ?_
    simp
    refine hK _ _ _ ?_; clear hK K
    refine Run.reg fun K hK => ?_
    simp
    refine hK _ _ _ ?_; clear hK K
    refine Run.cond (b := true) (by simp) ?_
    simp only [if_true]
    refine Run.reg fun K hK => ?_
    simp
    refine hK _ _ _ ?_; clear hK K
    refine Run.ret ?_
    refine Fin.ret' (h0 := h) (xs := [.agg [iA 0, .p (sP []), iA 0, iA 0, iA 0, .p (sP []), .p (.prim (.slice none 0 0)), .p (.prim (.slice none 0 0)), iA 0, iA 0, .p (sP []), .p (.prim (.slice none 0 0)), .p (.prim (.slice none 0 0)), iA 0, .p (.prim (.slice none 0 0)), iA 0, iA 0, iA 0, .p (sP []), .p (.prim (.slice none 0 0)), .p (.prim (.slice none 0 0)), .p (.prim (.slice none 0 0)), .p (.prim (.slice none 0 0))], iA 0, bA false]) (by simp) rfl hh rfl (by simp) rfl (y := .tup [zDc.av, iA 0, bA false]) (Weak.tup (WeakL.cons dc_weak0 (WeakL.refl _))) (by simp [zDc, Dc.av, Dc.cells, zT]) ⟨by rw [hr], rfl⟩
  | some e =>
    rw [hz] at hr c1
    obtain ⟨j, d, h1, h2, h3, h4, h5⟩ := hok e hz
    have hdl := dc_cells_len d
    obtain ⟨a1, a2, a3, a4, ⟨k, i, n, ls, ks⟩⟩ := e
    simp only [Nat.zero_add] at h1 h3 h4 h5
    subst h1
    simp only [Int.toNat_natCast, h2, Option.getD_some] at hr
    simp only [En.av, En.cells, cells_mk, List.map] at c1
    have hjl := (List.getElem?_eq_some_iff.1 h2).1
    obtain ⟨dc, hdc⟩ : ∃ dc, dc = d.cells.map AV.p := ⟨_, rfl⟩
    have hdu : ∀ n, AV.underL n dc = true := fun n => by rw [hdc]; simp
    have hdl' : dc.length = 23 := by rw [hdc]; simp [hdl]
    have htd : List.take 23 dc = dc := List.take_of_length_le (by omega)
    have hone : dc.all oneA = true := by
      rw [hdc, List.all_map]
      exact List.all_eq_true.2 fun _ _ => rfl
    have hpa : ∀ l : List AV, l.length = 23 → patch l 0 dc = dc := fun l hl' => by
      have := patch_full dc l [] (by rw [hl', hdl'])
      simpa only [List.append_nil] using this
    have hdav : d.av = .agg dc := by rw [hdc]; rfl
    refine ACalls.of_run Try.func166 rfl ?_
    simp only [Try.ntmps166, List.length_cons, List.length_nil]
    refine Run.reg fun K hK => ?_
    simp
    refine hK _ _ _ ?_; clear hK K
    refine Run.reg fun K hK => ?_
    simp
    refine hK _ _ _ ?_; clear hK K
    refine Run.call rfl (by first | rfl | simp) (by simp) rfl (c1 _ (hh.app (by simp))) ?_ ?_
    rotate_left
    · rintro v h' ⟨hv, _⟩; cases hv
    rintro v h' ⟨hv, rfl⟩
    simp only [AOut.ret.injEq] at hv
    subst hv
    refine Run.ops fun K hK => ?_
    simp
    refine hK _ _ _ ?_; clear hK K
    refine Run.reg fun K hK => ?_
    simp
    refine hK _ _ _ ?_; clear hK K
    refine Run.cond (b := false) (by simp) ?_
    simp only [Bool.false_eq_true, if_false]
    refine Run.reg fun K hK => ?_
    simp
    refine hK _ _ _ ?_; clear hK K
    by_cases e3 : a1 = 3
    · subst e3
      rw [if_pos rfl] at hr
      refine Run.reg fun K hK => ?_
      simp
      refine hK _ _ _ ?_; clear hK K
      refine Run.cond (b := true) (by simp) ?_
      simp only [if_true]
      refine Run.reg fun K hK => ?_
      simp [h2, hdl, ← hdc, htd, hdl', hone, hpa]
      refine hK _ _ _ ?_; clear hK K
      refine Run.ret ?_
      exact Fin.ret' (h0 := h) (by simp) rfl hh rfl (by simp [hdl', htd]; rfl) rfl (Weak.refl _) (by simp [hdu]) ⟨by rw [hr]; simp only [hdav]; rfl, rfl⟩
    rw [if_neg e3] at hr
    have e3' : (a1 == 3) = false := by simp [e3]
    by_cases e4 : a1 = 4
    · subst e4
      rw [if_pos rfl] at hr
      refine Run.reg fun K hK => ?_
      simp
      refine hK _ _ _ ?_; clear hK K
      refine Run.cond (b := false) (by simp) ?_
      simp only [Bool.false_eq_true, if_false]
      refine Run.reg fun K hK => ?_
      simp
      refine hK _ _ _ ?_; clear hK K
      refine Run.cond (b := true) (by simp) ?_
      simp only [if_true]
      refine Run.draw [0, 0, 0, 0, 0, 0, 0, 0, 1, 1] [0, 0, 0, 0, 0, 0, 0, 0, 0, 0] [0, 0, 2, 7, 15, 0, 32, 31, 255, 511] [0, 1, 2, 3, 4, 7, 5, 6, 8, 9] (by kernel_rfl) (by kernel_rfl) ?_
      refine DR.go fun K hK => ?_
      simp [h2, hdl, ← hdc, htd, hdl', hone, hpa]
      refine hK _ _ _ _ ?_; clear hK K
      change Run _ _ _ _ _ _ _ _
      refine Run.ret ?_
      exact Fin.ret' (h0 := h) (by simp) rfl hh rfl (by simp [hdl', htd]; rfl) rfl (Weak.refl _) (by simp [hdu]) ⟨by rw [hr]; simp only [hdav]; rfl, rfl⟩
    rw [if_neg e4] at hr
    have e4' : (a1 == 4) = false := by simp [e4]
    by_cases e5 : a1 = 5
    · subst e5
      rw [if_pos rfl] at hr
      refine Run.reg fun K hK => ?_
      simp
      refine hK _ _ _ ?_; clear hK K
      refine Run.cond (b := false) (by simp) ?_
      simp only [Bool.false_eq_true, if_false]
      refine Run.reg fun K hK => ?_
      simp
      refine hK _ _ _ ?_; clear hK K
      refine Run.cond (b := false) (by simp) ?_
      simp only [Bool.false_eq_true, if_false]
      refine Run.reg fun K hK => ?_
      simp
      refine hK _ _ _ ?_; clear hK K
      refine Run.cond (b := true) (by simp) ?_
      simp only [if_true]
      refine Run.reg fun K hK => ?_
      simp [h2, hdl, ← hdc, htd, hdl', hone, hpa]
      refine hK _ _ _ ?_; clear hK K
      refine Run.ret ?_
      exact Fin.ret' (h0 := h) (by simp) rfl hh rfl (by simp [hdl', htd]; rfl) rfl (Weak.refl _) (by simp [hdu]) ⟨by rw [hr]; simp only [hdav]; rfl, rfl⟩
    rw [if_neg e5] at hr
    have e5' : (a1 == 5) = false := by simp [e5]
    refine Run.reg fun K hK => ?_
    simp [e3']
    refine hK _ _ _ ?_; clear hK K
    refine Run.cond (b := false) (by simp) ?_
    simp only [Bool.false_eq_true, if_false]
    refine Run.reg fun K hK => ?_
    simp [e4']
    refine hK _ _ _ ?_; clear hK K
    refine Run.cond (b := false) (by simp) ?_
    simp only [Bool.false_eq_true, if_false]
    refine Run.reg fun K hK => ?_
    simp [e5']
    refine hK _ _ _ ?_; clear hK K
    refine Run.cond (b := false) (by simp) ?_
    simp only [Bool.false_eq_true, if_false]
    refine Run.reg fun K hK => ?_
    simp
    refine hK _ _ _ ?_; clear hK K
    refine Run.ret ?_
    refine Fin.ret' (h0 := h) (xs := [.agg [iA 0, .p (sP []), iA 0, iA 0, iA 0, .p (sP []), .p (.prim (.slice none 0 0)), .p (.prim (.slice none 0 0)), iA 0, iA 0, .p (sP []), .p (.prim (.slice none 0 0)), .p (.prim (.slice none 0 0)), iA 0, .p (.prim (.slice none 0 0)), iA 0, iA 0, iA 0, .p (sP []), .p (.prim (.slice none 0 0)), .p (.prim (.slice none 0 0)), .p (.prim (.slice none 0 0)), .p (.prim (.slice none 0 0))], iA 0, bA false]) (by simp) rfl hh rfl (by simp) rfl (y := .tup [zDc.av, iA 0, bA false]) (Weak.tup (WeakL.cons dc_weak0 (WeakL.refl _))) (by simp [zDc, Dc.av, Dc.cells, zT]) ⟨by rw [hr], rfl⟩

end Go.Proofs.Ytppgpabjcenjdaa
