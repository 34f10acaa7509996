import Derived.Test.YtcfcolkbeelegaaGreatVX15
import Derived.Test.YtcfcolkbeelegaaGreatVV0
import Derived.Scope
import Derived.Test.YtcfcolkbeelegaaGreatVX1
import Derived.Test.YtcfcolkbeelegaaGreatVX12
set_option maxRecDepth 8000
set_option maxHeartbeats 16000000

namespace Go.Proofs.YtcfcolkbeelegaaGreat

open Go Go.AI
def zDc : Dc := ⟨0, [], 0, zT, zT, 0, [], 0, zT, [], []⟩
def famZ (env : List Dc) (s : List UInt8) : Dc × Int × Bool := match findZ s env 0 with
 | some e => if e.k = 3 then ((env[e.at_.toNat]?).getD zDc, -1, true) else if e.k = 4 then ((env[e.at_.toNat]?).getD zDc, e.it, true) else if e.k = 5 then ((env[e.at_.toNat]?).getD zDc, -2, true) else (zDc, 0, false)
 | none => (zDc, 0, false)
theorem dc_weak0 : Weak (.agg [iA 0, .p (sP []), iA 0, iA 0, iA 0, .p (sP []), .p (.prim (.slice none 0 0)), .p (.prim (.slice none 0 0)), iA 0, iA 0, .p (sP []), .p (.prim (.slice none 0 0)), .p (.prim (.slice none 0 0)), iA 0, .p (.prim (.slice none 0 0)), iA 0, iA 0, iA 0, .p (sP []), .p (.prim (.slice none 0 0)), .p (.prim (.slice none 0 0)), .p (.prim (.slice none 0 0)), .p (.prim (.slice none 0 0))]) zDc.av := by
 simp only [zDc, Dc.av, Dc.cells, zT, cells_mk, List.map, lvPs, tmPs, List.cons_append, List.nil_append]
 refine Weak.agg ?_
 repeat' first | exact wn | apply wc
 all_goals first | exact Weak.refl _ | exact Weak.nil _
theorem family_any (h : Heap) (hh : WF h) (env : List Dc) (s : List UInt8) (hg : Env.good env) (hn : Env.short env) : ACalls Tryz.prog 171 [envA env, .p (sP s)] h fun o h' => o = .ret (.tup [(famZ env s).1.av, iA (famZ env s).2.1, bA (famZ env s).2.2]) ∧ h' = h := by
 have hl := hg.1
 have c1 := fun (g : Heap) (hw : WF g) => find_any g hw env s hg hn
 obtain ⟨r, hr⟩ : ∃ r, r = famZ env s := ⟨_, rfl⟩
 rw [← hr]
 unfold famZ at hr
 unfold resFind at c1
 have hok := findZ_ok s env 0
 cases hz : findZ s env 0 with
 | none =>
  rw [hz] at hr c1
  simp only [zEn, zT, En.av, En.cells, cells_mk, List.map, lvPs, tmPs] at c1 hr
  refine ACalls.of_run Tryz.func171 rfl ?_
  simp only [Tryz.ntmps171, List.length_cons, List.length_nil]
  refine nv ?_
  refine Run.reg fun K J => ?_
  simp
  refine J _ _ _ (nv ?_); clear J
  refine Run.reg fun K J => ?_
  simp
  refine J _ _ _ ?_; clear J
  refine rl rfl (by first | rfl | simp) (by simp) rfl (c1 _ (hh.app (by simp))) ?_
  refine Run.ops fun K J => ?_
  simp
  refine J _ _ _ (nv ?_); clear J
  refine Run.reg fun K J => ?_
  simp
  refine J _ _ _ (nv ?_); clear J
  refine ct (by simp) (nv ?_)
  refine Run.reg fun K J => ?_
  simp
  refine J _ _ _ (nv ?_); clear J
  refine Run.ret ?_
  refine Fin.ret' (h0 := h) (xs := [.agg [iA 0, .p (sP []), iA 0, iA 0, iA 0, .p (sP []), .p (.prim (.slice none 0 0)), .p (.prim (.slice none 0 0)), iA 0, iA 0, .p (sP []), .p (.prim (.slice none 0 0)), .p (.prim (.slice none 0 0)), iA 0, .p (.prim (.slice none 0 0)), iA 0, iA 0, iA 0, .p (sP []), .p (.prim (.slice none 0 0)), .p (.prim (.slice none 0 0)), .p (.prim (.slice none 0 0)), .p (.prim (.slice none 0 0))], iA 0, bA false]) (by simp) rfl hh rfl (by simp) rfl (y := .tup [zDc.av, iA 0, bA false]) (Weak.tup (WeakL.cons dc_weak0 (WeakL.refl _))) (by simp [zDc, Dc.av, Dc.cells, zT]) ⟨by rw [hr], rfl⟩
 | some e =>
  rw [hz] at hr c1
  obtain ⟨j, d, h1, h2, h3, h4, h5⟩ := hok e hz
  have hdl := dc_cells_len d
  obtain ⟨a1, a2, a3, a4, ⟨k, i, n, ls, ks⟩⟩ := e
  simp only [Nat.zero_add] at h1 h3 h4 h5
  subst h1
  simp only [Int.toNat_natCast, h2, Option.getD_some] at hr
  simp only [En.av, En.cells, cells_mk, List.map] at c1
  have hjl := (List.getElem?_eq_some_iff.1 h2).1
  obtain ⟨dc, hdc⟩ : ∃ dc, dc = d.cells.map AV.p := ⟨_, rfl⟩
  have hdu : ∀ n, AV.underL n dc = true := fun n => by rw [hdc]; simp
  have hdl' : dc.length = 23 := by rw [hdc]; simp [hdl]
  have htd : List.take 23 dc = dc := List.take_of_length_le (by omega)
  have hone : dc.all oneA = true := by
   rw [hdc, List.all_map]
   exact List.all_eq_true.2 fun _ _ => rfl
  have hpa : ∀ l : List AV, l.length = 23 → patch l 0 dc = dc := fun l hl' => by
   have := patch_full dc l [] (by rw [hl', hdl'])
   simpa only [List.append_nil] using this
  have hdav : d.av = .agg dc := by rw [hdc]; rfl
  refine ACalls.of_run Tryz.func171 rfl ?_
  simp only [Tryz.ntmps171, List.length_cons, List.length_nil]
  refine nv ?_
  refine Run.reg fun K J => ?_
  simp
  refine J _ _ _ (nv ?_); clear J
  refine Run.reg fun K J => ?_
  simp
  refine J _ _ _ ?_; clear J
  refine rl rfl (by first | rfl | simp) (by simp) rfl (c1 _ (hh.app (by simp))) ?_
  refine Run.ops fun K J => ?_
  simp
  refine J _ _ _ (nv ?_); clear J
  refine Run.reg fun K J => ?_
  simp
  refine J _ _ _ (nv ?_); clear J
  refine cf (by simp) (nv ?_)
  refine Run.reg fun K J => ?_
  simp
  refine J _ _ _ (nv ?_); clear J
  by_cases e3 : a1 = 3
  ·subst e3
   rw [if_pos rfl] at hr
   refine Run.reg fun K J => ?_
   simp
   refine J _ _ _ (nv ?_); clear J
   refine ct (by simp) (nv ?_)
   refine Run.reg fun K J => ?_
   simp [h2, hdl, ← hdc, htd, hdl', hone, hpa]
   refine J _ _ _ (nv ?_); clear J
   refine Run.ret ?_
   exact Fin.ret' (h0 := h) (by simp) rfl hh rfl (by simp [hdl', htd]; rfl) rfl (Weak.refl _) (by simp [hdu]) ⟨by rw [hr]; simp only [hdav]; rfl, rfl⟩
  rw [if_neg e3] at hr
  have e3' : (a1 == 3) = false := by simp [e3]
  by_cases e4 : a1 = 4
  ·subst e4
   rw [if_pos rfl] at hr
   refine Run.reg fun K J => ?_
   simp
   refine J _ _ _ (nv ?_); clear J
   refine cf (by simp) (nv ?_)
   refine Run.reg fun K J => ?_
   simp
   refine J _ _ _ (nv ?_); clear J
   refine ct (by simp) (nv ?_)
   refine Run.draw [0, 0, 0, 0, 0, 0, 0, 0, 1, 1] [0, 0, 0, 0, 0, 0, 0, 0, 0, 0] [0, 0, 2, 7, 15, 0, 32, 31, 255, 511] [0, 1, 2, 3, 4, 7, 5, 6, 8, 9] (by kernel_rfl) (by kernel_rfl) ?_
   refine DR.go fun K J => ?_
   simp [h2, hdl, ← hdc, htd, hdl', hone, hpa]
   refine J _ _ _ _ ?_; clear J
   change Run _ _ _ _ _ _ _ _
   refine Run.ret ?_
   exact Fin.ret' (h0 := h) (by simp) rfl hh rfl (by simp [hdl', htd]; rfl) rfl (Weak.refl _) (by simp [hdu]) ⟨by rw [hr]; simp only [hdav]; rfl, rfl⟩
  rw [if_neg e4] at hr
  have e4' : (a1 == 4) = false := by simp [e4]
  by_cases e5 : a1 = 5
  ·subst e5
   rw [if_pos rfl] at hr
   refine Run.reg fun K J => ?_
   simp
   refine J _ _ _ (nv ?_); clear J
   refine cf (by simp) (nv ?_)
   refine Run.reg fun K J => ?_
   simp
   refine J _ _ _ (nv ?_); clear J
   refine cf (by simp) (nv ?_)
   refine Run.reg fun K J => ?_
   simp
   refine J _ _ _ (nv ?_); clear J
   refine ct (by simp) (nv ?_)
   refine Run.reg fun K J => ?_
   simp [h2, hdl, ← hdc, htd, hdl', hone, hpa]
   refine J _ _ _ (nv ?_); clear J
   refine Run.ret ?_
   exact Fin.ret' (h0 := h) (by simp) rfl hh rfl (by simp [hdl', htd]; rfl) rfl (Weak.refl _) (by simp [hdu]) ⟨by rw [hr]; simp only [hdav]; rfl, rfl⟩
  rw [if_neg e5] at hr
  have e5' : (a1 == 5) = false := by simp [e5]
  refine Run.reg fun K J => ?_
  simp [e3']
  refine J _ _ _ (nv ?_); clear J
  refine cf (by simp) (nv ?_)
  refine Run.reg fun K J => ?_
  simp [e4']
  refine J _ _ _ (nv ?_); clear J
  refine cf (by simp) (nv ?_)
  refine Run.reg fun K J => ?_
  simp [e5']
  refine J _ _ _ (nv ?_); clear J
  refine cf (by simp) (nv ?_)
  refine Run.reg fun K J => ?_
  simp
  refine J _ _ _ (nv ?_); clear J
  refine Run.ret ?_
  refine Fin.ret' (h0 := h) (xs := [.agg [iA 0, .p (sP []), iA 0, iA 0, iA 0, .p (sP []), .p (.prim (.slice none 0 0)), .p (.prim (.slice none 0 0)), iA 0, iA 0, .p (sP []), .p (.prim (.slice none 0 0)), .p (.prim (.slice none 0 0)), iA 0, .p (.prim (.slice none 0 0)), iA 0, iA 0, iA 0, .p (sP []), .p (.prim (.slice none 0 0)), .p (.prim (.slice none 0 0)), .p (.prim (.slice none 0 0)), .p (.prim (.slice none 0 0))], iA 0, bA false]) (by simp) rfl hh rfl (by simp) rfl (y := .tup [zDc.av, iA 0, bA false]) (Weak.tup (WeakL.cons dc_weak0 (WeakL.refl _))) (by simp [zDc, Dc.av, Dc.cells, zT]) ⟨by rw [hr], rfl⟩
theorem refFamily_any (h : Heap) (hh : WF h) (env : List Dc) (s : List UInt8) (hg : Env.good env) (hn : Env.short env) : ACalls Tryz.prog 133 [envA env, .p (sP s)] h fun o h' => o = .ret (.tup [(famZ env s).1.av, iA (famZ env s).2.1, bA (famZ env s).2.2]) ∧ h' = h := by
 have hl := hg.1
 have c1 := fun (g : Heap) (hw : WF g) => refFind_any g hw env s hg hn
 obtain ⟨r, hr⟩ : ∃ r, r = famZ env s := ⟨_, rfl⟩
 rw [← hr]
 unfold famZ at hr
 unfold resFind at c1
 have hok := findZ_ok s env 0
 cases hz : findZ s env 0 with
 | none =>
  rw [hz] at hr c1
  simp only [zEn, zT, En.av, En.cells, cells_mk, List.map, lvPs, tmPs] at c1 hr
  refine ACalls.of_run Tryz.func133 rfl ?_
  simp only [Tryz.ntmps133, List.length_cons, List.length_nil]
  refine nv ?_
  refine Run.reg fun K J => ?_
  simp
  refine J _ _ _ (nv ?_); clear J
  refine Run.reg fun K J => ?_
  simp
  refine J _ _ _ ?_; clear J
  refine rl rfl (by first | rfl | simp) (by simp) rfl (c1 _ (hh.app (by simp))) ?_
  refine Run.ops fun K J => ?_
  simp
  refine J _ _ _ (nv ?_); clear J
  refine Run.reg fun K J => ?_
  simp
  refine J _ _ _ (nv ?_); clear J
  refine ct (by simp) (nv ?_)
  refine Run.reg fun K J => ?_
  simp
  refine J _ _ _ (nv ?_); clear J
  refine Run.ret ?_
  refine Fin.ret' (h0 := h) (xs := [.agg [iA 0, .p (sP []), iA 0, iA 0, iA 0, .p (sP []), .p (.prim (.slice none 0 0)), .p (.prim (.slice none 0 0)), iA 0, iA 0, .p (sP []), .p (.prim (.slice none 0 0)), .p (.prim (.slice none 0 0)), iA 0, .p (.prim (.slice none 0 0)), iA 0, iA 0, iA 0, .p (sP []), .p (.prim (.slice none 0 0)), .p (.prim (.slice none 0 0)), .p (.prim (.slice none 0 0)), .p (.prim (.slice none 0 0))], iA 0, bA false]) (by simp) rfl hh rfl (by simp) rfl (y := .tup [zDc.av, iA 0, bA false]) (Weak.tup (WeakL.cons dc_weak0 (WeakL.refl _))) (by simp [zDc, Dc.av, Dc.cells, zT]) ⟨by rw [hr], rfl⟩
 | some e =>
  rw [hz] at hr c1
  obtain ⟨j, d, h1, h2, h3, h4, h5⟩ := hok e hz
  have hdl := dc_cells_len d
  obtain ⟨a1, a2, a3, a4, ⟨k, i, n, ls, ks⟩⟩ := e
  simp only [Nat.zero_add] at h1 h3 h4 h5
  subst h1
  simp only [Int.toNat_natCast, h2, Option.getD_some] at hr
  simp only [En.av, En.cells, cells_mk, List.map] at c1
  have hjl := (List.getElem?_eq_some_iff.1 h2).1
  obtain ⟨dc, hdc⟩ : ∃ dc, dc = d.cells.map AV.p := ⟨_, rfl⟩
  have hdu : ∀ n, AV.underL n dc = true := fun n => by rw [hdc]; simp
  have hdl' : dc.length = 23 := by rw [hdc]; simp [hdl]
  have htd : List.take 23 dc = dc := List.take_of_length_le (by omega)
  have hone : dc.all oneA = true := by
   rw [hdc, List.all_map]
   exact List.all_eq_true.2 fun _ _ => rfl
  have hpa : ∀ l : List AV, l.length = 23 → patch l 0 dc = dc := fun l hl' => by
   have := patch_full dc l [] (by rw [hl', hdl'])
   simpa only [List.append_nil] using this
  have hdav : d.av = .agg dc := by rw [hdc]; rfl
  refine ACalls.of_run Tryz.func133 rfl ?_
  simp only [Tryz.ntmps133, List.length_cons, List.length_nil]
  refine nv ?_
  refine Run.reg fun K J => ?_
  simp
  refine J _ _ _ (nv ?_); clear J
  refine Run.reg fun K J => ?_
  simp
  refine J _ _ _ ?_; clear J
  refine rl rfl (by first | rfl | simp) (by simp) rfl (c1 _ (hh.app (by simp))) ?_
  refine Run.ops fun K J => ?_
  simp
  refine J _ _ _ (nv ?_); clear J
  refine Run.reg fun K J => ?_
  simp
  refine J _ _ _ (nv ?_); clear J
  refine cf (by simp) (nv ?_)
  refine Run.reg fun K J => ?_
  simp
  refine J _ _ _ (nv ?_); clear J
  by_cases e3 : a1 = 3
  ·subst e3
   rw [if_pos rfl] at hr
   refine Run.reg fun K J => ?_
   simp
   refine J _ _ _ (nv ?_); clear J
   refine ct (by simp) (nv ?_)
   refine Run.reg fun K J => ?_
   simp [h2, hdl, ← hdc, htd, hdl', hone, hpa]
   refine J _ _ _ (nv ?_); clear J
   refine Run.ret ?_
   exact Fin.ret' (h0 := h) (by simp) rfl hh rfl (by simp [hdl', htd]; rfl) rfl (Weak.refl _) (by simp [hdu]) ⟨by rw [hr]; simp only [hdav]; rfl, rfl⟩
  rw [if_neg e3] at hr
  have e3' : (a1 == 3) = false := by simp [e3]
  by_cases e4 : a1 = 4
  ·subst e4
   rw [if_pos rfl] at hr
   refine Run.reg fun K J => ?_
   simp
   refine J _ _ _ (nv ?_); clear J
   refine cf (by simp) (nv ?_)
   refine Run.reg fun K J => ?_
   simp
   refine J _ _ _ (nv ?_); clear J
   refine ct (by simp) (nv ?_)
   refine Run.draw [0, 0, 0, 0, 0, 0, 0, 0, 1, 1] [0, 0, 0, 0, 0, 0, 0, 0, 0, 0] [0, 0, 2, 7, 15, 0, 32, 31, 255, 511] [0, 1, 2, 3, 4, 7, 5, 6, 8, 9] (by kernel_rfl) (by kernel_rfl) ?_
   refine DR.go fun K J => ?_
   simp [h2, hdl, ← hdc, htd, hdl', hone, hpa]
   refine J _ _ _ _ ?_; clear J
   change Run _ _ _ _ _ _ _ _
   refine Run.ret ?_
   exact Fin.ret' (h0 := h) (by simp) rfl hh rfl (by simp [hdl', htd]; rfl) rfl (Weak.refl _) (by simp [hdu]) ⟨by rw [hr]; simp only [hdav]; rfl, rfl⟩
  rw [if_neg e4] at hr
  have e4' : (a1 == 4) = false := by simp [e4]
  by_cases e5 : a1 = 5
  ·subst e5
   rw [if_pos rfl] at hr
   refine Run.reg fun K J => ?_
   simp
   refine J _ _ _ (nv ?_); clear J
   refine cf (by simp) (nv ?_)
   refine Run.reg fun K J => ?_
   simp
   refine J _ _ _ (nv ?_); clear J
   refine cf (by simp) (nv ?_)
   refine Run.reg fun K J => ?_
   simp
   refine J _ _ _ (nv ?_); clear J
   refine ct (by simp) (nv ?_)
   refine Run.reg fun K J => ?_
   simp [h2, hdl, ← hdc, htd, hdl', hone, hpa]
   refine J _ _ _ (nv ?_); clear J
   refine Run.ret ?_
   exact Fin.ret' (h0 := h) (by simp) rfl hh rfl (by simp [hdl', htd]; rfl) rfl (Weak.refl _) (by simp [hdu]) ⟨by rw [hr]; simp only [hdav]; rfl, rfl⟩
  rw [if_neg e5] at hr
  have e5' : (a1 == 5) = false := by simp [e5]
  refine Run.reg fun K J => ?_
  simp [e3']
  refine J _ _ _ (nv ?_); clear J
  refine cf (by simp) (nv ?_)
  refine Run.reg fun K J => ?_
  simp [e4']
  refine J _ _ _ (nv ?_); clear J
  refine cf (by simp) (nv ?_)
  refine Run.reg fun K J => ?_
  simp [e5']
  refine J _ _ _ (nv ?_); clear J
  refine cf (by simp) (nv ?_)
  refine Run.reg fun K J => ?_
  simp
  refine J _ _ _ (nv ?_); clear J
  refine Run.ret ?_
  refine Fin.ret' (h0 := h) (xs := [.agg [iA 0, .p (sP []), iA 0, iA 0, iA 0, .p (sP []), .p (.prim (.slice none 0 0)), .p (.prim (.slice none 0 0)), iA 0, iA 0, .p (sP []), .p (.prim (.slice none 0 0)), .p (.prim (.slice none 0 0)), iA 0, .p (.prim (.slice none 0 0)), iA 0, iA 0, iA 0, .p (sP []), .p (.prim (.slice none 0 0)), .p (.prim (.slice none 0 0)), .p (.prim (.slice none 0 0)), .p (.prim (.slice none 0 0))], iA 0, bA false]) (by simp) rfl hh rfl (by simp) rfl (y := .tup [zDc.av, iA 0, bA false]) (Weak.tup (WeakL.cons dc_weak0 (WeakL.refl _))) (by simp [zDc, Dc.av, Dc.cells, zT]) ⟨by rw [hr], rfl⟩

end Go.Proofs.YtcfcolkbeelegaaGreat

namespace Go.AI

open Go
theorem ACalls.plain {P : Program} {f : FuncId} {args : List AV} {h : Heap} {R R' : AOut → Heap → Prop} (hh : WF h) (c : ACalls P f args h R) (hR : ∀ o h', R o h' → ∃ x y l, o = .ret x ∧ h' = h ++ l ∧ Weak x y ∧ y.under h.length = true ∧ R' (.ret y) h) : ACalls P f args h R' := by
 intro E w vs h1 h2 h3
 refine (c E w vs h1 h2 h3).mono ?_
 rintro e w' ⟨out, h', E', hr, r2, f2, ho, fr⟩
 obtain ⟨x, y, l, rfl, rfl, hw, hy, hR'⟩ := hR _ _ hr
 obtain ⟨v, he, hv⟩ := ho
 have a1 := r2.cut h.length (by rw [take_last]; exact hh)
 have a2 := Fresh.cut E' (m := h.length) (h := h ++ l) (by simp)
 have a3 := (fr.toN h.length).cut h2 (m := h.length) (Nat.le_refl _)
 rw [take_last] at a1 a2 a3
 exact ⟨.ret y, h, E'.cut h.length, hR', a1, a2, ⟨v, he, (hw _ _ _ hv).cut hy⟩, a3⟩

end Go.AI

namespace Go.Proofs.YtcfcolkbeelegaaGreat

open Go Go.AI
theorem spine44' (h : Heap) (hh : WF h) (t : Tm) (hsz : t.size ≤ 1048576) : ACalls Tryz.prog 137 [t.av] h fun o h' => o = .ret (.tup [(resSpine t).1.av, .p (.sl 5 (tmPs (resSpine t).2))]) ∧ h' = h :=
 ACalls.plain hh (spine44_any t.size t h (Nat.le_refl _) hsz hh) (by
  rintro o h' ⟨G, hG, rfl, rfl⟩
  exact ⟨_, _, _, rfl, rfl, Weak.tup (WeakL.cons (Weak.refl _) (WeakL.cons (Weak.own _ _ _) WeakL.nil)), by simp, rfl, rfl⟩)
@[simp] theorem tmPs_take (l : List Tm) (n : Nat) : (tmPs l).take n = tmPs (l.take n) := by simp [tmPs_eq]
@[simp] theorem tmPs_drop (l : List Tm) (n : Nat) : (tmPs l).drop n = tmPs (l.drop n) := by simp [tmPs_eq]


open Go Go.AI

structure Rc where
 i : Nat
 bs : List Tm
 ix : List Tm
def Rc.cells (r : Rc) : List PV := [iP r.i, .sl 5 (tmPs r.bs), .sl 5 (tmPs r.ix)]
def rcPs (l : List Rc) : List (List PV) := l.map Rc.cells
@[simp] theorem rcPs_length (l : List Rc) : (rcPs l).length = l.length := by simp [rcPs]
@[simp] theorem rcPs_get (l : List Rc) (i : Nat) : (rcPs l)[i]? = (l[i]?).map Rc.cells := by simp [rcPs]

structure Cn where
 nm : List UInt8
 fs : List Tm
 rc : List Rc
 ix : List Tm
def Cn.cells (c : Cn) : List PV := [sP c.nm, .sl 5 (tmPs c.fs), .sl 3 (rcPs c.rc), .sl 5 (tmPs c.ix)]
def cnPs (l : List Cn) : List (List PV) := l.map Cn.cells
@[simp] theorem cnPs_length (l : List Cn) : (cnPs l).length = l.length := by simp [cnPs]
@[simp] theorem cnPs_get (l : List Cn) (i : Nat) : (cnPs l)[i]? = (l[i]?).map Cn.cells := by simp [cnPs]
theorem all_ok (t : Tm) (hl : t.lvs) (hs : t.size ≤ 1048576) : (∀ u ∈ (resAll t).1, u.lvs ∧ u.size ≤ 1048576) ∧ (resAll t).2.lvs ∧ (resAll t).2.size ≤ 1048576 ∧ (resAll t).1.length ≤ t.size := by
 have := allF_ok 6 1048576 t.size [] t (by simp) hl hs
 simpa [resAll] using this


open Go Go.AI

structure DcOk (d : Dc) : Prop where
 ps0 : 0 ≤ d.ps
 ps8 : d.ps ≤ 8
 fx0 : 0 ≤ d.fx
 fix : d.k = 3 → fixB d = true
theorem dcOk_of {env : List Dc} (h : EnvOk env) {j : Nat} {d : Dc} (hg : env[j]? = some d) : DcOk d := by
 have h0 := h j d hg
 unfold declZ at h0
 split at h0
 ·simp at h0
 split at h0
 ·simp at h0
 split at h0
 ·rename_i hc; exact absurd h0 hc
 rename_i hc
 have hc : countsZ d = 0 := by simpa using hc
 unfold countsZ at hc
 split at hc
 ·simp at hc
 rename_i h1
 split at hc
 ·simp at hc
 split at hc
 ·simp at hc
 split at hc
 ·simp at hc
 rename_i h4
 simp only [Bool.or_eq_true, decide_eq_true_eq, not_or] at h1
 refine ⟨by omega, by omega, by omega, fun hk => ?_⟩
 cases hf : fixB d with
 | true => rfl
 | false => exact absurd ⟨hk, .inr (.inr hf)⟩ h4
theorem lead_allF : ∀ (n : Nat) (acc : List Tm) (t : Tm), t.size ≤ n → (allF 6 n acc t).1.length = acc.length + leadN t
 | 0, acc, t, h => by have := t.size_pos; omega
 | n + 1, acc, t, h => by
  simp only [allF]
  cases hb : isB 6 t with
  | none =>
   have : leadN t = 0 := by
    obtain ⟨k, i, nm, ls, ks⟩ := t
    match ks, hb with
    | [], _ => simp [leadN]
    | [a], _ => simp [leadN]
    | [a, b], hb =>
     simp only [isB] at hb
     simp only [leadN]
     split at hb
     ·cases hb
     ·rename_i hk; rw [if_neg hk]
    | a :: b :: c :: r, _ => simp [leadN]
   simp only [this, Nat.add_zero]
  | some p =>
   obtain ⟨a, b⟩ := p
   have hs := isB_size hb
   have ha := a.size_pos
   have hl : leadN t = leadN b + 1 := by
    obtain ⟨k, i, nm, ls, ks⟩ := t
    match ks, hb with
    | [x, y], hb =>
     simp only [isB] at hb
     split at hb
     ·rename_i hk
      injection hb with hb; injection hb with h1 h2
      subst h1; subst h2
      simp only [leadN]; rw [if_pos hk]
     ·cases hb
   simp only
   rw [lead_allF n (acc ++ [a]) b (by omega), hl]
   simp only [List.length_append, List.length_singleton]
   omega
theorem lead_all (t : Tm) : (resAll t).1.length = leadN t := by
 have := lead_allF t.size [] t (Nat.le_refl _)
 simpa [resAll] using this
theorem famZ_cases {env : List Dc} (hf : EnvFine env) (s : List UInt8) : famZ env s = (zDc, 0, false) ∨ ∃ d a, famZ env s = (d, a, true) ∧ d ∈ env ∧ d.k = 3 ∧ DcOk d ∧ (a < 0 ∨ ∃ j : Nat, a = j ∧ j < d.cs.length) := by
 unfold famZ
 cases hz : findZ s env 0 with
 | none => exact .inl rfl
 | some e =>
  obtain ⟨j, d, h1, h2, h3, h4, h5⟩ := findZ_ok s env 0 e hz
  have hd := dcOk_of hf.2 h2
  have hm := List.mem_of_getElem? h2
  simp only [Nat.zero_add] at h1
  have ha : (env[e.at_.toNat]?).getD zDc = d := by rw [h1, Int.toNat_natCast, h2]; rfl
  simp only [ha]
  by_cases e3 : e.k = 3
  ·rw [if_pos e3]; exact .inr ⟨d, -1, rfl, hm, h5 (.inl e3), hd, .inl (by omega)⟩
  rw [if_neg e3]
  by_cases e4 : e.k = 4
  ·rw [if_pos e4]; exact .inr ⟨d, e.it, rfl, hm, h5 (.inr (.inl e4)), hd, .inr ⟨e.it.toNat, by omega, by have := h4 e4; omega⟩⟩
  rw [if_neg e4]
  by_cases e5 : e.k = 5
  ·rw [if_pos e5]; exact .inr ⟨d, -2, rfl, hm, h5 (.inr (.inr e5)), hd, .inl (by omega)⟩
  rw [if_neg e5]
  exact .inl rfl

structure Co where
 d : Dc
 i : Nat
 as_ : List Tm
def zCo : Co := ⟨zDc, 0, []⟩
def optCo (o : Option Co) : Co := o.getD zCo
def conZ (env : List Dc) (t : Tm) : Option Co :=
 if (resSpine t).1.kind ≠ 3 then none
 else if (famZ env (resSpine t).1.name).2.2 = true ∧ 0 ≤ (famZ env (resSpine t).1.name).2.1 then
  match (famZ env (resSpine t).1.name).1.cs[(famZ env (resSpine t).1.name).2.1.toNat]? with
  | some c => if (resSpine t).2.length = (resAll c.ty).1.length then some ⟨(famZ env (resSpine t).1.name).1, (famZ env (resSpine t).1.name).2.1.toNat, (resSpine t).2.drop (famZ env (resSpine t).1.name).1.fx.toNat⟩ else none
  | none => none
 else none
abbrev zDcC : List AV := [iA 0, .p (sP []), iA 0, iA 0, iA 0, .p (sP []), .p (.prim (.slice none 0 0)), .p (.prim (.slice none 0 0)), iA 0, iA 0, .p (sP []), .p (.prim (.slice none 0 0)), .p (.prim (.slice none 0 0)), iA 0, .p (.prim (.slice none 0 0)), iA 0, iA 0, iA 0, .p (sP []), .p (.prim (.slice none 0 0)), .p (.prim (.slice none 0 0)), .p (.prim (.slice none 0 0)), .p (.prim (.slice none 0 0))]

end Go.Proofs.YtcfcolkbeelegaaGreat
