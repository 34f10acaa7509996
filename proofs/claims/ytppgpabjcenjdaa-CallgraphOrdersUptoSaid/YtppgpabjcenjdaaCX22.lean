/-
  ref12.sort, Analyse.
-/
import Derived.Test.YtppgpabjcenjdaaCX21

namespace Go.Proofs.Ytppgpabjcenjdaa

open Go Go.AI
set_option maxRecDepth 8000 in
theorem sort189_any (h : Heap) (hh : WF h) (t : Tm) : ACalls Try.prog 189 [t.av] h fun o h' => o = .ret (bA (t.kind == 1 || t.kind == 2)) ∧ h' = h := by
  obtain ⟨k, i, n, ls, ks⟩ := t
  simp only [Tm.kind]
  refine ACalls.of_run Try.func189 rfl ?_
  simp only [Try.ntmps189, List.length_cons, List.length_nil, Tm.av, cells_mk, List.map]
  refine Run.reg fun K hK => ?_
  simp
  refine hK _ _ _ ?_; clear hK K
  refine Run.regJ [1] 2 (k == 1 || k == 2) (fun K hK => ?_) ?_
  · simp
    repeat' (first | apply And.intro | intro _)
    all_goals
      refine hK _ ?_
      simp
      repeat' (first | exact WeakL.nil | apply WeakL.cons)
      all_goals first | exact Weak.junk _ | (refine Weak.bool ?_; clear hK K; rw [Bool.eq_iff_iff]; simp; done) | (refine Weak.bool ?_; clear hK K; rw [Bool.eq_iff_iff]; simp; omega) | (refine Weak.bool ?_; clear hK K; simp_all; done) | (refine Weak.bool ?_; clear hK K; simp [*]; done) | (refine Weak.bool ?_; clear hK K; rw [Bool.eq_iff_iff]; simp [*]; omega) | exact Weak.refl _
  simp only [setMany, keepT, keepT.go, List.contains_cons, List.set_cons_succ, List.set_cons_zero]
  simp
  refine Run.ret ?_
  exact Fin.ret' (h0 := h) (by simp) rfl hh rfl (by simp; rfl) rfl (Weak.refl _) (by simp) ⟨rfl, rfl⟩
set_option maxRecDepth 8000 in
set_option maxHeartbeats 16000000 in
theorem refAnalyse_any (h : Heap) (hh : WF h) (d : Dc) (hd : d.good) (hps : d.ps ≤ 8) : ACalls Try.prog 168 [d.av] h fun o h' => o = .ret (.tup [(anaZ d).1.av, iA (anaZ d).2]) ∧ h' = h := by
  have hty := hd.ty
  have hcl := hd.csl
  have hcs := hd.cs
  have c1 := fun (g : Heap) (hw : WF g) => all70_any g hw d.ty hty.1
  have hao := all_ok d.ty hty.2.2 hty.1
  obtain ⟨r, hr⟩ : ∃ r, r = anaZ d := ⟨_, rfl⟩
  rw [← hr]
  unfold anaZ at hr
  generalize resAll d.ty = q at c1 hao hr
  obtain ⟨bs, st⟩ := q
  simp only at c1 hao hr
  have c2 := fun (g : Heap) (hw : WF g) => sort189_any g hw st
  have hbl : bs.length ≤ 1048576 := by have := hao.2.2.2; have := hty.1; omega
  clear hd
  obtain ⟨kk, nm, pr, ⟨k1, i1, n1, l1, s1⟩, ⟨k2, i2, n2, l2, s2⟩, fx, cs, rp, ⟨k3, i3, n3, l3, s3⟩, rr, fs⟩ := d
  simp only at hty hcl hcs c1 hao hr hps
  have c3 := fun (a : An) (hp : a.ps.length ≤ 1048576) (hi : a.ix.length ≤ 1048576) (h8 : a.pr ≤ 8) (c : Ct) (hc : c ∈ cs) (g : Heap) (hw : WF g) => refCtor_any g hw a c hp hi h8 (hcs c hc).1 (hcs c hc).2.2
  obtain ⟨sk, hsk⟩ : ∃ x, x = st.kind := ⟨_, rfl⟩
  rw [← hsk] at hr
  clear hcs hty hao
  obtain ⟨u1, u2, u3, u4, u5⟩ := st
  simp only [Dc.av, Dc.cells, Tm.av, cells_mk, List.map, List.cons_append, List.nil_append, Tm.kind] at c1 c2 ⊢
  simp only [An.av, An.cells, List.map] at c3
  change sk = u1 at hsk
  subst hsk
  refine ACalls.of_run Try.func168 rfl ?_
  simp only [Try.ntmps168, List.length_cons, List.length_nil]
  refine Run.reg fun K hK => ?_
  simp
  refine hK _ _ _ ?_; clear hK K
  by_cases e0 : kk = 3
  rotate_left
  · rw [if_pos e0] at hr
    have e0' : (kk != 3) = true := by simpa using e0
    refine Run.reg fun K hK => ?_
    simp [e0']
    refine hK _ _ _ ?_; clear hK K
    refine Run.cond (b := true) (by simp) ?_
    simp only [if_true]
    refine Run.reg fun K hK => ?_
    simp
    refine hK _ _ _ ?_; clear hK K
    refine Run.ret ?_
    exact Fin.ret' (h0 := h) (xs := [.agg zAnC, iA 1]) (by simp) rfl hh rfl (by simp) rfl (Weak.tup (WeakL.cons an_weak0 (WeakL.refl _))) (by simp [An.av, zAn, An.cells, zT]) ⟨by rw [hr], rfl⟩
  subst e0
  rw [if_neg (by simp)] at hr
  refine Run.reg fun K hK => ?_
  simp
  refine hK _ _ _ ?_; clear hK K
  refine Run.cond (b := false) (by simp) ?_
  simp only [Bool.false_eq_true, if_false]
  refine Run.reg fun K hK => ?_
  simp
  refine hK _ _ _ ?_; clear hK K
  refine Run.call rfl (by first | rfl | simp) (by simp) rfl (c1 _ (hh.app (by simp))) ?_ ?_
  rotate_left
  · rintro v h' ⟨hv, _⟩; cases hv
  rintro v h' ⟨hv, rfl⟩
  simp only [AOut.ret.injEq] at hv
  subst hv
  refine Run.ops fun K hK => ?_
  simp
  refine hK _ _ _ ?_; clear hK K
  by_cases e1 : fx < 0
  · rw [if_pos (.inl e1)] at hr
    refine Run.reg fun K hK => ?_
    simp [e1]
    refine hK _ _ _ ?_; clear hK K
    refine Run.cond (b := true) (by simp) ?_
    simp only [if_true]
    refine Run.reg fun K hK => ?_
    simp
    refine hK _ _ _ ?_; clear hK K
    refine Run.ret ?_
    exact Fin.ret' (h0 := h) (xs := [.agg zAnC, iA 3]) (by simp) rfl hh rfl (by simp) rfl (Weak.tup (WeakL.cons an_weak0 (WeakL.refl _))) (by simp [An.av, zAn, An.cells, zT]) ⟨by rw [hr], rfl⟩
  by_cases e2 : (bs.length : Int) < fx
  · rw [if_pos (.inr (.inl e2))] at hr
    refine Run.reg fun K hK => ?_
    simp [e1, e2]
    refine hK _ _ _ ?_; clear hK K
    refine Run.cond (b := true) (by simp) ?_
    simp only [if_true]
    refine Run.reg fun K hK => ?_
    simp
    refine hK _ _ _ ?_; clear hK K
    refine Run.ret ?_
    exact Fin.ret' (h0 := h) (xs := [.agg zAnC, iA 3]) (by simp) rfl hh rfl (by simp) rfl (Weak.tup (WeakL.cons an_weak0 (WeakL.refl _))) (by simp [An.av, zAn, An.cells, zT]) ⟨by rw [hr], rfl⟩
  by_cases e3 : sk ≠ 1 ∧ sk ≠ 2
  · rw [if_pos (.inr (.inr e3))] at hr
    have e3a : (sk != 1) = true := by simpa using e3.1
    have e3b : (sk != 2) = true := by simpa using e3.2
    refine Run.reg fun K hK => ?_
    simp [e1, e2]
    refine hK _ _ _ ?_; clear hK K
    have e3c : (sk == 1 || sk == 2) = false := by simp; omega
    rw [e3c] at c2
    refine Run.call rfl (by first | rfl | simp) (by simp) rfl (c2 _ (hh.app (by simp))) ?_ ?_
    rotate_left
    · rintro v h' ⟨hv, _⟩; cases hv
    rintro v h' ⟨hv, rfl⟩
    simp only [AOut.ret.injEq] at hv
    subst hv
    refine Run.ops fun K hK => ?_
    simp
    refine hK _ _ _ ?_; clear hK K
    refine Run.cond (b := true) (by simp) ?_
    simp only [if_true]
    refine Run.reg fun K hK => ?_
    simp
    refine hK _ _ _ ?_; clear hK K
    refine Run.ret ?_
    exact Fin.ret' (h0 := h) (xs := [.agg zAnC, iA 3]) (by simp) rfl hh rfl (by simp) rfl (Weak.tup (WeakL.cons an_weak0 (WeakL.refl _))) (by simp [An.av, zAn, An.cells, zT]) ⟨by rw [hr], rfl⟩
  rw [if_neg (by omega)] at hr
  obtain ⟨N, rfl⟩ : ∃ N : Nat, fx = N := ⟨fx.toNat, by omega⟩
  rw [Int.toNat_natCast] at hr
  have e2' : N ≤ bs.length := by omega
  have e2'' : (N : Int) ≤ bs.length := by omega
  have e3' : sk = 1 ∨ sk = 2 := by omega
  have e3c : (sk == 1 || sk == 2) = true := by simp; omega
  rw [e3c] at c2
  refine Run.reg fun K hK => ?_
  simp [e1, e2]
  refine hK _ _ _ ?_; clear hK K
  refine Run.call rfl (by first | rfl | simp) (by simp) rfl (c2 _ (hh.app (by simp))) ?_ ?_
  rotate_left
  · rintro v h' ⟨hv, _⟩; cases hv
  rintro v h' ⟨hv, rfl⟩
  simp only [AOut.ret.injEq] at hv
  subst hv
  refine Run.ops fun K hK => ?_
  simp
  refine hK _ _ _ ?_; clear hK K
  clear e3 e3' e1 e2
  refine Run.cond (b := false) (by simp) ?_
  simp only [Bool.false_eq_true, if_false]
  have d3 := fun l : List Cn => c3 ⟨nm, pr, bs.take N, bs.drop N, .mk sk u2 u3 u4 u5, l⟩ (by simp; omega) (by simp; omega) hps
  simp only [cells_mk, List.cons_append, List.nil_append, List.map] at d3
  obtain ⟨F, hF⟩ : ∃ F : Ct → Option Cn, F = fun c => ctorZ (ownT nm pr) (bs.take N) (bs.drop N).length c.nm c.ty := ⟨_, rfl⟩
  replace d3 : ∀ (l : List Cn) (c : Ct), c ∈ cs → ∀ g : Heap, WF g → ACalls Try.prog 190 [.agg [.p (sP nm), .p (iP pr), .p (.sl 5 (tmPs (bs.take N))), .p (.sl 5 (tmPs (bs.drop N))), .p (iP sk), .p (iP u2), .p (sP u3), .p (.sl 2 (lvPs u4)), .p (.sl 5 (tmPs u5)), .p (.sl 4 (cnPs l))], c.av] g fun o h' => o = .ret (.tup [(optC (F c)).av, bA (F c).isSome]) ∧ h' = g := by
    rw [hF]; exact d3
  replace hr : r = match allCn F cs with
    | none => (zAn, 3)
    | some cs => (⟨nm, pr, bs.take N, bs.drop N, .mk sk u2 u3 u4 u5, cs⟩, 0) := by rw [hF]; exact hr
  clear hF c3
  obtain ⟨RC, hRC⟩ : ∃ RC : Nat → List Cn, RC = fun j => (allCn F (cs.take j)).getD [] := ⟨_, rfl⟩
  have hR0 : RC 0 = [] := by rw [hRC]; rfl
  refine Run.draw [0, 0, 0, 0, 0, 0, 0, 0, 0, 0, 0, 0, 0, 0, 0, 1] [0, 0, 0, 0, 0, 0, 0, 0, 0, 0, 0, 0, 0, 0, 0, 1] [0, 1, 0, 4, 0, 0, 32, 112, 0, 0, 512, 1792, 0, 8191, 0, 32767] [14, 0, 1, 2, 3, 4, 5, 6, 7, 8, 9, 10, 11, 12, 13, 15] (by kernel_rfl) (by kernel_rfl) ?_
  refine DR.go fun K hK => ?_
  simp [e2'']
  refine hK _ _ _ _ ?_; clear hK K
  change Run _ _ _ _ _ _ _ _
  refine Run.reg fun K hK => ?_
  simp
  refine hK _ _ _ ?_; clear hK K
  refine Run.tokAt (h.length + 3) 9 4 (by simp; rfl) (by simp) ?_
  simp
  refine Run.loopS [1, 2, 6] (fun j : Nat => j ≤ cs.length ∧ (allCn F (cs.take j)).isSome = true) (fun j => cs.length - j) (fun j => [(7, iA j)])
    (fun j => h ++ [some (.cells [.p (iP 3), .p (sP nm), .p (iP pr), .p (iP k1), .p (iP i1), .p (sP n1), .p (.sl 2 (lvPs l1)), .p (.sl 5 (tmPs s1)), .p (iP k2), .p (iP i2), .p (sP n2), .p (.sl 2 (lvPs l2)), .p (.sl 5 (tmPs s2)), .p (iP N), .p (.sl 6 (cs.map Ct.cells)), .p (iP rp), .p (iP k3), .p (iP i3), .p (sP n3), .p (.sl 2 (lvPs l3)), .p (.sl 5 (tmPs s3)), .p (.sl 5 (tmPs rr)), .p (.sl 15 (fs.map Fu.cells))]), some (.cells zAnC), some (.cells [.p (iP sk), .p (iP u2), .p (sP u3), .p (.sl 2 (lvPs u4)), .p (.sl 5 (tmPs u5))]), some (.cells [.p (sP nm), .p (iP pr), .p (.sl 5 (tmPs (bs.take N))), .p (.sl 5 (tmPs (bs.drop N))), .p (iP sk), .p (iP u2), .p (sP u3), .p (.sl 2 (lvPs u4)), .p (.sl 5 (tmPs u5)), .own (h.length + 4) 4 (cnPs (RC j))]), some (.tok (RC j).length 4)]) 0 (by simp [allCn]) ?_ (by simp [hR0, cnPs]) ?_
  · simp
    repeat' (first | exact WeakL.nil | apply WeakL.cons)
    all_goals first | exact Weak.junk _ | exact Weak.refl _ | exact Weak.nil _ | exact Weak.own _ _ _ | exact Weak.int (by omega)
  rintro j ⟨hj, hso⟩ IH
  simp
  refine Run.reg fun K hK => ?_
  simp
  refine hK _ _ _ ?_; clear hK K
  by_cases hjl : j < cs.length
  · have hg : cs[j]? = some cs[j] := List.getElem?_eq_getElem hjl
    have htk : cs.take (j + 1) = cs.take j ++ [cs[j]] := List.take_succ_eq_append_getElem hjl
    obtain ⟨rj, hrj⟩ : ∃ rj, allCn F (cs.take j) = some rj := Option.isSome_iff_exists.1 hso
    have hRj : RC j = rj := by rw [hRC]; simp only [hrj, Option.getD_some]
    have hlr : rj.length = j := by rw [allCn_len F _ _ hrj, List.length_take]; omega
    have hsn := allCn_snoc F (cs.take j) rj cs[j] hrj
    rw [← htk] at hsn
    have hfail : F cs[j] = none → r = (zAn, 3) := fun h0 => by
      rw [hr, ← List.take_append_drop (j + 1) cs, allCn_none F _ _ (by rw [hsn, h0])]
    have hRn : ∀ x, F cs[j] = some x → RC (j + 1) = rj ++ [x] := fun x hx => by rw [hRC]; simp only [hsn, hx, Option.getD_some]
    have c4 := fun (g : Heap) (hw : WF g) => d3 rj cs[j] (List.getElem_mem hjl) g hw
    generalize cs[j] = c at hg hsn hfail hRn c4
    generalize F c = o at hsn hfail hRn c4
    obtain ⟨cn, ⟨v1, v2, v3, v4, v5⟩⟩ := c
    simp only [Ct.av, Ct.cells, cells_mk, List.map] at c4
    have hwk : WeakL [.agg [.p (sP nm), .p (iP pr), .p (.sl 5 (tmPs (bs.take N))), .p (.sl 5 (tmPs (bs.drop N))), .p (iP sk), .p (iP u2), .p (sP u3), .p (.sl 2 (lvPs u4)), .p (.sl 5 (tmPs u5)), .own (h.length + 4) 4 (cnPs rj)], .agg [.p (sP cn), .p (iP v1), .p (iP v2), .p (sP v3), .p (.sl 2 (lvPs v4)), .p (.sl 5 (tmPs v5))]] [.agg [.p (sP nm), .p (iP pr), .p (.sl 5 (tmPs (bs.take N))), .p (.sl 5 (tmPs (bs.drop N))), .p (iP sk), .p (iP u2), .p (sP u3), .p (.sl 2 (lvPs u4)), .p (.sl 5 (tmPs u5)), .p (.sl 4 (cnPs rj))], .agg [.p (sP cn), .p (iP v1), .p (iP v2), .p (sP v3), .p (.sl 2 (lvPs v4)), .p (.sl 5 (tmPs v5))]] := by
      refine WeakL.cons (Weak.agg ?_) (WeakL.refl _)
      repeat' (first | exact WeakL.nil | apply WeakL.cons)
      all_goals first | exact Weak.refl _ | exact Weak.own _ _ _
    have c5 := fun (g : Heap) (hw : WF g) => ACalls.weak hwk (c4 g hw)
    rw [hRj]
    refine Run.cond (b := true) (by simp [hjl]) ?_
    simp only [if_true]
    cases o with
    | none =>
      simp only [optC, Option.getD_none, zCn, Cn.av, Cn.cells, List.map] at c5
      refine PC.Run.drawP (pc := [6]) [0, 0, 0, 0, 0, 0, 0, 0, 0, 0, 0, 1, 2] [0, 0, 0, 0, 0, 0, 0, 0, 0, 0, 0, 1, 0] [0, 0, 2, 0, 14, 30, 63, 127, 255, 255, 0, 1535, 4095] [10, 0, 1, 2, 3, 4, 5, 6, 7, 8, 11, 9, 12] (by kernel_rfl) (by kernel_rfl) ?_
      refine PC.DR.go fun K hK => ?_
      simp [hg, Ct.cells]
      refine hK _ _ _ _ ?_; clear hK K
      refine PC.DR.pcall (args := [.agg [.p (sP nm), .p (iP pr), .p (.sl 5 (tmPs (bs.take N))), .p (.sl 5 (tmPs (bs.drop N))), .p (iP sk), .p (iP u2), .p (sP u3), .p (.sl 2 (lvPs u4)), .p (.sl 5 (tmPs u5)), .own (h.length + 4) 4 (cnPs rj)], .agg [.p (sP cn), .p (iP v1), .p (iP v2), .p (sP v3), .p (.sl 2 (lvPs v4)), .p (.sl 5 (tmPs v5))]]) rfl rfl rfl (by simp) rfl rfl (fun g hg => (c5) g ?_) ?_
      · simp at hg; (first | (rcases hg with rfl | rfl | rfl | rfl) | (rcases hg with rfl | rfl | rfl) | (rcases hg with rfl | rfl) | subst hg) <;> exact hh.app (by simp)
      refine PC.DR.go fun K hK => ?_
      simp
      refine hK _ _ _ _ ?_; clear hK K
      change Run _ _ _ _ _ _ _ _
      refine Run.reg fun K hK => ?_
      simp
      refine hK _ _ _ ?_; clear hK K
      refine Run.cond (b := true) (by simp) ?_
      simp only [if_true]
      refine Run.reg fun K hK => ?_
      simp
      refine hK _ _ _ ?_; clear hK K
      refine Run.ret ?_
      exact Fin.ret' (h0 := h) (xs := [.agg zAnC, iA 3]) (by simp) rfl hh rfl (by simp) rfl (Weak.tup (WeakL.cons an_weak0 (WeakL.refl _))) (by simp [An.av, zAn, An.cells, zT]) ⟨by rw [hfail rfl], rfl⟩
    | some x =>
      have hRx := hRn x rfl
      obtain ⟨x1, x2, x3, x4⟩ := x
      simp only [optC, Option.getD_some, Cn.av, Cn.cells, List.map] at c5
      have hb1 : (rj.length + 1) * 88 ≤ 140737488355328 := by omega
      have hb2 : rj.length + 1 ≤ 9223372036854775807 := by omega
      refine PC.Run.drawP (pc := [6]) [0, 0, 0, 0, 0, 0, 0, 0, 0, 0, 0, 1, 2] [0, 0, 0, 0, 0, 0, 0, 0, 0, 0, 0, 1, 0] [0, 0, 2, 0, 14, 30, 63, 127, 255, 255, 0, 1535, 4095] [10, 0, 1, 2, 3, 4, 5, 6, 7, 8, 11, 9, 12] (by kernel_rfl) (by kernel_rfl) ?_
      refine PC.DR.go fun K hK => ?_
      simp [hg, Ct.cells]
      refine hK _ _ _ _ ?_; clear hK K
      refine PC.DR.pcall (args := [.agg [.p (sP nm), .p (iP pr), .p (.sl 5 (tmPs (bs.take N))), .p (.sl 5 (tmPs (bs.drop N))), .p (iP sk), .p (iP u2), .p (sP u3), .p (.sl 2 (lvPs u4)), .p (.sl 5 (tmPs u5)), .own (h.length + 4) 4 (cnPs rj)], .agg [.p (sP cn), .p (iP v1), .p (iP v2), .p (sP v3), .p (.sl 2 (lvPs v4)), .p (.sl 5 (tmPs v5))]]) rfl rfl rfl (by simp) rfl rfl (fun g hg => (c5) g ?_) ?_
      · simp at hg; (first | (rcases hg with rfl | rfl | rfl | rfl) | (rcases hg with rfl | rfl | rfl) | (rcases hg with rfl | rfl) | subst hg) <;> exact hh.app (by simp)
      refine PC.DR.go fun K hK => ?_
      simp
      refine hK _ _ _ _ ?_; clear hK K
      change Run _ _ _ _ _ _ _ _
      refine Run.reg fun K hK => ?_
      simp
      refine hK _ _ _ ?_; clear hK K
      refine Run.cond (b := false) (by simp) ?_
      simp only [Bool.false_eq_true, if_false]
      refine Run.reg fun K hK => ?_
      simp [hb1, hb2]
      refine hK _ _ _ ?_; clear hK K
      refine Run.reg fun K hK => ?_
      simp
      refine hK _ _ _ ?_; clear hK K
      refine Run.keep [1, 2, 6, 7] ?_
      simp
      refine Run.cutAt 5 hh rfl (by omega) (by simp) (by simp) (by simp) rfl ?_
      refine IH (j + 1) _ _ ⟨by omega, by rw [hsn]; rfl⟩ (by omega) ?_ (by rw [hRx]; simp [cnPs, Cn.cells])
      simp
      repeat' (first | exact WeakL.nil | apply WeakL.cons)
      all_goals first | exact Weak.junk _ | exact Weak.refl _ | exact Weak.nil _ | exact Weak.own _ _ _ | exact Weak.int (by omega)
  · have hje : j = cs.length := by omega
    subst hje
    obtain ⟨rj, hrj⟩ : ∃ rj, allCn F (cs.take cs.length) = some rj := Option.isSome_iff_exists.1 hso
    have hRj : RC cs.length = rj := by rw [hRC]; simp only [hrj, Option.getD_some]
    rw [List.take_length] at hrj
    rw [hrj] at hr
    simp only at hr
    rw [hRj]
    refine Run.cond (b := false) (by simp) ?_
    simp only [Bool.false_eq_true, if_false]
    refine Run.exit rfl ?_
    refine Run.reg fun K hK => ?_
    simp
    refine hK _ _ _ ?_; clear hK K
    refine Run.ret ?_
    refine Fin.ret' (h0 := h) (xs := [.agg [.p (sP nm), .p (iP pr), .p (.sl 5 (tmPs (bs.take N))), .p (.sl 5 (tmPs (bs.drop N))), .p (iP sk), .p (iP u2), .p (sP u3), .p (.sl 2 (lvPs u4)), .p (.sl 5 (tmPs u5)), .own (h.length + 4) 4 (cnPs rj)], iA 0]) (by simp) rfl hh rfl (by simp) rfl (y := .tup [r.1.av, iA r.2]) ?_ (by simp [An.av]) ⟨rfl, rfl⟩
    rw [hr]
    simp only [An.av, An.cells, cells_mk, List.map, List.cons_append, List.nil_append]
    refine Weak.tup (WeakL.cons (Weak.agg ?_) (WeakL.refl _))
    repeat' (first | exact WeakL.nil | apply WeakL.cons)
    all_goals first | exact Weak.junk _ | exact Weak.refl _ | exact Weak.nil _ | exact Weak.own _ _ _ | exact Weak.int (by omega)

end Go.Proofs.Ytppgpabjcenjdaa
