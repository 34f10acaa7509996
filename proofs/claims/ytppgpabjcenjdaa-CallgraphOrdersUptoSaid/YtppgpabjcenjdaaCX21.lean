/-
  family.Analyse, on both sides.
-/
import Derived.Test.YtppgpabjcenjdaaCX20

namespace Go.Proofs.Ytppgpabjcenjdaa

open Go Go.AI
def zAn : An := ⟨[], 0, [], [], zT, []⟩
def allCn (f : Ct → Option Cn) : List Ct → Option (List Cn)
  | [] => some []
  | c :: l => match f c with
    | some x => match allCn f l with
      | some r => some (x :: r)
      | none => none
    | none => none
theorem allCn_snoc (f : Ct → Option Cn) : ∀ (l : List Ct) (r : List Cn) (c : Ct), allCn f l = some r → allCn f (l ++ [c]) = match f c with | some x => some (r ++ [x]) | none => none
  | [], r, c, h => by
    simp only [allCn, Option.some.injEq] at h
    subst h
    simp only [List.nil_append, allCn]
  | x :: l, r, c, h => by
    simp only [allCn] at h
    simp only [List.cons_append, allCn]
    cases hx : f x with
    | none => rw [hx] at h; cases h
    | some y =>
      rw [hx] at h
      simp only at h ⊢
      cases hl : allCn f l with
      | none => rw [hl] at h; cases h
      | some r' =>
        rw [hl] at h
        simp only [Option.some.injEq] at h
        rw [allCn_snoc f l r' c hl, ← h]
        cases f c <;> rfl
theorem allCn_none (f : Ct → Option Cn) : ∀ (l m : List Ct), allCn f l = none → allCn f (l ++ m) = none
  | [], m, h => by simp [allCn] at h
  | x :: l, m, h => by
    simp only [allCn] at h
    simp only [List.cons_append, allCn]
    cases hx : f x with
    | none => rfl
    | some y =>
      rw [hx] at h
      simp only at h ⊢
      cases hl : allCn f l with
      | none => rw [allCn_none f l m hl]
      | some r' => rw [hl] at h; cases h
theorem allCn_len (f : Ct → Option Cn) : ∀ (l : List Ct) (r : List Cn), allCn f l = some r → r.length = l.length
  | [], r, h => by simp only [allCn, Option.some.injEq] at h; subst h; rfl
  | x :: l, r, h => by
    simp only [allCn] at h
    split at h
    · split at h
      · rename_i r' hr
        cases h
        simp [allCn_len f l r' hr]
      · cases h
    · cases h
def anaZ (d : Dc) : An × Int :=
  if d.k ≠ 3 then (zAn, 1)
  else if d.fx < 0 ∨ ((resAll d.ty).1.length : Int) < d.fx ∨ ((resAll d.ty).2.kind ≠ 1 ∧ (resAll d.ty).2.kind ≠ 2) then (zAn, 3)
  else match allCn (fun c => ctorZ (ownT d.nm d.ps) ((resAll d.ty).1.take d.fx.toNat) ((resAll d.ty).1.drop d.fx.toNat).length c.nm c.ty) d.cs with
    | none => (zAn, 3)
    | some cs => (⟨d.nm, d.ps, (resAll d.ty).1.take d.fx.toNat, (resAll d.ty).1.drop d.fx.toNat, (resAll d.ty).2, cs⟩, 0)
abbrev zAnC : List AV := [.p (sP []), iA 0, .p (.prim (.slice none 0 0)), .p (.prim (.slice none 0 0)), iA 0, iA 0, .p (sP []), .p (.prim (.slice none 0 0)), .p (.prim (.slice none 0 0)), .p (.prim (.slice none 0 0))]
theorem an_weak0 : Weak (.agg zAnC) zAn.av := by
  simp only [zAn, An.av, An.cells, zT, cells_mk, List.map, tmPs, lvPs, cnPs, List.cons_append, List.nil_append]
  refine Weak.agg ?_
  repeat' (first | exact WeakL.nil | apply WeakL.cons)
  all_goals first | exact Weak.refl _ | exact Weak.nil _
set_option maxRecDepth 8000 in
set_option maxHeartbeats 16000000 in
theorem analyse_any (h : Heap) (hh : WF h) (d : Dc) (hd : d.good) (hps : d.ps ≤ 1048576) : ACalls Try.prog 165 [d.av] h fun o h' => o = .ret (.tup [(anaZ d).1.av, iA (anaZ d).2]) ∧ h' = h := by
  have hty := hd.ty
  have hcl := hd.csl
  have hcs := hd.cs
  have c1 := fun (g : Heap) (hw : WF g) => all69_any g hw d.ty hty.1
  have hao := all_ok d.ty hty.2.2 hty.1
  obtain ⟨r, hr⟩ : ∃ r, r = anaZ d := ⟨_, rfl⟩
  rw [← hr]
  unfold anaZ at hr
  generalize resAll d.ty = q at c1 hao hr
  obtain ⟨bs, st⟩ := q
  simp only at c1 hao hr
  have c2 := fun (g : Heap) (hw : WF g) => itself_any g hw d.nm d.ps hps
  generalize ownT d.nm d.ps = own at c2 hr
  have hbl : bs.length ≤ 1048576 := by have := hao.2.2.2; have := hty.1; omega
  clear hd
  obtain ⟨kk, nm, pr, ⟨k1, i1, n1, l1, s1⟩, ⟨k2, i2, n2, l2, s2⟩, fx, cs, rp, ⟨k3, i3, n3, l3, s3⟩, rr, fs⟩ := d
  simp only at hty hcl hcs c1 hao hr c2
  have c3 := fun (ps : List Tm) (ni : Nat) (hp : ps.length ≤ 1048576) (hi : ni ≤ 1048576) (c : Ct) (hc : c ∈ cs) (g : Heap) (hw : WF g) => ctor_any g hw own ps ni c hp hi (hcs c hc).1 (hcs c hc).2.2
  obtain ⟨sk, hsk⟩ : ∃ x, x = st.kind := ⟨_, rfl⟩
  rw [← hsk] at hr
  clear hcs hty hao
  obtain ⟨k, i, n, ls, ks⟩ := own
  obtain ⟨u1, u2, u3, u4, u5⟩ := st
  simp only [Dc.av, Dc.cells, Tm.av, cells_mk, List.map, List.cons_append, List.nil_append, shA] at c1 c2 c3 ⊢
  change sk = u1 at hsk
  subst hsk
  refine ACalls.of_run Try.func165 rfl ?_
  simp only [Try.ntmps165, List.length_cons, List.length_nil]
  refine Run.reg fun K hK => ?_
  simp
  refine hK _ _ _ ?_; clear hK K
  by_cases e0 : kk = 3
  rotate_left
  · rw [if_pos e0] at hr
    have e0' : (kk != 3) = true := by simpa using e0
    refine Run.reg fun K hK => ?_
    simp [e0']
    refine hK _ _ _ ?_; clear hK K
    refine Run.cond (b := true) (by simp) ?_
    simp only [if_true]
    refine Run.reg fun K hK => ?_
    simp
    refine hK _ _ _ ?_; clear hK K
    refine Run.ret ?_
    exact Fin.ret' (h0 := h) (xs := [.agg zAnC, iA 1]) (by simp) rfl hh rfl (by simp) rfl (Weak.tup (WeakL.cons an_weak0 (WeakL.refl _))) (by simp [An.av, zAn, An.cells, zT]) ⟨by rw [hr], rfl⟩
  subst e0
  rw [if_neg (by simp)] at hr
  refine Run.reg fun K hK => ?_
  simp
  refine hK _ _ _ ?_; clear hK K
  refine Run.cond (b := false) (by simp) ?_
  simp only [Bool.false_eq_true, if_false]
  refine Run.reg fun K hK => ?_
  simp
  refine hK _ _ _ ?_; clear hK K
  refine Run.call rfl (by first | rfl | simp) (by simp) rfl (c1 _ (hh.app (by simp))) ?_ ?_
  rotate_left
  · rintro v h' ⟨hv, _⟩; cases hv
  rintro v h' ⟨hv, rfl⟩
  simp only [AOut.ret.injEq] at hv
  subst hv
  refine Run.ops fun K hK => ?_
  simp
  refine hK _ _ _ ?_; clear hK K
  by_cases e1 : fx < 0
  · rw [if_pos (.inl e1)] at hr
    refine Run.reg fun K hK => ?_
    simp [e1]
    refine hK _ _ _ ?_; clear hK K
    refine Run.cond (b := true) (by simp) ?_
    simp only [if_true]
    refine Run.reg fun K hK => ?_
    simp
    refine hK _ _ _ ?_; clear hK K
    refine Run.ret ?_
    exact Fin.ret' (h0 := h) (xs := [.agg zAnC, iA 3]) (by simp) rfl hh rfl (by simp) rfl (Weak.tup (WeakL.cons an_weak0 (WeakL.refl _))) (by simp [An.av, zAn, An.cells, zT]) ⟨by rw [hr], rfl⟩
  by_cases e2 : (bs.length : Int) < fx
  · rw [if_pos (.inr (.inl e2))] at hr
    refine Run.reg fun K hK => ?_
    simp [e1, e2]
    refine hK _ _ _ ?_; clear hK K
    refine Run.cond (b := true) (by simp) ?_
    simp only [if_true]
    refine Run.reg fun K hK => ?_
    simp
    refine hK _ _ _ ?_; clear hK K
    refine Run.ret ?_
    exact Fin.ret' (h0 := h) (xs := [.agg zAnC, iA 3]) (by simp) rfl hh rfl (by simp) rfl (Weak.tup (WeakL.cons an_weak0 (WeakL.refl _))) (by simp [An.av, zAn, An.cells, zT]) ⟨by rw [hr], rfl⟩
  by_cases e3 : sk ≠ 1 ∧ sk ≠ 2
  · rw [if_pos (.inr (.inr e3))] at hr
    have e3a : (sk != 1) = true := by simpa using e3.1
    have e3b : (sk != 2) = true := by simpa using e3.2
    refine Run.reg fun K hK => ?_
    simp [e1, e2, e3a, e3b]
    refine hK _ _ _ ?_; clear hK K
    refine Run.cond (b := true) (by simp) ?_
    simp only [if_true]
    refine Run.reg fun K hK => ?_
    simp
    refine hK _ _ _ ?_; clear hK K
    refine Run.ret ?_
    exact Fin.ret' (h0 := h) (xs := [.agg zAnC, iA 3]) (by simp) rfl hh rfl (by simp) rfl (Weak.tup (WeakL.cons an_weak0 (WeakL.refl _))) (by simp [An.av, zAn, An.cells, zT]) ⟨by rw [hr], rfl⟩
  rw [if_neg (by omega)] at hr
  obtain ⟨N, rfl⟩ : ∃ N : Nat, fx = N := ⟨fx.toNat, by omega⟩
  rw [Int.toNat_natCast] at hr
  have e2' : N ≤ bs.length := by omega
  have e2'' : (N : Int) ≤ bs.length := by omega
  have e3' : sk = 1 ∨ sk = 2 := by omega
  refine Run.joinA [1, 2, 3, 4, 5] [(41, bA false)] (fun hJ => ?_) ?_
  · rcases e3' with rfl | rfl
    · skip
      refine Run.reg fun K hK => ?_
      simp [e1, e2]
      refine hK _ _ _ ?_; clear hK K
      repeat (first | refine Run.skip ?_ | refine Run.opsNil ?_ | refine Run.inBlock ?_)
      refine hJ _ ?_
      simp
      repeat' (first | exact WeakL.nil | apply WeakL.cons)
      all_goals first | exact Weak.junk _ | exact Weak.refl _ | exact Weak.nil _ | exact Weak.own _ _ _ | exact Weak.int (by omega)
    · skip
      refine Run.reg fun K hK => ?_
      simp [e1, e2]
      refine hK _ _ _ ?_; clear hK K
      repeat (first | refine Run.skip ?_ | refine Run.opsNil ?_ | refine Run.inBlock ?_)
      refine hJ _ ?_
      simp
      repeat' (first | exact WeakL.nil | apply WeakL.cons)
      all_goals first | exact Weak.junk _ | exact Weak.refl _ | exact Weak.nil _ | exact Weak.own _ _ _ | exact Weak.int (by omega)
  simp only [setMany, keepT, keepT.go, List.contains_cons, List.set_cons_succ, List.set_cons_zero]
  simp
  clear e3 e3' e1 e2
  refine Run.cond (b := false) (by simp) ?_
  simp only [Bool.false_eq_true, if_false]
  have d3 := c3 (bs.take N) (bs.length - N) (by simp; omega) (by omega)
  simp only [List.length_drop] at hr
  obtain ⟨F, hF⟩ : ∃ F : Ct → Option Cn, F = fun c => ctorZ (Tm.mk k i n ls ks) (bs.take N) (bs.length - N) c.nm c.ty := ⟨_, rfl⟩
  replace d3 : ∀ c : Ct, c ∈ cs → ∀ g : Heap, WF g → ACalls Try.prog 187 [.agg [.p (iP k), .p (iP i), .p (sP n), .p (.sl 2 (lvPs ls)), .p (.sl 5 (tmPs ks)), .p (.sl 5 (tmPs (bs.take N))), iA (bs.length - N : Nat)], c.av] g fun o h' => o = .ret (.tup [(optC (F c)).av, bA (F c).isSome]) ∧ h' = g := by
    rw [hF]; exact d3
  replace hr : r = match allCn F cs with
    | none => (zAn, 3)
    | some cs => (⟨nm, pr, bs.take N, bs.drop N, .mk sk u2 u3 u4 u5, cs⟩, 0) := by rw [hF]; exact hr
  clear hF c3
  obtain ⟨RC, hRC⟩ : ∃ RC : Nat → List Cn, RC = fun j => (allCn F (cs.take j)).getD [] := ⟨_, rfl⟩
  have hR0 : RC 0 = [] := by rw [hRC]; rfl
  refine Run.draw [0, 0, 0, 0, 0, 0, 0, 0, 0, 0, 0, 0, 0, 0, 0, 1] [0, 0, 0, 0, 0, 0, 0, 0, 0, 0, 0, 0, 0, 0, 0, 1] [0, 1, 0, 4, 0, 0, 32, 112, 0, 0, 512, 1792, 0, 8191, 0, 32767] [14, 0, 1, 2, 3, 4, 5, 6, 7, 8, 9, 10, 11, 12, 13, 15] (by kernel_rfl) (by kernel_rfl) ?_
  refine DR.go fun K hK => ?_
  simp [e2'']
  refine hK _ _ _ _ ?_; clear hK K
  change Run _ _ _ _ _ _ _ _
  refine PC.Run.drawP (pc := [4]) [0, 0, 0, 0, 0, 0, 0, 0, 0, 0, 0, 0, 1] [0, 0, 0, 0, 0, 0, 0, 0, 0, 0, 0, 0, 1] [0, 1, 0, 4, 15, 0, 32, 0, 128, 384, 1023, 0, 4095] [11, 0, 1, 2, 3, 4, 5, 6, 7, 8, 9, 10, 12] (by kernel_rfl) (by kernel_rfl) ?_
  refine PC.DR.go fun K hK => ?_
  simp
  refine hK _ _ _ _ ?_; clear hK K
  refine PC.DR.pcall (args := [.p (sP nm), iA pr]) rfl rfl rfl (by simp) rfl rfl (fun g hg => (c2) g ?_) ?_
  · simp at hg; (first | (rcases hg with rfl | rfl | rfl | rfl) | (rcases hg with rfl | rfl | rfl) | (rcases hg with rfl | rfl) | subst hg) <;> exact hh.app (by simp)
  refine PC.DR.go fun K hK => ?_
  simp
  refine hK _ _ _ _ ?_; clear hK K
  change Run _ _ _ _ _ _ _ _
  refine Run.reg fun K hK => ?_
  simp
  refine hK _ _ _ ?_; clear hK K
  refine Run.tokAt (h.length + 3) 9 4 (by simp; rfl) (by simp) ?_
  simp
  refine Run.loopS [1, 2, 6, 7, 69, 70] (fun j : Nat => j ≤ cs.length ∧ (allCn F (cs.take j)).isSome = true) (fun j => cs.length - j) (fun j => [(71, iA j)])
    (fun j => h ++ [some (.cells [.p (iP 3), .p (sP nm), .p (iP pr), .p (iP k1), .p (iP i1), .p (sP n1), .p (.sl 2 (lvPs l1)), .p (.sl 5 (tmPs s1)), .p (iP k2), .p (iP i2), .p (sP n2), .p (.sl 2 (lvPs l2)), .p (.sl 5 (tmPs s2)), .p (iP N), .p (.sl 6 (cs.map Ct.cells)), .p (iP rp), .p (iP k3), .p (iP i3), .p (sP n3), .p (.sl 2 (lvPs l3)), .p (.sl 5 (tmPs s3)), .p (.sl 5 (tmPs rr)), .p (.sl 15 (fs.map Fu.cells))]), some (.cells zAnC), some (.cells [.p (iP sk), .p (iP u2), .p (sP u3), .p (.sl 2 (lvPs u4)), .p (.sl 5 (tmPs u5))]), some (.cells [.p (sP nm), .p (iP pr), .p (.sl 5 (tmPs (bs.take N))), .p (.sl 5 (tmPs (bs.drop N))), .p (iP sk), .p (iP u2), .p (sP u3), .p (.sl 2 (lvPs u4)), .p (.sl 5 (tmPs u5)), .own (h.length + 5) 4 (cnPs (RC j))]), some (.cells [.p (iP k), .p (iP i), .p (sP n), .p (.sl 2 (lvPs ls)), .p (.sl 5 (tmPs ks)), .p (.sl 5 (tmPs (bs.take N))), iA (bs.length - N : Nat)]), some (.tok (RC j).length 4)]) 0 (by simp [allCn]) ?_ (by simp [hR0, cnPs]) ?_
  · simp
    repeat' (first | exact WeakL.nil | apply WeakL.cons)
    all_goals first | exact Weak.junk _ | exact Weak.refl _ | exact Weak.nil _ | exact Weak.own _ _ _ | exact Weak.int (by omega)
  rintro j ⟨hj, hso⟩ IH
  simp
  refine Run.reg fun K hK => ?_
  simp
  refine hK _ _ _ ?_; clear hK K
  by_cases hjl : j < cs.length
  · have hg : cs[j]? = some cs[j] := List.getElem?_eq_getElem hjl
    have htk : cs.take (j + 1) = cs.take j ++ [cs[j]] := List.take_succ_eq_append_getElem hjl
    obtain ⟨rj, hrj⟩ : ∃ rj, allCn F (cs.take j) = some rj := Option.isSome_iff_exists.1 hso
    have hRj : RC j = rj := by rw [hRC]; simp only [hrj, Option.getD_some]
    have hlr : rj.length = j := by rw [allCn_len F _ _ hrj, List.length_take]; omega
    have hsn := allCn_snoc F (cs.take j) rj cs[j] hrj
    rw [← htk] at hsn
    have hfail : F cs[j] = none → r = (zAn, 3) := fun h0 => by
      rw [hr, ← List.take_append_drop (j + 1) cs, allCn_none F _ _ (by rw [hsn, h0])]
    have hRn : ∀ x, F cs[j] = some x → RC (j + 1) = rj ++ [x] := fun x hx => by rw [hRC]; simp only [hsn, hx, Option.getD_some]
    have c4 := fun (g : Heap) (hw : WF g) => d3 cs[j] (List.getElem_mem hjl) g hw
    generalize cs[j] = c at hg hsn hfail hRn c4
    generalize F c = o at hsn hfail hRn c4
    obtain ⟨cn, ⟨v1, v2, v3, v4, v5⟩⟩ := c
    simp only [Ct.av, Ct.cells, cells_mk, List.map] at c4
    rw [hRj]
    refine Run.cond (b := true) (by simp [hjl]) ?_
    simp only [if_true]
    refine Run.reg fun K hK => ?_
    simp [hg, Ct.cells]
    refine hK _ _ _ ?_; clear hK K
    refine Run.reg fun K hK => ?_
    simp
    refine hK _ _ _ ?_; clear hK K
    cases o with
    | none =>
      simp only [optC, Option.getD_none, zCn, Cn.av, Cn.cells, List.map] at c4
      refine Run.call rfl (by first | rfl | simp) (by simp) rfl (c4 _ (hh.app (by simp))) ?_ ?_
      rotate_left
      · rintro v h' ⟨hv, _⟩; cases hv
      rintro v h' ⟨hv, rfl⟩
      simp only [AOut.ret.injEq] at hv
      subst hv
      refine Run.ops fun K hK => ?_
      simp
      refine hK _ _ _ ?_; clear hK K
      refine Run.reg fun K hK => ?_
      simp
      refine hK _ _ _ ?_; clear hK K
      refine Run.cond (b := true) (by simp) ?_
      simp only [if_true]
      refine Run.reg fun K hK => ?_
      simp
      refine hK _ _ _ ?_; clear hK K
      refine Run.ret ?_
      exact Fin.ret' (h0 := h) (xs := [.agg zAnC, iA 3]) (by simp) rfl hh rfl (by simp) rfl (Weak.tup (WeakL.cons an_weak0 (WeakL.refl _))) (by simp [An.av, zAn, An.cells, zT]) ⟨by rw [hfail rfl], rfl⟩
    | some x =>
      have hRx := hRn x rfl
      obtain ⟨x1, x2, x3, x4⟩ := x
      simp only [optC, Option.getD_some, Cn.av, Cn.cells, List.map] at c4
      have hb1 : (rj.length + 1) * 88 ≤ 140737488355328 := by omega
      have hb2 : rj.length + 1 ≤ 9223372036854775807 := by omega
      refine Run.call rfl (by first | rfl | simp) (by simp) rfl (c4 _ (hh.app (by simp))) ?_ ?_
      rotate_left
      · rintro v h' ⟨hv, _⟩; cases hv
      rintro v h' ⟨hv, rfl⟩
      simp only [AOut.ret.injEq] at hv
      subst hv
      refine Run.ops fun K hK => ?_
      simp
      refine hK _ _ _ ?_; clear hK K
      refine Run.reg fun K hK => ?_
      simp
      refine hK _ _ _ ?_; clear hK K
      refine Run.cond (b := false) (by simp) ?_
      simp only [Bool.false_eq_true, if_false]
      refine Run.reg fun K hK => ?_
      simp [hb1, hb2]
      refine hK _ _ _ ?_; clear hK K
      refine Run.reg fun K hK => ?_
      simp
      refine hK _ _ _ ?_; clear hK K
      refine Run.keep [1, 2, 6, 7, 69, 70, 71] ?_
      simp
      refine Run.cutAt 6 hh rfl (by omega) (by simp) (by simp) (by simp) rfl ?_
      refine IH (j + 1) _ _ ⟨by omega, by rw [hsn]; rfl⟩ (by omega) ?_ (by rw [hRx]; simp [cnPs, Cn.cells])
      simp
      repeat' (first | exact WeakL.nil | apply WeakL.cons)
      all_goals first | exact Weak.junk _ | exact Weak.refl _ | exact Weak.nil _ | exact Weak.own _ _ _ | exact Weak.int (by omega)
  · have hje : j = cs.length := by omega
    subst hje
    obtain ⟨rj, hrj⟩ : ∃ rj, allCn F (cs.take cs.length) = some rj := Option.isSome_iff_exists.1 hso
    have hRj : RC cs.length = rj := by rw [hRC]; simp only [hrj, Option.getD_some]
    rw [List.take_length] at hrj
    rw [hrj] at hr
    simp only at hr
    rw [hRj]
    refine Run.cond (b := false) (by simp) ?_
    simp only [Bool.false_eq_true, if_false]
    refine Run.exit rfl ?_
    refine Run.reg fun K hK => ?_
    simp
    refine hK _ _ _ ?_; clear hK K
    refine Run.ret ?_
    refine Fin.ret' (h0 := h) (xs := [.agg [.p (sP nm), .p (iP pr), .p (.sl 5 (tmPs (bs.take N))), .p (.sl 5 (tmPs (bs.drop N))), .p (iP sk), .p (iP u2), .p (sP u3), .p (.sl 2 (lvPs u4)), .p (.sl 5 (tmPs u5)), .own (h.length + 5) 4 (cnPs rj)], iA 0]) (by simp) rfl hh rfl (by simp) rfl (y := .tup [r.1.av, iA r.2]) ?_ (by simp [An.av]) ⟨rfl, rfl⟩
    rw [hr]
    simp only [An.av, An.cells, cells_mk, List.map, List.cons_append, List.nil_append]
    refine Weak.tup (WeakL.cons (Weak.agg ?_) (WeakL.refl _))
    repeat' (first | exact WeakL.nil | apply WeakL.cons)
    all_goals first | exact Weak.junk _ | exact Weak.refl _ | exact Weak.nil _ | exact Weak.own _ _ _ | exact Weak.int (by omega)

end Go.Proofs.Ytppgpabjcenjdaa
