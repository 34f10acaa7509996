/-
  ref21.Relate.
-/
import Derived.Test.YtppgpabjcenjdaaCX26

namespace Go.Proofs.Ytppgpabjcenjdaa

open Go Go.AI
set_option maxRecDepth 8000 in
set_option maxHeartbeats 16000000 in
theorem relate43_any (env : List Dc) (hg : Env.good env) (hf : EnvFine env) (x : Tm) (hx : x.lvs) (hxs : x.size ≤ 1048576) (N : Nat) : ∀ (y : Tm) (h : Heap), y.size ≤ N → y.size ≤ 1048576 → WF h →
    ACalls Try.prog 43 [envA env, x.av, y.av] h fun o h' => o = .ret (iA (relF env x N y)) ∧ h' = h := by
  induction N with
  | zero => intro y _ hN; have := y.size_pos; omega
  | succ N ih =>
  intro y h hN hsz hh
  have c1 := fun (g : Heap) (hw : WF g) => same_any x.size x y g (Nat.le_refl _) (by omega) hx hw
  have c2 := fun (g : Heap) (hw : WF g) => refConstruct_any g hw env y hg hf hsz
  have c3 := fun (g : Heap) (hw : WF g) => spine44' g hw x hxs
  have hcs := fun (c : Co) (hc : conZ env y = some c) => conZ_some hf hc
  have hdg := fun (d : Dc) (hd : d ∈ env) => hg.2 d hd
  have hsx := spG_ok' x.size x hx
  rw [show spG x.size x = resSpine x from rfl] at hsx
  obtain ⟨r, hr⟩ : ∃ r, r = relF env x (N + 1) y := ⟨_, rfl⟩
  rw [← hr]
  simp only [relF] at hr
  obtain ⟨f, hfe⟩ : ∃ f, f = relF env x N := ⟨_, rfl⟩
  rw [← hfe] at hr ih
  generalize sameT x y = b at c1 hr
  generalize conZ env y = oc at c2 hr hcs
  generalize resSpine x = sx at c3 hr hsx
  have hys := hsz
  have hyN := hN
  obtain ⟨ys, hyse⟩ : ∃ n, n = y.size := ⟨_, rfl⟩
  rw [← hyse] at hcs hys hyN
  obtain ⟨y1, y2, y3, y4, y5⟩ := y
  clear hsz hN hyse hfe
  obtain ⟨hd, xs⟩ := sx
  simp only at hsx c3
  have hrec : ∀ (a : Tm), a.size < ys → ∀ (g : Heap), WF g → ACalls Try.prog 43 [envA env, x.av, a.av] g fun o h' => o = .ret (iA (f a)) ∧ h' = g := fun a ha g hw => ih a g (by omega) (by omega) hw
  have hsm : ∀ (a : Tm) (g : Heap), WF g → ACalls Try.prog 33 [hd.av, a.av] g fun o h' => o = .ret (bA (sameT hd a)) ∧ h' = g := fun a g hw => same_any hd.size hd a g (Nat.le_refl _) (by omega) hsx.1 hw
  clear ih hsx hx hxs
  obtain ⟨x1, x2, x3, x4, x5⟩ := x
  simp only [Tm.av, cells_mk, List.map] at c1 c2 c3 hrec hsm ⊢
  refine ACalls.of_run Try.func43 rfl ?_
  simp only [Try.ntmps43, List.length_cons, List.length_nil]
  refine Run.reg fun K hK => ?_
  simp
  refine hK _ _ _ ?_; clear hK K
  refine Run.reg fun K hK => ?_
  simp
  refine hK _ _ _ ?_; clear hK K
  refine Run.call rfl (by first | rfl | simp) (by simp) rfl (c1 _ (hh.app (by simp))) ?_ ?_
  rotate_left
  · rintro v h' ⟨hv, _⟩; cases hv
  rintro v h' ⟨hv, rfl⟩
  simp only [AOut.ret.injEq] at hv
  subst hv
  cases b with
  | true =>
    rw [if_pos rfl] at hr
    refine Run.ops fun K hK => ?_
    simp
    refine hK _ _ _ ?_; clear hK K
    refine Run.cond (b := true) (by simp) ?_
    simp only [if_true]
    refine Run.reg fun K hK => ?_
    simp
    refine hK _ _ _ ?_; clear hK K
    refine Run.ret ?_
    exact Fin.ret' (h0 := h) (by simp) rfl hh rfl (by simp; rfl) rfl (Weak.refl _) (by simp) ⟨by rw [hr]; rfl, rfl⟩
  | false =>
  rw [if_neg (by simp)] at hr
  refine Run.ops fun K hK => ?_
  simp
  refine hK _ _ _ ?_; clear hK K
  refine Run.cond (b := false) (by simp) ?_
  simp only [Bool.false_eq_true, if_false]
  refine Run.reg fun K hK => ?_
  simp
  refine hK _ _ _ ?_; clear hK K
  cases oc with
  | none =>
    simp only at hr
    simp only [optCo, Option.getD_none, zCo, Dc.av, zDc, Dc.cells, zT, cells_mk, List.map, List.cons_append, List.nil_append] at c2
    refine Run.call rfl (by first | rfl | simp) (by simp) rfl (c2 _ (hh.app (by simp))) ?_ ?_
    rotate_left
    · rintro v h' ⟨hv, _⟩; cases hv
    rintro v h' ⟨hv, rfl⟩
    simp only [AOut.ret.injEq] at hv
    subst hv
    refine Run.ops fun K hK => ?_
    simp
    refine hK _ _ _ ?_; clear hK K
    refine Run.reg fun K hK => ?_
    simp
    refine hK _ _ _ ?_; clear hK K
    refine Run.cond (b := true) (by simp) ?_
    simp only [if_true]
    refine Run.reg fun K hK => ?_
    simp
    refine hK _ _ _ ?_; clear hK K
    refine Run.ret ?_
    exact Fin.ret' (h0 := h) (by simp) rfl hh rfl (by simp; rfl) rfl (Weak.refl _) (by simp) ⟨by rw [hr]; rfl, rfl⟩
  | some c =>
  simp only at hr
  simp only [optCo, Option.getD_some] at c2
  obtain ⟨hcm, hcok, hci, hca, hcl⟩ := hcs c rfl
  have c4 := fun (j : Nat) (g : Heap) (hw : WF g) => recs126_any g hw c.d c.i j (hdg _ hcm) hcok.ps8 hci
  clear hdg hcs hcm hcok hci
  obtain ⟨d1, d2, d3, d4, d5⟩ := hd
  obtain ⟨d, ci, as_⟩ := c
  simp only at hr hca hcl c4
  obtain ⟨LZ, hLZ⟩ : ∃ LZ, LZ = lenZ d ci := ⟨_, rfl⟩
  have hgo : ∀ a l j, relGo f d ci (.mk d1 d2 d3 d4 d5, xs) (a :: l) j = match LZ j with
      | none => relGo f d ci (.mk d1 d2 d3 d4 d5, xs) l (j + 1)
      | some n => if f a ≠ 0 then 2 else if hitB (.mk d1 d2 d3 d4 d5, xs) a n = true then 2 else relGo f d ci (.mk d1 d2 d3 d4 d5, xs) l (j + 1) := fun a l j => by rw [hLZ]; rfl
  have hgo0 : ∀ j, relGo f d ci (.mk d1 d2 d3 d4 d5, xs) [] j = 0 := fun j => rfl
  obtain ⟨GO, hGO⟩ : ∃ GO, GO = relGo f d ci (.mk d1 d2 d3 d4 d5, xs) := ⟨_, rfl⟩
  rw [← hLZ] at c4
  rw [← hGO] at hr hgo hgo0
  clear hLZ hGO
  obtain ⟨kk, nm, pr, ⟨k1, i1, n1, l1, s1⟩, ⟨k2, i2, n2, l2, s2⟩, fx, cs, rp, ⟨k3, i3, n3, l3, s3⟩, rr, fs⟩ := d
  simp only [Dc.av, Dc.cells, cells_mk, List.map, List.cons_append, List.nil_append] at c2 c3 c4 hsm
  refine Run.call rfl (by first | rfl | simp) (by simp) rfl (c2 _ (hh.app (by simp))) ?_ ?_
  rotate_left
  · rintro v h' ⟨hv, _⟩; cases hv
  rintro v h' ⟨hv, rfl⟩
  simp only [AOut.ret.injEq] at hv
  subst hv
  refine Run.ops fun K hK => ?_
  simp
  refine hK _ _ _ ?_; clear hK K
  refine Run.reg fun K hK => ?_
  simp
  refine hK _ _ _ ?_; clear hK K
  refine Run.cond (b := false) (by simp) ?_
  simp only [Bool.false_eq_true, if_false]
  refine Run.reg fun K hK => ?_
  simp
  refine hK _ _ _ ?_; clear hK K
  refine Run.call rfl (by first | rfl | simp) (by simp) rfl (c3 _ (hh.app (by simp))) ?_ ?_
  rotate_left
  · rintro v h' ⟨hv, _⟩; cases hv
  rintro v h' ⟨hv, rfl⟩
  simp only [AOut.ret.injEq] at hv
  subst hv
  refine Run.ops fun K hK => ?_
  simp
  refine hK _ _ _ ?_; clear hK K
  refine Run.reg fun K hK => ?_
  simp
  refine hK _ _ _ ?_; clear hK K
  refine Run.loopS [0, 4, 7, 8, 9, 11, 12] (fun j : Nat => j ≤ as_.length ∧ r = GO (as_.drop j) j) (fun j => as_.length - j) (fun j => [(13, iA j)]) (fun _ => _) 0 (by simp [hr]) ?_ rfl ?_
  · simp
    repeat' (first | exact WeakL.nil | apply WeakL.cons)
    all_goals first | exact Weak.junk _ | exact Weak.refl _ | exact Weak.nil _ | exact Weak.own _ _ _ | exact Weak.int (by omega)
  rintro j ⟨hj, hrj⟩ IH
  simp
  refine Run.reg fun K hK => ?_
  simp
  refine hK _ _ _ ?_; clear hK K
  by_cases hjl : j < as_.length
  · have hge : as_[j]? = some as_[j] := List.getElem?_eq_getElem hjl
    have hal := hca _ (List.getElem_mem hjl)
    rw [List.drop_eq_getElem_cons hjl] at hrj
    rw [hgo] at hrj
    generalize as_[j] = a at hge hal hrj
    have e1 := fun (g : Heap) (hw : WF g) => hrec a hal g hw
    have e2 := fun (g : Heap) (hw : WF g) => hsm a g hw
    have e0 := fun (g : Heap) (hw : WF g) => c4 j g hw
    generalize LZ j = fo at hrj e0
    obtain ⟨w1, w2, w3, w4, w5⟩ := a
    simp only [cells_mk, List.map] at e1 e2
    refine Run.cond (b := true) (by simp [hjl]) ?_
    simp only [if_true]
    refine Run.reg fun K hK => ?_
    simp
    refine hK _ _ _ ?_; clear hK K
    refine Run.call rfl (by first | rfl | simp) (by simp) rfl (e0 _ (hh.app (by simp))) ?_ ?_
    rotate_left
    · rintro v h' ⟨hv, _⟩; cases hv
    rintro v h' ⟨hv, rfl⟩
    simp only [AOut.ret.injEq] at hv
    subst hv
    refine Run.ops fun K hK => ?_
    simp
    refine hK _ _ _ ?_; clear hK K
    refine Run.reg fun K hK => ?_
    simp
    refine hK _ _ _ ?_; clear hK K
    cases fo with
    | none =>
      simp only at hrj
      refine Run.cond (b := true) (by simp) ?_
      simp only [if_true]
      refine Run.exit rfl ?_
      refine Run.reg fun K hK => ?_
      simp
      refine hK _ _ _ ?_; clear hK K
      refine Run.keep [0, 4, 7, 8, 9, 11, 12, 13] ?_
      simp
      refine Run.cutAt 4 hh rfl (by omega) (by simp) (by simp [AV.under]) (by simp [AO.under]) rfl ?_
      refine IH (j + 1) _ _ ⟨by omega, hrj⟩ (by omega) ?_ (by simp)
      simp
      repeat' (first | exact WeakL.nil | apply WeakL.cons)
      all_goals first | exact Weak.junk _ | exact Weak.refl _ | exact Weak.nil _ | exact Weak.own _ _ _ | exact Weak.int (by omega)
    | some n =>
      simp only at hrj
      simp only [Option.getD_some, Option.isSome_some]
      refine Run.cond (b := false) (by simp) ?_
      simp only [Bool.false_eq_true, if_false]
      by_cases hfa : f (.mk w1 w2 w3 w4 w5) = 0
      rotate_left
      · rw [if_pos hfa] at hrj
        have hfb : (f (.mk w1 w2 w3 w4 w5) != 0) = true := by simpa using hfa
        refine Run.draw [0, 0, 0, 0, 0, 0, 0, 1] [0, 0, 0, 0, 0, 0, 0, 0] [0, 0, 0, 0, 12, 28, 63, 127] [0, 1, 2, 3, 4, 5, 6, 7] (by kernel_rfl) (by kernel_rfl) ?_
        refine DR.go fun K hK => ?_
        simp [hge]
        refine hK _ _ _ _ ?_; clear hK K
        refine DR.call rfl rfl rfl (by simp) rfl (e1 _ (hh.app (by simp))) ?_
        refine DR.go fun K hK => ?_
        simp [hfb]
        refine hK _ _ _ _ ?_; clear hK K
        change Run _ _ _ _ _ _ _ _
        refine Run.cond (b := true) (by simp) ?_
        simp only [if_true]
        refine Run.reg fun K hK => ?_
        simp
        refine hK _ _ _ ?_; clear hK K
        refine Run.ret ?_
        exact Fin.ret' (h0 := h) (by simp) rfl hh rfl (by simp; rfl) rfl (Weak.refl _) (by simp) ⟨by rw [hrj]; rfl, rfl⟩
      rw [if_neg (by simpa using hfa)] at hrj
      have hfb : (f (.mk w1 w2 w3 w4 w5) != 0) = false := by simp [hfa]
      refine Run.draw [0, 0, 0, 0, 0, 0, 0, 1] [0, 0, 0, 0, 0, 0, 0, 0] [0, 0, 0, 0, 12, 28, 63, 127] [0, 1, 2, 3, 4, 5, 6, 7] (by kernel_rfl) (by kernel_rfl) ?_
      refine DR.go fun K hK => ?_
      simp [hge]
      refine hK _ _ _ _ ?_; clear hK K
      refine DR.call rfl rfl rfl (by simp) rfl (e1 _ (hh.app (by simp))) ?_
      refine DR.go fun K hK => ?_
      simp [hfb]
      refine hK _ _ _ _ ?_; clear hK K
      change Run _ _ _ _ _ _ _ _
      refine Run.cond (b := false) (by simp) ?_
      simp only [Bool.false_eq_true, if_false]
      obtain ⟨q, hq⟩ : ∃ q, q = hitB (.mk d1 d2 d3 d4 d5, xs) (.mk w1 w2 w3 w4 w5) n := ⟨_, rfl⟩
      rw [← hq] at hrj
      simp only [hitB, Tm.kind] at hq
      refine Run.joinA [0, 4, 7, 8, 9, 11, 12, 13] [(78, bA q)] (fun hJ => ?_) ?_
      · by_cases g1 : d1 = 0
        rotate_left
        · have g1' : (d1 == 0) = false := by simpa using g1
          rw [g1'] at hq
          simp only [Bool.false_and] at hq
          refine Run.draw [0, 0, 0, 0, 0, 0, 0, 0, 0, 0, 0, 0, 0, 0, 0, 1, 1, 1, 1, 1, 1, 1] [0, 0, 0, 0, 0, 0, 0, 0, 0, 0, 0, 0, 0, 0, 0, 0, 0, 0, 0, 0, 0, 0] [0, 1, 3, 7, 15, 31, 63, 127, 255, 511, 511, 511, 3583, 7679, 16383, 32767, 65535, 131071, 131071, 393215, 1048575, 2097151] [0, 1, 2, 3, 4, 5, 6, 7, 8, 9, 10, 11, 12, 13, 14, 15, 16, 17, 18, 19, 20, 21] (by kernel_rfl) (by kernel_rfl) ?_
          refine DR.go fun K hK => ?_
          simp [g1']
          refine hK _ _ _ _ ?_; clear hK K
          change Run _ _ _ _ _ _ _ _
          repeat (first | refine Run.skip ?_ | refine Run.opsNil ?_ | refine Run.inBlock ?_)
          refine hJ _ ?_
          rw [hq]
          simp
          repeat' (first | exact WeakL.nil | apply WeakL.cons)
          all_goals first | exact Weak.junk _ | exact Weak.refl _ | exact Weak.nil _ | exact Weak.own _ _ _ | exact Weak.int (by omega)
        subst g1
        by_cases g2 : 0 < xs.length
        rotate_left
        · have g2' : ¬ (0 : Int) < xs.length := by omega
          have g2'' : xs = [] := by cases xs with | nil => rfl | cons a l => simp at g2
          simp only [g2, decide_false, Bool.false_and, Bool.and_false] at hq
          subst g2''
          refine Run.draw [0, 0, 0, 0, 0, 0, 0, 0, 0, 0, 0, 0, 0, 0, 0, 1, 1, 1, 1, 1, 1, 1] [0, 0, 0, 0, 0, 0, 0, 0, 0, 0, 0, 0, 0, 0, 0, 0, 0, 0, 0, 0, 0, 0] [0, 1, 3, 7, 15, 31, 63, 127, 255, 511, 511, 511, 3583, 7679, 16383, 32767, 65535, 131071, 131071, 393215, 1048575, 2097151] [0, 1, 2, 3, 4, 5, 6, 7, 8, 9, 10, 11, 12, 13, 14, 15, 16, 17, 18, 19, 20, 21] (by kernel_rfl) (by kernel_rfl) ?_
          refine DR.go fun K hK => ?_
          simp
          refine hK _ _ _ _ ?_; clear hK K
          change Run _ _ _ _ _ _ _ _
          repeat (first | refine Run.skip ?_ | refine Run.opsNil ?_ | refine Run.inBlock ?_)
          refine hJ _ ?_
          rw [hq]
          simp
          repeat' (first | exact WeakL.nil | apply WeakL.cons)
          all_goals first | exact Weak.junk _ | exact Weak.refl _ | exact Weak.nil _ | exact Weak.own _ _ _ | exact Weak.int (by omega)
        have g2' : (0 : Int) < xs.length := by omega
        have g2'' : ¬ xs = [] := fun e => by rw [e] at g2; simp at g2
        simp only [g2, decide_true, Bool.true_and, beq_self_eq_true] at hq
        generalize sameT (.mk 0 d2 d3 d4 d5) (.mk w1 w2 w3 w4 w5) = b1 at hq e2
        cases b1 with
        | false =>
          simp only [Bool.false_and] at hq
          refine Run.draw [0, 0, 0, 0, 0, 0, 0, 0, 0, 0, 0, 0, 0, 0, 0, 1, 1, 1, 1, 1, 1, 1] [0, 0, 0, 0, 0, 0, 0, 0, 0, 0, 0, 0, 0, 0, 0, 0, 0, 0, 0, 0, 0, 0] [0, 1, 3, 7, 15, 31, 63, 127, 255, 511, 511, 511, 3583, 7679, 16383, 32767, 65535, 131071, 131071, 393215, 1048575, 2097151] [0, 1, 2, 3, 4, 5, 6, 7, 8, 9, 10, 11, 12, 13, 14, 15, 16, 17, 18, 19, 20, 21] (by kernel_rfl) (by kernel_rfl) ?_
          refine DR.go fun K hK => ?_
          simp [g2, hge]
          refine hK _ _ _ _ ?_; clear hK K
          refine DR.call rfl rfl rfl (by simp) rfl (e2 _ (hh.app (by simp))) ?_
          refine DR.go fun K hK => ?_
          simp
          refine hK _ _ _ _ ?_; clear hK K
          change Run _ _ _ _ _ _ _ _
          repeat (first | refine Run.skip ?_ | refine Run.opsNil ?_ | refine Run.inBlock ?_)
          refine hJ _ ?_
          rw [hq]
          simp
          repeat' (first | exact WeakL.nil | apply WeakL.cons)
          all_goals first | exact Weak.junk _ | exact Weak.refl _ | exact Weak.nil _ | exact Weak.own _ _ _ | exact Weak.int (by omega)
        | true =>
          simp only [Bool.true_and] at hq
          have hq2 : ((n : Int) == xs.length) = q := by rw [hq, Bool.eq_iff_iff]; simp; omega
          refine Run.draw [0, 0, 0, 0, 0, 0, 0, 0, 0, 0, 0, 0, 0, 0, 0, 1, 1, 1, 1, 1, 1, 1] [0, 0, 0, 0, 0, 0, 0, 0, 0, 0, 0, 0, 0, 0, 0, 0, 0, 0, 0, 0, 0, 0] [0, 1, 3, 7, 15, 31, 63, 127, 255, 511, 511, 511, 3583, 7679, 16383, 32767, 65535, 131071, 131071, 393215, 1048575, 2097151] [0, 1, 2, 3, 4, 5, 6, 7, 8, 9, 10, 11, 12, 13, 14, 15, 16, 17, 18, 19, 20, 21] (by kernel_rfl) (by kernel_rfl) ?_
          refine DR.go fun K hK => ?_
          simp [g2, hge]
          refine hK _ _ _ _ ?_; clear hK K
          refine DR.call rfl rfl rfl (by simp) rfl (e2 _ (hh.app (by simp))) ?_
          refine DR.go fun K hK => ?_
          simp [hq2]
          refine hK _ _ _ _ ?_; clear hK K
          change Run _ _ _ _ _ _ _ _
          repeat (first | refine Run.skip ?_ | refine Run.opsNil ?_ | refine Run.inBlock ?_)
          refine hJ _ ?_
          simp
          repeat' (first | exact WeakL.nil | apply WeakL.cons)
          all_goals first | exact Weak.junk _ | exact Weak.refl _ | exact Weak.nil _ | exact Weak.own _ _ _ | exact Weak.int (by omega)
      simp only [setMany, keepT, keepT.go, List.contains_cons, List.set_cons_succ, List.set_cons_zero]
      simp
      cases q with
      | true =>
        rw [if_pos rfl] at hrj
        refine Run.cond (b := true) (by simp) ?_
        simp only [if_true]
        refine Run.reg fun K hK => ?_
        simp
        refine hK _ _ _ ?_; clear hK K
        refine Run.ret ?_
        exact Fin.ret' (h0 := h) (by simp) rfl hh rfl (by simp; rfl) rfl (Weak.refl _) (by simp) ⟨by rw [hrj]; rfl, rfl⟩
      | false =>
        rw [if_neg (by simp)] at hrj
        refine Run.cond (b := false) (by simp) ?_
        simp only [Bool.false_eq_true, if_false]
        refine Run.reg fun K hK => ?_
        simp
        refine hK _ _ _ ?_; clear hK K
        refine Run.keep [0, 4, 7, 8, 9, 11, 12, 13] ?_
        simp
        refine Run.cutAt 4 hh rfl (by omega) (by simp) (by simp [AV.under]) (by simp [AO.under]) rfl ?_
        refine IH (j + 1) _ _ ⟨by omega, hrj⟩ (by omega) ?_ (by simp)
        simp
        repeat' (first | exact WeakL.nil | apply WeakL.cons)
        all_goals first | exact Weak.junk _ | exact Weak.refl _ | exact Weak.nil _ | exact Weak.own _ _ _ | exact Weak.int (by omega)
  · have hje : j = as_.length := by omega
    subst hje
    rw [List.drop_length, hgo0] at hrj
    refine Run.cond (b := false) (by simp) ?_
    simp only [Bool.false_eq_true, if_false]
    refine Run.exit rfl ?_
    refine Run.reg fun K hK => ?_
    simp
    refine hK _ _ _ ?_; clear hK K
    refine Run.ret ?_
    exact Fin.ret' (h0 := h) (by simp) rfl hh rfl (by simp; rfl) rfl (Weak.refl _) (by simp) ⟨by rw [hrj]; rfl, rfl⟩

end Go.Proofs.Ytppgpabjcenjdaa
