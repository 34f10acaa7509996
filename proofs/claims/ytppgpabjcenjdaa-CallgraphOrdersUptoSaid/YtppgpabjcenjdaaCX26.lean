/-
  callgraph.Relate.
-/
import Derived.Test.YtppgpabjcenjdaaCX25

namespace Go.Proofs.Ytppgpabjcenjdaa

open Go Go.AI Go.MapKept
theorem spG_lt : ∀ (n : Nat) (t : Tm), ∀ a ∈ (spG n t).2, a.size < t.size
  | 0, t => by simp [spG]
  | n + 1, t => by
    simp only [spG]
    cases hb : isB 4 t with
    | none => simp
    | some p =>
      obtain ⟨f, a⟩ := p
      have hs := isB_size hb
      intro x hx
      simp only [List.mem_append, List.mem_singleton] at hx
      rcases hx with hx | rfl
      · have := spG_lt n f x hx; omega
      · omega
theorem spine_lt (t : Tm) : ∀ a ∈ (resSpine t).2, a.size < t.size := spG_lt _ _
theorem conZ_some {env : List Dc} (hf : EnvFine env) {t : Tm} {c : Co} (h : conZ env t = some c) : c.d ∈ env ∧ DcOk c.d ∧ c.i < c.d.cs.length ∧ (∀ a ∈ c.as_, a.size < t.size) ∧ c.as_.length ≤ t.size := by
  unfold conZ at h
  split at h
  · cases h
  split at h
  · rename_i h1
    rcases famZ_cases hf (resSpine t).1.name with e | ⟨d, a, e, hm, hk, hok, hpl⟩
    · rw [e] at h1; simp at h1
    · rw [e] at h h1
      simp only at h h1
      rcases hpl with hpl | ⟨j, rfl, hj⟩
      · omega
      · rw [Int.toNat_natCast] at h
        split at h
        · split at h
          · cases h
            exact ⟨hm, hok, hj, fun a ha => spine_lt t a (List.mem_of_mem_drop ha), by have := resSpine_len t; simp; omega⟩
          · cases h
        · cases h
  · cases h
def hitB (sx : Tm × List Tm) (a : Tm) (n : Nat) : Bool := sx.1.kind == 0 && (decide (0 < sx.2.length) && (sameT sx.1 a && decide (n = sx.2.length)))
def relGo (f : Tm → Int) (d : Dc) (i : Nat) (sx : Tm × List Tm) : List Tm → Nat → Int
  | [], _ => 0
  | a :: l, j => match lenZ d i j with
    | none => relGo f d i sx l (j + 1)
    | some n => if f a ≠ 0 then 2 else if hitB sx a n = true then 2 else relGo f d i sx l (j + 1)
def relF (env : List Dc) (x : Tm) : Nat → Tm → Int
  | 0, _ => 0
  | n + 1, y => if sameT x y = true then 1 else match conZ env y with
    | none => 0
    | some c => relGo (relF env x n) c.d c.i (resSpine x) c.as_ 0
def relZ (env : List Dc) (x y : Tm) : Int := relF env x y.size y
set_option maxRecDepth 8000 in
set_option maxHeartbeats 16000000 in
theorem relate42_any (env : List Dc) (hg : Env.good env) (hf : EnvFine env) (x : Tm) (hx : x.lvs) (hxs : x.size ≤ 1048576) (N : Nat) : ∀ (y : Tm) (h : Heap), y.size ≤ N → y.size ≤ 1048576 → WF h →
    ACalls Try.prog 42 [envA env, x.av, y.av] h fun o h' => o = .ret (iA (relF env x N y)) ∧ h' = h := by
  induction N with
  | zero => intro y _ hN; have := y.size_pos; omega
  | succ N ih =>
  intro y h hN hsz hh
  have c1 := fun (g : Heap) (hw : WF g) => tsame_any x.size x y g (Nat.le_refl _) (by omega) hx hw
  have c2 := fun (g : Heap) (hw : WF g) => construct_any g hw env y hg hf hsz
  have c3 := fun (g : Heap) (hw : WF g) => spine72_any g hw x hxs
  have hcs := fun (c : Co) (hc : conZ env y = some c) => conZ_some hf hc
  have hdg := fun (d : Dc) (hd : d ∈ env) => hg.2 d hd
  have hsx := spG_ok' x.size x hx
  rw [show spG x.size x = resSpine x from rfl] at hsx
  obtain ⟨r, hr⟩ : ∃ r, r = relF env x (N + 1) y := ⟨_, rfl⟩
  rw [← hr]
  simp only [relF] at hr
  obtain ⟨f, hfe⟩ : ∃ f, f = relF env x N := ⟨_, rfl⟩
  rw [← hfe] at hr ih
  generalize sameT x y = b at c1 hr
  generalize conZ env y = oc at c2 hr hcs
  generalize resSpine x = sx at c3 hr hsx
  have hys := hsz
  have hyN := hN
  obtain ⟨ys, hyse⟩ : ∃ n, n = y.size := ⟨_, rfl⟩
  rw [← hyse] at hcs hys hyN
  obtain ⟨y1, y2, y3, y4, y5⟩ := y
  clear hsz hN hyse hfe
  obtain ⟨hd, xs⟩ := sx
  simp only at hsx c3
  have hrec : ∀ (a : Tm), a.size < ys → ∀ (g : Heap), WF g → ACalls Try.prog 42 [envA env, x.av, a.av] g fun o h' => o = .ret (iA (f a)) ∧ h' = g := fun a ha g hw => ih a g (by omega) (by omega) hw
  have hsm : ∀ (a : Tm) (g : Heap), WF g → ACalls Try.prog 74 [hd.av, a.av] g fun o h' => o = .ret (bA (sameT hd a)) ∧ h' = g := fun a g hw => tsame_any hd.size hd a g (Nat.le_refl _) (by omega) hsx.1 hw
  clear ih hsx hx hxs
  obtain ⟨x1, x2, x3, x4, x5⟩ := x
  simp only [Tm.av, cells_mk, List.map] at c1 c2 c3 hrec hsm ⊢
  refine ACalls.of_run Try.func42 rfl ?_
  simp only [Try.ntmps42, List.length_cons, List.length_nil]
  refine Run.reg fun K hK => ?_
  simp
  refine hK _ _ _ ?_; clear hK K
  refine Run.reg fun K hK => ?_
  simp
  refine hK _ _ _ ?_; clear hK K
  refine Run.call rfl (by first | rfl | simp) (by simp) rfl (c1 _ (hh.app (by simp))) ?_ ?_
  rotate_left
  · rintro v h' ⟨hv, _⟩; cases hv
  rintro v h' ⟨hv, rfl⟩
  simp only [AOut.ret.injEq] at hv
  subst hv
  cases b with
  | true =>
    rw [if_pos rfl] at hr
    refine Run.ops fun K hK => ?_
    simp
    refine hK _ _ _ ?_; clear hK K
    refine Run.cond (b := true) (by simp) ?_
    simp only [if_true]
    refine Run.reg fun K hK => ?_
    simp
    refine hK _ _ _ ?_; clear hK K
    refine Run.ret ?_
    exact Fin.ret' (h0 := h) (by simp) rfl hh rfl (by simp; rfl) rfl (Weak.refl _) (by simp) ⟨by rw [hr]; rfl, rfl⟩
  | false =>
  rw [if_neg (by simp)] at hr
  refine Run.ops fun K hK => ?_
  simp
  refine hK _ _ _ ?_; clear hK K
  refine Run.cond (b := false) (by simp) ?_
  simp only [Bool.false_eq_true, if_false]
  refine Run.reg fun K hK => ?_
  simp
  refine hK _ _ _ ?_; clear hK K
  cases oc with
  | none =>
    simp only at hr
    simp only [optCo, Option.getD_none, zCo, Co.av, Co.cells, zDc, Dc.cells, zT, cells_mk, List.map, List.cons_append, List.nil_append] at c2
    refine Run.call rfl (by first | rfl | simp) (by simp) rfl (c2 _ (hh.app (by simp))) ?_ ?_
    rotate_left
    · rintro v h' ⟨hv, _⟩; cases hv
    rintro v h' ⟨hv, rfl⟩
    simp only [AOut.ret.injEq] at hv
    subst hv
    refine Run.ops fun K hK => ?_
    simp
    refine hK _ _ _ ?_; clear hK K
    refine Run.reg fun K hK => ?_
    simp
    refine hK _ _ _ ?_; clear hK K
    refine Run.cond (b := true) (by simp) ?_
    simp only [if_true]
    refine Run.reg fun K hK => ?_
    simp
    refine hK _ _ _ ?_; clear hK K
    refine Run.ret ?_
    exact Fin.ret' (h0 := h) (by simp) rfl hh rfl (by simp; rfl) rfl (Weak.refl _) (by simp) ⟨by rw [hr]; rfl, rfl⟩
  | some c =>
  simp only at hr
  simp only [optCo, Option.getD_some] at c2
  obtain ⟨hcm, hcok, hci, hca, hcl⟩ := hcs c rfl
  have c4 := fun (g : Heap) (hw : WF g) => recs124_any g hw c (hdg _ hcm) (by have := hcok.ps8; omega) hci
  have hana := ana_ok c.d (hdg _ hcm)
  obtain ⟨cb, hcb⟩ : ∃ l, l = c.cells.map AV.p := ⟨_, rfl⟩
  obtain ⟨ab, hab⟩ : ∃ l, l = (anaZ c.d).1.cells.map AV.p := ⟨_, rfl⟩
  have hcu : ∀ n, AV.underL n cb = true := fun n => by rw [hcb]; simp
  have hau : ∀ n, AV.underL n ab = true := fun n => by rw [hab]; simp
  rw [← hcb, ← hab] at c4
  have hlen : ∀ j, lenZ c.d c.i j = match recsZ c.d c.i with | some l => fndR l j | none => none := fun j => rfl
  have hpw : ∀ l, recsZ c.d c.i = some l → l.Pairwise (fun a b => a.i < b.i) := fun l hl => by
    unfold recsZ at hl
    split at hl
    · rename_i h0
      obtain ⟨cn, hcn, rfl⟩ := Option.map_eq_some_iff.1 hl
      exact ((hana h0.1).2 cn (List.mem_of_getElem? hcn)).1
    · cases hl
  generalize recsZ c.d c.i = rz at c4 hlen hpw
  clear hana hab hdg hcs hcm hcok hci
  have hhd := hd
  obtain ⟨d1, d2, d3, d4, d5⟩ := hd
  obtain ⟨d, ci, as_⟩ := c
  simp only at hr hlen hca hcl
  obtain ⟨kk, nm, pr, ⟨k1, i1, n1, l1, s1⟩, ⟨k2, i2, n2, l2, s2⟩, fx, cs, rp, ⟨k3, i3, n3, l3, s3⟩, rr, fs⟩ := d
  simp only [Co.av, Co.cells, Dc.cells, cells_mk, List.map, List.cons_append, List.nil_append] at c2 c3 c4 hsm
  refine Run.call rfl (by first | rfl | simp) (by simp) rfl (c2 _ (hh.app (by simp))) ?_ ?_
  rotate_left
  · rintro v h' ⟨hv, _⟩; cases hv
  rintro v h' ⟨hv, rfl⟩
  simp only [AOut.ret.injEq] at hv
  subst hv
  refine Run.ops fun K hK => ?_
  simp
  refine hK _ _ _ ?_; clear hK K
  refine Run.reg fun K hK => ?_
  simp
  refine hK _ _ _ ?_; clear hK K
  refine Run.cond (b := false) (by simp) ?_
  simp only [Bool.false_eq_true, if_false]
  refine Run.reg fun K hK => ?_
  simp
  refine hK _ _ _ ?_; clear hK K
  refine Run.call rfl (by first | rfl | simp) (by simp) rfl (c3 _ (hh.app (by simp))) ?_ ?_
  rotate_left
  · rintro v h' ⟨hv, _⟩; cases hv
  rintro v h' ⟨hv, rfl⟩
  simp only [AOut.ret.injEq] at hv
  subst hv
  refine Run.ops fun K hK => ?_
  simp
  refine hK _ _ _ ?_; clear hK K
  obtain ⟨D, hD⟩ : ∃ D : Dc, D = ⟨kk, nm, pr, .mk k1 i1 n1 l1 s1, .mk k2 i2 n2 l2 s2, fx, cs, rp, .mk k3 i3 n3 l3 s3, rr, fs⟩ := ⟨_, rfl⟩
  rw [← hD] at hr hlen
  cases rz with
  | none =>
    simp only at c4 hlen
    refine Run.reg fun K hK => ?_
    simp
    refine hK _ _ _ ?_; clear hK K
    refine Run.call rfl (by first | rfl | simp) (by simp) rfl (c4 _ (hh.app (by simp))) ?_ ?_
    rotate_left
    · rintro v h' ⟨hv, _⟩; cases hv
    rintro v h' ⟨hv, rfl⟩
    simp only [AOut.ret.injEq] at hv
    subst hv
    refine Run.ops fun K hK => ?_
    simp
    refine hK _ _ _ ?_; clear hK K
    refine Run.reg fun K hK => ?_
    simp
    refine hK _ _ _ ?_; clear hK K
    refine Run.loopS [0, 4, 9, 10, 11, 35, 36] (fun j : Nat => j ≤ as_.length ∧ r = relGo f D ci (.mk d1 d2 d3 d4 d5, xs) (as_.drop j) j) (fun j => as_.length - j) (fun j => [(37, iA j)]) (fun _ => _) 0 (by simp [hr]) ?_ rfl ?_
    · simp
      repeat' (first | exact WeakL.nil | apply WeakL.cons)
      all_goals first | exact Weak.junk _ | exact Weak.refl _ | exact Weak.nil _ | exact Weak.own _ _ _ | exact Weak.int (by omega)
    rintro j ⟨hj, hrj⟩ IH
    simp
    refine Run.reg fun K hK => ?_
    simp
    refine hK _ _ _ ?_; clear hK K
    by_cases hjl : j < as_.length
    · have hge : as_[j]? = some as_[j] := List.getElem?_eq_getElem hjl
      have hal := hca _ (List.getElem_mem hjl)
      rw [List.drop_eq_getElem_cons hjl] at hrj
      simp only [relGo] at hrj
      rw [hlen] at hrj
      generalize as_[j] = a at hge hal hrj
      have e1 := fun (g : Heap) (hw : WF g) => hrec a hal g hw
      have e2 := fun (g : Heap) (hw : WF g) => hsm a g hw
      simp only at hrj
      obtain ⟨w1, w2, w3, w4, w5⟩ := a
      refine Run.cond (b := true) (by simp [hjl]) ?_
      simp only [if_true]
      refine Run.reg fun K hK => ?_
      simp [hge]
      refine hK _ _ _ ?_; clear hK K
      refine Run.regPre 2 fun K hK => ?_
      simp only [List.take_succ_cons, List.take_zero]
      simp
      refine hK _ _ _ ?_; clear hK K
      simp only [List.nil_append, List.drop_succ_cons, List.drop_zero]
      refine Run.lookupNil (kt := 3) (et := 3) (d := .int .i64) (key := .int .i64 j) (z := .int .i64 0) rfl (by simp [awanted]) Try.underlying135 Try.underlying3 (zeroN_is (by kernel_rfl)) (by simp) (by simp) rfl rfl ?_
      simp
      refine Run.ops fun K hK => ?_
      simp
      refine hK _ _ _ ?_; clear hK K
      refine Run.reg fun K hK => ?_
      simp
      refine hK _ _ _ ?_; clear hK K
      refine Run.cond (b := true) (by simp) ?_
      simp only [if_true]
      refine Run.exit rfl ?_
      refine Run.reg fun K hK => ?_
      simp
      refine hK _ _ _ ?_; clear hK K
      refine Run.keep [0, 4, 9, 10, 11, 35, 36, 37] ?_
      simp
      refine Run.cutAt 4 hh rfl (by omega) (by simp) (by simp [AV.under]) (by simp [AO.under]) rfl ?_
      refine IH (j + 1) _ _ ⟨by omega, hrj⟩ (by omega) ?_ (by simp)
      simp
      repeat' (first | exact WeakL.nil | apply WeakL.cons)
      all_goals first | exact Weak.junk _ | exact Weak.refl _ | exact Weak.nil _ | exact Weak.own _ _ _ | exact Weak.int (by omega)
    · have hje : j = as_.length := by omega
      subst hje
      rw [List.drop_length] at hrj
      simp only [relGo] at hrj
      refine Run.cond (b := false) (by simp) ?_
      simp only [Bool.false_eq_true, if_false]
      refine Run.exit rfl ?_
      refine Run.reg fun K hK => ?_
      simp
      refine hK _ _ _ ?_; clear hK K
      refine Run.ret ?_
      exact Fin.ret' (h0 := h) (by simp) rfl hh rfl (by simp; rfl) rfl (Weak.refl _) (by simp) ⟨by rw [hrj]; rfl, rfl⟩
  | some l =>
    simp only at c4 hlen
    have hpl := hpw l rfl
    refine Run.reg fun K hK => ?_
    simp
    refine hK _ _ _ ?_; clear hK K
    refine Run.call rfl (by first | rfl | simp) (by simp) rfl (c4 _ (hh.app (by simp))) ?_ ?_
    rotate_left
    · rintro v h' ⟨hv, _⟩; cases hv
    rintro v h' ⟨hv, rfl⟩
    simp only [AOut.ret.injEq] at hv
    subst hv
    refine Run.ops fun K hK => ?_
    simp
    refine hK _ _ _ ?_; clear hK K
    refine Run.reg fun K hK => ?_
    simp
    refine hK _ _ _ ?_; clear hK K
    refine Run.loopS [0, 4, 9, 10, 11, 35, 36] (fun j : Nat => j ≤ as_.length ∧ r = relGo f D ci (.mk d1 d2 d3 d4 d5, xs) (as_.drop j) j) (fun j => as_.length - j) (fun j => [(37, iA j)]) (fun _ => _) 0 (by simp [hr]) ?_ rfl ?_
    · simp
      repeat' (first | exact WeakL.nil | apply WeakL.cons)
      all_goals first | exact Weak.junk _ | exact Weak.refl _ | exact Weak.nil _ | exact Weak.own _ _ _ | exact Weak.int (by omega)
    rintro j ⟨hj, hrj⟩ IH
    simp
    refine Run.reg fun K hK => ?_
    simp
    refine hK _ _ _ ?_; clear hK K
    by_cases hjl : j < as_.length
    · have hge : as_[j]? = some as_[j] := List.getElem?_eq_getElem hjl
      have hal := hca _ (List.getElem_mem hjl)
      rw [List.drop_eq_getElem_cons hjl] at hrj
      simp only [relGo] at hrj
      rw [hlen] at hrj
      generalize as_[j] = a at hge hal hrj
      have e1 := fun (g : Heap) (hw : WF g) => hrec a hal g hw
      have e2 := fun (g : Heap) (hw : WF g) => hsm a g hw
      have hsay := kvR_says l hpl j
      generalize fndR l j = fo at hrj hsay
      obtain ⟨w1, w2, w3, w4, w5⟩ := a
      simp only [cells_mk, List.map] at e1 e2
      refine Run.cond (b := true) (by simp [hjl]) ?_
      simp only [if_true]
      refine Run.reg fun K hK => ?_
      simp [hge]
      refine hK _ _ _ ?_; clear hK K
      refine Run.regPre 2 fun K hK => ?_
      simp only [List.take_succ_cons, List.take_zero]
      simp
      refine hK _ _ _ ?_; clear hK K
      simp only [List.nil_append, List.drop_succ_cons, List.drop_zero]
      refine Run.lookupOk (kt := 3) (et := 3) (d := .int .i64) (id := h.length + 6) (kvs := kvR l) (key := .int .i64 j) (z := .int .i64 0) (.int .i64 (fo.getD 0 : Nat)) fo.isSome rfl (by simp [awanted]) Try.underlying135 Try.underlying3 (zeroN_is (by kernel_rfl)) (by simp) (by simp) (kvR_key _) (by simp) rfl hsay rfl ?_
      cases fo with
      | none =>
        simp only at hrj
        simp
        refine Run.ops fun K hK => ?_
        simp
        refine hK _ _ _ ?_; clear hK K
        refine Run.reg fun K hK => ?_
        simp
        refine hK _ _ _ ?_; clear hK K
        refine Run.cond (b := true) (by simp) ?_
        simp only [if_true]
        refine Run.exit rfl ?_
        refine Run.reg fun K hK => ?_
        simp
        refine hK _ _ _ ?_; clear hK K
        refine Run.keep [0, 4, 9, 10, 11, 35, 36, 37] ?_
        simp
        refine Run.cutAt 7 hh rfl (by omega) (by simp) (by simp [AV.under]) (by simp [AO.under, hcu, hau]) rfl ?_
        refine IH (j + 1) _ _ ⟨by omega, hrj⟩ (by omega) ?_ (by simp)
        simp
        repeat' (first | exact WeakL.nil | apply WeakL.cons)
        all_goals first | exact Weak.junk _ | exact Weak.refl _ | exact Weak.nil _ | exact Weak.own _ _ _ | exact Weak.int (by omega)
      | some n =>
        simp only at hrj
        simp
        refine Run.ops fun K hK => ?_
        simp
        refine hK _ _ _ ?_; clear hK K
        refine Run.reg fun K hK => ?_
        simp
        refine hK _ _ _ ?_; clear hK K
        refine Run.cond (b := false) (by simp) ?_
        simp only [Bool.false_eq_true, if_false]
        refine Run.reg fun K hK => ?_
        simp
        refine hK _ _ _ ?_; clear hK K
        refine Run.call rfl (by first | rfl | simp) (by simp) rfl (e1 _ (hh.app (by simp [AO.under, hcu, hau]))) ?_ ?_
        rotate_left
        · rintro v h' ⟨hv, _⟩; cases hv
        rintro v h' ⟨hv, rfl⟩
        simp only [AOut.ret.injEq] at hv
        subst hv
        by_cases hfa : f (.mk w1 w2 w3 w4 w5) = 0
        rotate_left
        · rw [if_pos hfa] at hrj
          have hfb : (f (.mk w1 w2 w3 w4 w5) != 0) = true := by simpa using hfa
          refine Run.ops fun K hK => ?_
          simp [hfb]
          refine hK _ _ _ ?_; clear hK K
          refine Run.cond (b := true) (by simp) ?_
          simp only [if_true]
          refine Run.reg fun K hK => ?_
          simp
          refine hK _ _ _ ?_; clear hK K
          refine Run.ret ?_
          exact Fin.ret' (h0 := h) (by simp) rfl hh rfl (by simp; rfl) rfl (Weak.refl _) (by simp) ⟨by rw [hrj]; rfl, rfl⟩
        rw [if_neg (by simpa using hfa)] at hrj
        have hfb : (f (.mk w1 w2 w3 w4 w5) != 0) = false := by simp [hfa]
        refine Run.ops fun K hK => ?_
        simp [hfb]
        refine hK _ _ _ ?_; clear hK K
        refine Run.cond (b := false) (by simp) ?_
        simp only [Bool.false_eq_true, if_false]
        obtain ⟨q, hq⟩ : ∃ q, q = hitB (.mk d1 d2 d3 d4 d5, xs) (.mk w1 w2 w3 w4 w5) n := ⟨_, rfl⟩
        rw [← hq] at hrj
        simp only [hitB, Tm.kind] at hq
        refine Run.joinA [0, 4, 9, 10, 11, 35, 36, 37] [(73, bA q)] (fun hJ => ?_) ?_
        · by_cases g1 : d1 = 0
          rotate_left
          · have g1' : (d1 == 0) = false := by simpa using g1
            rw [g1'] at hq
            simp only [Bool.false_and] at hq
            refine Run.reg fun K hK => ?_
            simp [g1']
            refine hK _ _ _ ?_; clear hK K
            repeat (first | refine Run.skip ?_ | refine Run.opsNil ?_ | refine Run.inBlock ?_)
            refine hJ _ ?_
            rw [hq]
            simp
            repeat' (first | exact WeakL.nil | apply WeakL.cons)
            all_goals first | exact Weak.junk _ | exact Weak.refl _ | exact Weak.nil _ | exact Weak.own _ _ _ | exact Weak.int (by omega)
          subst g1
          by_cases g2 : 0 < xs.length
          rotate_left
          · have g2' : ¬ (0 : Int) < xs.length := by omega
            have g2'' : xs = [] := by cases xs with | nil => rfl | cons a l => simp at g2
            simp only [g2, decide_false, Bool.false_and, Bool.and_false] at hq
            subst g2''
            refine Run.reg fun K hK => ?_
            simp
            refine hK _ _ _ ?_; clear hK K
            repeat (first | refine Run.skip ?_ | refine Run.opsNil ?_ | refine Run.inBlock ?_)
            refine hJ _ ?_
            rw [hq]
            simp
            repeat' (first | exact WeakL.nil | apply WeakL.cons)
            all_goals first | exact Weak.junk _ | exact Weak.refl _ | exact Weak.nil _ | exact Weak.own _ _ _ | exact Weak.int (by omega)
          have g2' : (0 : Int) < xs.length := by omega
          have g2'' : ¬ xs = [] := fun e => by rw [e] at g2; simp at g2
          simp only [g2, decide_true, Bool.true_and, beq_self_eq_true] at hq
          generalize sameT (.mk 0 d2 d3 d4 d5) (.mk w1 w2 w3 w4 w5) = b1 at hq e2
          refine Run.regPre 11 fun K hK => ?_
          simp only [List.take_succ_cons, List.take_zero]
          simp [g2]
          refine hK _ _ _ ?_; clear hK K
          simp only [List.nil_append, List.drop_succ_cons, List.drop_zero]
          refine Run.call rfl (by first | rfl | simp) (by simp) rfl (e2 _ (hh.app (by simp [AO.under, hcu, hau]))) ?_ ?_
          rotate_left
          · rintro v h' ⟨hv, _⟩; cases hv
          rintro v h' ⟨hv, rfl⟩
          simp only [AOut.ret.injEq] at hv
          subst hv
          cases b1 with
          | false =>
            simp only [Bool.false_and] at hq
            refine Run.ops fun K hK => ?_
            simp
            refine hK _ _ _ ?_; clear hK K
            repeat (first | refine Run.skip ?_ | refine Run.opsNil ?_ | refine Run.inBlock ?_)
            refine hJ _ ?_
            rw [hq]
            simp
            repeat' (first | exact WeakL.nil | apply WeakL.cons)
            all_goals first | exact Weak.junk _ | exact Weak.refl _ | exact Weak.nil _ | exact Weak.own _ _ _ | exact Weak.int (by omega)
          | true =>
            simp only [Bool.true_and] at hq
            have hq2 : ((n : Int) == xs.length) = q := by rw [hq, Bool.eq_iff_iff]; simp; omega
            refine Run.ops fun K hK => ?_
            simp [hq2]
            refine hK _ _ _ ?_; clear hK K
            repeat (first | refine Run.skip ?_ | refine Run.opsNil ?_ | refine Run.inBlock ?_)
            refine hJ _ ?_
            simp
            repeat' (first | exact WeakL.nil | apply WeakL.cons)
            all_goals first | exact Weak.junk _ | exact Weak.refl _ | exact Weak.nil _ | exact Weak.own _ _ _ | exact Weak.int (by omega)
        simp only [setMany, keepT, keepT.go, List.contains_cons, List.set_cons_succ, List.set_cons_zero]
        simp
        cases q with
        | true =>
          rw [if_pos rfl] at hrj
          refine Run.cond (b := true) (by simp) ?_
          simp only [if_true]
          refine Run.reg fun K hK => ?_
          simp
          refine hK _ _ _ ?_; clear hK K
          refine Run.ret ?_
          exact Fin.ret' (h0 := h) (by simp) rfl hh rfl (by simp; rfl) rfl (Weak.refl _) (by simp) ⟨by rw [hrj]; rfl, rfl⟩
        | false =>
          rw [if_neg (by simp)] at hrj
          refine Run.cond (b := false) (by simp) ?_
          simp only [Bool.false_eq_true, if_false]
          refine Run.reg fun K hK => ?_
          simp
          refine hK _ _ _ ?_; clear hK K
          refine Run.keep [0, 4, 9, 10, 11, 35, 36, 37] ?_
          simp
          refine Run.cutAt 7 hh rfl (by omega) (by simp) (by simp [AV.under]) (by simp [AO.under, hcu, hau]) rfl ?_
          refine IH (j + 1) _ _ ⟨by omega, hrj⟩ (by omega) ?_ (by simp)
          simp
          repeat' (first | exact WeakL.nil | apply WeakL.cons)
          all_goals first | exact Weak.junk _ | exact Weak.refl _ | exact Weak.nil _ | exact Weak.own _ _ _ | exact Weak.int (by omega)
    · have hje : j = as_.length := by omega
      subst hje
      rw [List.drop_length] at hrj
      simp only [relGo] at hrj
      refine Run.cond (b := false) (by simp) ?_
      simp only [Bool.false_eq_true, if_false]
      refine Run.exit rfl ?_
      refine Run.reg fun K hK => ?_
      simp
      refine hK _ _ _ ?_; clear hK K
      refine Run.ret ?_
      exact Fin.ret' (h0 := h) (by simp) rfl hh rfl (by simp; rfl) rfl (Weak.refl _) (by simp) ⟨by rw [hrj]; rfl, rfl⟩

end Go.Proofs.Ytppgpabjcenjdaa
