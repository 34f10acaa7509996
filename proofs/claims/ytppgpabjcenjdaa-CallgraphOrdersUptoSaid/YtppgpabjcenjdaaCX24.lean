/-
  ref08.Ctor.
-/
import Derived.Test.YtppgpabjcenjdaaCX22
import Derived.Test.YtppgpabjcenjdaaCX12

namespace Go.Proofs.Ytppgpabjcenjdaa

open Go Go.AI

structure DcOk (d : Dc) : Prop where
  ps0 : 0 ≤ d.ps
  ps8 : d.ps ≤ 8
  fx0 : 0 ≤ d.fx
  fix : d.k = 3 → fixB d = true
theorem dcOk_of {env : List Dc} (h : EnvOk env) {j : Nat} {d : Dc} (hg : env[j]? = some d) : DcOk d := by
  have h0 := h j d hg
  unfold declZ at h0
  split at h0
  · simp at h0
  split at h0
  · simp at h0
  split at h0
  · rename_i hc; exact absurd h0 hc
  rename_i hc
  have hc : countsZ d = 0 := by simpa using hc
  unfold countsZ at hc
  split at hc
  · simp at hc
  rename_i h1
  split at hc
  · simp at hc
  split at hc
  · simp at hc
  split at hc
  · simp at hc
  rename_i h4
  simp only [Bool.or_eq_true, decide_eq_true_eq, not_or] at h1
  refine ⟨by omega, by omega, by omega, fun hk => ?_⟩
  cases hf : fixB d with
  | true => rfl
  | false => exact absurd ⟨hk, .inr (.inr hf)⟩ h4
theorem lead_allF : ∀ (n : Nat) (acc : List Tm) (t : Tm), t.size ≤ n → (allF 6 n acc t).1.length = acc.length + leadN t
  | 0, acc, t, h => by have := t.size_pos; omega
  | n + 1, acc, t, h => by
    simp only [allF]
    cases hb : isB 6 t with
    | none =>
      have : leadN t = 0 := by
        obtain ⟨k, i, nm, ls, ks⟩ := t
        match ks, hb with
        | [], _ => simp [leadN]
        | [a], _ => simp [leadN]
        | [a, b], hb =>
          simp only [isB] at hb
          simp only [leadN]
          split at hb
          · cases hb
          · rename_i hk; rw [if_neg hk]
        | a :: b :: c :: r, _ => simp [leadN]
      simp only [this, Nat.add_zero]
    | some p =>
      obtain ⟨a, b⟩ := p
      have hs := isB_size hb
      have ha := a.size_pos
      have hl : leadN t = leadN b + 1 := by
        obtain ⟨k, i, nm, ls, ks⟩ := t
        match ks, hb with
        | [x, y], hb =>
          simp only [isB] at hb
          split at hb
          · rename_i hk
            injection hb with hb; injection hb with h1 h2
            subst h1; subst h2
            simp only [leadN]; rw [if_pos hk]
          · cases hb
      simp only
      rw [lead_allF n (acc ++ [a]) b (by omega), hl]
      simp only [List.length_append, List.length_singleton]
      omega
theorem lead_all (t : Tm) : (resAll t).1.length = leadN t := by
  have := lead_allF t.size [] t (Nat.le_refl _)
  simpa [resAll] using this
theorem famZ_cases {env : List Dc} (hf : EnvFine env) (s : List UInt8) : famZ env s = (zDc, 0, false) ∨ ∃ d a, famZ env s = (d, a, true) ∧ d ∈ env ∧ d.k = 3 ∧ DcOk d ∧ (a < 0 ∨ ∃ j : Nat, a = j ∧ j < d.cs.length) := by
  unfold famZ
  cases hz : findZ s env 0 with
  | none => exact .inl rfl
  | some e =>
    obtain ⟨j, d, h1, h2, h3, h4, h5⟩ := findZ_ok s env 0 e hz
    have hd := dcOk_of hf.2 h2
    have hm := List.mem_of_getElem? h2
    simp only [Nat.zero_add] at h1
    have ha : (env[e.at_.toNat]?).getD zDc = d := by rw [h1, Int.toNat_natCast, h2]; rfl
    simp only [ha]
    by_cases e3 : e.k = 3
    · rw [if_pos e3]; exact .inr ⟨d, -1, rfl, hm, h5 (.inl e3), hd, .inl (by omega)⟩
    rw [if_neg e3]
    by_cases e4 : e.k = 4
    · rw [if_pos e4]; exact .inr ⟨d, e.it, rfl, hm, h5 (.inr (.inl e4)), hd, .inr ⟨e.it.toNat, by omega, by have := h4 e4; omega⟩⟩
    rw [if_neg e4]
    by_cases e5 : e.k = 5
    · rw [if_pos e5]; exact .inr ⟨d, -2, rfl, hm, h5 (.inr (.inr e5)), hd, .inl (by omega)⟩
    rw [if_neg e5]
    exact .inl rfl

structure Co where
  d : Dc
  i : Nat
  as_ : List Tm
def Co.cells (c : Co) : List PV := c.d.cells ++ [iP c.i, .sl 5 (tmPs c.as_)]
def Co.av (c : Co) : AV := .agg (c.cells.map .p)
def zCo : Co := ⟨zDc, 0, []⟩
def optCo (o : Option Co) : Co := o.getD zCo
def conZ (env : List Dc) (t : Tm) : Option Co :=
  if (resSpine t).1.kind ≠ 3 then none
  else if (famZ env (resSpine t).1.name).2.2 = true ∧ 0 ≤ (famZ env (resSpine t).1.name).2.1 then
    match (famZ env (resSpine t).1.name).1.cs[(famZ env (resSpine t).1.name).2.1.toNat]? with
    | some c => if (resSpine t).2.length = (resAll c.ty).1.length then some ⟨(famZ env (resSpine t).1.name).1, (famZ env (resSpine t).1.name).2.1.toNat, (resSpine t).2.drop (famZ env (resSpine t).1.name).1.fx.toNat⟩ else none
    | none => none
  else none
abbrev zDcC : List AV := [iA 0, .p (sP []), iA 0, iA 0, iA 0, .p (sP []), .p (.prim (.slice none 0 0)), .p (.prim (.slice none 0 0)), iA 0, iA 0, .p (sP []), .p (.prim (.slice none 0 0)), .p (.prim (.slice none 0 0)), iA 0, .p (.prim (.slice none 0 0)), iA 0, iA 0, iA 0, .p (sP []), .p (.prim (.slice none 0 0)), .p (.prim (.slice none 0 0)), .p (.prim (.slice none 0 0)), .p (.prim (.slice none 0 0))]
abbrev zCoC : List AV := [iA 0, .p (sP []), iA 0, iA 0, iA 0, .p (sP []), .p (.prim (.slice none 0 0)), .p (.prim (.slice none 0 0)), iA 0, iA 0, .p (sP []), .p (.prim (.slice none 0 0)), .p (.prim (.slice none 0 0)), iA 0, .p (.prim (.slice none 0 0)), iA 0, iA 0, iA 0, .p (sP []), .p (.prim (.slice none 0 0)), .p (.prim (.slice none 0 0)), .p (.prim (.slice none 0 0)), .p (.prim (.slice none 0 0)), iA 0, .p (.prim (.slice none 0 0))]
theorem co_weak0 : Weak (.agg zCoC) zCo.av := by
  simp only [zCo, Co.av, Co.cells, zDc, Dc.cells, zT, cells_mk, List.map, lvPs, tmPs, List.cons_append, List.nil_append]
  refine Weak.agg ?_
  repeat' (first | exact WeakL.nil | apply WeakL.cons)
  all_goals first | exact Weak.refl _ | exact Weak.nil _
set_option maxRecDepth 8000 in
set_option maxHeartbeats 16000000 in
theorem construct_any (h : Heap) (hh : WF h) (env : List Dc) (t : Tm) (hg : Env.good env) (hf : EnvFine env) (ht : t.size ≤ 1048576) : ACalls Try.prog 123 [envA env, t.av] h fun o h' => o = .ret (.tup [(optCo (conZ env t)).av, bA (conZ env t).isSome]) ∧ h' = h := by
  have hsl := resSpine_len t
  have hts := ht
  have c1 := fun (g : Heap) (hw : WF g) => spine72_any g hw t ht
  obtain ⟨r, hr⟩ : ∃ r, r = conZ env t := ⟨_, rfl⟩
  rw [← hr]
  unfold conZ at hr
  generalize resSpine t = q at hsl c1 hr
  obtain ⟨hd, xs⟩ := q
  simp only at hsl c1 hr
  have c2 := fun (g : Heap) (hw : WF g) => family_any g hw env hd.name hg hf.1
  have hfc := famZ_cases hf hd.name
  generalize famZ env hd.name = fz at c2 hfc hr
  obtain ⟨sk, hsk⟩ : ∃ x, x = hd.kind := ⟨_, rfl⟩
  rw [← hsk] at hr
  obtain ⟨k, i, n, ls, ks⟩ := t
  obtain ⟨k2, i2, n2, l2, s2⟩ := hd
  change sk = k2 at hsk
  subst hsk
  simp only [Tm.av, cells_mk, List.map, Tm.name] at c1 c2 hfc ⊢
  refine ACalls.of_run Try.func123 rfl ?_
  simp only [Try.ntmps123, List.length_cons, List.length_nil]
  refine Run.reg fun K hK => ?_
  simp
  refine hK _ _ _ ?_; clear hK K
  refine Run.reg fun K hK => ?_
  simp
  refine hK _ _ _ ?_; clear hK K
  refine Run.call rfl (by first | rfl | simp) (by simp) rfl (c1 _ (hh.app (by simp))) ?_ ?_
  rotate_left
  · rintro v h' ⟨hv, _⟩; cases hv
  rintro v h' ⟨hv, rfl⟩
  simp only [AOut.ret.injEq] at hv
  subst hv
  refine Run.ops fun K hK => ?_
  simp
  refine hK _ _ _ ?_; clear hK K
  by_cases e0 : sk = 3
  rotate_left
  · rw [if_pos e0] at hr
    have e0' : (sk != 3) = true := by simpa using e0
    refine Run.reg fun K hK => ?_
    simp [e0']
    refine hK _ _ _ ?_; clear hK K
    refine Run.cond (b := true) (by simp) ?_
    simp only [if_true]
    refine Run.reg fun K hK => ?_
    simp
    refine hK _ _ _ ?_; clear hK K
    refine Run.ret ?_
    exact Fin.ret' (h0 := h) (xs := [.agg zCoC, bA false]) (by simp) rfl hh rfl (by simp) rfl (Weak.tup (WeakL.cons co_weak0 (WeakL.refl _))) (by simp [Co.av, zCo, Co.cells, zDc, Dc.cells, zT]) ⟨by rw [hr]; rfl, rfl⟩
  subst e0
  rw [if_neg (by simp)] at hr
  refine Run.reg fun K hK => ?_
  simp
  refine hK _ _ _ ?_; clear hK K
  refine Run.cond (b := false) (by simp) ?_
  simp only [Bool.false_eq_true, if_false]
  refine Run.reg fun K hK => ?_
  simp
  refine hK _ _ _ ?_; clear hK K
  rcases hfc with rfl | ⟨d, a, rfl, hm, hk3, hok, hpl⟩
  · rw [if_neg (by simp)] at hr
    simp only [zDc, Dc.av, Dc.cells, zT, cells_mk, List.map, List.cons_append, List.nil_append] at c2
    refine Run.call rfl (by first | rfl | simp) (by simp) rfl (c2 _ (hh.app (by simp))) ?_ ?_
    rotate_left
    · rintro v h' ⟨hv, _⟩; cases hv
    rintro v h' ⟨hv, rfl⟩
    simp only [AOut.ret.injEq] at hv
    subst hv
    refine Run.ops fun K hK => ?_
    simp
    refine hK _ _ _ ?_; clear hK K
    refine Run.reg fun K hK => ?_
    simp
    refine hK _ _ _ ?_; clear hK K
    refine Run.cond (b := true) (by simp) ?_
    simp only [if_true]
    refine Run.reg fun K hK => ?_
    simp
    refine hK _ _ _ ?_; clear hK K
    refine Run.ret ?_
    exact Fin.ret' (h0 := h) (xs := [.agg zCoC, bA false]) (by simp) rfl hh rfl (by simp) rfl (Weak.tup (WeakL.cons co_weak0 (WeakL.refl _))) (by simp [Co.av, zCo, Co.cells, zDc, Dc.cells, zT]) ⟨by rw [hr]; rfl, rfl⟩
  have hgd := hg.2 d hm
  have hcsg := hgd.cs
  have hfx0 := hok.fx0
  have hfix := hok.fix hk3
  clear hok hgd hk3 hm
  simp only at hr
  rcases hpl with e1 | ⟨j, rfl, hjl⟩
  · rw [if_neg (by omega)] at hr
    obtain ⟨kk, nm, pr, ⟨k1, i1, n1, l1, s1⟩, ⟨k2, i2, n2, l2, s2⟩, fx, cs, rp, ⟨k3, i3, n3, l3, s3⟩, rr, fs⟩ := d
    simp only [Dc.av, Dc.cells, cells_mk, List.map, List.cons_append, List.nil_append] at c2
    refine Run.call rfl (by first | rfl | simp) (by simp) rfl (c2 _ (hh.app (by simp))) ?_ ?_
    rotate_left
    · rintro v h' ⟨hv, _⟩; cases hv
    rintro v h' ⟨hv, rfl⟩
    simp only [AOut.ret.injEq] at hv
    subst hv
    refine Run.ops fun K hK => ?_
    simp
    refine hK _ _ _ ?_; clear hK K
    refine Run.reg fun K hK => ?_
    simp [e1]
    refine hK _ _ _ ?_; clear hK K
    refine Run.cond (b := true) (by simp) ?_
    simp only [if_true]
    refine Run.reg fun K hK => ?_
    simp
    refine hK _ _ _ ?_; clear hK K
    refine Run.ret ?_
    exact Fin.ret' (h0 := h) (xs := [.agg zCoC, bA false]) (by simp) rfl hh rfl (by simp) rfl (Weak.tup (WeakL.cons co_weak0 (WeakL.refl _))) (by simp [Co.av, zCo, Co.cells, zDc, Dc.cells, zT]) ⟨by rw [hr]; rfl, rfl⟩
  rw [if_pos (by simp)] at hr
  have hgj : d.cs[j]? = some d.cs[j] := List.getElem?_eq_getElem hjl
  rw [Int.toNat_natCast, hgj] at hr
  simp only at hr
  have hcg := hcsg _ (List.getElem_mem hjl)
  have c3 := fun (g : Heap) (hw : WF g) => all69_any g hw d.cs[j].ty hcg.1
  have hla := lead_all d.cs[j].ty
  have hfl : d.fx ≤ leadN d.cs[j].ty := by
    unfold fixB at hfix
    simp only [Bool.and_eq_true, List.all_eq_true, decide_eq_true_eq] at hfix
    exact hfix.2 _ (List.getElem_mem hjl)
  rw [← hla] at hfl
  clear hla hfix hcsg hcg
  generalize d.cs[j] = c at hgj hr c3 hfl
  generalize resAll c.ty = q at hr c3 hfl
  obtain ⟨bs, ⟨u1, u2, u3, u4, u5⟩⟩ := q
  obtain ⟨cn, ⟨v1, v2, v3, v4, v5⟩⟩ := c
  obtain ⟨kk, nm, pr, ⟨k1, i1, n1, l1, s1⟩, ⟨k2, i2, n2, l2, s2⟩, fx, cs, rp, ⟨k3, i3, n3, l3, s3⟩, rr, fs⟩ := d
  simp only at hr hfx0 hfl hjl hgj
  obtain ⟨N, rfl⟩ : ∃ N : Nat, fx = N := ⟨fx.toNat, by omega⟩
  simp only [Dc.av, Dc.cells, cells_mk, List.map, List.cons_append, List.nil_append] at c2 c3
  have hj1 : ¬ (cs.length : Int) ≤ j := by omega
  have hj2 : (j : Int) < cs.length := by omega
  have hj3 : ¬ (j : Int) < 0 := by omega
  refine Run.call rfl (by first | rfl | simp) (by simp) rfl (c2 _ (hh.app (by simp))) ?_ ?_
  rotate_left
  · rintro v h' ⟨hv, _⟩; cases hv
  rintro v h' ⟨hv, rfl⟩
  simp only [AOut.ret.injEq] at hv
  subst hv
  refine Run.ops fun K hK => ?_
  simp
  refine hK _ _ _ ?_; clear hK K
  refine Run.reg fun K hK => ?_
  simp [hj1, hj3]
  refine hK _ _ _ ?_; clear hK K
  refine Run.cond (b := false) (by simp) ?_
  simp only [Bool.false_eq_true, if_false]
  refine Run.reg fun K hK => ?_
  simp [hgj, Ct.cells]
  refine hK _ _ _ ?_; clear hK K
  refine Run.call rfl (by first | rfl | simp) (by simp) rfl (c3 _ (hh.app (by simp))) ?_ ?_
  rotate_left
  · rintro v h' ⟨hv, _⟩; cases hv
  rintro v h' ⟨hv, rfl⟩
  simp only [AOut.ret.injEq] at hv
  subst hv
  refine Run.ops fun K hK => ?_
  simp
  refine hK _ _ _ ?_; clear hK K
  by_cases e2 : xs.length = bs.length
  · rw [if_pos e2] at hr
    have e2' : ((xs.length : Int) != bs.length) = false := by simp [e2]
    have e4 : ¬ (xs.length : Int) < N := by omega
    have e5 : (N : Int) ≤ xs.length := by omega
    have e6 : N ≤ xs.length := by omega
    refine Run.reg fun K hK => ?_
    simp [e2', e4]
    refine hK _ _ _ ?_; clear hK K
    refine Run.cond (b := false) (by simp) ?_
    simp only [Bool.false_eq_true, if_false]
    refine Run.draw [0, 0, 0, 0, 0, 0, 0, 0, 1] [0, 0, 0, 0, 0, 0, 0, 0, 0] [0, 0, 0, 0, 8, 28, 63, 127, 255] [0, 1, 2, 3, 4, 5, 6, 7, 8] (by kernel_rfl) (by kernel_rfl) ?_
    refine DR.go fun K hK => ?_
    simp [e5]
    refine hK _ _ _ _ ?_; clear hK K
    change Run _ _ _ _ _ _ _ _
    refine Run.ret ?_
    exact Fin.ret' (h0 := h) (by simp) rfl hh rfl (by simp; rfl) rfl (Weak.refl _) (by simp) ⟨by rw [hr]; simp [optCo, Co.av, Co.cells, Dc.cells], rfl⟩
  · rw [if_neg e2] at hr
    have e2' : ((xs.length : Int) != bs.length) = true := by simp; omega
    refine Run.reg fun K hK => ?_
    simp [e2']
    refine hK _ _ _ ?_; clear hK K
    refine Run.cond (b := true) (by simp) ?_
    simp only [if_true]
    refine Run.reg fun K hK => ?_
    simp
    refine hK _ _ _ ?_; clear hK K
    refine Run.ret ?_
    exact Fin.ret' (h0 := h) (xs := [.agg zCoC, bA false]) (by simp) rfl hh rfl (by simp) rfl (Weak.tup (WeakL.cons co_weak0 (WeakL.refl _))) (by simp [Co.av, zCo, Co.cells, zDc, Dc.cells, zT]) ⟨by rw [hr]; rfl, rfl⟩

end Go.Proofs.Ytppgpabjcenjdaa

namespace Go.Proofs.Ytppgpabjcenjdaa

open Go Go.AI
set_option maxRecDepth 8000 in
set_option maxHeartbeats 16000000 in
theorem refConstruct_any (h : Heap) (hh : WF h) (env : List Dc) (t : Tm) (hg : Env.good env) (hf : EnvFine env) (ht : t.size ≤ 1048576) : ACalls Try.prog 125 [envA env, t.av] h fun o h' => o = .ret (.tup [(optCo (conZ env t)).d.av, iA (optCo (conZ env t)).i, .p (.sl 5 (tmPs (optCo (conZ env t)).as_)), bA (conZ env t).isSome]) ∧ h' = h := by
  have hsl := resSpine_len t
  have hts := ht
  have c1 := fun (g : Heap) (hw : WF g) => spine44' g hw t ht
  obtain ⟨r, hr⟩ : ∃ r, r = conZ env t := ⟨_, rfl⟩
  rw [← hr]
  unfold conZ at hr
  generalize resSpine t = q at hsl c1 hr
  obtain ⟨hd, xs⟩ := q
  simp only at hsl c1 hr
  have c2 := fun (g : Heap) (hw : WF g) => refFamily_any g hw env hd.name hg hf.1
  have hfc := famZ_cases hf hd.name
  generalize famZ env hd.name = fz at c2 hfc hr
  obtain ⟨sk, hsk⟩ : ∃ x, x = hd.kind := ⟨_, rfl⟩
  rw [← hsk] at hr
  obtain ⟨k, i, n, ls, ks⟩ := t
  obtain ⟨k2, i2, n2, l2, s2⟩ := hd
  change sk = k2 at hsk
  subst hsk
  simp only [Tm.av, cells_mk, List.map, Tm.name] at c1 c2 hfc ⊢
  refine ACalls.of_run Try.func125 rfl ?_
  simp only [Try.ntmps125, List.length_cons, List.length_nil]
  refine Run.reg fun K hK => ?_
  simp
  refine hK _ _ _ ?_; clear hK K
  refine Run.reg fun K hK => ?_
  simp
  refine hK _ _ _ ?_; clear hK K
  refine Run.call rfl (by first | rfl | simp) (by simp) rfl (c1 _ (hh.app (by simp))) ?_ ?_
  rotate_left
  · rintro v h' ⟨hv, _⟩; cases hv
  rintro v h' ⟨hv, rfl⟩
  simp only [AOut.ret.injEq] at hv
  subst hv
  refine Run.ops fun K hK => ?_
  simp
  refine hK _ _ _ ?_; clear hK K
  by_cases e0 : sk = 3
  rotate_left
  · rw [if_pos e0] at hr
    have e0' : (sk != 3) = true := by simpa using e0
    refine Run.reg fun K hK => ?_
    simp [e0']
    refine hK _ _ _ ?_; clear hK K
    refine Run.cond (b := true) (by simp) ?_
    simp only [if_true]
    refine Run.reg fun K hK => ?_
    simp
    refine hK _ _ _ ?_; clear hK K
    refine Run.ret ?_
    exact Fin.ret' (h0 := h) (xs := [.agg zDcC, iA 0, .p (.prim (.slice none 0 0)), bA false]) (by simp) rfl hh rfl (by simp) rfl (y := .tup [zDc.av, iA 0, .p (.sl 5 []), bA false]) (Weak.tup (WeakL.cons dc_weak0 (WeakL.cons (Weak.refl _) (WeakL.cons (Weak.nil 5) (WeakL.refl _))))) (by simp [zDc, Dc.av, Dc.cells, zT]) ⟨by rw [hr]; rfl, rfl⟩
  subst e0
  rw [if_neg (by simp)] at hr
  refine Run.reg fun K hK => ?_
  simp
  refine hK _ _ _ ?_; clear hK K
  refine Run.cond (b := false) (by simp) ?_
  simp only [Bool.false_eq_true, if_false]
  refine Run.reg fun K hK => ?_
  simp
  refine hK _ _ _ ?_; clear hK K
  rcases hfc with rfl | ⟨d, a, rfl, hm, hk3, hok, hpl⟩
  · rw [if_neg (by simp)] at hr
    simp only [zDc, Dc.av, Dc.cells, zT, cells_mk, List.map, List.cons_append, List.nil_append] at c2
    refine Run.call rfl (by first | rfl | simp) (by simp) rfl (c2 _ (hh.app (by simp))) ?_ ?_
    rotate_left
    · rintro v h' ⟨hv, _⟩; cases hv
    rintro v h' ⟨hv, rfl⟩
    simp only [AOut.ret.injEq] at hv
    subst hv
    refine Run.ops fun K hK => ?_
    simp
    refine hK _ _ _ ?_; clear hK K
    refine Run.draw [0, 0, 0, 0, 0, 0, 0, 0, 0, 0, 0, 0, 0, 0, 1, 1, 1] [0, 0, 0, 0, 0, 0, 0, 0, 0, 0, 0, 0, 0, 0, 0, 0, 0] [0, 1, 3, 7, 15, 31, 63, 127, 255, 127, 639, 127, 127, 6271, 15999, 32767, 65535] [0, 1, 2, 3, 4, 5, 6, 11, 12, 13, 7, 8, 9, 10, 14, 15, 16] (by kernel_rfl) (by kernel_rfl) ?_
    refine DR.go fun K hK => ?_
    simp
    refine hK _ _ _ _ ?_; clear hK K
    change Run _ _ _ _ _ _ _ _
    refine Run.cond (b := true) (by simp) ?_
    simp only [if_true]
    refine Run.reg fun K hK => ?_
    simp
    refine hK _ _ _ ?_; clear hK K
    refine Run.ret ?_
    exact Fin.ret' (h0 := h) (xs := [.agg zDcC, iA 0, .p (.prim (.slice none 0 0)), bA false]) (by simp) rfl hh rfl (by simp) rfl (y := .tup [zDc.av, iA 0, .p (.sl 5 []), bA false]) (Weak.tup (WeakL.cons dc_weak0 (WeakL.cons (Weak.refl _) (WeakL.cons (Weak.nil 5) (WeakL.refl _))))) (by simp [zDc, Dc.av, Dc.cells, zT]) ⟨by rw [hr]; rfl, rfl⟩
  have hgd := hg.2 d hm
  have hcsg := hgd.cs
  have hfx0 := hok.fx0
  have hfix := hok.fix hk3
  clear hok hk3 hm
  simp only at hr
  rcases hpl with e1 | ⟨j, rfl, hjl⟩
  · rw [if_neg (by omega)] at hr
    obtain ⟨kk, nm, pr, ⟨k1, i1, n1, l1, s1⟩, ⟨k2, i2, n2, l2, s2⟩, fx, cs, rp, ⟨k3, i3, n3, l3, s3⟩, rr, fs⟩ := d
    simp only [Dc.av, Dc.cells, cells_mk, List.map, List.cons_append, List.nil_append] at c2
    refine Run.call rfl (by first | rfl | simp) (by simp) rfl (c2 _ (hh.app (by simp))) ?_ ?_
    rotate_left
    · rintro v h' ⟨hv, _⟩; cases hv
    rintro v h' ⟨hv, rfl⟩
    simp only [AOut.ret.injEq] at hv
    subst hv
    refine Run.ops fun K hK => ?_
    simp
    refine hK _ _ _ ?_; clear hK K
    refine Run.draw [0, 0, 0, 0, 0, 0, 0, 0, 0, 0, 0, 0, 0, 0, 1, 1, 1] [0, 0, 0, 0, 0, 0, 0, 0, 0, 0, 0, 0, 0, 0, 0, 0, 0] [0, 1, 3, 7, 15, 31, 63, 127, 255, 127, 639, 127, 127, 6271, 15999, 32767, 65535] [0, 1, 2, 3, 4, 5, 6, 11, 12, 13, 7, 8, 9, 10, 14, 15, 16] (by kernel_rfl) (by kernel_rfl) ?_
    refine DR.go fun K hK => ?_
    simp [e1]
    refine hK _ _ _ _ ?_; clear hK K
    change Run _ _ _ _ _ _ _ _
    refine Run.cond (b := true) (by simp) ?_
    simp only [if_true]
    refine Run.reg fun K hK => ?_
    simp
    refine hK _ _ _ ?_; clear hK K
    refine Run.ret ?_
    exact Fin.ret' (h0 := h) (xs := [.agg zDcC, iA 0, .p (.prim (.slice none 0 0)), bA false]) (by simp) rfl hh rfl (by simp) rfl (y := .tup [zDc.av, iA 0, .p (.sl 5 []), bA false]) (Weak.tup (WeakL.cons dc_weak0 (WeakL.cons (Weak.refl _) (WeakL.cons (Weak.nil 5) (WeakL.refl _))))) (by simp [zDc, Dc.av, Dc.cells, zT]) ⟨by rw [hr]; rfl, rfl⟩
  rw [if_pos (by simp)] at hr
  have hgj : d.cs[j]? = some d.cs[j] := List.getElem?_eq_getElem hjl
  rw [Int.toNat_natCast, hgj] at hr
  simp only at hr
  have hcg := hcsg _ (List.getElem_mem hjl)
  have c3 := fun (g : Heap) (hw : WF g) => fields_any g hw d hgd j hjl
  have hFj : fldZ d j = fldC d.fx d.cs[j].ty := by rw [fldZ, hgj]
  unfold fldC at hFj
  have hla := lead_all d.cs[j].ty
  have hfl : d.fx ≤ leadN d.cs[j].ty := by
    unfold fixB at hfix
    simp only [Bool.and_eq_true, List.all_eq_true, decide_eq_true_eq] at hfix
    exact hfix.2 _ (List.getElem_mem hjl)
  rw [← hla] at hfl
  have hbl2 : (resAll d.cs[j].ty).1.length ≤ d.cs[j].ty.size := (all_ok d.cs[j].ty hcg.2.2 hcg.1).2.2.2
  have hcz := hcg.1
  generalize fldZ d j = F at c3 hFj
  clear hla hfix hcsg hcg hgd
  generalize d.cs[j] = c at hgj hr hFj hfl hbl2 hcz
  generalize resAll c.ty = q at hr hFj hfl hbl2
  obtain ⟨bs, ⟨u1, u2, u3, u4, u5⟩⟩ := q
  obtain ⟨cn, ⟨v1, v2, v3, v4, v5⟩⟩ := c
  obtain ⟨kk, nm, pr, ⟨k1, i1, n1, l1, s1⟩, ⟨k2, i2, n2, l2, s2⟩, fx, cs, rp, ⟨k3, i3, n3, l3, s3⟩, rr, fs⟩ := d
  simp only at hr hfx0 hfl hjl hgj hFj hbl2 hcz
  obtain ⟨N, rfl⟩ : ∃ N : Nat, fx = N := ⟨fx.toNat, by omega⟩
  simp only [Dc.av, Dc.cells, cells_mk, List.map, List.cons_append, List.nil_append] at c2 c3
  have hj3 : ¬ (j : Int) < 0 := by omega
  have hwr : IntKind.i64.wrap ((bs.length : Int) - N) = bs.length - N := wrap_id (by omega) (by omega)
  rw [hwr] at hFj
  have hF : F = (bs.length : Int) - N := by rw [hFj]; split <;> omega
  have hw2 : IntKind.i64.wrap ((N : Int) + F) = bs.length := by rw [wrap_id (by omega) (by omega)]; omega
  clear hFj
  refine Run.call rfl (by first | rfl | simp) (by simp) rfl (c2 _ (hh.app (by simp))) ?_ ?_
  rotate_left
  · rintro v h' ⟨hv, _⟩; cases hv
  rintro v h' ⟨hv, rfl⟩
  simp only [AOut.ret.injEq] at hv
  subst hv
  refine Run.ops fun K hK => ?_
  simp
  refine hK _ _ _ ?_; clear hK K
  by_cases e2 : xs.length = bs.length
  · rw [if_pos e2] at hr
    have e2' : ((xs.length : Int) != bs.length) = false := by simp [e2]
    have e4 : ¬ (xs.length : Int) < N := by omega
    have e5 : (N : Int) ≤ xs.length := by omega
    have e6 : N ≤ xs.length := by omega
    refine Run.draw [0, 0, 0, 0, 0, 0, 0, 0, 0, 0, 0, 0, 0, 0, 1, 1, 1] [0, 0, 0, 0, 0, 0, 0, 0, 0, 0, 0, 0, 0, 0, 0, 0, 0] [0, 1, 3, 7, 15, 31, 63, 127, 255, 127, 639, 127, 127, 6271, 15999, 32767, 65535] [0, 1, 2, 3, 4, 5, 6, 11, 12, 13, 7, 8, 9, 10, 14, 15, 16] (by kernel_rfl) (by kernel_rfl) ?_
    refine DR.go fun K hK => ?_
    simp [hj3]
    refine hK _ _ _ _ ?_; clear hK K
    refine DR.call rfl rfl rfl (by simp) rfl (c3 _ (hh.app (by simp))) ?_
    refine DR.go fun K hK => ?_
    simp [hw2, e2']
    refine hK _ _ _ _ ?_; clear hK K
    change Run _ _ _ _ _ _ _ _
    refine Run.cond (b := false) (by simp) ?_
    simp only [Bool.false_eq_true, if_false]
    refine Run.draw [0, 0, 0, 0, 0, 0, 0, 1, 1, 1] [0, 0, 0, 0, 0, 0, 0, 0, 0, 0] [0, 0, 0, 0, 8, 28, 1, 67, 255, 511] [0, 6, 1, 2, 3, 4, 5, 7, 8, 9] (by kernel_rfl) (by kernel_rfl) ?_
    refine DR.go fun K hK => ?_
    simp [e5]
    refine hK _ _ _ _ ?_; clear hK K
    change Run _ _ _ _ _ _ _ _
    refine Run.ret ?_
    exact Fin.ret' (h0 := h) (by simp) rfl hh rfl (by simp; rfl) rfl (Weak.refl _) (by simp) ⟨by rw [hr]; simp [optCo, Dc.av, Dc.cells], rfl⟩
  · rw [if_neg e2] at hr
    have e2' : ((xs.length : Int) != bs.length) = true := by simp; omega
    refine Run.draw [0, 0, 0, 0, 0, 0, 0, 0, 0, 0, 0, 0, 0, 0, 1, 1, 1] [0, 0, 0, 0, 0, 0, 0, 0, 0, 0, 0, 0, 0, 0, 0, 0, 0] [0, 1, 3, 7, 15, 31, 63, 127, 255, 127, 639, 127, 127, 6271, 15999, 32767, 65535] [0, 1, 2, 3, 4, 5, 6, 11, 12, 13, 7, 8, 9, 10, 14, 15, 16] (by kernel_rfl) (by kernel_rfl) ?_
    refine DR.go fun K hK => ?_
    simp [hj3]
    refine hK _ _ _ _ ?_; clear hK K
    refine DR.call rfl rfl rfl (by simp) rfl (c3 _ (hh.app (by simp))) ?_
    refine DR.go fun K hK => ?_
    simp [hw2, e2']
    refine hK _ _ _ _ ?_; clear hK K
    change Run _ _ _ _ _ _ _ _
    refine Run.cond (b := true) (by simp) ?_
    simp only [if_true]
    refine Run.reg fun K hK => ?_
    simp
    refine hK _ _ _ ?_; clear hK K
    refine Run.ret ?_
    exact Fin.ret' (h0 := h) (xs := [.agg zDcC, iA 0, .p (.prim (.slice none 0 0)), bA false]) (by simp) rfl hh rfl (by simp) rfl (y := .tup [zDc.av, iA 0, .p (.sl 5 []), bA false]) (Weak.tup (WeakL.cons dc_weak0 (WeakL.cons (Weak.refl _) (WeakL.cons (Weak.nil 5) (WeakL.refl _))))) (by simp [zDc, Dc.av, Dc.cells, zT]) ⟨by rw [hr]; rfl, rfl⟩

end Go.Proofs.Ytppgpabjcenjdaa
