/-
  A scope through which a run goes straight.
-/
import Derived.Test.YtppgpabjcenjdaaCX12
import Derived.Test.YtppgpabjcenjdaaCFW
import Derived.Scope

namespace Go.Proofs.Ytppgpabjcenjdaa

open Go Go.AI
set_option maxRecDepth 8000 in
theorem indexF_any (h : Heap) (hh : WF h) (l : List Tm) (hl : l.length ≤ 1048576) (hg : ∀ t ∈ l, t.good) : ACalls Try.prog 163 [.p (.sl 5 (tmPs l)), .p (.prim (.func (.func 116) #[] #[]))] h fun o h' => RetI (fun _ => True) o ∧ h' = h := by
  refine ACalls.of_run Try.func163 rfl ?_
  simp only [Try.ntmps163, List.length_cons, List.length_nil]
  refine Run.reg fun K hK => ?_
  simp
  refine hK _ _ _ ?_; clear hK K
  refine Run.reg fun K hK => ?_
  simp
  refine hK _ _ _ ?_; clear hK K
  refine Run.loopS [0, 1, 7] (fun j : Nat => j ≤ l.length) (fun j => l.length - j) (fun j => [(8, iA j)]) (fun _ => _) 0 (by simp) ?_ rfl ?_
  · simp
    repeat' (first | exact WeakL.nil | apply WeakL.cons)
    all_goals first | exact Weak.junk _ | exact Weak.refl _ | exact Weak.nil _ | exact Weak.own _ _ _ | exact Weak.int (by omega)
  rintro j hj IH
  simp
  refine Run.reg fun K hK => ?_
  simp
  refine hK _ _ _ ?_; clear hK K
  by_cases hjl : j < l.length
  · have hge : l[j]? = some l[j] := List.getElem?_eq_getElem hjl
    have c1 := fun (g : Heap) (hw : WF g) => high_any g hw _ (hg _ (List.getElem_mem hjl))
    generalize (checkZ 60000 8 65536 65536 l[j] != 0) = b at c1
    generalize l[j] = t at hge c1
    obtain ⟨k, i, n, ls, ks⟩ := t
    simp only [Tm.av, cells_mk, List.map] at c1
    refine Run.cond (b := true) (by simp [hjl]) ?_
    simp only [if_true]
    refine Run.reg fun K hK => ?_
    simp
    refine hK _ _ _ ?_; clear hK K
    refine Run.reg fun K hK => ?_
    simp [hge]
    refine hK _ _ _ ?_; clear hK K
    refine Run.call rfl (by first | rfl | simp) (by simp) rfl (c1 _ hh) ?_ ?_
    rotate_left
    · rintro v h' ⟨hv, _⟩; cases hv
    rintro v h' ⟨hv, rfl⟩
    simp only [AOut.ret.injEq] at hv
    subst hv
    cases b with
    | false =>
      refine Run.ops fun K hK => ?_
      simp
      refine hK _ _ _ ?_; clear hK K
      refine Run.cond (b := false) (by simp) ?_
      simp only [Bool.false_eq_true, if_false]
      refine Run.reg fun K hK => ?_
      simp
      refine hK _ _ _ ?_; clear hK K
      refine IH (j + 1) _ _ (by omega) (by omega) ?_ rfl
      simp
      repeat' (first | exact WeakL.nil | apply WeakL.cons)
      all_goals first | exact Weak.junk _ | exact Weak.refl _ | exact Weak.nil _ | exact Weak.own _ _ _ | exact Weak.int (by omega)
    | true =>
      refine Run.ops fun K hK => ?_
      simp
      refine hK _ _ _ ?_; clear hK K
      refine Run.cond (b := true) (by simp) ?_
      simp only [if_true]
      repeat (first
        | refine Run.seq ?_ | refine Run.block ?_ | refine Run.skip ?_ | refine Run.inBlock ?_ | refine Run.opsNil ?_
        | (refine Run.reg fun K hK => ?_; simp; (try (simp (disch := omega) only [wrap_id])); refine hK _ _ _ ?_; clear hK K)
        | (refine Run.cond (b := true) rfl ?_; simp only [if_true])
        | (refine Run.cond (b := false) rfl ?_; simp only [Bool.false_eq_true, if_false])
        | refine Run.exit rfl ?_ | refine Run.ret ?_)
      exact Fin.ret' (by simp) rfl hh (List.append_nil _).symm rfl rfl (Weak.refl _) rfl ⟨⟨_, rfl, trivial⟩, rfl⟩
  · have hje : j = l.length := by omega
    subst hje
    refine Run.cond (b := false) (by simp) ?_
    simp only [Bool.false_eq_true, if_false]
    refine Run.exit rfl ?_
    repeat (first
      | refine Run.seq ?_ | refine Run.block ?_ | refine Run.skip ?_ | refine Run.inBlock ?_ | refine Run.opsNil ?_
      | (refine Run.reg fun K hK => ?_; simp; (try (simp (disch := omega) only [wrap_id])); refine hK _ _ _ ?_; clear hK K)
      | (refine Run.cond (b := true) rfl ?_; simp only [if_true])
      | (refine Run.cond (b := false) rfl ?_; simp only [Bool.false_eq_true, if_false])
      | refine Run.exit rfl ?_ | refine Run.ret ?_)
    exact Fin.ret' (by simp) rfl hh (List.append_nil _).symm rfl rfl (Weak.refl _) rfl ⟨⟨_, rfl, trivial⟩, rfl⟩
set_option maxRecDepth 8000 in
theorem containsF_any (h : Heap) (hh : WF h) (l : List Tm) (hl : l.length ≤ 1048576) (hg : ∀ t ∈ l, t.good) : ACalls Try.prog 115 [.p (.sl 5 (tmPs l)), .p (.prim (.func (.func 116) #[] #[]))] h fun o h' => RetB (fun _ => True) o ∧ h' = h := by
  refine ACalls.of_run Try.func115 rfl ?_
  simp only [Try.ntmps115, List.length_cons, List.length_nil]
  refine Run.reg fun K hK => ?_
  simp
  refine hK _ _ _ ?_; clear hK K
  refine Run.reg fun K hK => ?_
  simp
  refine hK _ _ _ ?_; clear hK K
  refine Run.call rfl (by first | rfl | simp) (by simp) rfl (indexF_any _ hh l hl hg) ?_ ?_
  rotate_left
  · rintro v h' ⟨⟨_, hv, _⟩, _⟩; cases hv
  rintro v h' ⟨⟨e, hv, he⟩, rfl⟩
  simp only [AOut.ret.injEq] at hv
  subst hv
  refine Run.ops fun K hK => ?_
  simp
  refine hK _ _ _ ?_; clear hK K
  refine Run.ret ?_
  exact Fin.ret' (by simp) rfl hh (List.append_nil _).symm (by simp; rfl) rfl (Weak.refl _) (by simp) ⟨⟨_, rfl, trivial⟩, rfl⟩
set_option maxRecDepth 8000 in
set_option maxHeartbeats 8000000 in
theorem small08_any (h : Heap) (hh : WF h) (env : List Dc) (l : List Tm) (hg : Env.good env) (hsz : Tm.sizes l ≤ 1048576) (hlv : Tm.lvss l) (hf : Tm.fits l) (hgl : ∀ t ∈ l, t.good) :
    ACalls Try.prog 40 [envA env, .p (.sl 5 (tmPs l))] h fun o h' => RetB (fun b => b = true → EnvFine env ∧ goodB l = true) o ∧ h' = h := by
  have hll := length_le_sizes l
  have c1 := fun (g : Heap) (hw : WF g) => nodes_any (Tm.sizes l) l 60 g (Nat.le_refl _) (by omega) (by omega) (by omega) hw
  have c2 := fun (g : Heap) (hw : WF g) => good_any g hw l (by omega) hlv hf
  have c3 := fun (g : Heap) (hw : WF g) => goodEnv_any g hw env hg
  have c4 := fun (g : Heap) (hw : WF g) => containsF_any g hw l (by omega) hgl
  generalize goodB l = gb at c2 ⊢
  generalize nd 60 0 l = n at c1
  refine ACalls.of_run Try.func40 rfl ?_
  simp only [Try.ntmps40, List.length_cons, List.length_nil]
  refine Run.reg fun K hK => ?_
  simp
  refine hK _ _ _ ?_; clear hK K
  refine Run.reg fun K hK => ?_
  simp
  refine hK _ _ _ ?_; clear hK K
  refine Run.call rfl (by first | rfl | simp) (by simp) rfl (c1 _ hh) ?_ ?_
  rotate_left
  · rintro v h' ⟨hv, _⟩; cases hv
  rintro v h' ⟨hv, rfl⟩
  simp only [AOut.ret.injEq] at hv
  subst hv
  by_cases e1 : n ≤ 60
  rotate_left
  · refine Run.ops fun K hK => ?_
    simp [e1]
    refine hK _ _ _ ?_; clear hK K
    refine Run.ret ?_
    exact Fin.ret' (by simp) rfl hh (List.append_nil _).symm (by simp; rfl) rfl (Weak.refl _) (by simp) ⟨⟨_, rfl, fun h => by cases h⟩, rfl⟩
  refine Run.ops fun K hK => ?_
  simp [e1]
  refine hK _ _ _ ?_; clear hK K
  refine Run.call rfl (by first | rfl | simp) (by simp) rfl (c2 _ hh) ?_ ?_
  rotate_left
  · rintro v h' ⟨hv, _⟩; cases hv
  rintro v h' ⟨hv, rfl⟩
  simp only [AOut.ret.injEq] at hv
  subst hv
  cases gb with
  | false =>
    refine Run.ops fun K hK => ?_
    simp
    refine hK _ _ _ ?_; clear hK K
    refine Run.ret ?_
    exact Fin.ret' (by simp) rfl hh (List.append_nil _).symm (by simp; rfl) rfl (Weak.refl _) (by simp) ⟨⟨_, rfl, fun h => by cases h⟩, rfl⟩
  | true =>
  refine Run.ops fun K hK => ?_
  simp
  refine hK _ _ _ ?_; clear hK K
  refine Run.call rfl (by first | rfl | simp) (by simp) rfl (c3 _ hh) ?_ ?_
  rotate_left
  · rintro v h' ⟨⟨_, hv, _⟩, _⟩; cases hv
  rintro v h' ⟨⟨b, hv, hb⟩, rfl⟩
  simp only [AOut.ret.injEq] at hv
  subst hv
  cases b with
  | false =>
    refine Run.ops fun K hK => ?_
    simp
    refine hK _ _ _ ?_; clear hK K
    refine Run.ret ?_
    exact Fin.ret' (by simp) rfl hh (List.append_nil _).symm (by simp; rfl) rfl (Weak.refl _) (by simp) ⟨⟨_, rfl, fun h => by cases h⟩, rfl⟩
  | true =>
    have he := hb rfl
    refine Run.ops fun K hK => ?_
    simp
    refine hK _ _ _ ?_; clear hK K
    refine Run.call rfl (by first | rfl | simp) (by simp) rfl (c4 _ hh) ?_ ?_
    rotate_left
    · rintro v h' ⟨⟨_, hv, _⟩, _⟩; cases hv
    rintro v h' ⟨⟨b, hv, hb⟩, rfl⟩
    simp only [AOut.ret.injEq] at hv
    subst hv
    refine Run.ops fun K hK => ?_
    simp
    refine hK _ _ _ ?_; clear hK K
    refine Run.ret ?_
    exact Fin.ret' (by simp) rfl hh (List.append_nil _).symm (by simp; rfl) rfl (Weak.refl _) (by simp) ⟨⟨_, rfl, fun _ => ⟨he, rfl⟩⟩, rfl⟩

end Go.Proofs.Ytppgpabjcenjdaa

namespace Go.Proofs.Ytppgpabjcenjdaa

open Go Go.AI
def applyT (t : Tm) (args : List Tm) : Tm := args.foldl appT t
theorem appT_weak (a b : Tm) : WeakL [AV.p (iP 4), AV.p (iP 0), AV.p (sP []), AV.p (.prim (.slice none 0 0)), AV.p (.sl 5 [a.cells, b.cells])] ((appT a b).cells.map .p) := by
  simp only [appT, cells_mk, List.map, lvPs, tmPs]
  repeat' (first | exact WeakL.nil | apply WeakL.cons)
  all_goals first | exact Weak.refl _ | exact Weak.nil _
set_option maxRecDepth 8000 in
set_option maxHeartbeats 8000000 in
theorem apply73_any (h : Heap) (hh : WF h) (t : Tm) (args : List Tm) (hl : args.length ≤ 1048576) : ACalls Try.prog 73 [t.av, .p (.sl 5 (tmPs args))] h fun o h' => o = .ret (applyT t args).av ∧ h' = h := by
  obtain ⟨tc, htc⟩ : ∃ tc, tc = t.cells.map AV.p := ⟨_, rfl⟩
  simp only [Tm.av]
  rw [← htc]
  have htl : tc.length = 5 := by rw [htc]; simp
  refine ACalls.of_run Try.func73 rfl ?_
  simp only [Try.ntmps73, List.length_cons, List.length_nil]
  refine Run.reg fun K hK => ?_
  simp
  refine hK _ _ _ ?_; clear hK K
  refine Run.reg fun K hK => ?_
  simp
  refine hK _ _ _ ?_; clear hK K
  rw [htc]
  refine Run.loopS [1, 2, 4] (fun j : Nat => j ≤ args.length) (fun j => args.length - j) (fun j => [(5, iA j)]) (fun j => h ++ [some (.cells ((applyT t (args.take j)).cells.map .p)), some (.cells zTm)]) 0 (by simp) ?_ (by simp [applyT]) ?_
  · simp
    repeat' (first | exact WeakL.nil | apply WeakL.cons)
    all_goals first | exact Weak.junk _ | exact Weak.refl _ | exact Weak.nil _ | exact Weak.own _ _ _ | exact Weak.int (by omega)
  intro j hj IH
  simp
  refine Run.reg fun K hK => ?_
  simp
  refine hK _ _ _ ?_; clear hK K
  by_cases hjl : j < args.length
  · have hg : args[j]? = some args[j] := List.getElem?_eq_getElem hjl
    have htk : applyT t (args.take (j + 1)) = appT (applyT t (args.take j)) args[j] := by
      rw [List.take_succ_eq_append_getElem hjl, applyT, List.foldl_append]; rfl
    generalize args[j] = u at hg htk
    generalize applyT t (args.take j) = c at htk
    obtain ⟨k0, k1, k2, k3, k4⟩ := c
    refine Run.cond (b := true) (by simp [hjl]) ?_
    simp only [if_true]
    refine Run.draw [0, 0, 0, 0, 0, 0, 0, 0] [0, 0, 0, 0, 0, 0, 0, 0] [0, 0, 0, 6, 14, 31, 63, 127] [0, 1, 2, 3, 4, 5, 6, 7] (by kernel_rfl) (by kernel_rfl) ?_
    refine DR.go fun K hK => ?_
    simp [hg]
    refine hK _ _ _ _ ?_; clear hK K
    change Run _ _ _ _ _ _ _ _
    refine Run.reg fun K hK => ?_
    simp
    refine hK _ _ _ ?_; clear hK K
    refine Run.weakH h.length (cs' := (appT (Tm.mk k0 k1 k2 k3 k4) u).cells.map .p) (by simp only [Heap.at]; rw [get_last0]; rfl) (appT_weak _ _) ?_
    rw [set_last0]
    refine IH (j + 1) _ _ (by omega) (by omega) ?_ ?_
    · simp
      repeat' (first | exact WeakL.nil | apply WeakL.cons)
      all_goals first | exact Weak.junk _ | exact Weak.refl _ | exact Weak.nil _ | exact Weak.own _ _ _ | exact Weak.int (by omega)
    · rw [htk]; simp
  · have hje : j = args.length := by omega
    subst hje
    rw [List.take_length]
    generalize applyT t args = c
    obtain ⟨k0, k1, k2, k3, k4⟩ := c
    refine Run.cond (b := false) (by simp) ?_
    simp only [Bool.false_eq_true, if_false]
    refine Run.exit rfl ?_
    refine Run.reg fun K hK => ?_
    simp
    refine hK _ _ _ ?_; clear hK K
    refine Run.ret ?_
    refine Fin.ret' (h0 := h) (by simp) rfl hh rfl (by simp; rfl) rfl (Weak.refl _) (by simp) ⟨rfl, rfl⟩
def spG : Nat → Tm → Tm × List Tm
  | 0, t => (t, [])
  | n + 1, t => match isB 4 t with
    | some (f, a) => ((spG n f).1, (spG n f).2 ++ [a])
    | none => (t, [])
def resSpine (t : Tm) : Tm × List Tm := spG t.size t
theorem isB_size {k : Int} {t a b : Tm} (h : isB k t = some (a, b)) : a.size + b.size + 1 ≤ t.size := by
  obtain ⟨k', i, n, ls, ks⟩ := t
  match ks, h with
  | [x, y], h =>
    simp only [isB] at h
    split at h
    · injection h with h; injection h with h1 h2
      subst h1; subst h2
      simp only [Tm.size, Tm.sizes]; omega
    · cases h
theorem spG_fuel : ∀ (n m : Nat) (t : Tm), t.size ≤ n → t.size ≤ m → spG n t = spG m t
  | 0, _, t, h, _ => by have := t.size_pos; omega
  | _ + 1, 0, t, _, h => by have := t.size_pos; omega
  | n + 1, m + 1, t, h1, h2 => by
    simp only [spG]
    cases hb : isB 4 t with
    | none => rfl
    | some p =>
      obtain ⟨f, a⟩ := p
      have := isB_size hb
      have := a.size_pos
      simp only
      rw [spG_fuel n m f (by omega) (by omega)]
theorem resSpine_step {t f a : Tm} (h : isB 4 t = some (f, a)) : resSpine t = ((resSpine f).1, (resSpine f).2 ++ [a]) := by
  have hs := isB_size h
  have ha := a.size_pos
  obtain ⟨m, hm⟩ : ∃ m, t.size = m + 1 := ⟨t.size - 1, by have := t.size_pos; omega⟩
  unfold resSpine
  rw [hm, spG, h]
  simp only
  rw [spG_fuel m f.size f (by omega) (Nat.le_refl _)]
theorem resSpine_end {t : Tm} (h : isB 4 t = none) : resSpine t = (t, []) := by
  obtain ⟨m, hm⟩ : ∃ m, t.size = m + 1 := ⟨t.size - 1, by have := t.size_pos; omega⟩
  unfold resSpine
  rw [hm, spG, h]

end Go.Proofs.Ytppgpabjcenjdaa

namespace Go.AI

open Go

section

variable {P : Program} {b : Frame} {a : Act} {k : List Item} {cs : List Frame} {w : World} {Q : Exit → Act → World → Prop} {F : Fence} {n : Nat}
theorem stepR_scope' {c : Code} : step P (lone (b.atR a (.code (.scope c) :: k)) cs w) = .next (lone (b.atR a (.code c :: .inScope c :: k)) cs w) :=
  step_lone_go (by simp [stepG, stepG.exec, Frame.atR])
theorem stepR_inScope' {c : Code} : step P (lone (b.atR a (.inScope c :: k)) cs w) = .next (lone (b.atR a k) cs w) :=
  step_lone_go (by simp [stepG, stepG.exec, Frame.atR])
theorem wpIn_scope' {c : Code} (h : c.wpIn F n P (Exit.noGoto Q) a w) : (Code.scope c).wpIn F n P Q a w := by
  intro b k cs hro hb hr
  have h0 : (lone (b.atR a (.code (.scope c) :: k)) cs w).fenced P F := fenced_calm hb hr rfl
  obtain ⟨e, a₁, w₁, hq, harr⟩ := h b (.inScope c :: k) cs hro hb hr
  cases e with
  | normal => exact ⟨.normal, a₁, w₁, hq, .head h0 stepR_scope' (StepsIn.trans harr (.one (fenced_calm hb hr rfl) stepR_inScope'))⟩
  | exit id =>
    have hx : exitTo id (.inScope c :: k) = exitTo id k := by simp [exitTo]
    exact ⟨.exit id, a₁, w₁, hq, fun k' hk => .head h0 stepR_scope' (harr.1 k' (by rw [hx]; exact hk)),
      fun hr' hk => let ⟨k₁, h1, h2⟩ := harr.2 hr' (by rw [hx]; exact hk); ⟨k₁, h1, .head h0 stepR_scope' h2⟩⟩
  | goto l => exact hq.elim
  | ret => exact ⟨_, a₁, w₁, hq, .of_steps (.one h0 stepR_scope') harr⟩
  | panic ch => exact ⟨_, a₁, w₁, hq, .of_steps (.one h0 stepR_scope') harr⟩
  | outgrown => exact ⟨_, a₁, w₁, hq, .of_steps (.one h0 stepR_scope') harr⟩

end
theorem K_goto {P : Program} {rd : Option Nat} {Q : Exit → Act → World → Prop} (hQ : ∀ l a w, ¬ Q (.goto l) a w) : ∀ (k : List It) l a w, ¬ K P rd Q k (.goto l) a w
  | [], l, a, w => hQ l a w
  | .code _ :: k, l, a, w => K_goto hQ k l a w
  | .ops _ _ :: k, l, a, w => K_goto hQ k l a w
  | .inBlock _ :: k, l, a, w => K_goto hQ k l a w
theorem Post.not_goto {nb Q E h w l a w'} : ¬ Post nb Q E h w (.goto l) a w' := by
  rintro ⟨_, _, _, _, x, _, _, _, h⟩
  cases x <;> simp [RepX] at h
theorem Run.scope {P : Program} {rd : Option Nat} {nb : Nat} {c : Code} {k : List It} {T : List AV} {h : Heap} {D : List AD} {Q : AX → List AV → Heap → List AD → Prop} (r : Run P rd nb (.code c :: k) T h D Q) : Run P rd nb (.code (.scope c) :: k) T h D Q := by
  intro E w a hs
  refine wpIn_scope' (wpIn_mono (r E w a hs) ?_)
  intro e a w hq
  cases e with
  | goto l => exact K_goto (fun _ _ _ => Post.not_goto) k l a w hq
  | _ => exact hq

end Go.AI
