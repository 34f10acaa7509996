/-
  euclidlaw21.part: a term is a part of another one.
-/
import Derived.Test.YtppgpabjcenjdaaCX30
import Derived.Test.YtppgpabjcenjdaaCFX
import Derived.Test.YtppgpabjcenjdaaCX26
import Derived.Test.YtppgpabjcenjdaaCS0

namespace Go.Proofs.Ytppgpabjcenjdaa

open Go Go.AI
set_option maxRecDepth 8000 in
set_option maxHeartbeats 8000000 in
theorem relates7_any (h : Heap) (hh : WF h) (env : List Dc) (x y : Tm) (hg : Env.good env) (hx : x.good) (hy : y.good) (hxy : x.size + y.size ≤ 1048576) : ACalls Try.prog 7 [envA env, x.av, y.av] h fun o h' => o = .ret (bA true) ∧ h' = h := by
  have c1 := fun (g : Heap) (hw : WF g) => small08_any g hw env [x, y] hg (by simpa [Tm.sizes] using hxy) (by simp only [Tm.lvss]; exact ⟨hx.2.2, hy.2.2, trivial⟩) (by simp only [Tm.fits]; exact ⟨hx.2.1, hy.2.1, trivial⟩) (fun t ht => by
    simp only [List.mem_cons, List.not_mem_nil, or_false] at ht
    rcases ht with rfl | rfl
    · exact hx
    · exact hy)
  have c2 := fun (hf : EnvFine env) (g : Heap) (hw : WF g) => relate42_any env hg hf x hx.2.2 hx.1 y.size y g (Nat.le_refl _) hy.1 hw
  have c3 := fun (hf : EnvFine env) (g : Heap) (hw : WF g) => relate43_any env hg hf x hx.2.2 hx.1 y.size y g (Nat.le_refl _) hy.1 hw
  generalize relF env x y.size y = r at c2 c3
  generalize goodB [x, y] = gb at c1
  obtain ⟨k, i, n, ls, ks⟩ := x
  obtain ⟨k1, i1, n1, l1, s1⟩ := y
  simp only [tmPs, cells_mk, Tm.av, List.map] at c1 c2 c3 ⊢
  clear hg hx hy hxy
  refine ACalls.of_run Try.func7 rfl ?_
  simp only [Try.ntmps7, List.length_cons, List.length_nil]
  refine Run.reg fun K hK => ?_
  simp
  refine hK _ _ _ ?_; clear hK K
  refine Run.reg fun K hK => ?_
  simp
  refine hK _ _ _ ?_; clear hK K
  refine Run.call rfl (by first | rfl | simp) (by simp) rfl (c1 _ (hh.app (by simp))) ?_ ?_
  rotate_left
  · rintro v h' ⟨⟨_, hv, _⟩, _⟩; cases hv
  rintro v h' ⟨⟨b, hv, hb⟩, rfl⟩
  simp only [AOut.ret.injEq] at hv
  subst hv
  cases b with
  | false =>
    refine Run.ops fun K hK => ?_
    simp
    refine hK _ _ _ ?_; clear hK K
    refine Run.cond (b := true) (by simp) ?_
    simp only [if_true]
    refine Run.reg fun K hK => ?_
    simp
    refine hK _ _ _ ?_; clear hK K
    refine Run.call rfl (by first | rfl | simp) (by simp) rfl (aw41_any _ (hh.app (by simp))) ?_ ?_
    rotate_left
    · rintro v h' ⟨hv, _⟩; cases hv
    rintro v h' ⟨hv, rfl⟩
    simp only [AOut.ret.injEq] at hv
    subst hv
    refine Run.ops fun K hK => ?_
    simp
    refine hK _ _ _ ?_; clear hK K
    refine Run.ret ?_
    exact Fin.ret' (h0 := h) (by simp) rfl hh rfl (by simp; rfl) rfl (Weak.refl _) (by simp) ⟨rfl, rfl⟩
  | true =>
    have hf := (hb rfl).1
    refine Run.ops fun K hK => ?_
    simp
    refine hK _ _ _ ?_; clear hK K
    refine Run.cond (b := false) (by simp) ?_
    simp only [Bool.false_eq_true, if_false]
    refine Run.draw [0, 0, 0, 0, 0, 0, 0, 1, 2, 2, 2, 3, 3] [0, 0, 0, 0, 0, 0, 0, 1, 0, 0, 2, 0, 0] [0, 0, 0, 7, 0, 0, 0, 127, 255, 511, 1023, 2047, 4095] [0, 1, 2, 3, 4, 5, 6, 7, 8, 9, 10, 11, 12] (by kernel_rfl) (by kernel_rfl) ?_
    refine DR.go fun K hK => ?_
    simp
    refine hK _ _ _ _ ?_; clear hK K
    refine DR.call rfl rfl rfl (by simp) rfl (c2 hf _ (hh.app (by simp))) ?_
    refine DR.go fun K hK => ?_
    simp
    refine hK _ _ _ _ ?_; clear hK K
    refine DR.call rfl rfl rfl (by simp) rfl (c3 hf _ (hh.app (by simp))) ?_
    refine DR.go fun K hK => ?_
    simp
    refine hK _ _ _ _ ?_; clear hK K
    refine DR.call rfl rfl rfl (by simp) rfl (aw41_any _ (hh.app (by simp))) ?_
    refine DR.go fun K hK => ?_
    simp
    refine hK _ _ _ _ ?_; clear hK K
    change Run _ _ _ _ _ _ _ _
    refine Run.ret ?_
    exact Fin.ret' (h0 := h) (by simp) rfl hh rfl (by simp; rfl) rfl (Weak.refl _) (by simp) ⟨rfl, rfl⟩

end Go.Proofs.Ytppgpabjcenjdaa

namespace Go.Proofs.Ytppgpabjcenjdaa

open Go Go.AI
theorem sameT_iff (a b : Tm) : sameT a b = true ↔ a = b := ⟨sameT_eq a b, fun h => h ▸ sameT_refl a⟩
theorem relGo_congr {f g : Tm → Int} {d : Dc} {i : Nat} {sx : Tm × List Tm} : ∀ (l : List Tm) (j : Nat), (∀ a ∈ l, f a = g a) → relGo f d i sx l j = relGo g d i sx l j
  | [], j, _ => rfl
  | a :: l, j, h => by
    simp only [relGo]
    rw [h a (by simp), relGo_congr l (j + 1) fun b hb => h b (by simp [hb])]
theorem relF_fuel {env : List Dc} (hf : EnvFine env) (x : Tm) : ∀ (n m : Nat) (y : Tm), y.size ≤ n → y.size ≤ m → relF env x n y = relF env x m y
  | 0, _, y, h, _ => by have := y.size_pos; omega
  | _ + 1, 0, y, _, h => by have := y.size_pos; omega
  | n + 1, m + 1, y, h1, h2 => by
    simp only [relF]
    split
    · rfl
    · cases hc : conZ env y with
      | none => rfl
      | some c =>
        simp only
        refine relGo_congr _ _ fun a ha => ?_
        have := (conZ_some hf hc).2.2.2.1 a ha
        exact relF_fuel hf x n m a (by omega) (by omega)
theorem relZ_eq {env : List Dc} (hf : EnvFine env) (x y : Tm) : relZ env x y = if sameT x y = true then 1 else match conZ env y with
    | none => 0
    | some c => relGo (relZ env x) c.d c.i (resSpine x) c.as_ 0 := by
  unfold relZ
  obtain ⟨m, hm⟩ : ∃ m, y.size = m + 1 := ⟨y.size - 1, by have := y.size_pos; omega⟩
  rw [hm]
  simp only [relF]
  split
  · rfl
  · cases hc : conZ env y with
    | none => rfl
    | some c =>
      simp only
      refine relGo_congr _ _ fun a ha => ?_
      have := (conZ_some hf hc).2.2.2.1 a ha
      exact relF_fuel hf x m a.size a (by omega) (by omega)
theorem relGo_cases {f : Tm → Int} {d : Dc} {i : Nat} {sx : Tm × List Tm} : ∀ (l : List Tm) (j : Nat), relGo f d i sx l j = 0 ∨ relGo f d i sx l j = 2
  | [], _ => .inl rfl
  | a :: l, j => by
    simp only [relGo]
    split
    · exact relGo_cases l (j + 1)
    · split
      · exact .inr rfl
      · split
        · exact .inr rfl
        · exact relGo_cases l (j + 1)
theorem relGo_two {f : Tm → Int} {d : Dc} {i : Nat} {sx : Tm × List Tm} : ∀ (l : List Tm) (j : Nat), relGo f d i sx l j = 2 ↔ ∃ k a n, l[k]? = some a ∧ lenZ d i (j + k) = some n ∧ (f a ≠ 0 ∨ hitB sx a n = true)
  | [], j => by simp [relGo]
  | a :: l, j => by
    have ih := relGo_two (f := f) (d := d) (i := i) (sx := sx) l (j + 1)
    have hs : (∃ k b n, (a :: l)[k]? = some b ∧ lenZ d i (j + k) = some n ∧ (f b ≠ 0 ∨ hitB sx b n = true)) ↔ (∃ n, lenZ d i j = some n ∧ (f a ≠ 0 ∨ hitB sx a n = true)) ∨ ∃ k b n, l[k]? = some b ∧ lenZ d i (j + 1 + k) = some n ∧ (f b ≠ 0 ∨ hitB sx b n = true) := by
      constructor
      · rintro ⟨k, b, n, h1, h2, h3⟩
        cases k with
        | zero => simp only [List.getElem?_cons_zero, Option.some.injEq] at h1; subst h1; exact .inl ⟨n, h2, h3⟩
        | succ k => exact .inr ⟨k, b, n, by simpa using h1, by rw [show j + 1 + k = j + (k + 1) by omega]; exact h2, h3⟩
      · rintro (⟨n, h2, h3⟩ | ⟨k, b, n, h1, h2, h3⟩)
        · exact ⟨0, a, n, by simp, h2, h3⟩
        · exact ⟨k + 1, b, n, by simpa using h1, by rw [show j + (k + 1) = j + 1 + k by omega]; exact h2, h3⟩
    rw [hs, ← ih]
    simp only [relGo]
    cases hl : lenZ d i j with
    | none => simp
    | some n =>
      simp only
      by_cases h1 : f a ≠ 0
      · simp [h1]
      · rw [if_neg h1]
        by_cases h2 : hitB sx a n = true
        · simp [h2]
        · rw [if_neg h2]
          constructor
          · exact .inr
          · rintro (⟨n', e, h3⟩ | h)
            · cases e; exact absurd h3 (by rintro (h | h); exact h1 h; exact h2 h)
            · exact h
theorem relZ_cases {env : List Dc} (hf : EnvFine env) (x y : Tm) : relZ env x y = 0 ∨ relZ env x y = 1 ∨ relZ env x y = 2 := by
  rw [relZ_eq hf]
  split
  · exact .inr (.inl rfl)
  · split
    · exact .inl rfl
    · exact (relGo_cases _ _).imp id .inr
theorem relZ_self {env : List Dc} (hf : EnvFine env) (x : Tm) : relZ env x x = 1 := by rw [relZ_eq hf, if_pos (sameT_refl x)]
theorem relZ_one {env : List Dc} (hf : EnvFine env) {x y : Tm} (h : relZ env x y = 1) : x = y := by
  rw [relZ_eq hf] at h
  split at h
  · rename_i e; exact (sameT_iff x y).1 e
  · split at h
    · cases h
    · rename_i c hc
      rcases relGo_cases (f := relZ env x) (d := c.d) (i := c.i) (sx := resSpine x) c.as_ 0 with e | e <;> rw [e] at h <;> cases h
theorem relZ_two {env : List Dc} (hf : EnvFine env) {x y : Tm} : relZ env x y = 2 ↔ x ≠ y ∧ ∃ c, conZ env y = some c ∧ ∃ k a n, c.as_[k]? = some a ∧ lenZ c.d c.i k = some n ∧ (relZ env x a ≠ 0 ∨ hitB (resSpine x) a n = true) := by
  rw [relZ_eq hf]
  split
  · rename_i e; simp [(sameT_iff x y).1 e]
  · rename_i e
    rw [sameT_iff] at e
    cases hc : conZ env y with
    | none => simp
    | some c =>
      simp only [relGo_two, Nat.zero_add, ne_eq, e, not_false_eq_true, true_and, Option.some.injEq, exists_eq_left']
theorem conZ_kind {env : List Dc} {t : Tm} {c : Co} (h : conZ env t = some c) : (resSpine t).1.kind = 3 := by
  unfold conZ at h
  split at h
  · cases h
  · rename_i h1; exact Classical.not_not.1 h1
theorem conZ_args {env : List Dc} {t : Tm} {c : Co} (h : conZ env t = some c) : ∀ a ∈ c.as_, a ∈ (resSpine t).2 := by
  unfold conZ at h
  split at h
  · cases h
  split at h
  · split at h
    · split at h
      · cases h
        exact fun a ha => List.mem_of_mem_drop ha
      · cases h
    · cases h
  · cases h
theorem hitB_kind {sx : Tm × List Tm} {a : Tm} {n : Nat} (h : hitB sx a n = true) : sx.1.kind = 0 ∧ 0 < sx.2.length ∧ sx.1 = a := by
  simp only [hitB, Bool.and_eq_true, beq_iff_eq, decide_eq_true_eq, sameT_iff] at h
  exact ⟨h.1, h.2.1, h.2.2.1⟩
theorem relZ_size {env : List Dc} (hf : EnvFine env) (x : Tm) : ∀ (N : Nat) (y : Tm), y.size ≤ N → relZ env x y ≠ 0 → x.size ≤ y.size ∨ ((resSpine x).1.kind = 0 ∧ 0 < (resSpine x).2.length)
  | 0, y, h, _ => by have := y.size_pos; omega
  | N + 1, y, hN, h => by
    rcases relZ_cases hf x y with e | e | e
    · exact absurd e h
    · rw [relZ_one hf e]; exact .inl (Nat.le_refl _)
    · obtain ⟨hne, c, hc, k, a, n, h1, h2, h3⟩ := (relZ_two hf).1 e
      have hlt := (conZ_some hf hc).2.2.2.1 a (List.mem_of_getElem? h1)
      rcases h3 with h3 | h3
      · exact (relZ_size hf x N a (by omega) h3).imp (fun h => by omega) id
      · exact .inr ⟨(hitB_kind h3).1, (hitB_kind h3).2.1⟩
theorem relZ_trans {env : List Dc} (hf : EnvFine env) {x y : Tm} (hxy : relZ env x y = 2) : ∀ (N : Nat) (z : Tm), z.size ≤ N → relZ env y z ≠ 0 → relZ env x z = 2
  | 0, z, h, _ => by have := z.size_pos; omega
  | N + 1, z, hN, h => by
    rcases relZ_cases hf y z with e | e | e
    · exact absurd e h
    · rw [← relZ_one hf e]; exact hxy
    · obtain ⟨hne, c, hc, k, a, n, h1, h2, h3⟩ := (relZ_two hf).1 e
      obtain ⟨_, c', hc', _⟩ := (relZ_two hf).1 hxy
      have hlt := (conZ_some hf hc).2.2.2.1 a (List.mem_of_getElem? h1)
      have hyk := conZ_kind hc'
      have hzk := conZ_kind hc
      have h3' : relZ env y a ≠ 0 := h3.resolve_right fun h => by have := (hitB_kind h).1; omega
      have ih := relZ_trans hf hxy N a (by omega) h3'
      refine (relZ_two hf).2 ⟨?_, c, hc, k, a, n, h1, h2, .inl (by omega)⟩
      rintro rfl
      rcases relZ_size hf x a.size a (Nat.le_refl _) (by omega) with h | ⟨h, _⟩
      · omega
      · omega
theorem relZ_order {env : List Dc} (hf : EnvFine env) (x y z : Tm) (h1 : relZ env x y ≠ 0) (h2 : relZ env y z ≠ 0) : relZ env x z = if relZ env x y < relZ env y z then relZ env y z else relZ env x y := by
  rcases relZ_cases hf x y with e | e | e
  · exact absurd e h1
  · have hxy := relZ_one hf e
    subst hxy
    rw [e]
    rcases relZ_cases hf x z with e | e | e <;> rw [e] at h2 ⊢ <;> first | (exact absurd rfl h2) | rfl
  · rw [relZ_trans hf e z.size z (Nat.le_refl _) h2, e]
    rcases relZ_cases hf y z with e | e | e <;> rw [e] <;> rfl
def partF (a : Tm) : Nat → Tm → Bool
  | 0, _ => false
  | n + 1, p => sameT a p || (resSpine p).2.any (partF a n)
def partZ (a p : Tm) : Bool := partF a p.size p
theorem any_congr' {f g : Tm → Bool} : ∀ (l : List Tm), (∀ a ∈ l, f a = g a) → l.any f = l.any g
  | [], _ => rfl
  | a :: l, h => by simp only [List.any_cons]; rw [h a (by simp), any_congr' l fun b hb => h b (by simp [hb])]
theorem partF_fuel (x : Tm) : ∀ (n m : Nat) (y : Tm), y.size ≤ n → y.size ≤ m → partF x n y = partF x m y
  | 0, _, y, h, _ => by have := y.size_pos; omega
  | _ + 1, 0, y, _, h => by have := y.size_pos; omega
  | n + 1, m + 1, y, h1, h2 => by
    simp only [partF]
    congr 1
    exact any_congr' _ fun a ha => by have := spine_lt y a ha; exact partF_fuel x n m a (by omega) (by omega)
theorem partZ_eq (a p : Tm) : partZ a p = (sameT a p || (resSpine p).2.any (partZ a)) := by
  unfold partZ
  obtain ⟨m, hm⟩ : ∃ m, p.size = m + 1 := ⟨p.size - 1, by have := p.size_pos; omega⟩
  rw [hm]
  simp only [partF]
  congr 1
  exact any_congr' _ fun b hb => by have := spine_lt p b hb; exact partF_fuel a m b.size b (by omega) (by omega)
theorem partZ_self (a : Tm) : partZ a a = true := by rw [partZ_eq, sameT_refl]; rfl
theorem partZ_arg {a p x : Tm} (hx : x ∈ (resSpine p).2) (h : partZ a x = true) : partZ a p = true := by
  rw [partZ_eq, Bool.or_eq_true]
  exact .inr (List.any_eq_true.2 ⟨x, hx, h⟩)
theorem relZ_part {env : List Dc} (hf : EnvFine env) (x : Tm) : ∀ (N : Nat) (y : Tm), y.size ≤ N → relZ env x y ≠ 0 → partZ x y = true ∨ ((resSpine x).1.kind = 0 ∧ 0 < (resSpine x).2.length ∧ partZ (resSpine x).1 y = true)
  | 0, y, h, _ => by have := y.size_pos; omega
  | N + 1, y, hN, h => by
    rcases relZ_cases hf x y with e | e | e
    · exact absurd e h
    · rw [relZ_one hf e]; exact .inl (partZ_self _)
    · obtain ⟨hne, c, hc, k, a, n, h1, h2, h3⟩ := (relZ_two hf).1 e
      have hlt := (conZ_some hf hc).2.2.2.1 a (List.mem_of_getElem? h1)
      have hm := conZ_args hc a (List.mem_of_getElem? h1)
      rcases h3 with h3 | h3
      · exact (relZ_part hf x N a (by omega) h3).imp (partZ_arg hm) fun h => ⟨h.1, h.2.1, partZ_arg hm h.2.2⟩
      · have := hitB_kind h3
        exact .inr ⟨this.1, this.2.1, partZ_arg hm (by rw [this.2.2]; exact partZ_self _)⟩
theorem relZ_parts {env : List Dc} (hf : EnvFine env) {x y : Tm} (h : relZ env x y = 2) :
    ((resSpine x).1.kind = 0 ∧ 0 < (resSpine x).2.length → partZ (resSpine x).1 y = true ∨ partZ x y = true) ∧
    (¬ ((resSpine x).1.kind = 0 ∧ 0 < (resSpine x).2.length) → partZ x y = true ∧ x.size < y.size) := by
  have hp := relZ_part hf x y.size y (Nat.le_refl _) (by omega)
  refine ⟨fun _ => hp.elim .inr fun h => .inl h.2.2, fun hn => ⟨hp.resolve_right fun h => hn ⟨h.1, h.2.1⟩, ?_⟩⟩
  obtain ⟨hne, c, hc, k, a, n, h1, h2, h3⟩ := (relZ_two hf).1 h
  have hlt := (conZ_some hf hc).2.2.2.1 a (List.mem_of_getElem? h1)
  rcases h3 with h3 | h3
  · have := (relZ_size hf x a.size a (Nat.le_refl _) h3).resolve_right hn
    omega
  · exact absurd ⟨(hitB_kind h3).1, (hitB_kind h3).2.1⟩ hn

end Go.Proofs.Ytppgpabjcenjdaa

namespace Go.Proofs.Ytppgpabjcenjdaa

open Go Go.AI
set_option maxRecDepth 8000 in
theorem partFn_any (h : Heap) (hh : WF h) (q : Nat) (a x : Tm) (b : Bool) (hq : h[q]? = some (some (.cells (a.cells.map .p))))
    (hc : ∀ g : Heap, WF g → ACalls Try.prog 45 [a.av, x.av] g fun o h' => o = .ret (bA b) ∧ h' = g) : ACalls Try.prog 127 [x.av, .ptr q 0] h fun o h' => o = .ret (bA b) ∧ h' = h := by
  have hql := (List.getElem?_eq_some_iff.1 hq).1
  obtain ⟨k, i, n, ls, ks⟩ := a
  obtain ⟨k1, i1, n1, l1, s1⟩ := x
  simp only [Tm.av, cells_mk, List.map] at hq hc ⊢
  have hq' : ∀ l : List (Option AO), (h ++ l)[q]? = some (some (.cells [iA k, iA i, .p (sP n), .p (.sl 2 (lvPs ls)), .p (.sl 5 (tmPs ks))])) := fun l => by rw [List.getElem?_append_left hql]; exact hq
  refine ACalls.of_run Try.func127 rfl ?_
  simp only [Try.ntmps127, List.length_cons, List.length_nil]
  refine Run.reg fun K hK => ?_
  simp
  refine hK _ _ _ ?_; clear hK K
  refine Run.reg fun K hK => ?_
  simp [hq']
  refine hK _ _ _ ?_; clear hK K
  refine Run.call rfl (by first | rfl | simp) (by simp) rfl (hc _ (hh.app (by simp))) ?_ ?_
  rotate_left
  · rintro v h' ⟨hv, _⟩; cases hv
  rintro v h' ⟨hv, rfl⟩
  simp only [AOut.ret.injEq] at hv
  subst hv
  refine Run.ops fun K hK => ?_
  simp
  refine hK _ _ _ ?_; clear hK K
  refine Run.ret ?_
  exact Fin.ret' (h0 := h) (by simp) rfl hh rfl (by simp; rfl) rfl (Weak.refl _) (by simp) ⟨rfl, rfl⟩
set_option maxRecDepth 8000 in
set_option maxHeartbeats 8000000 in
theorem partIx_any (h : Heap) (hh : WF h) (q : Nat) (a : Tm) (f : Tm → Bool) (l : List Tm) (hl : l.length ≤ 1048576) (hq : h[q]? = some (some (.cells (a.cells.map .p))))
    (hc : ∀ x ∈ l, ∀ g : Heap, WF g → ACalls Try.prog 45 [a.av, x.av] g fun o h' => o = .ret (bA (f x)) ∧ h' = g) :
    ACalls Try.prog 163 [.p (.sl 5 (tmPs l)), .fn (.func 127) [] [.ptr q 0]] h fun o h' => ∃ r : Int, o = .ret (iA r) ∧ h' = h ∧ decide (0 ≤ r) = l.any f := by
  refine ACalls.of_run Try.func163 rfl ?_
  simp only [Try.ntmps163, List.length_cons, List.length_nil]
  refine Run.reg fun K hK => ?_
  simp
  refine hK _ _ _ ?_; clear hK K
  refine Run.reg fun K hK => ?_
  simp
  refine hK _ _ _ ?_; clear hK K
  refine Run.loopS [0, 1, 7] (fun j : Nat => j ≤ l.length ∧ l.any f = (l.drop j).any f) (fun j => l.length - j) (fun j => [(8, iA j)]) (fun _ => _) 0 (by simp) ?_ rfl ?_
  · simp
    repeat' (first | exact WeakL.nil | apply WeakL.cons)
    all_goals first | exact Weak.junk _ | exact Weak.refl _ | exact Weak.nil _ | exact Weak.own _ _ _ | exact Weak.int (by omega)
  rintro j ⟨hj, hr⟩ IH
  simp
  refine Run.reg fun K hK => ?_
  simp
  refine hK _ _ _ ?_; clear hK K
  by_cases hjl : j < l.length
  · have hge : l[j]? = some l[j] := List.getElem?_eq_getElem hjl
    have c1 := fun (g : Heap) (hw : WF g) (hq' : g[q]? = some (some (.cells (a.cells.map .p)))) => partFn_any g hw q a _ _ hq' (hc _ (List.getElem_mem hjl))
    rw [List.drop_eq_getElem_cons hjl, List.any_cons] at hr
    generalize f l[j] = b at c1 hr
    generalize l[j] = t at hge c1
    obtain ⟨k, i, n, ls, ks⟩ := t
    simp only [Tm.av, cells_mk, List.map] at c1
    refine Run.cond (b := true) (by simp [hjl]) ?_
    simp only [if_true]
    refine Run.reg fun K hK => ?_
    simp
    refine hK _ _ _ ?_; clear hK K
    refine Run.reg fun K hK => ?_
    simp [hge]
    refine hK _ _ _ ?_; clear hK K
    refine Run.call rfl (by first | rfl | simp) (by simp) rfl (c1 _ hh hq) ?_ ?_
    rotate_left
    · rintro v h' ⟨hv, _⟩; cases hv
    rintro v h' ⟨hv, rfl⟩
    simp only [AOut.ret.injEq] at hv
    subst hv
    cases b with
    | false =>
      refine Run.ops fun K hK => ?_
      simp
      refine hK _ _ _ ?_; clear hK K
      refine Run.cond (b := false) (by simp) ?_
      simp only [Bool.false_eq_true, if_false]
      refine Run.reg fun K hK => ?_
      simp
      refine hK _ _ _ ?_; clear hK K
      refine IH (j + 1) _ _ ⟨by omega, by simpa using hr⟩ (by omega) ?_ rfl
      simp
      repeat' (first | exact WeakL.nil | apply WeakL.cons)
      all_goals first | exact Weak.junk _ | exact Weak.refl _ | exact Weak.nil _ | exact Weak.own _ _ _ | exact Weak.int (by omega)
    | true =>
      refine Run.ops fun K hK => ?_
      simp
      refine hK _ _ _ ?_; clear hK K
      refine Run.cond (b := true) (by simp) ?_
      simp only [if_true]
      repeat (first
        | refine Run.seq ?_ | refine Run.block ?_ | refine Run.skip ?_ | refine Run.inBlock ?_ | refine Run.opsNil ?_
        | (refine Run.reg fun K hK => ?_; simp; (try (simp (disch := omega) only [wrap_id])); refine hK _ _ _ ?_; clear hK K)
        | (refine Run.cond (b := true) rfl ?_; simp only [if_true])
        | (refine Run.cond (b := false) rfl ?_; simp only [Bool.false_eq_true, if_false])
        | refine Run.exit rfl ?_ | refine Run.ret ?_)
      exact Fin.ret' (by simp) rfl hh (List.append_nil _).symm rfl rfl (Weak.refl _) rfl ⟨j, rfl, rfl, by rw [hr]; simp⟩
  · have hje : j = l.length := by omega
    subst hje
    refine Run.cond (b := false) (by simp) ?_
    simp only [Bool.false_eq_true, if_false]
    refine Run.exit rfl ?_
    repeat (first
      | refine Run.seq ?_ | refine Run.block ?_ | refine Run.skip ?_ | refine Run.inBlock ?_ | refine Run.opsNil ?_
      | (refine Run.reg fun K hK => ?_; simp; (try (simp (disch := omega) only [wrap_id])); refine hK _ _ _ ?_; clear hK K)
      | (refine Run.cond (b := true) rfl ?_; simp only [if_true])
      | (refine Run.cond (b := false) rfl ?_; simp only [Bool.false_eq_true, if_false])
      | refine Run.exit rfl ?_ | refine Run.ret ?_)
    exact Fin.ret' (by simp) rfl hh (List.append_nil _).symm rfl rfl (Weak.refl _) rfl ⟨-1, rfl, rfl, by rw [hr]; simp⟩
set_option maxRecDepth 8000 in
theorem partCt_any (h : Heap) (hh : WF h) (q : Nat) (a : Tm) (f : Tm → Bool) (l : List Tm) (hl : l.length ≤ 1048576) (hq : h[q]? = some (some (.cells (a.cells.map .p))))
    (hc : ∀ x ∈ l, ∀ g : Heap, WF g → ACalls Try.prog 45 [a.av, x.av] g fun o h' => o = .ret (bA (f x)) ∧ h' = g) :
    ACalls Try.prog 115 [.p (.sl 5 (tmPs l)), .fn (.func 127) [] [.ptr q 0]] h fun o h' => o = .ret (bA (l.any f)) ∧ h' = h := by
  refine ACalls.of_run Try.func115 rfl ?_
  simp only [Try.ntmps115, List.length_cons, List.length_nil]
  refine Run.reg fun K hK => ?_
  simp
  refine hK _ _ _ ?_; clear hK K
  refine Run.reg fun K hK => ?_
  simp
  refine hK _ _ _ ?_; clear hK K
  refine Run.call rfl rfl (by simp) rfl (partIx_any h hh q a f l hl hq hc) ?_ ?_
  · rintro v h' ⟨r, hv, rfl, hr⟩
    simp only [AOut.ret.injEq] at hv
    subst hv
    rw [← hr]
    refine Run.ops fun K hK => ?_
    simp
    refine hK _ _ _ ?_; clear hK K
    refine Run.ret ?_
    exact Fin.ret' (by simp) rfl hh (List.append_nil _).symm (by simp; rfl) rfl (Weak.refl _) (by simp) ⟨rfl, rfl⟩
  · rintro v h' ⟨r, hv, _⟩
    cases hv
set_option maxRecDepth 8000 in
set_option maxHeartbeats 8000000 in
theorem part45_any (a : Tm) (ha : a.lvs) (has : a.size ≤ 1048576) (N : Nat) : ∀ (p : Tm) (h : Heap), p.size ≤ N → p.size ≤ 1048576 → WF h →
    ACalls Try.prog 45 [a.av, p.av] h fun o h' => o = .ret (bA (partZ a p)) ∧ h' = h := by
  induction N with
  | zero => intro p _ hN; have := p.size_pos; omega
  | succ N ih =>
  intro p h hN hsz hh
  have c1 := fun (g : Heap) (hw : WF g) => same_any a.size a p g (Nat.le_refl _) (by omega) ha hw
  have c2 := fun (g : Heap) (hw : WF g) => spine44' g hw p hsz
  have c3 := fun (g : Heap) (hw : WF g) (q : Nat) (hq : g[q]? = some (some (.cells (a.cells.map .p)))) => partCt_any g hw q a (partZ a) (resSpine p).2 (by have := resSpine_len p; omega) hq
    (fun x hx g hw => ih x g (by have := spine_lt p x hx; omega) (by have := spine_lt p x hx; omega) hw)
  rw [partZ_eq]
  generalize sameT a p = b at c1
  generalize (resSpine p).2.any (partZ a) = e at c3
  generalize resSpine p = sx at c2 c3
  clear ih ha has
  obtain ⟨k, i, n, ls, ks⟩ := a
  obtain ⟨k1, i1, n1, l1, s1⟩ := p
  obtain ⟨⟨k2, i2, n2, l2, s2⟩, xs⟩ := sx
  simp only [Tm.av, cells_mk, List.map] at c1 c2 c3 ⊢
  refine ACalls.of_run Try.func45 rfl ?_
  simp only [Try.ntmps45, List.length_cons, List.length_nil]
  refine Run.reg fun K hK => ?_
  simp
  refine hK _ _ _ ?_; clear hK K
  refine Run.reg fun K hK => ?_
  simp
  refine hK _ _ _ ?_; clear hK K
  refine Run.call rfl (by first | rfl | simp) (by simp) rfl (c1 _ (hh.app (by simp))) ?_ ?_
  rotate_left
  · rintro v h' ⟨hv, _⟩; cases hv
  rintro v h' ⟨hv, rfl⟩
  simp only [AOut.ret.injEq] at hv
  subst hv
  refine Run.ops fun K hK => ?_
  simp
  refine hK _ _ _ ?_; clear hK K
  cases b with
  | true =>
    refine Run.cond (b := true) (by simp) ?_
    simp only [if_true]
    refine Run.reg fun K hK => ?_
    simp
    refine hK _ _ _ ?_; clear hK K
    refine Run.ret ?_
    exact Fin.ret' (h0 := h) (by simp) rfl hh rfl (by simp; rfl) rfl (Weak.refl _) (by simp) ⟨rfl, rfl⟩
  | false =>
    refine Run.cond (b := false) (by simp) ?_
    simp only [Bool.false_eq_true, if_false]
    refine Run.reg fun K hK => ?_
    simp
    refine hK _ _ _ ?_; clear hK K
    refine Run.call rfl (by first | rfl | simp) (by simp) rfl (c2 _ (hh.app (by simp))) ?_ ?_
    rotate_left
    · rintro v h' ⟨hv, _⟩; cases hv
    rintro v h' ⟨hv, rfl⟩
    simp only [AOut.ret.injEq] at hv
    subst hv
    refine Run.ops fun K hK => ?_
    simp
    refine hK _ _ _ ?_; clear hK K
    refine Run.reg fun K hK => ?_
    simp
    refine hK _ _ _ ?_; clear hK K
    refine Run.call rfl (by first | rfl | simp) (by simp) rfl (c3 _ (hh.app (by simp)) h.length (by simp)) ?_ ?_
    rotate_left
    · rintro v h' ⟨hv, _⟩; cases hv
    rintro v h' ⟨hv, rfl⟩
    simp only [AOut.ret.injEq] at hv
    subst hv
    refine Run.ops fun K hK => ?_
    simp
    refine hK _ _ _ ?_; clear hK K
    refine Run.ret ?_
    exact Fin.ret' (h0 := h) (by simp) rfl hh rfl (by simp; rfl) rfl (Weak.refl _) (by simp) ⟨rfl, rfl⟩

end Go.Proofs.Ytppgpabjcenjdaa
