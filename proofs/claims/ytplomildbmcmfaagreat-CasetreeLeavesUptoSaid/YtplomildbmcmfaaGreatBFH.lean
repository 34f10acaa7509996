/-
  A region that draws its order, in which two operations may come in either order: both orders are run.
-/
import Derived.Test.YtplomildbmcmfaaGreatBFG

namespace Go.AI.PC

open Go Go.AI

section

variable {pc : List Nat} {P : Program} {ops : Array Oper} {lo rk : List Nat} {D : List AD} {Q : AX → List AV → Heap → List AD → Prop}
theorem wpOps_post {F : Fence} {n : Nat} {Q1 Q2 : Exit → Act → World → Prop} (hq : ∀ e a w, Q1 e a w → Q2 e a w) : ∀ (τ : List Nat) (a : Act) (w : World), wpOpsIn F n P ops Q1 τ a w → wpOpsIn F n P ops Q2 τ a w
  | [], a, w, h => by
    simp only [wpOpsIn] at h ⊢
    exact hq _ _ _ h
  | i :: τ, a, w, h => by
    rw [wpOpsIn_cons] at h ⊢
    unfold wpOpIn at h ⊢
    split
    · rename_i ho
      simp only [ho] at h
      exact wpOps_post hq τ _ _ h
    · rename_i o ho
      simp only [ho] at h
      split
      · rename_i hw
        rw [if_pos hw] at h
        exact opIn_mono (fun a w => wpOps_post hq τ a w) hq h
      · rename_i hw
        rw [if_neg hw] at h
        exact ⟨h.1, wpOps_post hq τ _ _ h.2⟩
def unl (ops : Array Oper) (listed : Array Bool) : List Nat := (List.range ops.size).filter fun i => !(listed.getD i true)
theorem unl_mem {listed : Array Bool} {i : Nat} : i ∈ unl ops listed ↔ i < ops.size ∧ listed.getD i true = false := by
  simp only [unl, List.mem_filter, List.mem_range, Bool.not_eq_true']
theorem unl_nodup (listed : Array Bool) : (unl ops listed).Nodup := List.Pairwise.filter _ List.nodup_range
theorem unl_set {listed : Array Bool} {i : Nat} (hs : listed.size = ops.size) (hi : i ∈ unl ops listed) : (unl ops (listed.setIfInBounds i true)).length + 1 = (unl ops listed).length := by
  have h1 := unl_mem.1 hi
  have e : unl ops (listed.setIfInBounds i true) = (unl ops listed).erase i := by
    rw [(unl_nodup listed).erase_eq_filter]
    unfold unl
    rw [List.filter_filter]
    refine List.filter_congr fun j _ => ?_
    rw [getD_set (by rw [hs]; exact h1.1)]
    by_cases c : j = i
    · subst c; simp
    · simp [c]
  rw [e, List.length_erase_of_mem hi]
  have := List.length_pos_of_mem hi
  omega

structure Lin (ops : Array Oper) (listed : Array Bool) (τ : List Nat) : Prop where
  mem : ∀ i, i ∈ τ ↔ i ∈ unl ops listed
  nodup : τ.Nodup
  ready : ∀ τ1 i τ2, τ = τ1 ++ i :: τ2 → ∀ o, ops[i]? = some o → ∀ e ∈ o.after, Region.binds .any e = true → listed.getD e.on false = true ∨ e.on ∈ τ1
theorem lin_spec {π0 : List Nat} (hcov : ∀ i, i < ops.size → i ∈ π0) (hlt : ∀ i ∈ π0, i < ops.size) (hready : ∀ π1 i π2, π0 = π1 ++ i :: π2 → ∀ o, ops[i]? = some o → ∀ e ∈ o.after, Region.binds .any e = true → e.on ∈ π1) :
    ∀ (fuel t : Nat) (listed : Array Bool), listed.size = ops.size → (unl ops listed).length = fuel → Lin ops listed (Region.linearise.go .any ops fuel t listed [])
  | 0, t, listed, hs, hl => by
    have h0 : unl ops listed = [] := List.length_eq_zero_iff.1 hl
    simp only [Region.linearise.go, List.reverse_nil]
    exact ⟨fun i => by rw [h0], List.nodup_nil, fun τ1 i τ2 h => by simp at h⟩
  | fuel + 1, t, listed, hs, hl => by
    have hne : Region.ready .any ops listed ≠ [] := by
      -- the first of the order that is not listed
      have hex : ∃ i ∈ π0, listed.getD i true = false := by
        obtain ⟨i, hi⟩ := List.exists_mem_of_ne_nil (unl ops listed) (fun e => by rw [e] at hl; cases hl)
        have := unl_mem.1 hi
        exact ⟨i, hcov i this.1, this.2⟩
      have hfirst : ∀ (l r : List Nat), π0 = l ++ r → (∀ i ∈ l, listed.getD i true = true) → (∃ i ∈ r, listed.getD i true = false) → ∃ i, i ∈ Region.ready .any ops listed := by
        intro l r
        induction r generalizing l with
        | nil => rintro _ _ ⟨i, hi, _⟩; cases hi
        | cons j r ih =>
          intro hπ hall hx
          cases hj : listed.getD j true with
          | false =>
            have hjl : j < ops.size := hlt j (by rw [hπ]; simp)
            refine ⟨j, mem_ready.2 ⟨hj, ops[j], Array.getElem?_eq_getElem hjl, fun e he hb => ?_⟩⟩
            have h1 := hready l j r hπ _ (Array.getElem?_eq_getElem hjl) e he hb
            have h2 := hall _ h1
            have h3 : e.on < ops.size := hlt _ (by rw [hπ]; exact List.mem_append_left _ h1)
            simp only [Array.getD_eq_getD_getElem?, Array.getElem?_eq_getElem (show e.on < listed.size by omega), Option.getD_some] at h2 ⊢
            exact h2
          | true =>
            refine ih (l ++ [j]) (by rw [hπ]; simp) (fun i hi => ?_) ?_
            · rcases List.mem_append.1 hi with hi | hi
              · exact hall i hi
              · simp at hi; subst hi; exact hj
            · obtain ⟨i, hi, hf⟩ := hx
              rcases List.mem_cons.1 hi with rfl | hi
              · rw [hj] at hf; cases hf
              · exact ⟨i, hi, hf⟩
      obtain ⟨i, hi⟩ := hfirst [] π0 rfl (by simp) hex
      exact List.ne_nil_of_mem hi
    simp only [Region.linearise.go]
    change Lin ops listed (match (Region.ready .any ops listed)[t % (Region.ready .any ops listed).length]? with
      | some i => Region.linearise.go .any ops fuel (t / (Region.ready .any ops listed).length) (listed.setIfInBounds i true) [i]
      | none => [].reverse)
    cases hi : (Region.ready .any ops listed)[t % (Region.ready .any ops listed).length]? with
    | none =>
      exfalso
      have hlt : t % (Region.ready .any ops listed).length < (Region.ready .any ops listed).length := Nat.mod_lt _ (List.length_pos_iff.2 hne)
      rw [List.getElem?_eq_none_iff] at hi
      omega
    | some i =>
      simp only []
      rw [linearise_go_acc, List.reverse_singleton, List.singleton_append]
      have hrd := List.mem_of_getElem? hi
      obtain ⟨h0, o, ho, hall⟩ := mem_ready.1 hrd
      have hil := (Array.getElem?_eq_some_iff.1 ho).1
      have hiu : i ∈ unl ops listed := unl_mem.2 ⟨hil, h0⟩
      have hset := unl_set hs hiu
      have L := lin_spec hcov hlt hready fuel (t / (Region.ready .any ops listed).length) (listed.setIfInBounds i true) (by simpa using hs) (by omega)
      generalize Region.linearise.go .any ops fuel (t / (Region.ready .any ops listed).length) (listed.setIfInBounds i true) [] = τ at L
      have hil' : i < listed.size := by omega
      refine ⟨fun j => ?_, List.nodup_cons.2 ⟨fun hm => ?_, L.nodup⟩, ?_⟩
      · rw [List.mem_cons, L.mem, unl_mem, unl_mem, getD_set hil']
        by_cases c : j = i
        · subst c; simp [hil, h0]
        · simp [c]
      · have := unl_mem.1 ((L.mem i).1 hm)
        rw [getD_set hil', if_pos rfl] at this
        cases this.2
      · intro τ1 j τ2 hτ o' ho' e he hb
        cases τ1 with
        | nil =>
          simp only [List.nil_append, List.cons.injEq] at hτ
          obtain ⟨rfl, rfl⟩ := hτ
          rw [ho] at ho'; cases ho'
          exact .inl (hall e he hb)
        | cons x τ1 =>
          simp only [List.cons_append, List.cons.injEq] at hτ
          obtain ⟨rfl, hτ⟩ := hτ
          rcases L.ready τ1 j τ2 hτ o' ho' e he hb with h1 | h1
          · rw [getD_setF hil'] at h1
            split at h1
            · rename_i c; exact .inr (by simp [c])
            · exact .inl h1
          · exact .inr (List.mem_cons_of_mem _ h1)
theorem before_of {pr : Nat → Nat → Bool} {art : List (Nat × Nat)} {τ : List Nat} (hlt : ∀ i ∈ τ, i < ops.size)
    (hE : ∀ i j, i < ops.size → pr j i = true → (∃ o e, ops[i]? = some o ∧ e ∈ o.after ∧ Region.binds .any e = true ∧ (e.on = j ∨ pr j e.on = true)) ∨ ∃ u, (u, i) ∈ art ∧ (u = j ∨ pr j u = true))
    (hR : ∀ τ1 i τ2, τ = τ1 ++ i :: τ2 → ∀ o, ops[i]? = some o → ∀ e ∈ o.after, Region.binds .any e = true → e.on ∈ τ1) (hA : ∀ u v, (u, v) ∈ art → ∀ τ1 τ2, τ = τ1 ++ v :: τ2 → u ∈ τ1) :
    ∀ (n : Nat) τ1 i τ2, τ1.length ≤ n → τ = τ1 ++ i :: τ2 → ∀ j, pr j i = true → j ∈ τ1 := by
  intro n
  induction n with
  | zero =>
    intro τ1 i τ2 hn hτ j hj
    have h0 : τ1 = [] := List.length_eq_zero_iff.1 (by omega)
    subst h0
    have hil := hlt i (by rw [hτ]; simp)
    rcases hE i j hil hj with ⟨o, e, ho, he, hb, _⟩ | ⟨u, hu, _⟩
    · have := hR [] i τ2 hτ o ho e he hb; cases this
    · have := hA u i hu [] τ2 hτ; cases this
  | succ n ih =>
    intro τ1 i τ2 hn hτ j hj
    have hil := hlt i (by rw [hτ]; simp)
    have key : ∀ u, u ∈ τ1 → (u = j ∨ pr j u = true) → j ∈ τ1 := by
      intro u hu hc
      rcases hc with rfl | hc
      · exact hu
      · obtain ⟨a, b, hab⟩ := List.append_of_mem hu
        have : j ∈ a := ih a u (b ++ i :: τ2) (by rw [hab] at hn; simp at hn; omega) (by rw [hτ, hab]; simp) j hc
        rw [hab]; exact List.mem_append_left _ this
    rcases hE i j hil hj with ⟨o, e, ho, he, hb, hc⟩ | ⟨u, hu, hc⟩
    · exact key _ (hR τ1 i τ2 hτ o ho e he hb) hc
    · exact key _ (hA u i hu τ1 τ2 hτ) hc
theorem split_unique {α : Type} {x : α} : ∀ {a b c d : List α}, (a ++ x :: b).Nodup → a ++ x :: b = c ++ x :: d → a = c
  | [], b, [], d, _, _ => rfl
  | [], b, y :: c, d, hn, h => by
    simp only [List.nil_append, List.cons_append, List.cons.injEq] at h
    obtain ⟨rfl, rfl⟩ := h
    simp at hn
  | y :: a, b, [], d, hn, h => by
    simp only [List.nil_append, List.cons_append, List.cons.injEq] at h
    obtain ⟨rfl, rfl⟩ := h
    simp at hn
  | y :: a, b, z :: c, d, hn, h => by
    simp only [List.cons_append, List.cons.injEq] at h
    obtain ⟨rfl, h⟩ := h
    rw [List.cons_append, List.nodup_cons] at hn
    rw [split_unique hn.2 h]
theorem pairwise_of_before {pr : Nat → Nat → Bool} {τ : List Nat} (hn : τ.Nodup) (hb : ∀ τ1 i τ2, τ = τ1 ++ i :: τ2 → ∀ j, pr j i = true → j ∈ τ1) : τ.Pairwise (fun i j => pr j i = false) := by
  rw [List.pairwise_iff_forall_sublist]
  intro i j hs
  cases hp : pr j i with
  | false => rfl
  | true =>
    exfalso
    have hi : i ∈ τ := hs.subset (by simp)
    obtain ⟨a, b, hab⟩ := List.append_of_mem hi
    have hj : j ∈ a := hb a i b hab j hp
    -- i stands ahead of j
    obtain ⟨c, d, hcd⟩ := List.append_of_mem hj
    subst hcd
    subst hab
    have hij : i ≠ j := by
      have := hn.sublist hs
      simp at this
      exact this
    have h1 : List.Sublist [i, j] (c ++ j :: (d ++ i :: b)) := by simpa using hs
    have hn2 : (c ++ j :: (d ++ i :: b)).Nodup := by simpa using hn
    rw [List.sublist_append_iff] at h1
    obtain ⟨l1, l2, he, s1, s2⟩ := h1
    rw [List.nodup_append] at hn2
    obtain ⟨n1, n2, n3⟩ := hn2
    match l1, he with
    | [], he =>
      simp only [List.nil_append] at he
      subst he
      rcases List.sublist_cons_iff.1 s2 with s2 | ⟨r, hr, s2⟩
      · have := s2.subset (show j ∈ [i, j] by simp)
        rw [List.nodup_cons] at n2
        exact n2.1 this
      · simp only [List.cons.injEq] at hr
        exact hij hr.1
    | x :: l1, he =>
      simp only [List.cons_append, List.cons.injEq] at he
      obtain ⟨rfl, he⟩ := he
      have hic : i ∈ c := s1.subset (by simp)
      exact n3 i hic i (by simp) rfl

end
def edgeM (ops : Array Oper) (pr : Nat → Nat → Bool) (art : List (Nat × Nat)) (i : Nat) : Bool :=
  (List.range ops.size).all fun j => !pr j i || (match ops[i]? with
    | some o => o.after.any fun e => Region.binds .any e && (e.on == j || pr j e.on)
    | none => false) || art.any fun p => p.2 == i && (p.1 == j || pr j p.1)

section

variable {pc : List Nat} {P : Program} {rd : Option Nat} {nb : Nat} {ops : Array Oper} {D : List AD} {Q : AX → List AV → Heap → List AD → Prop} {k : List It} {T : List AV} {h : Heap}

end

end Go.AI.PC
