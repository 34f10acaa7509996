import Derived.Test.YtcfcolkbeelegaaGreatSFG
import Derived.MapKept
import Derived.Shelf.Sort.Plain
import Derived.Shelf.Slices.In.SortNone

namespace Go.AI.PC

open Go Go.AI

section

variable {pc : List Nat} {P : Program} {ops : Array Oper} {lo rk : List Nat} {D : List AD} {Q : AX → List AV → Heap → List AD → Prop}
theorem wpOps_post {F : Fence} {n : Nat} {Q1 Q2 : Exit → Act → World → Prop} (hq : ∀ e a w, Q1 e a w → Q2 e a w) : ∀ (τ : List Nat) (a : Act) (w : World), wpOpsIn F n P ops Q1 τ a w → wpOpsIn F n P ops Q2 τ a w
 | [], a, w, h => by
  simp only [wpOpsIn] at h ⊢
  exact hq _ _ _ h
 | i :: τ, a, w, h => by
  rw [wpOpsIn_cons] at h ⊢
  unfold wpOpIn at h ⊢
  split
  ·rename_i ho
   simp only [ho] at h
   exact wpOps_post hq τ _ _ h
  ·rename_i o ho
   simp only [ho] at h
   split
   ·rename_i hw
    rw [if_pos hw] at h
    exact opIn_mono (fun a w => wpOps_post hq τ a w) hq h
   ·rename_i hw
    rw [if_neg hw] at h
    exact ⟨h.1, wpOps_post hq τ _ _ h.2⟩
theorem ord_sound {rd : Option Nat} {nb : Nat} {k : List It} {Kont : List AV → Heap → Prop} {pr : Nat → Nat → Bool} (J : ∀ T h, Kont T h → Run P rd nb k T h D Q) :
  ∀ (τ π : List Nat) (hist : List Heap) (T : List AV) (h : Heap), π.Perm τ → τ.Pairwise (fun i j => pr j i = false) → π.Pairwise (fun j i => pr j i = true ∨ Loose pc ops lo rk j i) → Ranked pc ops rk π hist.length →
   DR pc P ops lo Kont π hist T h → ∀ E w a, St E w a T h D → wpOpsIn (fen rd) 0 P ops (K P rd (Post nb Q E h w) k) τ a w
 | [], π, hist, T, h, hp, _, _, _, d, E, w, a, s => by
  have := hp.eq_nil
  subst this
  simp only [wpOpsIn]
  exact J T h d E w a s
 | i :: τ, π, hist, T, h, hp, hτ, hπp, hrk, d, E, w, a, s => by
  have hin : i ∈ π := hp.mem_iff.2 (by simp)
  obtain ⟨π1, π2, hπ⟩ := List.append_of_mem hin
  subst hπ
  have hp' : (π1 ++ π2).Perm τ := (List.perm_middle.symm.trans hp).cons_inv
  rw [List.pairwise_cons] at hτ
  have hloose : ∀ j ∈ π1, Loose pc ops lo rk j i := by
   intro j hj
   rw [List.pairwise_append] at hπp
   rcases hπp.2.2 j hj i (by simp) with hq | hq
   ·have := hτ.1 j (hp'.mem_iff.1 (List.mem_append_left _ hj))
    rw [hq] at this; cases this
   ·exact hq
  have d' := dr_front π1 π2 hist T h hloose hrk d
  simp only [DR] at d'
  rw [wpOpsIn_cons]
  refine drStep_wp d' s ?_
  rintro hist' T' h' E' w' a' ⟨t, rfl, ht⟩ dn s' hfr
  have hr' : Ranked pc ops rk (π1 ++ π2) (hist ++ t).length := by
   rw [List.length_append, ht]
   by_cases hE : ((ops[i]?).map fun o => eF pc i o) = some true
   ·have hπ1 : π1 = [] := by
     cases π1 with
     | nil => rfl
     | cons j π1 =>
      obtain ⟨oi, oj, hoi, _, _, hEi, _⟩ := hloose j (by simp)
      rw [hoi] at hE
      simp only [Option.map_some, Option.some.injEq, hEi] at hE
      cases hE
    subst hπ1
    simp only [List.nil_append, Ranked, hE, if_true] at hrk ⊢
    exact hrk.2
   ·simp only [hE, if_false, Nat.add_zero]
    exact Ranked.remove hE π1 π2 _ hrk
  have hsub : List.Sublist (π1 ++ π2) (π1 ++ i :: π2) := List.Sublist.append (List.Sublist.refl _) (List.sublist_cons_self _ _)
  have := ord_sound J τ (π1 ++ π2) (hist ++ t) T' h' hp' hτ.2 (hπp.sublist hsub) hr' dn E' w' a' s'
  exact wpOps_post (K_mono (P := P) (rd := rd) (Post.of_fr (Q := Q) hfr) k) τ _ _ this
def unl (ops : Array Oper) (listed : Array Bool) : List Nat := (List.range ops.size).filter fun i => !(listed.getD i true)
theorem unl_mem {listed : Array Bool} {i : Nat} : i ∈ unl ops listed ↔ i < ops.size ∧ listed.getD i true = false := by
 simp only [unl, List.mem_filter, List.mem_range, Bool.not_eq_true']
theorem unl_nodup (listed : Array Bool) : (unl ops listed).Nodup := List.Pairwise.filter _ List.nodup_range
theorem unl_set {listed : Array Bool} {i : Nat} (hs : listed.size = ops.size) (hi : i ∈ unl ops listed) : (unl ops (listed.setIfInBounds i true)).length + 1 = (unl ops listed).length := by
 have h1 := unl_mem.1 hi
 have e : unl ops (listed.setIfInBounds i true) = (unl ops listed).erase i := by
  rw [(unl_nodup listed).erase_eq_filter]
  unfold unl
  rw [List.filter_filter]
  refine List.filter_congr fun j _ => ?_
  rw [getD_set (by rw [hs]; exact h1.1)]
  by_cases c : j = i
  ·subst c; simp
  ·simp [c]
 rw [e, List.length_erase_of_mem hi]
 have := List.length_pos_of_mem hi
 omega

structure Lin (ops : Array Oper) (listed : Array Bool) (τ : List Nat) : Prop where
 mem : ∀ i, i ∈ τ ↔ i ∈ unl ops listed
 nodup : τ.Nodup
 ready : ∀ τ1 i τ2, τ = τ1 ++ i :: τ2 → ∀ o, ops[i]? = some o → ∀ e ∈ o.after, Region.binds .any e = true → listed.getD e.on false = true ∨ e.on ∈ τ1
theorem lin_spec {π0 : List Nat} (hcov : ∀ i, i < ops.size → i ∈ π0) (hlt : ∀ i ∈ π0, i < ops.size) (hready : ∀ π1 i π2, π0 = π1 ++ i :: π2 → ∀ o, ops[i]? = some o → ∀ e ∈ o.after, Region.binds .any e = true → e.on ∈ π1) :
  ∀ (fuel t : Nat) (listed : Array Bool), listed.size = ops.size → (unl ops listed).length = fuel → Lin ops listed (Region.linearise.go .any ops fuel t listed [])
 | 0, t, listed, hs, hl => by
  have h0 : unl ops listed = [] := List.length_eq_zero_iff.1 hl
  simp only [Region.linearise.go, List.reverse_nil]
  exact ⟨fun i => by rw [h0], List.nodup_nil, fun τ1 i τ2 h => by simp at h⟩
 | fuel + 1, t, listed, hs, hl => by
  have hne : Region.ready .any ops listed ≠ [] := by
   -- the first of the order that is not listed
   have hex : ∃ i ∈ π0, listed.getD i true = false := by
    obtain ⟨i, hi⟩ := List.exists_mem_of_ne_nil (unl ops listed) (fun e => by rw [e] at hl; cases hl)
    have := unl_mem.1 hi
    exact ⟨i, hcov i this.1, this.2⟩
   have hfirst : ∀ (l r : List Nat), π0 = l ++ r → (∀ i ∈ l, listed.getD i true = true) → (∃ i ∈ r, listed.getD i true = false) → ∃ i, i ∈ Region.ready .any ops listed := by
    intro l r
    induction r generalizing l with
    | nil => rintro _ _ ⟨i, hi, _⟩; cases hi
    | cons j r ih =>
     intro hπ hall hx
     cases hj : listed.getD j true with
     | false =>
      have hjl : j < ops.size := hlt j (by rw [hπ]; simp)
      refine ⟨j, mem_ready.2 ⟨hj, ops[j], Array.getElem?_eq_getElem hjl, fun e he hb => ?_⟩⟩
      have h1 := hready l j r hπ _ (Array.getElem?_eq_getElem hjl) e he hb
      have h2 := hall _ h1
      have h3 : e.on < ops.size := hlt _ (by rw [hπ]; exact List.mem_append_left _ h1)
      simp only [Array.getD_eq_getD_getElem?, Array.getElem?_eq_getElem (show e.on < listed.size by omega), Option.getD_some] at h2 ⊢
      exact h2
     | true =>
      refine ih (l ++ [j]) (by rw [hπ]; simp) (fun i hi => ?_) ?_
      ·rcases List.mem_append.1 hi with hi | hi
       ·exact hall i hi
       ·simp at hi; subst hi; exact hj
      ·obtain ⟨i, hi, hf⟩ := hx
       rcases List.mem_cons.1 hi with rfl | hi
       ·rw [hj] at hf; cases hf
       ·exact ⟨i, hi, hf⟩
   obtain ⟨i, hi⟩ := hfirst [] π0 rfl (by simp) hex
   exact List.ne_nil_of_mem hi
  simp only [Region.linearise.go]
  change Lin ops listed (match (Region.ready .any ops listed)[t % (Region.ready .any ops listed).length]? with
   | some i => Region.linearise.go .any ops fuel (t / (Region.ready .any ops listed).length) (listed.setIfInBounds i true) [i]
   | none => [].reverse)
  cases hi : (Region.ready .any ops listed)[t % (Region.ready .any ops listed).length]? with
  | none =>
   exfalso
   have hlt : t % (Region.ready .any ops listed).length < (Region.ready .any ops listed).length := Nat.mod_lt _ (List.length_pos_iff.2 hne)
   rw [List.getElem?_eq_none_iff] at hi
   omega
  | some i =>
   simp only []
   rw [linearise_go_acc, List.reverse_singleton, List.singleton_append]
   have hrd := List.mem_of_getElem? hi
   obtain ⟨h0, o, ho, hall⟩ := mem_ready.1 hrd
   have hil := (Array.getElem?_eq_some_iff.1 ho).1
   have hiu : i ∈ unl ops listed := unl_mem.2 ⟨hil, h0⟩
   have hset := unl_set hs hiu
   have L := lin_spec hcov hlt hready fuel (t / (Region.ready .any ops listed).length) (listed.setIfInBounds i true) (by simpa using hs) (by omega)
   generalize Region.linearise.go .any ops fuel (t / (Region.ready .any ops listed).length) (listed.setIfInBounds i true) [] = τ at L
   have hil' : i < listed.size := by omega
   refine ⟨fun j => ?_, List.nodup_cons.2 ⟨fun hm => ?_, L.nodup⟩, ?_⟩
   ·rw [List.mem_cons, L.mem, unl_mem, unl_mem, getD_set hil']
    by_cases c : j = i
    ·subst c; simp [hil, h0]
    ·simp [c]
   ·have := unl_mem.1 ((L.mem i).1 hm)
    rw [getD_set hil', if_pos rfl] at this
    cases this.2
   ·intro τ1 j τ2 hτ o' ho' e he hb
    cases τ1 with
    | nil =>
     simp only [List.nil_append, List.cons.injEq] at hτ
     obtain ⟨rfl, rfl⟩ := hτ
     rw [ho] at ho'; cases ho'
     exact .inl (hall e he hb)
    | cons x τ1 =>
     simp only [List.cons_append, List.cons.injEq] at hτ
     obtain ⟨rfl, hτ⟩ := hτ
     rcases L.ready τ1 j τ2 hτ o' ho' e he hb with h1 | h1
     ·rw [getD_setF hil'] at h1
      split at h1
      ·rename_i c; exact .inr (by simp [c])
      ·exact .inl h1
     ·exact .inr (List.mem_cons_of_mem _ h1)
theorem before_of {pr : Nat → Nat → Bool} {art : List (Nat × Nat)} {τ : List Nat} (hlt : ∀ i ∈ τ, i < ops.size)
  (hE : ∀ i j, i < ops.size → pr j i = true → (∃ o e, ops[i]? = some o ∧ e ∈ o.after ∧ Region.binds .any e = true ∧ (e.on = j ∨ pr j e.on = true)) ∨ ∃ u, (u, i) ∈ art ∧ (u = j ∨ pr j u = true))
  (hR : ∀ τ1 i τ2, τ = τ1 ++ i :: τ2 → ∀ o, ops[i]? = some o → ∀ e ∈ o.after, Region.binds .any e = true → e.on ∈ τ1) (hA : ∀ u v, (u, v) ∈ art → ∀ τ1 τ2, τ = τ1 ++ v :: τ2 → u ∈ τ1) :
  ∀ (n : Nat) τ1 i τ2, τ1.length ≤ n → τ = τ1 ++ i :: τ2 → ∀ j, pr j i = true → j ∈ τ1 := by
 intro n
 induction n with
 | zero =>
  intro τ1 i τ2 hn hτ j hj
  have h0 : τ1 = [] := List.length_eq_zero_iff.1 (by omega)
  subst h0
  have hil := hlt i (by rw [hτ]; simp)
  rcases hE i j hil hj with ⟨o, e, ho, he, hb, _⟩ | ⟨u, hu, _⟩
  ·have := hR [] i τ2 hτ o ho e he hb; cases this
  ·have := hA u i hu [] τ2 hτ; cases this
 | succ n ih =>
  intro τ1 i τ2 hn hτ j hj
  have hil := hlt i (by rw [hτ]; simp)
  have key : ∀ u, u ∈ τ1 → (u = j ∨ pr j u = true) → j ∈ τ1 := by
   intro u hu hc
   rcases hc with rfl | hc
   ·exact hu
   ·obtain ⟨a, b, hab⟩ := List.append_of_mem hu
    have : j ∈ a := ih a u (b ++ i :: τ2) (by rw [hab] at hn; simp at hn; omega) (by rw [hτ, hab]; simp) j hc
    rw [hab]; exact List.mem_append_left _ this
  rcases hE i j hil hj with ⟨o, e, ho, he, hb, hc⟩ | ⟨u, hu, hc⟩
  ·exact key _ (hR τ1 i τ2 hτ o ho e he hb) hc
  ·exact key _ (hA u i hu τ1 τ2 hτ) hc
theorem split_unique {α : Type} {x : α} : ∀ {a b c d : List α}, (a ++ x :: b).Nodup → a ++ x :: b = c ++ x :: d → a = c
 | [], b, [], d, _, _ => rfl
 | [], b, y :: c, d, hn, h => by
  simp only [List.nil_append, List.cons_append, List.cons.injEq] at h
  obtain ⟨rfl, rfl⟩ := h
  simp at hn
 | y :: a, b, [], d, hn, h => by
  simp only [List.nil_append, List.cons_append, List.cons.injEq] at h
  obtain ⟨rfl, rfl⟩ := h
  simp at hn
 | y :: a, b, z :: c, d, hn, h => by
  simp only [List.cons_append, List.cons.injEq] at h
  obtain ⟨rfl, h⟩ := h
  rw [List.cons_append, List.nodup_cons] at hn
  rw [split_unique hn.2 h]
theorem pairwise_of_before {pr : Nat → Nat → Bool} {τ : List Nat} (hn : τ.Nodup) (hb : ∀ τ1 i τ2, τ = τ1 ++ i :: τ2 → ∀ j, pr j i = true → j ∈ τ1) : τ.Pairwise (fun i j => pr j i = false) := by
 rw [List.pairwise_iff_forall_sublist]
 intro i j hs
 cases hp : pr j i with
 | false => rfl
 | true =>
  exfalso
  have hi : i ∈ τ := hs.subset (by simp)
  obtain ⟨a, b, hab⟩ := List.append_of_mem hi
  have hj : j ∈ a := hb a i b hab j hp
  -- i stands ahead of j
  obtain ⟨c, d, hcd⟩ := List.append_of_mem hj
  subst hcd
  subst hab
  have hij : i ≠ j := by
   have := hn.sublist hs
   simp at this
   exact this
  have h1 : List.Sublist [i, j] (c ++ j :: (d ++ i :: b)) := by simpa using hs
  have hn2 : (c ++ j :: (d ++ i :: b)).Nodup := by simpa using hn
  rw [List.sublist_append_iff] at h1
  obtain ⟨l1, l2, he, s1, s2⟩ := h1
  rw [List.nodup_append] at hn2
  obtain ⟨n1, n2, n3⟩ := hn2
  match l1, he with
  | [], he =>
   simp only [List.nil_append] at he
   subst he
   rcases List.sublist_cons_iff.1 s2 with s2 | ⟨r, hr, s2⟩
   ·have := s2.subset (show j ∈ [i, j] by simp)
    rw [List.nodup_cons] at n2
    exact n2.1 this
   ·simp only [List.cons.injEq] at hr
    exact hij hr.1
  | x :: l1, he =>
   simp only [List.cons_append, List.cons.injEq] at he
   obtain ⟨rfl, he⟩ := he
   have hic : i ∈ c := s1.subset (by simp)
   exact n3 i hic i (by simp) rfl

end
def edgeM (ops : Array Oper) (pr : Nat → Nat → Bool) (art : List (Nat × Nat)) (i : Nat) : Bool :=
 (List.range ops.size).all fun j => !pr j i || (match ops[i]? with
  | some o => o.after.any fun e => Region.binds .any e && (e.on == j || pr j e.on)
  | none => false) || art.any fun p => p.2 == i && (p.1 == j || pr j p.1)
def okDrawM (pc : List Nat) (ops : Array Oper) (lo rk tbl : List Nat) (art : List (Nat × Nat)) (π : List Nat) : Bool :=
 (π.all fun i => decide (i < ops.size)) && ((List.range ops.size).all fun i => π.contains i) && ((List.range ops.size).all fun i => edgeM ops (prB tbl ops.size) art i) &&
 pairB pc ops lo rk (prB tbl ops.size) π && readyB ops [] π && rankB pc ops rk π 0

section

variable {pc : List Nat} {P : Program} {rd : Option Nat} {nb : Nat} {ops : Array Oper} {D : List AD} {Q : AX → List AV → Heap → List AD → Prop} {k : List It} {T : List AV} {h : Heap}
theorem okDrawM_ord {lo rk tbl : List Nat} {art : List (Nat × Nat)} {π τ : List Nat} (hok : okDrawM pc ops lo rk tbl art π = true) (L : Lin ops (Array.replicate ops.size false) τ) (hA : ∀ u v, (u, v) ∈ art → ∀ τ1 τ2, τ = τ1 ++ v :: τ2 → u ∈ τ1)
  (d : DR pc P ops lo (fun T h => Run P rd nb k T h D Q) π [] T h) : ∀ E w a, St E w a T h D → wpOpsIn (fen rd) 0 P ops (K P rd (Post nb Q E h w) k) τ a w := by
 simp only [okDrawM, Bool.and_eq_true, List.all_eq_true, decide_eq_true_eq, List.mem_range] at hok
 obtain ⟨⟨⟨⟨⟨h1, h2⟩, h3⟩, h4⟩, h5⟩, h6⟩ := hok
 obtain ⟨hnd, hpw⟩ := pairB_sound h4
 have hun : ∀ i, i ∈ τ ↔ i < ops.size := fun i => by
  rw [L.mem, unl_mem]
  constructor
  ·exact fun h => h.1
  ·exact fun h => ⟨h, by simp [h]⟩
 have hperm : π.Perm τ := by
  refine (List.perm_ext_iff_of_nodup hnd L.nodup).2 fun i => ?_
  rw [hun]
  exact ⟨fun h => h1 i h, fun h => List.contains_iff_mem.1 (h2 i h)⟩
 have hR : ∀ τ1 i τ2, τ = τ1 ++ i :: τ2 → ∀ o, ops[i]? = some o → ∀ e ∈ o.after, Region.binds .any e = true → e.on ∈ τ1 := by
  intro τ1 i τ2 hτ o ho e he hb
  rcases L.ready τ1 i τ2 hτ o ho e he hb with h | h
  ·rcases Nat.lt_or_ge e.on ops.size with hi | hi <;> simp [hi] at h
  ·exact h
 have hE : ∀ i j, i < ops.size → prB tbl ops.size j i = true → (∃ o e, ops[i]? = some o ∧ e ∈ o.after ∧ Region.binds .any e = true ∧ (e.on = j ∨ prB tbl ops.size j e.on = true)) ∨ ∃ u, (u, i) ∈ art ∧ (u = j ∨ prB tbl ops.size j u = true) := by
  intro i j hi hp
  have := h3 i hi
  simp only [edgeM, List.all_eq_true, List.mem_range, Bool.or_eq_true, Bool.not_eq_true'] at this
  have hj : j < ops.size := by simp only [prB, Bool.and_eq_true, decide_eq_true_eq] at hp; exact hp.1
  rcases this j hj with (h | h) | h
  ·rw [hp] at h; cases h
  ·left
   split at h
   ·rename_i o ho
    obtain ⟨e, he, hc⟩ := Array.any_eq_true'.1 h
    simp only [Bool.and_eq_true, Bool.or_eq_true, beq_iff_eq] at hc
    exact ⟨o, e, ho, he, hc.1, hc.2⟩
   ·cases h
  ·right
   obtain ⟨⟨u, v⟩, hm, hc⟩ := List.any_eq_true.1 h
   simp only [Bool.and_eq_true, Bool.or_eq_true, beq_iff_eq] at hc
   obtain ⟨rfl, hc⟩ := hc
   exact ⟨u, hm, hc⟩
 have hb := fun τ1 i τ2 hτ => before_of (fun i hi => (hun i).1 hi) hE hR hA τ1.length τ1 i τ2 (Nat.le_refl _) hτ
 exact ord_sound (fun T h r => r) τ π [] T h hperm (pairwise_of_before L.nodup hb) hpw (rankB_sound h6) d
theorem okDrawM_lin {lo rk tbl : List Nat} {art : List (Nat × Nat)} {π : List Nat} (hok : okDrawM pc ops lo rk tbl art π = true) (t : Nat) : Lin ops (Array.replicate ops.size false) (Region.linearise.go .any ops ops.size t (Array.replicate ops.size false) []) := by
 simp only [okDrawM, Bool.and_eq_true, List.all_eq_true, decide_eq_true_eq, List.mem_range] at hok
 obtain ⟨⟨⟨⟨⟨h1, h2⟩, h3⟩, h4⟩, h5⟩, h6⟩ := hok
 refine lin_spec (π0 := π) (fun i hi => List.contains_iff_mem.1 (h2 i hi)) h1 (fun π1 i π2 hs o ho e he hb => ?_) ops.size t _ (by simp) ?_
 ·rcases readyB_sound h5 π1 i π2 hs o ho e he hb with h' | h'
  ·cases h'
  ·exact h'
 ·unfold unl
  rw [List.filter_eq_self.2 (fun i hi => by simp [List.mem_range.1 hi]), List.length_range]
theorem Run.draw2 {id : Nat} (x y : Nat) (lo1 rk1 tbl1 π1 lo2 rk2 tbl2 π2 : List Nat) (hm : P.follows .mixedOrders = true) (hxy : (decide (x < ops.size) && decide (y < ops.size) && (x != y)) = true) (hok1 : okDrawM pc ops lo1 rk1 tbl1 [(x, y)] π1 = true) (hok2 : okDrawM pc ops lo2 rk2 tbl2 [(y, x)] π2 = true)
  (d1 : DR pc P ops lo1 (fun T h => Run P rd nb k T h D Q) π1 [] T h) (d2 : DR pc P ops lo2 (fun T h => Run P rd nb k T h D Q) π2 [] T h) : Run P rd nb (.code (.region id ops true) :: k) T h D Q := by
 intro E w a s
 refine wpIn_region_draw fun t => ?_
 simp only [Region.schedule, hm, Bool.true_or, if_true]
 obtain ⟨s', hfr⟩ := s.drew
 have L := okDrawM_lin hok1 t
 simp only [Bool.and_eq_true, decide_eq_true_eq, bne_iff_ne, ne_eq] at hxy
 obtain ⟨⟨hx, hy⟩, hne⟩ := hxy
 change wpOpsIn (fen rd) 0 P ops _ (Region.linearise.go .any ops ops.size t (Array.replicate ops.size false) []) _ _
 generalize Region.linearise.go .any ops ops.size t (Array.replicate ops.size false) [] = τ at L
 have hmx : x ∈ τ := (L.mem x).2 (unl_mem.2 ⟨hx, by simp [hx]⟩)
 have hmy : y ∈ τ := (L.mem y).2 (unl_mem.2 ⟨hy, by simp [hy]⟩)
 have fin : (∀ E w a, St E w a T h D → wpOpsIn (fen rd) 0 P ops (K P rd (Post nb Q E h w) k) τ a w) → wpOpsIn (fen rd) 0 P ops (K P rd (Post nb Q E h w) k) τ a { w with drawn := w.drawn + 1 } := fun hall =>
  wpOps_post (K_mono (P := P) (rd := rd) (Post.of_fr (Q := Q) hfr) k) τ _ _ (hall E _ a s')
 obtain ⟨a1, b1, hab⟩ := List.append_of_mem hmy
 have hnd := L.nodup
 rw [hab] at hmx
 rcases List.mem_append.1 hmx with hxa | hxb
 ·refine fin (okDrawM_ord hok1 L (fun u v hp τ1 τ2 hτ => ?_) d1)
  simp at hp
  obtain ⟨rfl, rfl⟩ := hp
  rw [← split_unique (by rw [← hab]; exact hnd) (hab.symm.trans hτ)]
  exact hxa
 ·rcases List.mem_cons.1 hxb with e | hxc
  ·exact absurd e hne
  refine fin (okDrawM_ord hok2 L (fun u v hp τ1 τ2 hτ => ?_) d2)
  simp at hp
  obtain ⟨rfl, rfl⟩ := hp
  obtain ⟨c, d, hcd⟩ := List.append_of_mem hxc
  have hab2 : τ = (a1 ++ u :: c) ++ v :: d := by rw [hab, hcd]; simp
  rw [← split_unique (by rw [← hab2]; exact hnd) (hab2.symm.trans hτ)]
  simp

end

end Go.AI.PC

namespace Go.AI

open Go Go.MapKept

section

variable {P : Program} {rd : Option Nat} {nb : Nat} {k : List It} {T : List AV} {h : Heap} {D : List AD} {Q : AX → List AV → Heap → List AD → Prop} {all : Array Oper} {o : Oper} {rest : List Oper}
theorem runG_pre {all : Array Oper} {K : List Oper → List AV → Heap → Prop} {b : List Oper} (J : ∀ l T h, K l T h → Run P rd nb (.ops all (l ++ b) :: k) T h D Q) :
  ∀ (l : List Oper) (T : List AV) (h : Heap), runG P all K l T h → Run P rd nb (.ops all (l ++ b) :: k) T h D Q
 | [], T, h, r => J _ _ _ r
 | o :: l, T, h, r => by
  simp only [runG] at r
  split at r
  ·rename_i hg
   have hw : awanted all T o = some true := by simp only [awanted, hg]
   split at r
   ·rename_i x h' ho
    exact Run.op hw ho (runG_pre J l _ _ r)
   ·exact J _ _ _ r
  ·rename_i g want hg
   split at r
   ·rename_i hd
    have hw : awanted all T o = some false := by simp only [awanted, hg, hd]
    exact Run.off hw (runG_pre J l _ _ r)
   ·rename_i d hd
    split at r
    ·rename_i hT
     have hw : awanted all T o = some false := by simp only [awanted, hg, hd, hT]
     exact Run.off hw (runG_pre J l _ _ r)
    ·rename_i b' hT
     have hw := awanted_bool hg hd hT
     have hs := set_tget hT
     by_cases e : b' = want
     ·subst e
      have r1 := r.1 rfl
      rw [show T.set d (tv b') = T from hs] at r1
      split at r1
      ·rename_i x h' ho
       exact Run.op (by rw [hw]; simp) ho (runG_pre J l _ _ r1)
      ·exact J _ _ _ r1
     ·have e' : b' = !want := bool_ne e
      have r2 := r.2 e'
      rw [← e', show T.set d (tv b') = T from hs] at r2
      exact Run.off (by rw [hw]; simp [e]) (runG_pre J l _ _ r2)
    ·exact J _ _ _ r
theorem Run.opsPreJ (n : Nat) {l : List Oper} (keep : List Nat) (slot : Nat) (b : Bool)
  (r : ∀ K : List Oper → List AV → Heap → Prop, (∀ T', WeakL T' (setMany (keepT keep T) [(slot, tv b)]) → K [] T' h) → runG P all K (l.take n) T h)
  (next : Run P rd nb (.ops all (l.drop n) :: k) (setMany (keepT keep T) [(slot, tv b)]) h D Q) : Run P rd nb (.ops all l :: k) T h D Q := by
 have := runG_pre (P := P) (rd := rd) (nb := nb) (all := all) (k := k) (D := D) (Q := Q) (b := l.drop n) (K := fun l' T' h' => Run P rd nb (.ops all (l' ++ l.drop n) :: k) T' h' D Q) (fun _ _ _ h => h) (l.take n) T h (r _ fun _ hw => Run.weak hw next)
 rwa [List.take_append_drop] at this
theorem Run.opU {R : Heap → Prop} (hw : awanted all T o = some true) (hnd : ∀ c, o.op ≠ .defer c)
  (ho : ∀ E w a, St E w a T h D → ∃ h' E' w', R h' ∧ (execOp a.eval o).run P w = .ok .skip w' ∧ Rel E' (Heap.at h') w' ∧ Fresh E' h'.length ∧ Fr E (Heap.at h) w E' (Heap.at h') w')
  (r : ∀ h', R h' → Run P rd nb (.ops all rest :: k) (tput T o.dst (.tup [])) h' D Q) : Run P rd nb (.ops all (o :: rest) :: k) T h D Q := by
 intro E w a s
 obtain ⟨h', E', w', hR, hrun, hr, hf, hfr⟩ := ho E w a s
 have s' : St E' w' (a.put o.dst undef) (tput T o.dst (.tup [])) h' D := (s.move hfr hr hf).put (by simp only [Rep, RepL]; exact ⟨[], rfl, rfl⟩) o.dst
 have := r h' hR E' w' _ s'
 have hk := K_mono (P := P) (rd := rd) (Post.of_fr (Q := Q) hfr) (.ops all rest :: k) _ _ _ this
 show wpListIn (fen rd) 0 P all (K P rd (Post nb Q E h w) k) (o :: rest) a w
 simp only [wpListIn]
 rw [awanted_sound s hw]
 simp only [if_true]
 refine ⟨fun _ _ => trivial, ?_⟩
 rw [Oper.semAt_eq _ _ _ hnd, hrun]
 exact hk
theorem map_keys {es : List MapEntry} {kvs : List (Value × Value)} (he : es.map (fun e => (e.key, e.val)) = kvs) : es.map (·.key) = kvs.map Prod.fst ∧ ∀ e ∈ es, (e.key, e.val) ∈ kvs := by
 subst he
 exact ⟨by simp [List.map_map, Function.comp_def], fun e h => List.mem_map.2 ⟨e, h, rfl⟩⟩
def zeroIs (P : Program) (t : TypeId) (z : Value) : Prop := ∃ i, P.info? t = some i ∧ i.zero = some z
theorem run_zeroIs {P : Program} {t : TypeId} {z : Value} (h : zeroIs P t z) (w : World) : (zeroValue t).run P w = .ok z w := by
 obtain ⟨i, hi, hz⟩ := h
 simp [zeroValue, typeInfo, hi, hz]
def zeroB (P : Program) (t : TypeId) : Bool := match P.info? t with
 | some i => match i.zero with
  | some (.bool false) => true
  | _ => false
 | none => false
def zeroN (P : Program) (t : TypeId) : Bool := match P.info? t with
 | some i => match i.zero with
  | some (.int .i64 0) => true
  | _ => false
 | none => false
def MapSays (kvs : List (Value × Value)) (key z : Value) (v : Value) (b : Bool) : Prop := (b = true ∧ (∀ v', (key, v') ∈ kvs → v' = v) ∧ key ∈ kvs.map Prod.fst) ∨ (b = false ∧ key ∉ kvs.map Prod.fst ∧ v = z)
theorem run_lookup {P : Program} {t kt et : TypeId} {d : TypeDesc} {g : Nat} {kvs : List (Value × Value)} {key z v : Value} {b : Bool} {w : World} {es : Array MapEntry} {c : Nat} (ok : Bool)
  (ht : P.underlying t = some (.map kt et)) (hd : P.underlying kt = some d) (hz : zeroIs P et z) (hh : w.heap[g]? = some (.map es c)) (he : es.toList.map (fun e => (e.key, e.val)) = kvs)
  (hks : ∀ x ∈ kvs, IsKey d x.1) (hkey : IsKey d key) (hf : MapSays kvs key z v b) : (Instr.lookup t (.map (some g)) key ok).run P w = .ok (if ok then .tuple #[v, .bool b] else v) w := by
 obtain ⟨e1, e2⟩ := map_keys he
 have hes : ∀ x ∈ es.toList, IsKey d x.key := fun x hx => hks _ (e2 x hx)
 have hf' : (Instr.findNow d key es.toList 0 = some none ∧ b = false ∧ v = z) ∨ ∃ j, Instr.findNow d key es.toList 0 = some (some (j, v)) ∧ b = true := by
  rcases findNow_spec hkey es.toList 0 hes with ⟨h1, h2⟩ | ⟨j, e, h1, h2, h3⟩
  ·rcases hf with ⟨hb, _, hm⟩ | ⟨hb, hm, hv⟩
   ·obtain ⟨x, hx, hxk⟩ := List.mem_map.1 (e1 ▸ hm)
    exact absurd hxk (h2 x hx)
   ·exact .inl ⟨h1, hb, hv⟩
  ·have hmem := List.mem_of_getElem? h2
   rcases hf with ⟨hb, hv, _⟩ | ⟨hb, hm, _⟩
   ·have := hv e.val (h3 ▸ e2 e hmem)
    exact .inr ⟨0 + j, by rw [h1, this], hb⟩
   ·exact absurd (e1 ▸ List.mem_map.2 ⟨e, hmem, h3⟩) hm
 simp only [Instr.lookup, Sem.run_bind, run_underlying ht, Result.andThen, MapKept.run_getObj_map hh, run_checkKey hd hkey, Sem.run_pure]
 rcases hf' with ⟨h1, rfl, rfl⟩ | ⟨j, h1, rfl⟩
 ·simp [run_findKey hd h1, Result.andThen, run_zeroIs hz]
 ·simp [run_findKey hd h1]
theorem Run.lookup {t kt et : TypeId} {d : TypeDesc} {m ix : Operand} {id : Nat} {kvs : List (Value × Value)} {key z : Value} (v : Value) (b : Bool) (ho : o.op = .lookup t m ix false) (hw : awanted all T o = some true)
  (ht : P.underlying t = some (.map kt et)) (hd : P.underlying kt = some d) (hz : zeroIs P et z)
  (hm : aev T m = .mp id) (hid : h.at id = some (.aux (.map kvs))) (hks : ∀ x ∈ kvs, IsKey d x.1) (hk : aev T ix = .p (.prim key)) (hkey : IsKey d key) (hf : MapSays kvs key z v b) (hp : isPrim v = true)
  (r : Run P rd nb (.ops all rest :: k) (tput T o.dst (.p (.prim v))) h D Q) : Run P rd nb (.ops all (o :: rest) :: k) T h D Q := by
 refine Run.opR (R := fun x h' => x = .p (.prim v) ∧ h' = h) hw (fun c hc => by rw [hc] at ho; cases ho) ?_ (by rintro x h' ⟨rfl, rfl⟩; exact r)
 intro E w a s
 have hmr := aev_rep s m
 rw [hm] at hmr
 simp only [Rep] at hmr
 obtain ⟨g, hg, hmv⟩ := hmr
 have hkr := aev_rep s ix
 rw [hk] at hkr
 simp only [Rep, RepP] at hkr
 obtain ⟨g', hg', ho'⟩ := s.rel.objsO id _ hid rfl
 rw [hg] at hg'; cases hg'
 obtain ⟨es, c, hh, he, hst⟩ := ho'
 refine ⟨_, _, E, w, v, ⟨rfl, rfl⟩, ?_, s.rel, s.fresh, by simp only [Rep, RepP, true_and]; exact hp, Fr.refl _ _ _⟩
 have hrun := run_lookup (P := P) false ht hd hz hh he hks hkey hf
 simp only [execOp, ho]
 rw [hmv, hkr.1]
 simp [hrun]
theorem Run.mapUpdate {t kt et : TypeId} {d : TypeDesc} {m ix x : Operand} {id : Nat} {kvs : List (Value × Value)} {key v : Value} (ho : o.op = .mapUpdate t m ix x) (hw : awanted all T o = some true)
  (ht : P.underlying t = some (.map kt et)) (hd : P.underlying kt = some d)
  (hm : aev T m = .mp id) (hid : h.at id = some (.aux (.map kvs))) (hks : ∀ x ∈ kvs, IsKey d x.1) (hk : aev T ix = .p (.prim key)) (hkey : IsKey d key) (hb0 : key ∉ kvs.map Prod.fst) (hx : aev T x = .p (.prim v))
  (r : Run P rd nb (.ops all rest :: k) (tput T o.dst (.tup [])) (h.set id (some (.aux (.map (kvs ++ [(key, v)]))))) D Q) : Run P rd nb (.ops all (o :: rest) :: k) T h D Q := by
 refine Run.opU (R := fun h' => h' = h.set id (some (.aux (.map (kvs ++ [(key, v)]))))) hw (fun c hc => by rw [hc] at ho; cases ho) ?_ (by rintro h' rfl; exact r)
 intro E w a s
 have hmr := aev_rep s m
 rw [hm] at hmr
 simp only [Rep] at hmr
 obtain ⟨g, hg, hmv⟩ := hmr
 have hkr := aev_rep s ix
 rw [hk] at hkr
 simp only [Rep, RepP] at hkr
 have hxr := aev_rep s x
 rw [hx] at hxr
 simp only [Rep, RepP] at hxr
 obtain ⟨g', hg', ho'⟩ := s.rel.objsO id _ hid rfl
 rw [hg] at hg'; cases hg'
 obtain ⟨es, c, hh, he, hst⟩ := ho'
 obtain ⟨e1, e2⟩ := map_keys he
 have hes : ∀ x ∈ es.toList, IsKey d x.key := fun x hx => hks _ (e2 x hx)
 obtain ⟨q1, q2⟩ := MapKept.heap_set (o' := .map (es.push { key, val := v, born := c }) (c + 1)) hh
 have hrun : (Instr.mapUpdate t (.map (some g)) key v).run P w = .ok () { w with heap := w.heap.setIfInBounds g (.map (es.push { key, val := v, born := c }) (c + 1)) } := by
  have hf : Instr.findNow d key es.toList 0 = some none := by
   rcases findNow_spec hkey es.toList 0 hes with ⟨h1, h2⟩ | ⟨j, e, h1, h2, h3⟩
   ·exact h1
   ·exact absurd (e1 ▸ List.mem_map.2 ⟨e, List.mem_of_getElem? h2, h3⟩) hb0
  simp only [Instr.mapUpdate, Sem.run_bind, run_underlying ht, Result.andThen, MapKept.run_getObj_map hh, run_checkKey hd hkey, run_findKey hd hf, MapKept.run_setObj_map _ hh]
 have hst' : Stamped (es.push { key, val := v, born := c }) (c + 1) := by
  obtain ⟨s1, s2, s3⟩ := hst
  refine ⟨fun x hx => ?_, ?_, ?_⟩
  ·simp only [Array.toList_push, List.mem_append, List.mem_singleton] at hx
   rcases hx with hx | rfl
   ·have := s1 x hx; omega
   ·exact Nat.lt_succ_self c
  ·simp only [Array.toList_push, List.map_append, List.map_cons, List.map_nil]
   refine List.nodup_append.2 ⟨s2, by simp, fun a ha b hb => ?_⟩
   obtain ⟨x, hx, rfl⟩ := List.mem_map.1 ha
   have := s1 x hx
   simp only [List.mem_singleton] at hb
   omega
  ·simp only [Array.toList_push, List.map_append, List.map_cons, List.map_nil]
   refine List.nodup_append.2 ⟨s3, by simp, fun a ha b hb => ?_⟩
   simp only [List.mem_singleton] at hb
   subst hb
   rintro rfl
   exact hb0 (e1 ▸ ha)
 obtain ⟨g1, g2⟩ := s.rel.writeO (w' := { w with heap := w.heap.setIfInBounds g (.map (es.push { key, val := v, born := c }) (c + 1)) }) hid rfl (o' := .aux (.map (kvs ++ [(key, v)]))) rfl hg
  (fun _ => ⟨_, _, q1, by simp [he], hst'⟩) q2 (by simp) rfl rfl
 refine ⟨_, E, _, rfl, ?_, g1, by simpa using s.fresh, g2⟩
 simp only [execOp, ho]
 rw [hmv, hkr.1, hxr.1]
 simp [hrun]

end


open Go Go.Shelf Go.Sort Go.Proofs
def ints (l : List Int) : List (List PV) := l.map fun z => [.prim (.int .i64 z)]
theorem ints_len (l : List Int) : ∀ e ∈ ints l, e.length = 1 := by
 intro e he
 obtain ⟨z, _, rfl⟩ := List.mem_map.1 he
 rfl
theorem ints_length (l : List Int) : (ints l).length = l.length := by simp [ints]
theorem ints_flat (l : List Int) : (ints l).flatten.map AV.p = l.map fun z => .p (.prim (.int .i64 z)) := by
 induction l with
 | nil => rfl
 | cons z l ih => simp only [ints, List.map_cons, List.flatten_cons, List.cons_append, List.nil_append] at ih ⊢; rw [ih]
theorem repL_ints {E w} : ∀ {l : List Int} {vs : List Value}, RepL E w (l.map fun z => .p (.prim (.int .i64 z))) vs ↔ vs = l.map (Value.int .i64)
 | [], vs => by simp [RepL]
 | z :: l, vs => by
  simp only [List.map_cons, RepL, Rep, RepP]
  constructor
  ·rintro ⟨v, us, rfl, ⟨rfl, _⟩, h⟩
   rw [(repL_ints (l := l)).1 h]
  ·rintro rfl
   exact ⟨_, _, rfl, ⟨rfl, rfl⟩, (repL_ints (l := l)).2 rfl⟩
theorem Rel.more {E : Env} {h : Nat → Option AO} {w : World} (r : Rel E h w) (os : Array Obj) : Rel E h (Sort.grow w os) ∧ Fr E h w E h (Sort.grow w os) := by
 have old : ∀ b, b < w.heap.size → (Sort.grow w os).heap[b]? = w.heap[b]? := fun b hb => heap_grow_old w os hb
 have hx : Ext E w E (Sort.grow w os) := ⟨fun _ _ h => h, fun b off hb => cell_of_heap (old b (r.lt b off hb)) off, fun _ _ h => h, fun _ L h => ⟨L, h, Nat.le_refl _, fun _ => rfl⟩⟩
 refine ⟨⟨fun id o hc hn => ?_, fun id o n sz m cs hc hk => ?_, r.inj, r.sepO, r.sepT, fun b off hb => Nat.lt_of_lt_of_le (r.lt b off hb) (by simp)⟩, ⟨fun b hb _ => old b hb, hx, fun _ _ h => .inl h, by simp, fun _ h => .inl h, rfl, rfl⟩⟩
 ·obtain ⟨b, hg, ho⟩ := r.objsO id o hc hn
  exact ⟨b, hg, ho.move hx (old b ho.lt)⟩
 ·obtain ⟨blk, cap, ht, h1, h2, h3⟩ := r.toks id o n sz m cs hc hk
  refine ⟨blk, cap, ht, h1, h2, fun b hb => ?_⟩
  obtain ⟨vs, hr, hl, hp⟩ := h3 b hb
  exact ⟨vs, hr.same (old b hr.lt), hl, hp.ext hx⟩
theorem putCells_list (d : List Int) (c : Array Value) (hl : d.length ≤ c.size) : (putCells (Value.int .i64) 0 d.toArray c).toList = d.map (Value.int .i64) ++ c.toList.drop d.length := by
 apply List.ext_getElem?
 intro j
 rw [Array.getElem?_toList]
 simp only [putCells, Array.getElem?_mapIdx, List.size_toArray, Nat.zero_add, Nat.zero_le, true_and, Nat.sub_zero]
 by_cases hj : j < d.length
 ·rw [List.getElem?_append_left (by simpa using hj)]
  simp [hj, show j < c.size by omega]
 ·rw [List.getElem?_append_right (by simp; omega), List.getElem?_drop]
  simp only [hj, if_false, List.length_map, Array.getElem?_toList, show d.length + (j - d.length) = j by omega]
  cases c[j]? <;> rfl

end Go.AI
