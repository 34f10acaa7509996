/-
  A region that draws its order, in which two operations may come in either order: both orders are run.
-/
import Derived.Test.YtplomildbmcmfaaGreatBFH

namespace Go.AI.EV

open Go Go.AI

open Go.AI.PC (wpOps_post Lin lin_spec unl_mem unl before_of split_unique pairwise_of_before edgeM)

section

variable {P : Program} {ops : Array Oper} {lo rk : List Nat} {D : List AD} {Q : AX → List AV → Heap → List AD → Prop}
theorem ordD_sound {rd : Option Nat} {nb : Nat} {k : List It} {Kont : List AV → Heap → Prop} {pr : Nat → Nat → Bool} (hK : ∀ T h, Kont T h → Run P rd nb k T h D Q) :
    ∀ (τ π : List Nat) (hist : List Heap) (T : List AV) (h : Heap), π.Perm τ → τ.Pairwise (fun i j => pr j i = false) → π.Pairwise (fun j i => pr j i = true ∨ Loose ops lo rk j i) → Ranked ops rk π hist.length →
      DR P ops lo Kont π hist T h → ∀ E w a, St E w a T h D → wpOpsIn (fen rd) 0 P ops (K P rd (Post nb Q E h w) k) τ a w
  | [], π, hist, T, h, hp, _, _, _, d, E, w, a, s => by
    have := hp.eq_nil
    subst this
    simp only [wpOpsIn]
    exact hK T h d E w a s
  | i :: τ, π, hist, T, h, hp, hτ, hπp, hrk, d, E, w, a, s => by
    have hin : i ∈ π := hp.mem_iff.2 (by simp)
    obtain ⟨π1, π2, hπ⟩ := List.append_of_mem hin
    subst hπ
    have hp' : (π1 ++ π2).Perm τ := (List.perm_middle.symm.trans hp).cons_inv
    rw [List.pairwise_cons] at hτ
    have hloose : ∀ j ∈ π1, Loose ops lo rk j i := by
      intro j hj
      rw [List.pairwise_append] at hπp
      rcases hπp.2.2 j hj i (by simp) with hq | hq
      · have := hτ.1 j (hp'.mem_iff.1 (List.mem_append_left _ hj))
        rw [hq] at this; cases this
      · exact hq
    have d' := dr_front π1 π2 hist T h hloose hrk d
    simp only [DR] at d'
    rw [wpOpsIn_cons]
    refine drStep_wp d' s ?_
    rintro hist' T' h' E' w' a' ⟨t, rfl, ht⟩ dn s' hfr
    have hr' : Ranked ops rk (π1 ++ π2) (hist ++ t).length := by
      rw [List.length_append, ht]
      by_cases hE : ((ops[i]?).map fun o => isE o.op) = some true
      · have hπ1 : π1 = [] := by
          cases π1 with
          | nil => rfl
          | cons j π1 =>
            obtain ⟨oi, oj, hoi, _, _, hEi, _⟩ := hloose j (by simp)
            rw [hoi] at hE
            simp only [Option.map_some, Option.some.injEq, hEi] at hE
            cases hE
        subst hπ1
        simp only [List.nil_append, Ranked, hE, if_true] at hrk ⊢
        exact hrk.2
      · simp only [hE, if_false, Nat.add_zero]
        exact Ranked.remove hE π1 π2 _ hrk
    have hsub : List.Sublist (π1 ++ π2) (π1 ++ i :: π2) := List.Sublist.append (List.Sublist.refl _) (List.sublist_cons_self _ _)
    have := ordD_sound hK τ (π1 ++ π2) (hist ++ t) T' h' hp' hτ.2 (hπp.sublist hsub) hr' dn E' w' a' s'
    exact wpOps_post (K_mono (P := P) (rd := rd) (Post.of_fr (Q := Q) hfr) k) τ _ _ this

end
def okDrawN (ops : Array Oper) (lo rk tbl : List Nat) (art : List (Nat × Nat)) (π : List Nat) : Bool :=
  (π.all fun i => decide (i < ops.size)) && ((List.range ops.size).all fun i => π.contains i) && ((List.range ops.size).all fun i => edgeM ops (prB tbl ops.size) art i) &&
  pairB ops lo rk (prB tbl ops.size) π && readyB ops [] π && rankB ops rk π 0

section

variable {P : Program} {rd : Option Nat} {nb : Nat} {ops : Array Oper} {D : List AD} {Q : AX → List AV → Heap → List AD → Prop} {k : List It} {T : List AV} {h : Heap}
theorem okDrawN_ord {lo rk tbl : List Nat} {art : List (Nat × Nat)} {π τ : List Nat} (hok : okDrawN ops lo rk tbl art π = true) (L : Lin ops (Array.replicate ops.size false) τ) (hA : ∀ u v, (u, v) ∈ art → ∀ τ1 τ2, τ = τ1 ++ v :: τ2 → u ∈ τ1)
    (d : DR P ops lo (fun T h => Run P rd nb k T h D Q) π [] T h) : ∀ E w a, St E w a T h D → wpOpsIn (fen rd) 0 P ops (K P rd (Post nb Q E h w) k) τ a w := by
  simp only [okDrawN, Bool.and_eq_true, List.all_eq_true, decide_eq_true_eq, List.mem_range] at hok
  obtain ⟨⟨⟨⟨⟨h1, h2⟩, h3⟩, h4⟩, h5⟩, h6⟩ := hok
  obtain ⟨hnd, hpw⟩ := pairB_sound h4
  have hun : ∀ i, i ∈ τ ↔ i < ops.size := fun i => by
    rw [L.mem, unl_mem]
    constructor
    · exact fun h => h.1
    · exact fun h => ⟨h, by simp [h]⟩
  have hperm : π.Perm τ := by
    refine (List.perm_ext_iff_of_nodup hnd L.nodup).2 fun i => ?_
    rw [hun]
    exact ⟨fun h => h1 i h, fun h => List.contains_iff_mem.1 (h2 i h)⟩
  have hR : ∀ τ1 i τ2, τ = τ1 ++ i :: τ2 → ∀ o, ops[i]? = some o → ∀ e ∈ o.after, Region.binds .any e = true → e.on ∈ τ1 := by
    intro τ1 i τ2 hτ o ho e he hb
    rcases L.ready τ1 i τ2 hτ o ho e he hb with h | h
    · rcases Nat.lt_or_ge e.on ops.size with hi | hi <;> simp [hi] at h
    · exact h
  have hE : ∀ i j, i < ops.size → prB tbl ops.size j i = true → (∃ o e, ops[i]? = some o ∧ e ∈ o.after ∧ Region.binds .any e = true ∧ (e.on = j ∨ prB tbl ops.size j e.on = true)) ∨ ∃ u, (u, i) ∈ art ∧ (u = j ∨ prB tbl ops.size j u = true) := by
    intro i j hi hp
    have := h3 i hi
    simp only [edgeM, List.all_eq_true, List.mem_range, Bool.or_eq_true, Bool.not_eq_true'] at this
    have hj : j < ops.size := by simp only [prB, Bool.and_eq_true, decide_eq_true_eq] at hp; exact hp.1
    rcases this j hj with (h | h) | h
    · rw [hp] at h; cases h
    · left
      split at h
      · rename_i o ho
        obtain ⟨e, he, hc⟩ := Array.any_eq_true'.1 h
        simp only [Bool.and_eq_true, Bool.or_eq_true, beq_iff_eq] at hc
        exact ⟨o, e, ho, he, hc.1, hc.2⟩
      · cases h
    · right
      obtain ⟨⟨u, v⟩, hm, hc⟩ := List.any_eq_true.1 h
      simp only [Bool.and_eq_true, Bool.or_eq_true, beq_iff_eq] at hc
      obtain ⟨rfl, hc⟩ := hc
      exact ⟨u, hm, hc⟩
  have hb := fun τ1 i τ2 hτ => before_of (fun i hi => (hun i).1 hi) hE hR hA τ1.length τ1 i τ2 (Nat.le_refl _) hτ
  exact ordD_sound (fun T h r => r) τ π [] T h hperm (pairwise_of_before L.nodup hb) hpw (rankB_sound h6) d
theorem okDrawN_lin {lo rk tbl : List Nat} {art : List (Nat × Nat)} {π : List Nat} (hok : okDrawN ops lo rk tbl art π = true) (t : Nat) : Lin ops (Array.replicate ops.size false) (Region.linearise.go .any ops ops.size t (Array.replicate ops.size false) []) := by
  simp only [okDrawN, Bool.and_eq_true, List.all_eq_true, decide_eq_true_eq, List.mem_range] at hok
  obtain ⟨⟨⟨⟨⟨h1, h2⟩, h3⟩, h4⟩, h5⟩, h6⟩ := hok
  refine lin_spec (π0 := π) (fun i hi => List.contains_iff_mem.1 (h2 i hi)) h1 (fun π1 i π2 hs o ho e he hb => ?_) ops.size t _ (by simp) ?_
  · rcases readyB_sound h5 π1 i π2 hs o ho e he hb with h' | h'
    · cases h'
    · exact h'
  · unfold unl
    rw [List.filter_eq_self.2 (fun i hi => by simp [List.mem_range.1 hi]), List.length_range]

structure Pl2 where
  x : Nat
  y : Nat
  lo1 : List Nat
  rk1 : List Nat
  tbl1 : List Nat
  π1 : List Nat
  lo2 : List Nat
  rk2 : List Nat
  tbl2 : List Nat
  π2 : List Nat
def okPl2 (ops : Array Oper) (p : Pl2) : Bool := decide (p.x < ops.size) && decide (p.y < ops.size) && (p.x != p.y) && okDrawN ops p.lo1 p.rk1 p.tbl1 [(p.x, p.y)] p.π1 && okDrawN ops p.lo2 p.rk2 p.tbl2 [(p.y, p.x)] p.π2
theorem run_pl2 {id : Nat} {p : Pl2} (hm : P.follows .mixedOrders = true) (hok : okPl2 ops p = true)
    (d1 : DR P ops p.lo1 (fun T h => Run P rd nb k T h D Q) p.π1 [] T h) (d2 : DR P ops p.lo2 (fun T h => Run P rd nb k T h D Q) p.π2 [] T h) : Run P rd nb (.code (.region id ops true) :: k) T h D Q := by
  intro E w a s
  refine wpIn_region_draw fun t => ?_
  simp only [Region.schedule, hm, Bool.true_or, if_true]
  obtain ⟨s', hfr⟩ := s.drew
  simp only [okPl2, Bool.and_eq_true, decide_eq_true_eq, bne_iff_ne, ne_eq] at hok
  obtain ⟨⟨⟨⟨hx, hy⟩, hne⟩, hok1⟩, hok2⟩ := hok
  have L := okDrawN_lin hok1 t
  change wpOpsIn (fen rd) 0 P ops _ (Region.linearise.go .any ops ops.size t (Array.replicate ops.size false) []) _ _
  generalize Region.linearise.go .any ops ops.size t (Array.replicate ops.size false) [] = τ at L
  have hmx : p.x ∈ τ := (L.mem p.x).2 (unl_mem.2 ⟨hx, by simp [hx]⟩)
  have hmy : p.y ∈ τ := (L.mem p.y).2 (unl_mem.2 ⟨hy, by simp [hy]⟩)
  have fin : (∀ E w a, St E w a T h D → wpOpsIn (fen rd) 0 P ops (K P rd (Post nb Q E h w) k) τ a w) → wpOpsIn (fen rd) 0 P ops (K P rd (Post nb Q E h w) k) τ a { w with drawn := w.drawn + 1 } := fun hall =>
    wpOps_post (K_mono (P := P) (rd := rd) (Post.of_fr (Q := Q) hfr) k) τ _ _ (hall E _ a s')
  obtain ⟨a1, b1, hab⟩ := List.append_of_mem hmy
  have hnd := L.nodup
  rw [hab] at hmx
  rcases List.mem_append.1 hmx with hxa | hxb
  · refine fin (okDrawN_ord hok1 L (fun u v hp τ1 τ2 hτ => ?_) d1)
    simp at hp
    obtain ⟨rfl, rfl⟩ := hp
    rw [← split_unique (by rw [← hab]; exact hnd) (hab.symm.trans hτ)]
    exact hxa
  · rcases List.mem_cons.1 hxb with e | hxc
    · exact absurd e hne
    refine fin (okDrawN_ord hok2 L (fun u v hp τ1 τ2 hτ => ?_) d2)
    simp at hp
    obtain ⟨rfl, rfl⟩ := hp
    obtain ⟨c, d, hcd⟩ := List.append_of_mem hxc
    have hab2 : τ = (a1 ++ p.y :: c) ++ p.x :: d := by rw [hab, hcd]; simp
    rw [← split_unique (by rw [← hab2]; exact hnd) (hab2.symm.trans hτ)]
    simp

end
def junkO (l : List Oper) (T : List AV) : List AV := l.foldl (fun T o => tput T o.dst .junk) T
def junkT (ops : Array Oper) (T : List AV) : List AV := junkO ops.toList T
theorem tput_len (T : List AV) (d : Option Tmp) (x : AV) : (tput T d x).length = T.length := by cases d <;> simp [tput]
theorem tget_tput_junk (T : List AV) (d : Option Tmp) (s : Nat) : tget (tput T d .junk) s = if d = some s then .junk else tget T s := by
  cases d with
  | none => simp [tput]
  | some d =>
    simp only [tput, tget_eq, List.getD]
    by_cases e : d = s
    · subst e
      rw [List.getElem?_set_self']
      cases T[d]? <;> simp
    · rw [List.getElem?_set_ne e]
      simp [e]
theorem junkO_spec : ∀ (l : List Oper) (T : List AV), (junkO l T).length = T.length ∧ ∀ s, tget (junkO l T) s = if l.any (fun o => decide (o.dst = some s)) = true then .junk else tget T s
  | [], T => ⟨rfl, fun s => by simp [junkO]⟩
  | o :: l, T => by
    obtain ⟨h1, h2⟩ := junkO_spec l (tput T o.dst .junk)
    refine ⟨h1.trans (tput_len _ _ _), fun s => ?_⟩
    have e : junkO (o :: l) T = junkO l (tput T o.dst .junk) := rfl
    rw [e, h2 s, tget_tput_junk]
    simp only [List.any_cons, Bool.or_eq_true, decide_eq_true_eq]
    by_cases a : o.dst = some s <;> by_cases b : l.any (fun o => decide (o.dst = some s)) = true <;> simp [a, b]
theorem tget_ext {T T' : List AV} (hl : T'.length = T.length) (h : ∀ s, tget T' s = tget T s) : T' = T := by
  refine List.ext_getElem hl fun i h1 h2 => ?_
  have := h i
  simp only [tget_eq, List.getD, List.getElem?_eq_getElem h1, List.getElem?_eq_getElem h2, Option.getD_some] at this
  exact this
theorem junkT_agree {ops : Array Oper} {T T' : List AV} (h : Go.AI.Agree ops T T') : junkT ops T' = junkT ops T := by
  obtain ⟨l1, g1⟩ := junkO_spec ops.toList T'
  obtain ⟨l2, g2⟩ := junkO_spec ops.toList T
  refine tget_ext (l1.trans (h.1.trans l2.symm)) fun s => ?_
  unfold junkT
  rw [g1, g2]
  by_cases b : ops.toList.any (fun o => decide (o.dst = some s)) = true
  · rw [if_pos b, if_pos b]
  · rw [if_neg b, if_neg b]
    refine h.2 s ?_
    rw [Array.all_eq_true_iff_forall_mem]
    intro o ho
    simp only [bne_iff_ne, ne_eq]
    intro e
    exact b (List.any_eq_true.2 ⟨o, by simpa using ho, by simpa using e⟩)
theorem repL_junk {E : Env} {w : World} : ∀ {l : List AV} {vs : List Value} (i : Nat), RepL E w l vs → RepL E w (l.set i .junk) vs
  | [], vs, i, r => by simpa using r
  | x :: l, vs, 0, r => by
    simp only [RepL, List.set_cons_zero] at r ⊢
    obtain ⟨v, us, e, _, r2⟩ := r
    exact ⟨v, us, e, by simp only [Rep], r2⟩
  | x :: l, vs, i + 1, r => by
    simp only [RepL, List.set_cons_succ] at r ⊢
    obtain ⟨v, us, e, r1, r2⟩ := r
    exact ⟨v, us, e, r1, repL_junk i r2⟩
theorem repL_junkO {E : Env} {w : World} {vs : List Value} : ∀ (l : List Oper) (T : List AV), RepL E w T vs → RepL E w (junkO l T) vs
  | [], T, r => r
  | o :: l, T, r => by
    have e : junkO (o :: l) T = junkO l (tput T o.dst .junk) := rfl
    rw [e]
    refine repL_junkO l _ ?_
    cases o.dst with
    | none => exact r
    | some d => exact repL_junk d r

section

variable {P : Program} {rd : Option Nat} {nb : Nat} {ops : Array Oper} {D : List AD} {Q : AX → List AV → Heap → List AD → Prop} {k : List It} {T : List AV} {h : Heap}
theorem run_panJ {id : Nat} (lo rk tbl π : List Nat) (e : Nat) (hm : P.follows .mixedOrders = true) (hok : okDraw ops lo rk tbl (some e) π = true) (d : DR P ops lo (PanStep P ops (fun x T' h' D' => Q x (junkT ops T') h' D') D e) π [] T h) : Run P rd nb (.code (.region id ops true) :: k) T h D Q := by
  have key : Run P rd nb (.code (.region id ops true) :: k) T h D (fun x T' h' D' => Q x (junkT ops T') h' D') := Run.drawPanic lo rk tbl π e hm hok d
  exact fun E w a hs => K_mono (by rintro e a x ⟨E2, T2, h2, D2, x2, hq2, st, hr⟩; exact ⟨E2, junkT ops T2, h2, D2, x2, hq2, { st with tmps := repL_junkO ops.toList _ st.tmps }, hr⟩) _ _ _ _ (key E w a hs)

end

end Go.AI.EV
