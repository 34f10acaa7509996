/-
  term: uses, nodes, Size; Depth.
-/
import Derived.Test.YtcfcolkbeelegaaGreatLD

namespace Go.AI

open Go
theorem Run.joinA {P : Program} {rd : Option Nat} {nb : Nat} {k : List It} {T : List AV} {h : Heap} {D : List AD} {Q : AX → List AV → Heap → List AD → Prop} {c : Code} (keep : List Nat) (sets : List (Nat × AV)) (r : (∀ T', WeakL T' (setMany (keepT keep T) sets) → Run P rd nb k T' h D Q) → Run P rd nb (.code c :: k) T h D Q)
    (next : Run P rd nb k (setMany (keepT keep T) sets) h D Q) : Run P rd nb (.code c :: k) T h D Q := r fun _ hw => Run.weak hw next

end Go.AI

namespace Go.Proofs.YtcfcolkbeelegaaGreat

open Go Go.AI
abbrev use5 (a b : Bool) (l k w : Int) : List AV := [bA a, bA b, iA l, iA k, iA w]
def usesL : List AV := use5 true false 0 0 (-1) ++ use5 false false 0 0 (-1) ++ use5 false false 1 0 (-1) ++ use5 false true (-1) 0 (-1) ++ use5 false false 0 2 (-1) ++ use5 false false 0 2 1 ++ use5 false false 0 2 1 ++ use5 false false 0 2 1 ++
  use5 false false 0 3 (-1) ++ use5 false false 0 1 (-1) ++ use5 false false 0 1 (-1) ++ use5 false false 0 3 2 ++ use5 true false 0 0 (-1)
@[simp] theorem st251 : stT Tryz.prog 251 = some ((List.range 13).map fun i => (i * 5, 5)) := by kernel_rfl
set_option maxRecDepth 8000 in
set_option maxHeartbeats 4000000 in
theorem uses_any (h : Heap) (hh : WF h) : ACalls Tryz.prog 185 [] h fun o h' => o = .ret (.agg usesL) ∧ h' = h := by
  refine ACalls.of_run Tryz.func185 rfl ?_
  simp only [Tryz.ntmps185, List.length_nil]
  refine nv ?_
  refine Run.reg fun K hK => ?_
  simp
  try (simp (disch := omega) only [wrap_id])
  refine hK _ _ _ ?_; clear hK K
  refine nv ?_
  refine Run.reg fun K hK => ?_
  simp [List.range, List.range.loop]
  try (simp (disch := omega) only [wrap_id])
  refine hK _ _ _ ?_; clear hK K
  refine nv ?_
  refine Run.ret ?_
  exact Fin.ret' (by simp) rfl hh rfl (by simp; rfl) rfl (Weak.refl _) rfl ⟨rfl, rfl⟩
def belowK (k : Int) : Int := if k = 5 ∨ k = 6 ∨ k = 7 then 1 else if k = 11 then 2 else -1
theorem belowK_eq (k : Int) (j : Nat) : belowZ k j = if (j : Int) = belowK k then 1 else 0 := by
  unfold belowZ belowK
  split <;> split <;> (try split) <;> omega
theorem usesL_at (k : Int) (h0 : 0 ≤ k) (h1 : k < 13) : usesL[k.toNat * 5 + 4]? = some (iA (belowK k)) := by
  have : k = 0 ∨ k = 1 ∨ k = 2 ∨ k = 3 ∨ k = 4 ∨ k = 5 ∨ k = 6 ∨ k = 7 ∨ k = 8 ∨ k = 9 ∨ k = 10 ∨ k = 11 ∨ k = 12 := by omega
  rcases this with rfl | rfl | rfl | rfl | rfl | rfl | rfl | rfl | rfl | rfl | rfl | rfl | rfl <;> rfl
theorem usesL_len : usesL.length = 65 := rfl
theorem usesL_under (n : Nat) : AV.underL n usesL = true := by simp [usesL]

section

variable {σ : Type} (st : σ → Int → Tm → σ × Bool)

mutual
def vis (s : σ) (d : Int) : Tm → σ × Bool
  | .mk k i n ls ks => if (st s d (.mk k i n ls ks)).2 = true then visL (st s d (.mk k i n ls ks)).1 k d 0 ks else ((st s d (.mk k i n ls ks)).1, false)
def visL (s : σ) (k d : Int) (idx : Nat) : List Tm → σ × Bool
  | [] => (s, true)
  | t :: ts => if (vis s (d + belowZ k idx) t).2 = true then visL (vis s (d + belowZ k idx) t).1 k d (idx + 1) ts else ((vis s (d + belowZ k idx) t).1, false)
end

end
theorem visL_snoc {σ : Type} (st : σ → Int → Tm → σ × Bool) (k d : Int) : ∀ (l : List Tm) (s : σ) (idx : Nat) (t : Tm), visL st s k d idx (l ++ [t]) =
    if (visL st s k d idx l).2 = true then vis st (visL st s k d idx l).1 (d + belowZ k (idx + l.length : Nat)) t else ((visL st s k d idx l).1, false)
  | [], s, idx, t => by
    simp only [List.nil_append, visL, List.length_nil, Nat.add_zero, if_true]
    cases h : vis st s (d + belowZ k idx) t with
    | mk a b => cases b <;> simp
  | x :: l, s, idx, t => by
    simp only [List.cons_append, visL]
    rw [visL_snoc st k d l _ (idx + 1) t]
    by_cases h : (vis st s (d + belowZ k idx) x).2 = true
    · simp only [h, if_true, List.length_cons]
      rw [show idx + 1 + l.length = idx + (l.length + 1) by omega]
    · simp only [h, if_false, Bool.false_eq_true]
theorem visL_stop {σ : Type} (st : σ → Int → Tm → σ × Bool) (k d : Int) (s' : σ) : ∀ (l r : List Tm) (s : σ) (idx : Nat), visL st s k d idx l = (s', false) → visL st s k d idx (l ++ r) = (s', false)
  | [], r, s, idx, h => by simp [visL] at h
  | x :: l, r, s, idx, h => by
    simp only [List.cons_append, visL] at h ⊢
    by_cases hx : (vis st s (d + belowZ k idx) x).2 = true
    · simp only [hx, if_true] at h ⊢
      exact visL_stop st k d s' l r _ (idx + 1) h
    · simp only [hx, if_false, Bool.false_eq_true] at h ⊢
      exact h
abbrev yv (y : Nat) : AV := .fn (.yield y) [] []
abbrev vf (p2 p3 p4 : Nat) : AV := .fn (.func 186) [] [.ptr p2 0, .ptr p3 0, .ptr p4 0]
set_option maxRecDepth 8000 in
set_option maxHeartbeats 8000000 in
theorem visit_any {σ : Type} (st : σ → Int → Tm → σ × Bool) (y p2 p3 p4 : Nat) (Pre : Tm → Int → Prop) (hP : ∀ k i n ls ks d, Pre (.mk k i n ls ks) d → ∀ (j : Nat) (hj : j < ks.length), Pre ks[j] (d + belowZ k j)) (N : Nat) :
    ∀ (t : Tm) (s : σ) (d : Int) (B : σ → Heap) (n : Nat), t.size ≤ N → Pre t d → 0 ≤ d → d + t.size ≤ 1099511627776 → (∀ s, (B s).length = n) → (∀ s, WF (B s)) →
      (∀ s, (B s)[p2]? = some (some (.cells [yv y])) ∧ (B s)[p3]? = some (some (.cells usesL)) ∧ (B s)[p4]? = some (some (.cells [vf p2 p3 p4]))) →
      (∀ s d u l, Pre u d → WF (B s ++ l) → AYield Tryz.prog y [iA d, u.av] (B s ++ l) (fun o h' => o = .ret (bA (st s d u).2) ∧ h' = B (st s d u).1 ++ l)) →
      ACalls Tryz.prog 186 ([t.av, iA d] ++ [.ptr p2 0, .ptr p3 0, .ptr p4 0]) (B s) (fun o h' => o = .ret (bA (vis st s d t).2) ∧ h' = B (vis st s d t).1) := by
  induction N with
  | zero => intro t _ _ _ _ hN; have := t.size_pos; omega
  | succ N ih =>
  intro t s d B n hN hpre hd0 hd1 hlen hwf hcells HY
  obtain ⟨k, i, nm, ls, ks⟩ := t
  have hp2 := (List.getElem?_eq_some_iff.1 (hcells s).1).1
  have hp3 := (List.getElem?_eq_some_iff.1 (hcells s).2.1).1
  have hp4 := (List.getElem?_eq_some_iff.1 (hcells s).2.2).1
  rw [hlen] at hp2 hp3 hp4
  have c2 : ∀ s (l : List (Option AO)), (B s ++ l)[p2]? = some (some (.cells [yv y])) := fun s l => by rw [List.getElem?_append_left (by rw [hlen]; exact hp2)]; exact (hcells s).1
  have c3 : ∀ s (l : List (Option AO)), (B s ++ l)[p3]? = some (some (.cells usesL)) := fun s l => by rw [List.getElem?_append_left (by rw [hlen]; exact hp3)]; exact (hcells s).2.1
  have c4 : ∀ s (l : List (Option AO)), (B s ++ l)[p4]? = some (some (.cells [vf p2 p3 p4])) := fun s l => by rw [List.getElem?_append_left (by rw [hlen]; exact hp4)]; exact (hcells s).2.2
  have gl : ∀ s (l : List (Option AO)) (k : Nat), (B s ++ l)[n + k]? = l[k]? := fun s l k => get_lastN (hlen s)
  have gl0 : ∀ s (l : List (Option AO)), (B s ++ l)[n]? = l[0]? := fun s l => get_lastN0 (hlen s)
  have sl : ∀ s (l : List (Option AO)) (k : Nat) (o : Option AO), (B s ++ l).set (n + k) o = B s ++ l.set k o := fun s l k o => set_lastN (hlen s)
  have sl0 : ∀ s (l : List (Option AO)) (o : Option AO), (B s ++ l).set n o = B s ++ l.set 0 o := fun s l o => set_lastN0 (hlen s)
  have wfl : ∀ s (l : List (Option AO)), l.all (AO.under (n + l.length)) = true → WF (B s ++ l) := fun s l hl => (hwf s).app (by rw [hlen]; exact hl)
  simp only [Tm.size] at hN hd1
  have hll := length_le_sizes ks
  simp only [List.cons_append, List.nil_append]
  refine ACalls.of_run Tryz.func186 rfl ?_
  simp only [Tryz.ntmps186, List.length_cons, List.length_nil, Tm.av, cells_mk, List.map]
  refine nv ?_
  rw [hlen s]
  refine nv ?_
  refine Run.reg fun K hK => ?_
  simp [hlen]
  try (simp (disch := omega) only [wrap_id])
  refine hK _ _ _ ?_; clear hK K
  refine nv ?_
  refine Run.reg fun K hK => ?_
  simp [gl0, c2]
  try (simp (disch := omega) only [wrap_id])
  refine hK _ _ _ ?_; clear hK K
  refine nv ?_
  have hy := HY s d (.mk k i nm ls ks) [some (.cells [iA k, iA i, .p (sP nm), .p (.sl 2 (lvPs ls)), .p (.sl 5 (tmPs ks))])] hpre (wfl _ _ (by simp))
  obtain ⟨⟨s1, g1⟩, hst⟩ : ∃ r, st s d (.mk k i nm ls ks) = r := ⟨_, rfl⟩
  rw [hst] at hy
  simp only at hy
  refine Run.yield rfl rfl (by simp) hy ?_ ?_
  rotate_left
  · rintro v h' ⟨hv, _⟩; cases hv
  rintro v h' ⟨hv, rfl⟩
  simp only [AOut.ret.injEq] at hv
  subst hv
  have hvis : vis st s d (.mk k i nm ls ks) = if g1 = true then visL st s1 k d 0 ks else (s1, false) := by simp only [vis, hst]
  cases g1 with
  | false =>
    simp only [Bool.false_eq_true, if_false] at hvis
    refine Run.ops fun K hK => ?_
    simp
    try (simp (disch := omega) only [wrap_id])
    refine hK _ _ _ ?_; clear hK K
    refine nv ?_
    repeat (first
      | refine Run.seq ?_ | refine Run.block ?_ | refine Run.skip ?_ | refine Run.inBlock ?_ | refine Run.opsNil ?_
      | (refine Run.reg fun K hK => ?_; simp; (try (simp (disch := omega) only [wrap_id])); refine hK _ _ _ ?_; clear hK K)
      | (refine Run.cond (b := true) rfl ?_; simp only [if_true])
      | (refine Run.cond (b := false) rfl ?_; simp only [Bool.false_eq_true, if_false])
      | refine Run.exit rfl ?_ | refine Run.ret ?_)
    exact Fin.ret' (h0 := B s1) (by simp) (hlen s1) (hwf s1) rfl rfl rfl (Weak.refl _) rfl ⟨by rw [hvis]; rfl, by rw [hvis]⟩
  | true =>
    simp only [if_true] at hvis
    rw [hvis]
    refine Run.ops fun K hK => ?_
    simp
    try (simp (disch := omega) only [wrap_id])
    refine hK _ _ _ ?_; clear hK K
    refine nv ?_
    refine Run.cond (b := false) (by simp) ?_
    simp only [Bool.false_eq_true, if_false]
    refine nv ?_
    refine Run.reg fun K hK => ?_
    simp
    try (simp (disch := omega) only [wrap_id])
    refine hK _ _ _ ?_; clear hK K
    refine nv ?_
    refine Run.regJ [1, 2, 3, 4, 5, 8] 24 (decide (0 ≤ k) && decide (k < 13)) (fun K hK => ?_) ?_
    · simp [gl0]
      repeat' (first | apply And.intro | intro _)
      all_goals
        try (simp (disch := omega) only [wrap_id])
        refine hK _ ?_
        simp
        repeat' (first | exact WeakL.nil | apply WeakL.cons)
        all_goals first | exact Weak.junk _ | (refine Weak.bool ?_; clear hK K; rw [Bool.eq_iff_iff]; simp; done) | (refine Weak.bool ?_; clear hK K; rw [Bool.eq_iff_iff]; simp; omega) | (refine Weak.bool ?_; clear hK K; simp_all; done) | (refine Weak.bool ?_; clear hK K; simp [*]; done) | (refine Weak.bool ?_; clear hK K; rw [Bool.eq_iff_iff]; simp [*]; omega) | exact Weak.refl _
    simp only [setMany, keepT, keepT.go, List.contains_cons, List.set_cons_succ, List.set_cons_zero]
    simp
    refine Run.joinA [1, 2, 3, 4, 5] [(8, iA (belowK k))] (fun hJ => ?_) ?_
    · by_cases hk : 0 ≤ k ∧ k < 13
      · have hu := usesL_at k hk.1 hk.2
        have hk0 : ¬ k < 0 := by omega
        refine nv ?_
        refine Run.cond (b := true) (by simp [hk]) ?_
        simp only [if_true]
        repeat (first | refine Run.skip ?_ | refine Run.opsNil ?_ | refine Run.inBlock ?_)
        refine nv ?_
        refine Run.reg fun K hK => ?_
        simp [gl0, c3, hk, hk0, hu]
        try (simp (disch := omega) only [wrap_id])
        refine hK _ _ _ ?_; clear hK K
        repeat (first | refine Run.skip ?_ | refine Run.opsNil ?_ | refine Run.inBlock ?_)
        refine hJ _ ?_
        simp
        repeat' (first | exact WeakL.nil | apply WeakL.cons)
        all_goals first | exact Weak.junk _ | exact Weak.refl _ | exact Weak.nil _ | exact Weak.own _ _ _ | exact Weak.int (by omega)
      · have hb : belowK k = -1 := by unfold belowK; split <;> (try split) <;> omega
        have hk2 : (decide (0 ≤ k) && decide (k < 13)) = false := by simp; omega
        refine Run.cond (b := false) (by simp only [aev, tget]; rw [hk2]) ?_
        simp only [Bool.false_eq_true, if_false]
        repeat (first | refine Run.skip ?_ | refine Run.opsNil ?_ | refine Run.inBlock ?_)
        refine hJ _ ?_
        rw [hb]
        simp
        repeat' (first | exact WeakL.nil | apply WeakL.cons)
        all_goals first | exact Weak.junk _ | exact Weak.refl _ | exact Weak.nil _ | exact Weak.own _ _ _ | exact Weak.int (by omega)
    simp only [setMany, keepT, keepT.go, List.contains_cons, List.set_cons_succ, List.set_cons_zero]
    simp
    refine nv ?_
    refine Run.reg fun K hK => ?_
    simp [gl0]
    try (simp (disch := omega) only [wrap_id])
    refine hK _ _ _ ?_; clear hK K
    refine nv ?_
    refine Run.loopS (ι := Nat × σ) [1, 2, 3, 4, 5, 8, 31, 32] (fun p => p.1 ≤ ks.length ∧ visL st s1 k d 0 (ks.take p.1) = (p.2, true)) (fun p => ks.length - p.1) (fun p => [(33, iA p.1)])
      (fun p => B p.2 ++ [some (.cells [iA k, iA i, .p (sP nm), .p (.sl 2 (lvPs ls)), .p (.sl 5 (tmPs ks))])]) (0, s1) (by simp [visL]) ?_ (by simp) ?_
    · simp
      repeat' (first | exact WeakL.nil | apply WeakL.cons)
      all_goals first | exact Weak.junk _ | exact Weak.refl _ | exact Weak.nil _ | exact Weak.own _ _ _ | exact Weak.int (by omega)
    rintro ⟨j, sj⟩ ⟨hj, hvj⟩ IH
    simp only at hj hvj
    simp
    refine nv ?_
    refine Run.reg fun K hK => ?_
    simp
    try (simp (disch := omega) only [wrap_id])
    refine hK _ _ _ ?_; clear hK K
    refine nv ?_
    by_cases hjl : j < ks.length
    · have hg : ks[j]? = some ks[j] := List.getElem?_eq_getElem hjl
      have hs := kid_size hjl
      have hpj := hP _ _ _ _ _ _ hpre j hjl
      have hbz := belowZ_01' k j
      have htk : ks.take (j + 1) = ks.take j ++ [ks[j]] := List.take_succ_eq_append_getElem hjl
      have hsn := visL_snoc st k d (ks.take j) s1 0 ks[j]
      rw [hvj, ← htk] at hsn
      simp only [if_true, Nat.zero_add, List.length_take, Nat.min_eq_left hj] at hsn
      have hbk := belowK_eq k j
      have hstop := visL_stop st k d (vis st sj (d + belowZ k j) ks[j]).1 (ks.take (j + 1)) (ks.drop (j + 1)) s1 0
      rw [List.take_append_drop] at hstop
      generalize ks[j] = u at hg hs hpj hsn hstop
      refine nv ?_
      refine Run.cond (b := true) (by simp [hjl]) ?_
      simp only [if_true]
      refine nv ?_
      refine Run.reg fun K hK => ?_
      simp [hg, hlen]
      try (simp (disch := omega) only [wrap_id])
      refine hK _ _ _ ?_; clear hK K
      refine nv ?_
      refine Run.reg fun K hK => ?_
      simp
      try (simp (disch := omega) only [wrap_id])
      refine hK _ _ _ ?_; clear hK K
      refine nv ?_
      refine Run.reg fun K hK => ?_
      simp
      try (simp (disch := omega) only [wrap_id])
      refine hK _ _ _ ?_; clear hK K
      refine nv ?_
      refine Run.joinA [1, 2, 3, 4, 5, 8, 10, 31, 32, 33] [(11, iA (d + belowZ k j))] (fun hJ => ?_) ?_
      · by_cases hb : (j : Int) = belowK k
        · rw [if_pos hb] at hbk
          refine nv ?_
          refine Run.cond (b := true) (by simp [hb]) ?_
          simp only [if_true]
          repeat (first | refine Run.skip ?_ | refine Run.opsNil ?_ | refine Run.inBlock ?_)
          refine nv ?_
          refine Run.reg fun K hK => ?_
          simp
          try (simp (disch := omega) only [wrap_id])
          refine hK _ _ _ ?_; clear hK K
          repeat (first | refine Run.skip ?_ | refine Run.opsNil ?_ | refine Run.inBlock ?_)
          refine hJ _ ?_
          rw [hbk]
          simp
          repeat' (first | exact WeakL.nil | apply WeakL.cons)
          all_goals first | exact Weak.junk _ | exact Weak.refl _ | exact Weak.nil _ | exact Weak.own _ _ _ | exact Weak.int (by omega)
        · rw [if_neg hb] at hbk
          refine nv ?_
          refine Run.cond (b := false) (by simp [hb]) ?_
          simp only [Bool.false_eq_true, if_false]
          repeat (first | refine Run.skip ?_ | refine Run.opsNil ?_ | refine Run.inBlock ?_)
          refine hJ _ ?_
          rw [hbk]
          simp
          repeat' (first | exact WeakL.nil | apply WeakL.cons)
          all_goals first | exact Weak.junk _ | exact Weak.refl _ | exact Weak.nil _ | exact Weak.own _ _ _ | exact Weak.int (by omega)
      simp only [setMany, keepT, keepT.go, List.contains_cons, List.set_cons_succ, List.set_cons_zero]
      simp
      refine nv ?_
      refine Run.reg fun K hK => ?_
      simp [c4, gl]
      try (simp (disch := omega) only [wrap_id])
      refine hK _ _ _ ?_; clear hK K
      refine nv ?_
      obtain ⟨L, hL⟩ : ∃ L : List (Option AO), L = [some (.cells [iA k, iA i, .p (sP nm), .p (.sl 2 (lvPs ls)), .p (.sl 5 (tmPs ks))]), some (.cells (u.cells.map .p))] := ⟨_, rfl⟩
      have hLl : L.length = 2 := by rw [hL]; rfl
      have hLu : L.all (AO.under (n + L.length)) = true := by rw [hLl, hL]; simp
      have hcall := ih u sj (d + belowZ k j) (fun s => B s ++ L) (n + 2) (by omega) hpj (by omega) (by omega) (fun s => by rw [List.length_append, hlen, hLl]) (fun s => wfl s L hLu) (fun s => ⟨c2 s L, c3 s L, c4 s L⟩)
        (fun s d u l hp hw => by
          have := HY s d u (L ++ l) hp (by rw [← List.append_assoc]; exact hw)
          rw [List.append_assoc]
          refine this.mono ?_
          intro o h' hq
          exact ⟨hq.1, by rw [hq.2, List.append_assoc]⟩)
      rw [hL] at hcall
      obtain ⟨⟨s2, g2⟩, hv2⟩ : ∃ r, vis st sj (d + belowZ k j) u = r := ⟨_, rfl⟩
      rw [hv2] at hcall hsn hstop
      simp only at hcall hstop
      refine Run.call rfl rfl (by simp) rfl hcall ?_ ?_
      rotate_left
      · rintro v h' ⟨hv, _⟩; cases hv
      rintro v h' ⟨hv, rfl⟩
      simp only [AOut.ret.injEq] at hv
      subst hv
      cases g2 with
      | false =>
        have hs3 := hstop hsn
        refine Run.ops fun K hK => ?_
        simp
        try (simp (disch := omega) only [wrap_id])
        refine hK _ _ _ ?_; clear hK K
        refine nv ?_
        repeat (first
          | refine Run.seq ?_ | refine Run.block ?_ | refine Run.skip ?_ | refine Run.inBlock ?_ | refine Run.opsNil ?_
          | (refine Run.reg fun K hK => ?_; simp; (try (simp (disch := omega) only [wrap_id])); refine hK _ _ _ ?_; clear hK K)
          | (refine Run.cond (b := true) rfl ?_; simp only [if_true])
          | (refine Run.cond (b := false) rfl ?_; simp only [Bool.false_eq_true, if_false])
          | refine Run.exit rfl ?_ | refine Run.ret ?_)
        exact Fin.ret' (h0 := B s2) (by simp) (hlen s2) (hwf s2) rfl rfl rfl (Weak.refl _) rfl ⟨by rw [hs3]; rfl, by rw [hs3]⟩
      | true =>
        refine Run.ops fun K hK => ?_
        simp
        try (simp (disch := omega) only [wrap_id])
        refine hK _ _ _ ?_; clear hK K
        refine nv ?_
        refine Run.cond (b := false) (by simp) ?_
        simp only [Bool.false_eq_true, if_false]
        refine nv ?_
        refine Run.reg fun K hK => ?_
        simp
        try (simp (disch := omega) only [wrap_id])
        refine hK _ _ _ ?_; clear hK K
        refine nv ?_
        refine Run.keep [1, 2, 3, 4, 5, 8, 31, 32, 33] ?_
        simp
        refine Run.cutAt 1 (hwf s2) rfl (by rw [hlen]; omega) (by simp) (by simp [hlen]; omega) (by simp) rfl ?_
        refine IH (j + 1, s2) _ _ ⟨by simp only; omega, hsn⟩ (by simp only; omega) ?_ (by simp)
        simp
        repeat' (first | exact WeakL.nil | apply WeakL.cons)
        all_goals first | exact Weak.junk _ | exact Weak.refl _ | exact Weak.nil _ | exact Weak.own _ _ _ | exact Weak.int (by omega)
    · have hje : j = ks.length := by omega
      subst hje
      rw [List.take_length] at hvj
      refine nv ?_
      refine Run.cond (b := false) (by simp) ?_
      simp only [Bool.false_eq_true, if_false]
      refine nv ?_
      refine Run.exit rfl ?_
      refine nv ?_
      repeat (first
        | refine Run.seq ?_ | refine Run.block ?_ | refine Run.skip ?_ | refine Run.inBlock ?_ | refine Run.opsNil ?_
        | (refine Run.reg fun K hK => ?_; simp; (try (simp (disch := omega) only [wrap_id])); refine hK _ _ _ ?_; clear hK K)
        | (refine Run.cond (b := true) rfl ?_; simp only [if_true])
        | (refine Run.cond (b := false) rfl ?_; simp only [Bool.false_eq_true, if_false])
        | refine Run.exit rfl ?_ | refine Run.ret ?_)
      exact Fin.ret' (h0 := B sj) (by simp) (hlen sj) (hwf sj) rfl rfl rfl (Weak.refl _) rfl ⟨by rw [hvj]; rfl, by rw [hvj]⟩

end Go.Proofs.YtcfcolkbeelegaaGreat
