/-
  The nodes of a term are visited until one is enough: the state is told only as long as the visit goes on.
-/
import Derived.Test.YtppgpabjcenjdaaTE6
namespace Go.AI

open Go

/-- A range over a function, what its loop's record holds told by letters. -/
theorem Run.rangeG {P : Program} {nb : Nat} {k : List It} {T : List AV} {h : Heap} {D : List AD} {Q : AX → List AV → Heap → List AD → Prop} {g : Operand} {ps : Array Tmp} {ag bd : Code} {gf : FuncId} {cap : List AV} (hg : aev T g = .fn (.func gf) [] cap) (he : enterable P gf = true)
    (r : ∀ l Tl ag' bd', Tl = T → ag' = ag → bd' = bd → ∃ R : AOut → Heap → Prop, ACalls P gf (.fn (.yield l) [] [] :: cap) (h ++ [some (.aux .dblk), some (.aux (.loop l .ready none Tl ps ag' bd'))]) R ∧
      ∀ o h', R o h' → ∃ v st j, o = .ret v ∧ h'.at (h.length + 1) = some (.aux (.loop l st j Tl ps ag' bd')) ∧ st ≠ .busy ∧
        Run P none nb (match j with | none => k | some c => .code c :: k) T (h'.set (h.length + 1) (some (.aux (.loop l .exhausted j Tl ps ag' bd')))) ((.yield h.length, [], []) :: D) Q) :
    Run P none nb (.code (.rangeFunc g ps ag bd) :: k) T h D Q := Run.range hg he fun l => r l T ag bd rfl rfl rfl

theorem Run.codeEq {P : Program} {rd : Option Nat} {nb : Nat} {k : List It} {T : List AV} {h : Heap} {D : List AD} {Q : AX → List AV → Heap → List AD → Prop} {c c' : Code} (e : c' = c) (r : Run P rd nb (.code c :: k) T h D Q) : Run P rd nb (.code c' :: k) T h D Q := e ▸ r

theorem Run.tEq {P : Program} {rd : Option Nat} {nb : Nat} {k : List It} {T T' : List AV} {h : Heap} {D : List AD} {Q : AX → List AV → Heap → List AD → Prop} (e : T = T') (r : Run P rd nb k T' h D Q) : Run P rd nb k T h D Q := e ▸ r

end Go.AI

namespace Go.Proofs.Ytppgpabjcenjdaa

open Go Go.AI

mutual
theorem vis_live {σ : Type} (st : σ → Int → Tm → σ × Bool) (Pre : Tm → Int → Prop) (hP : ∀ k i n ls ks d, Pre (.mk k i n ls ks) d → ∀ (j : Nat) (hj : j < ks.length), Pre ks[j] (d + belowZ k j)) (Lv : σ → Prop) (hLv : ∀ s d u, Lv s → Pre u d → (st s d u).2 = true → Lv (st s d u).1) : ∀ (t : Tm) (s : σ) (d : Int), Lv s → Pre t d → (vis st s d t).2 = true → Lv (vis st s d t).1
  | .mk k i n ls ks, s, d, hl, hp, h => by
    simp only [vis] at h ⊢
    by_cases hs : (st s d (.mk k i n ls ks)).2 = true
    · rw [if_pos hs] at h ⊢
      exact visL_live st Pre hP Lv hLv ks _ k d 0 (hLv s d _ hl hp hs) (fun j hj => by simpa using hP _ _ _ _ _ _ hp j hj) h
    · rw [if_neg hs] at h; simp at h
theorem visL_live {σ : Type} (st : σ → Int → Tm → σ × Bool) (Pre : Tm → Int → Prop) (hP : ∀ k i n ls ks d, Pre (.mk k i n ls ks) d → ∀ (j : Nat) (hj : j < ks.length), Pre ks[j] (d + belowZ k j)) (Lv : σ → Prop) (hLv : ∀ s d u, Lv s → Pre u d → (st s d u).2 = true → Lv (st s d u).1) : ∀ (l : List Tm) (s : σ) (k d : Int) (idx : Nat), Lv s → (∀ (j : Nat) (hj : j < l.length), Pre l[j] (d + belowZ k (idx + j : Nat))) → (visL st s k d idx l).2 = true → Lv (visL st s k d idx l).1
  | [], s, k, d, idx, hl, _, _ => by simpa only [visL] using hl
  | t :: ts, s, k, d, idx, hl, hp, h => by
    simp only [visL] at h ⊢
    have h0 : Pre t (d + belowZ k idx) := hp 0 (by simp)
    by_cases hs : (vis st s (d + belowZ k idx) t).2 = true
    · rw [if_pos hs] at h ⊢
      exact visL_live st Pre hP Lv hLv ts _ k d (idx + 1) (vis_live st Pre hP Lv hLv t s _ hl h0 hs) (fun j hj => by
        have := hp (j + 1) (by simpa using hj)
        rw [show idx + (j + 1) = idx + 1 + j by omega] at this
        simpa using this) h
    · rw [if_neg hs] at h; simp at h
end

set_option maxRecDepth 8000 in
set_option maxHeartbeats 8000000 in
theorem visitL_any {σ : Type} (st : σ → Int → Tm → σ × Bool) (y p2 p3 p4 : Nat) (Pre : Tm → Int → Prop) (hP : ∀ k i n ls ks d, Pre (.mk k i n ls ks) d → ∀ (j : Nat) (hj : j < ks.length), Pre ks[j] (d + belowZ k j)) (Lv : σ → Prop) (hLv : ∀ s d u, Lv s → Pre u d → (st s d u).2 = true → Lv (st s d u).1) (N : Nat) :
    ∀ (t : Tm) (s : σ) (d : Int) (B : σ → Heap) (n : Nat), t.size ≤ N → Lv s → Pre t d → 0 ≤ d → d + t.size ≤ 1099511627776 → (∀ s, (B s).length = n) → (∀ s, WF (B s)) →
      (∀ s, (B s)[p2]? = some (some (.cells [yv y])) ∧ (B s)[p3]? = some (some (.cells usesL)) ∧ (B s)[p4]? = some (some (.cells [vf p2 p3 p4]))) →
      (∀ s d u l, Lv s → Pre u d → WF (B s ++ l) → AYield Try.prog y [iA d, u.av] (B s ++ l) (fun o h' => o = .ret (bA (st s d u).2) ∧ h' = B (st s d u).1 ++ l)) →
      ACalls Try.prog 171 ([t.av, iA d] ++ [.ptr p2 0, .ptr p3 0, .ptr p4 0]) (B s) (fun o h' => o = .ret (bA (vis st s d t).2) ∧ h' = B (vis st s d t).1) := by
  induction N with
  | zero => intro t _ _ _ _ hN; have := t.size_pos; omega
  | succ N ih =>
  intro t s d B n hN hls hpre hd0 hd1 hlen hwf hcells HY
  obtain ⟨k, i, nm, ls, ks⟩ := t
  have hp2 := (List.getElem?_eq_some_iff.1 (hcells s).1).1
  have hp3 := (List.getElem?_eq_some_iff.1 (hcells s).2.1).1
  have hp4 := (List.getElem?_eq_some_iff.1 (hcells s).2.2).1
  rw [hlen] at hp2 hp3 hp4
  have c2 : ∀ s (l : List (Option AO)), (B s ++ l)[p2]? = some (some (.cells [yv y])) := fun s l => by rw [List.getElem?_append_left (by rw [hlen]; exact hp2)]; exact (hcells s).1
  have c3 : ∀ s (l : List (Option AO)), (B s ++ l)[p3]? = some (some (.cells usesL)) := fun s l => by rw [List.getElem?_append_left (by rw [hlen]; exact hp3)]; exact (hcells s).2.1
  have c4 : ∀ s (l : List (Option AO)), (B s ++ l)[p4]? = some (some (.cells [vf p2 p3 p4])) := fun s l => by rw [List.getElem?_append_left (by rw [hlen]; exact hp4)]; exact (hcells s).2.2
  have gl : ∀ s (l : List (Option AO)) (k : Nat), (B s ++ l)[n + k]? = l[k]? := fun s l k => get_lastN (hlen s)
  have gl0 : ∀ s (l : List (Option AO)), (B s ++ l)[n]? = l[0]? := fun s l => get_lastN0 (hlen s)
  have sl : ∀ s (l : List (Option AO)) (k : Nat) (o : Option AO), (B s ++ l).set (n + k) o = B s ++ l.set k o := fun s l k o => set_lastN (hlen s)
  have sl0 : ∀ s (l : List (Option AO)) (o : Option AO), (B s ++ l).set n o = B s ++ l.set 0 o := fun s l o => set_lastN0 (hlen s)
  have wfl : ∀ s (l : List (Option AO)), l.all (AO.under (n + l.length)) = true → WF (B s ++ l) := fun s l hl => (hwf s).app (by rw [hlen]; exact hl)
  simp only [Tm.size] at hN hd1
  have hll := length_le_sizes ks
  simp only [List.cons_append, List.nil_append]
  refine ACalls.of_run Try.func171 rfl ?_
  simp only [Try.ntmps171, List.length_cons, List.length_nil, Tm.av, cells_mk, List.map]
  repeat (first | refine Run.seq ?_ | refine Run.block ?_ | refine Run.skip ?_ | refine Run.inBlock ?_ | refine Run.opsNil ?_)
  rw [hlen s]
  repeat (first | refine Run.seq ?_ | refine Run.block ?_ | refine Run.skip ?_ | refine Run.inBlock ?_ | refine Run.opsNil ?_)
  refine Run.reg fun K hK => ?_
  simp [hlen]
  try (simp (disch := omega) only [wrap_id])
  refine hK _ _ _ ?_; clear hK K
  repeat (first | refine Run.seq ?_ | refine Run.block ?_ | refine Run.skip ?_ | refine Run.inBlock ?_ | refine Run.opsNil ?_)
  repeat (first | refine Run.seq ?_ | refine Run.block ?_ | refine Run.skip ?_ | refine Run.inBlock ?_ | refine Run.opsNil ?_)
  refine Run.reg fun K hK => ?_
  simp [gl0, c2]
  try (simp (disch := omega) only [wrap_id])
  refine hK _ _ _ ?_; clear hK K
  repeat (first | refine Run.seq ?_ | refine Run.block ?_ | refine Run.skip ?_ | refine Run.inBlock ?_ | refine Run.opsNil ?_)
  have hy := HY s d (.mk k i nm ls ks) [some (.cells [iA k, iA i, .p (sP nm), .p (.sl 2 (lvPs ls)), .p (.sl 5 (tmPs ks))])] hls hpre (wfl _ _ (by simp))
  obtain ⟨⟨s1, g1⟩, hst⟩ : ∃ r, st s d (.mk k i nm ls ks) = r := ⟨_, rfl⟩
  have hl1 := hLv s d (.mk k i nm ls ks) hls hpre
  rw [hst] at hy hl1
  simp only at hy hl1
  refine Run.yield rfl rfl (by simp) hy ?_ ?_
  rotate_left
  · rintro v h' ⟨hv, _⟩; cases hv
  rintro v h' ⟨hv, rfl⟩
  simp only [AOut.ret.injEq] at hv
  subst hv
  have hvis : vis st s d (.mk k i nm ls ks) = if g1 = true then visL st s1 k d 0 ks else (s1, false) := by simp only [vis, hst]
  cases g1 with
  | false =>
    simp only [Bool.false_eq_true, if_false] at hvis
    refine Run.ops fun K hK => ?_
    simp
    try (simp (disch := omega) only [wrap_id])
    refine hK _ _ _ ?_; clear hK K
    repeat (first | refine Run.seq ?_ | refine Run.block ?_ | refine Run.skip ?_ | refine Run.inBlock ?_ | refine Run.opsNil ?_)
    repeat (first
      | refine Run.seq ?_ | refine Run.block ?_ | refine Run.skip ?_ | refine Run.inBlock ?_ | refine Run.opsNil ?_
      | (refine Run.reg fun K hK => ?_; simp; (try (simp (disch := omega) only [wrap_id])); refine hK _ _ _ ?_; clear hK K)
      | (refine Run.cond (b := true) rfl ?_; simp only [if_true])
      | (refine Run.cond (b := false) rfl ?_; simp only [Bool.false_eq_true, if_false])
      | refine Run.exit rfl ?_ | refine Run.ret ?_)
    exact Fin.ret' (h0 := B s1) (by simp) (hlen s1) (hwf s1) rfl rfl rfl (Weak.refl _) rfl ⟨by rw [hvis]; rfl, by rw [hvis]⟩
  | true =>
    simp only [if_true] at hvis
    rw [hvis]
    refine Run.ops fun K hK => ?_
    simp
    try (simp (disch := omega) only [wrap_id])
    refine hK _ _ _ ?_; clear hK K
    repeat (first | refine Run.seq ?_ | refine Run.block ?_ | refine Run.skip ?_ | refine Run.inBlock ?_ | refine Run.opsNil ?_)
    repeat (first | refine Run.seq ?_ | refine Run.block ?_ | refine Run.skip ?_ | refine Run.inBlock ?_ | refine Run.opsNil ?_)
    refine Run.cond (b := false) (by simp) ?_
    simp only [Bool.false_eq_true, if_false]
    repeat (first | refine Run.seq ?_ | refine Run.block ?_ | refine Run.skip ?_ | refine Run.inBlock ?_ | refine Run.opsNil ?_)
    repeat (first | refine Run.seq ?_ | refine Run.block ?_ | refine Run.skip ?_ | refine Run.inBlock ?_ | refine Run.opsNil ?_)
    refine Run.reg fun K hK => ?_
    simp
    try (simp (disch := omega) only [wrap_id])
    refine hK _ _ _ ?_; clear hK K
    repeat (first | refine Run.seq ?_ | refine Run.block ?_ | refine Run.skip ?_ | refine Run.inBlock ?_ | refine Run.opsNil ?_)
    repeat (first | refine Run.seq ?_ | refine Run.block ?_ | refine Run.skip ?_ | refine Run.inBlock ?_ | refine Run.opsNil ?_)
    refine Run.regJ [1, 2, 3, 4, 5, 8] 24 (decide (0 ≤ k) && decide (k < 13)) (fun K hK => ?_) ?_
    · simp [gl0]
      repeat' (first | apply And.intro | intro _)
      all_goals
        try (simp (disch := omega) only [wrap_id])
        refine hK _ ?_
        simp
        repeat' (first | exact WeakL.nil | apply WeakL.cons)
        all_goals first | exact Weak.junk _ | (refine Weak.bool ?_; clear hK K; rw [Bool.eq_iff_iff]; simp; done) | (refine Weak.bool ?_; clear hK K; rw [Bool.eq_iff_iff]; simp; omega) | (refine Weak.bool ?_; clear hK K; simp_all; done) | (refine Weak.bool ?_; clear hK K; simp [*]; done) | (refine Weak.bool ?_; clear hK K; rw [Bool.eq_iff_iff]; simp [*]; omega) | exact Weak.refl _
    simp only [setMany, keepT, keepT.go, List.contains_cons, List.set_cons_succ, List.set_cons_zero]
    simp
    refine Run.joinA [1, 2, 3, 4, 5] [(8, iA (belowK k))] (fun hJ => ?_) ?_
    · by_cases hk : 0 ≤ k ∧ k < 13
      · have hu := usesL_at k hk.1 hk.2
        have hk0 : ¬ k < 0 := by omega
        repeat (first | refine Run.seq ?_ | refine Run.block ?_ | refine Run.skip ?_ | refine Run.inBlock ?_ | refine Run.opsNil ?_)
        refine Run.cond (b := true) (by simp [hk]) ?_
        simp only [if_true]
        repeat (first | refine Run.skip ?_ | refine Run.opsNil ?_ | refine Run.inBlock ?_)
        repeat (first | refine Run.seq ?_ | refine Run.block ?_ | refine Run.skip ?_ | refine Run.inBlock ?_ | refine Run.opsNil ?_)
        refine Run.reg fun K hK => ?_
        simp [gl0, c3, hk, hk0, hu]
        try (simp (disch := omega) only [wrap_id])
        refine hK _ _ _ ?_; clear hK K
        repeat (first | refine Run.skip ?_ | refine Run.opsNil ?_ | refine Run.inBlock ?_)
        refine hJ _ ?_
        simp
        repeat' (first | exact WeakL.nil | apply WeakL.cons)
        all_goals first | exact Weak.junk _ | exact Weak.refl _ | exact Weak.nil _ | exact Weak.own _ _ _ | exact Weak.int (by omega)
      · have hb : belowK k = -1 := by unfold belowK; split <;> (try split) <;> omega
        have hk2 : (decide (0 ≤ k) && decide (k < 13)) = false := by simp; omega
        refine Run.cond (b := false) (by simp only [aev, tget]; rw [hk2]) ?_
        simp only [Bool.false_eq_true, if_false]
        repeat (first | refine Run.skip ?_ | refine Run.opsNil ?_ | refine Run.inBlock ?_)
        refine hJ _ ?_
        rw [hb]
        simp
        repeat' (first | exact WeakL.nil | apply WeakL.cons)
        all_goals first | exact Weak.junk _ | exact Weak.refl _ | exact Weak.nil _ | exact Weak.own _ _ _ | exact Weak.int (by omega)
    simp only [setMany, keepT, keepT.go, List.contains_cons, List.set_cons_succ, List.set_cons_zero]
    simp
    repeat (first | refine Run.seq ?_ | refine Run.block ?_ | refine Run.skip ?_ | refine Run.inBlock ?_ | refine Run.opsNil ?_)
    refine Run.reg fun K hK => ?_
    simp [gl0]
    try (simp (disch := omega) only [wrap_id])
    refine hK _ _ _ ?_; clear hK K
    repeat (first | refine Run.seq ?_ | refine Run.block ?_ | refine Run.skip ?_ | refine Run.inBlock ?_ | refine Run.opsNil ?_)
    refine Run.loopS (ι := Nat × σ) [1, 2, 3, 4, 5, 8, 31, 32] (fun p => p.1 ≤ ks.length ∧ visL st s1 k d 0 (ks.take p.1) = (p.2, true) ∧ Lv p.2) (fun p => ks.length - p.1) (fun p => [(33, iA p.1)])
      (fun p => B p.2 ++ [some (.cells [iA k, iA i, .p (sP nm), .p (.sl 2 (lvPs ls)), .p (.sl 5 (tmPs ks))])]) (0, s1) ⟨by simp, by simp [visL], hl1 rfl⟩ ?_ (by simp) ?_
    · simp
      repeat' (first | exact WeakL.nil | apply WeakL.cons)
      all_goals first | exact Weak.junk _ | exact Weak.refl _ | exact Weak.nil _ | exact Weak.own _ _ _ | exact Weak.int (by omega)
    rintro ⟨j, sj⟩ ⟨hj, hvj, hlj⟩ IH
    simp only at hj hvj hlj
    simp
    repeat (first | refine Run.seq ?_ | refine Run.block ?_ | refine Run.skip ?_ | refine Run.inBlock ?_ | refine Run.opsNil ?_)
    refine Run.reg fun K hK => ?_
    simp
    try (simp (disch := omega) only [wrap_id])
    refine hK _ _ _ ?_; clear hK K
    repeat (first | refine Run.seq ?_ | refine Run.block ?_ | refine Run.skip ?_ | refine Run.inBlock ?_ | refine Run.opsNil ?_)
    by_cases hjl : j < ks.length
    · have hg : ks[j]? = some ks[j] := List.getElem?_eq_getElem hjl
      have hs := kid_size hjl
      have hpj := hP _ _ _ _ _ _ hpre j hjl
      have hbz := belowZ_01' k j
      have htk : ks.take (j + 1) = ks.take j ++ [ks[j]] := List.take_succ_eq_append_getElem hjl
      have hsn := visL_snoc st k d (ks.take j) s1 0 ks[j]
      rw [hvj, ← htk] at hsn
      simp only [if_true, Nat.zero_add, List.length_take, Nat.min_eq_left hj] at hsn
      have hbk := belowK_eq k j
      have hlv2 := vis_live st Pre hP Lv hLv ks[j] sj (d + belowZ k j) hlj hpj
      have hstop := visL_stop st k d (vis st sj (d + belowZ k j) ks[j]).1 (ks.take (j + 1)) (ks.drop (j + 1)) s1 0
      rw [List.take_append_drop] at hstop
      generalize ks[j] = u at hg hs hpj hsn hstop hlv2
      repeat (first | refine Run.seq ?_ | refine Run.block ?_ | refine Run.skip ?_ | refine Run.inBlock ?_ | refine Run.opsNil ?_)
      refine Run.cond (b := true) (by simp [hjl]) ?_
      simp only [if_true]
      repeat (first | refine Run.seq ?_ | refine Run.block ?_ | refine Run.skip ?_ | refine Run.inBlock ?_ | refine Run.opsNil ?_)
      repeat (first | refine Run.seq ?_ | refine Run.block ?_ | refine Run.skip ?_ | refine Run.inBlock ?_ | refine Run.opsNil ?_)
      refine Run.reg fun K hK => ?_
      simp [hg, hlen]
      try (simp (disch := omega) only [wrap_id])
      refine hK _ _ _ ?_; clear hK K
      repeat (first | refine Run.seq ?_ | refine Run.block ?_ | refine Run.skip ?_ | refine Run.inBlock ?_ | refine Run.opsNil ?_)
      repeat (first | refine Run.seq ?_ | refine Run.block ?_ | refine Run.skip ?_ | refine Run.inBlock ?_ | refine Run.opsNil ?_)
      refine Run.reg fun K hK => ?_
      simp
      try (simp (disch := omega) only [wrap_id])
      refine hK _ _ _ ?_; clear hK K
      repeat (first | refine Run.seq ?_ | refine Run.block ?_ | refine Run.skip ?_ | refine Run.inBlock ?_ | refine Run.opsNil ?_)
      repeat (first | refine Run.seq ?_ | refine Run.block ?_ | refine Run.skip ?_ | refine Run.inBlock ?_ | refine Run.opsNil ?_)
      refine Run.reg fun K hK => ?_
      simp
      try (simp (disch := omega) only [wrap_id])
      refine hK _ _ _ ?_; clear hK K
      repeat (first | refine Run.seq ?_ | refine Run.block ?_ | refine Run.skip ?_ | refine Run.inBlock ?_ | refine Run.opsNil ?_)
      refine Run.joinA [1, 2, 3, 4, 5, 8, 10, 31, 32, 33] [(11, iA (d + belowZ k j))] (fun hJ => ?_) ?_
      · by_cases hb : (j : Int) = belowK k
        · rw [if_pos hb] at hbk
          repeat (first | refine Run.seq ?_ | refine Run.block ?_ | refine Run.skip ?_ | refine Run.inBlock ?_ | refine Run.opsNil ?_)
          refine Run.cond (b := true) (by simp [hb]) ?_
          simp only [if_true]
          repeat (first | refine Run.skip ?_ | refine Run.opsNil ?_ | refine Run.inBlock ?_)
          repeat (first | refine Run.seq ?_ | refine Run.block ?_ | refine Run.skip ?_ | refine Run.inBlock ?_ | refine Run.opsNil ?_)
          refine Run.reg fun K hK => ?_
          simp
          try (simp (disch := omega) only [wrap_id])
          refine hK _ _ _ ?_; clear hK K
          repeat (first | refine Run.skip ?_ | refine Run.opsNil ?_ | refine Run.inBlock ?_)
          refine hJ _ ?_
          rw [hbk]
          simp
          repeat' (first | exact WeakL.nil | apply WeakL.cons)
          all_goals first | exact Weak.junk _ | exact Weak.refl _ | exact Weak.nil _ | exact Weak.own _ _ _ | exact Weak.int (by omega)
        · rw [if_neg hb] at hbk
          repeat (first | refine Run.seq ?_ | refine Run.block ?_ | refine Run.skip ?_ | refine Run.inBlock ?_ | refine Run.opsNil ?_)
          refine Run.cond (b := false) (by simp [hb]) ?_
          simp only [Bool.false_eq_true, if_false]
          repeat (first | refine Run.skip ?_ | refine Run.opsNil ?_ | refine Run.inBlock ?_)
          refine hJ _ ?_
          rw [hbk]
          simp
          repeat' (first | exact WeakL.nil | apply WeakL.cons)
          all_goals first | exact Weak.junk _ | exact Weak.refl _ | exact Weak.nil _ | exact Weak.own _ _ _ | exact Weak.int (by omega)
      simp only [setMany, keepT, keepT.go, List.contains_cons, List.set_cons_succ, List.set_cons_zero]
      simp
      repeat (first | refine Run.seq ?_ | refine Run.block ?_ | refine Run.skip ?_ | refine Run.inBlock ?_ | refine Run.opsNil ?_)
      refine Run.reg fun K hK => ?_
      simp [c4, gl]
      try (simp (disch := omega) only [wrap_id])
      refine hK _ _ _ ?_; clear hK K
      repeat (first | refine Run.seq ?_ | refine Run.block ?_ | refine Run.skip ?_ | refine Run.inBlock ?_ | refine Run.opsNil ?_)
      obtain ⟨L, hL⟩ : ∃ L : List (Option AO), L = [some (.cells [iA k, iA i, .p (sP nm), .p (.sl 2 (lvPs ls)), .p (.sl 5 (tmPs ks))]), some (.cells (u.cells.map .p))] := ⟨_, rfl⟩
      have hLl : L.length = 2 := by rw [hL]; rfl
      have hLu : L.all (AO.under (n + L.length)) = true := by rw [hLl, hL]; simp
      have hcall := ih u sj (d + belowZ k j) (fun s => B s ++ L) (n + 2) (by omega) hlj hpj (by omega) (by omega) (fun s => by rw [List.length_append, hlen, hLl]) (fun s => wfl s L hLu) (fun s => ⟨c2 s L, c3 s L, c4 s L⟩)
        (fun s d u l hls hp hw => by
          have := HY s d u (L ++ l) hls hp (by rw [← List.append_assoc]; exact hw)
          rw [List.append_assoc]
          refine this.mono ?_
          intro o h' hq
          exact ⟨hq.1, by rw [hq.2, List.append_assoc]⟩)
      rw [hL] at hcall
      obtain ⟨⟨s2, g2⟩, hv2⟩ : ∃ r, vis st sj (d + belowZ k j) u = r := ⟨_, rfl⟩
      rw [hv2] at hcall hsn hstop hlv2
      simp only at hcall hstop hlv2
      refine Run.call rfl rfl (by simp) rfl hcall ?_ ?_
      rotate_left
      · rintro v h' ⟨hv, _⟩; cases hv
      rintro v h' ⟨hv, rfl⟩
      simp only [AOut.ret.injEq] at hv
      subst hv
      cases g2 with
      | false =>
        have hs3 := hstop hsn
        refine Run.ops fun K hK => ?_
        simp
        try (simp (disch := omega) only [wrap_id])
        refine hK _ _ _ ?_; clear hK K
        repeat (first | refine Run.seq ?_ | refine Run.block ?_ | refine Run.skip ?_ | refine Run.inBlock ?_ | refine Run.opsNil ?_)
        repeat (first
          | refine Run.seq ?_ | refine Run.block ?_ | refine Run.skip ?_ | refine Run.inBlock ?_ | refine Run.opsNil ?_
          | (refine Run.reg fun K hK => ?_; simp; (try (simp (disch := omega) only [wrap_id])); refine hK _ _ _ ?_; clear hK K)
          | (refine Run.cond (b := true) rfl ?_; simp only [if_true])
          | (refine Run.cond (b := false) rfl ?_; simp only [Bool.false_eq_true, if_false])
          | refine Run.exit rfl ?_ | refine Run.ret ?_)
        exact Fin.ret' (h0 := B s2) (by simp) (hlen s2) (hwf s2) rfl rfl rfl (Weak.refl _) rfl ⟨by rw [hs3]; rfl, by rw [hs3]⟩
      | true =>
        refine Run.ops fun K hK => ?_
        simp
        try (simp (disch := omega) only [wrap_id])
        refine hK _ _ _ ?_; clear hK K
        repeat (first | refine Run.seq ?_ | refine Run.block ?_ | refine Run.skip ?_ | refine Run.inBlock ?_ | refine Run.opsNil ?_)
        repeat (first | refine Run.seq ?_ | refine Run.block ?_ | refine Run.skip ?_ | refine Run.inBlock ?_ | refine Run.opsNil ?_)
        refine Run.cond (b := false) (by simp) ?_
        simp only [Bool.false_eq_true, if_false]
        repeat (first | refine Run.seq ?_ | refine Run.block ?_ | refine Run.skip ?_ | refine Run.inBlock ?_ | refine Run.opsNil ?_)
        repeat (first | refine Run.seq ?_ | refine Run.block ?_ | refine Run.skip ?_ | refine Run.inBlock ?_ | refine Run.opsNil ?_)
        refine Run.reg fun K hK => ?_
        simp
        try (simp (disch := omega) only [wrap_id])
        refine hK _ _ _ ?_; clear hK K
        repeat (first | refine Run.seq ?_ | refine Run.block ?_ | refine Run.skip ?_ | refine Run.inBlock ?_ | refine Run.opsNil ?_)
        refine Run.keep [1, 2, 3, 4, 5, 8, 31, 32, 33] ?_
        simp
        refine Run.cutAt 1 (hwf s2) rfl (by rw [hlen]; omega) (by simp) (by simp [hlen]; omega) (by simp) rfl ?_
        refine IH (j + 1, s2) _ _ ⟨by simp only; omega, hsn, hlv2 rfl⟩ (by simp only; omega) ?_ (by simp)
        simp
        repeat' (first | exact WeakL.nil | apply WeakL.cons)
        all_goals first | exact Weak.junk _ | exact Weak.refl _ | exact Weak.nil _ | exact Weak.own _ _ _ | exact Weak.int (by omega)
    · have hje : j = ks.length := by omega
      subst hje
      rw [List.take_length] at hvj
      repeat (first | refine Run.seq ?_ | refine Run.block ?_ | refine Run.skip ?_ | refine Run.inBlock ?_ | refine Run.opsNil ?_)
      refine Run.cond (b := false) (by simp) ?_
      simp only [Bool.false_eq_true, if_false]
      repeat (first | refine Run.seq ?_ | refine Run.block ?_ | refine Run.skip ?_ | refine Run.inBlock ?_ | refine Run.opsNil ?_)
      repeat (first | refine Run.seq ?_ | refine Run.block ?_ | refine Run.skip ?_ | refine Run.inBlock ?_ | refine Run.opsNil ?_)
      refine Run.exit rfl ?_
      repeat (first | refine Run.seq ?_ | refine Run.block ?_ | refine Run.skip ?_ | refine Run.inBlock ?_ | refine Run.opsNil ?_)
      repeat (first
        | refine Run.seq ?_ | refine Run.block ?_ | refine Run.skip ?_ | refine Run.inBlock ?_ | refine Run.opsNil ?_
        | (refine Run.reg fun K hK => ?_; simp; (try (simp (disch := omega) only [wrap_id])); refine hK _ _ _ ?_; clear hK K)
        | (refine Run.cond (b := true) rfl ?_; simp only [if_true])
        | (refine Run.cond (b := false) rfl ?_; simp only [Bool.false_eq_true, if_false])
        | refine Run.exit rfl ?_ | refine Run.ret ?_)
      exact Fin.ret' (h0 := B sj) (by simp) (hlen sj) (hwf sj) rfl rfl rfl (Weak.refl _) rfl ⟨by rw [hvj]; rfl, by rw [hvj]⟩

set_option maxRecDepth 8000 in
set_option maxHeartbeats 8000000 in
theorem iterL_any {σ : Type} (st : σ → Int → Tm → σ × Bool) (y q : Nat) (Pre : Tm → Int → Prop) (hP : ∀ k i n ls ks d, Pre (.mk k i n ls ks) d → ∀ (j : Nat) (hj : j < ks.length), Pre ks[j] (d + belowZ k j)) (Lv : σ → Prop) (hLv : ∀ s d u, Lv s → Pre u d → (st s d u).2 = true → Lv (st s d u).1)
    (t : Tm) (s : σ) (B : σ → Heap) (n : Nat) (hls : Lv s) (hpre : Pre t 0) (hsz : t.size ≤ 1099511627776) (hlen : ∀ s, (B s).length = n) (hwf : ∀ s, WF (B s)) (hq : ∀ s, (B s)[q]? = some (some (.cells (t.cells.map .p))))
    (HY : ∀ s d u l, Lv s → Pre u d → WF (B s ++ l) → AYield Try.prog y [iA d, u.av] (B s ++ l) (fun o h' => o = .ret (bA (st s d u).2) ∧ h' = B (st s d u).1 ++ l)) :
    ACalls Try.prog 169 [yv y, .ptr q 0] (B s) (fun o h' => o = .ret (.tup []) ∧ h' = B (vis st s 0 t).1) := by
  have hqlt := (List.getElem?_eq_some_iff.1 (hq s)).1
  rw [hlen] at hqlt
  have cq : ∀ s (l : List (Option AO)), (B s ++ l)[q]? = some (some (.cells (t.cells.map .p))) := fun s l => by rw [List.getElem?_append_left (by rw [hlen]; exact hqlt)]; exact hq s
  have gl : ∀ s (l : List (Option AO)) (k : Nat), (B s ++ l)[n + k]? = l[k]? := fun s l k => get_lastN (hlen s)
  have gl0 : ∀ s (l : List (Option AO)), (B s ++ l)[n]? = l[0]? := fun s l => get_lastN0 (hlen s)
  have sl : ∀ s (l : List (Option AO)) (k : Nat) (o : Option AO), (B s ++ l).set (n + k) o = B s ++ l.set k o := fun s l k o => set_lastN (hlen s)
  have wfl : ∀ s (l : List (Option AO)), l.all (AO.under (n + l.length)) = true → WF (B s ++ l) := fun s l hl => (hwf s).app (by rw [hlen]; exact hl)
  obtain ⟨L, hL⟩ : ∃ L : List (Option AO), L = [some (.cells [yv y]), some (.cells usesL), some (.cells [vf n (n + 1) (n + 2)])] := ⟨_, rfl⟩
  have hLl : L.length = 3 := by rw [hL]; rfl
  have hLu : L.all (AO.under (n + L.length)) = true := by rw [hLl, hL]; simp [usesL_under]
  have hv := visitL_any st y n (n + 1) (n + 2) Pre hP Lv hLv t.size t s 0 (fun s => B s ++ L) (n + 3) (Nat.le_refl _) hls hpre (by omega) (by omega) (fun s => by rw [List.length_append, hlen, hLl]) (fun s => wfl s L hLu)
    (fun s => by rw [hL]; exact ⟨by rw [gl0]; rfl, by rw [gl]; rfl, by rw [gl]; rfl⟩)
    (fun s d u l hls hp hw => by
      have := HY s d u (L ++ l) hls hp (by rw [← List.append_assoc]; exact hw)
      rw [List.append_assoc]
      refine this.mono ?_
      intro o h' hq
      exact ⟨hq.1, by rw [hq.2, List.append_assoc]⟩)
  rw [hL] at hv
  have hu := uses_any (B s ++ [some (.cells [yv y])]) (wfl s _ (by simp))
  refine ACalls.of_run Try.func169 rfl ?_
  simp only [Try.ntmps169, List.length_cons, List.length_nil]
  repeat (first | refine Run.seq ?_ | refine Run.block ?_ | refine Run.skip ?_ | refine Run.inBlock ?_ | refine Run.opsNil ?_)
  repeat (first | refine Run.seq ?_ | refine Run.block ?_ | refine Run.skip ?_ | refine Run.inBlock ?_ | refine Run.opsNil ?_)
  refine Run.reg fun K hK => ?_
  simp [hlen]
  try (simp (disch := omega) only [wrap_id])
  refine hK _ _ _ ?_; clear hK K
  repeat (first | refine Run.seq ?_ | refine Run.block ?_ | refine Run.skip ?_ | refine Run.inBlock ?_ | refine Run.opsNil ?_)
  repeat (first | refine Run.seq ?_ | refine Run.block ?_ | refine Run.skip ?_ | refine Run.inBlock ?_ | refine Run.opsNil ?_)
  refine Run.reg fun K hK => ?_
  simp
  try (simp (disch := omega) only [wrap_id])
  refine hK _ _ _ ?_; clear hK K
  repeat (first | refine Run.seq ?_ | refine Run.block ?_ | refine Run.skip ?_ | refine Run.inBlock ?_ | refine Run.opsNil ?_)
  refine Run.call rfl rfl (by simp) rfl hu ?_ ?_
  rotate_left
  · rintro v h' ⟨hv, _⟩; cases hv
  rintro v h' ⟨hv', rfl⟩
  simp only [AOut.ret.injEq] at hv'
  subst hv'
  have hone : usesL.all oneA = true := rfl
  have hone' : ∀ x ∈ usesL, oneA x = true := by rw [List.all_eq_true] at hone; exact hone
  refine Run.ops fun K hK => ?_
  simp [hlen, sl, usesL_len]
  try (simp (disch := omega) only [wrap_id])
  refine hK _ _ _ ?_; clear hK K
  repeat (first | refine Run.seq ?_ | refine Run.block ?_ | refine Run.skip ?_ | refine Run.inBlock ?_ | refine Run.opsNil ?_)
  repeat (first | refine Run.seq ?_ | refine Run.block ?_ | refine Run.skip ?_ | refine Run.inBlock ?_ | refine Run.opsNil ?_)
  refine Run.reg fun K hK => ?_
  simp [hlen]
  try (simp (disch := omega) only [wrap_id])
  refine hK _ _ _ ?_; clear hK K
  repeat (first | refine Run.seq ?_ | refine Run.block ?_ | refine Run.skip ?_ | refine Run.inBlock ?_ | refine Run.opsNil ?_)
  repeat (first | refine Run.seq ?_ | refine Run.block ?_ | refine Run.skip ?_ | refine Run.inBlock ?_ | refine Run.opsNil ?_)
  refine Run.reg fun K hK => ?_
  simp [hlen, sl]
  try (simp (disch := omega) only [wrap_id])
  refine hK _ _ _ ?_; clear hK K
  repeat (first | refine Run.seq ?_ | refine Run.block ?_ | refine Run.skip ?_ | refine Run.inBlock ?_ | refine Run.opsNil ?_)
  repeat (first | refine Run.seq ?_ | refine Run.block ?_ | refine Run.skip ?_ | refine Run.inBlock ?_ | refine Run.opsNil ?_)
  refine Run.reg fun K hK => ?_
  simp [hlen, cq]
  try (simp (disch := omega) only [wrap_id])
  refine hK _ _ _ ?_; clear hK K
  repeat (first | refine Run.seq ?_ | refine Run.block ?_ | refine Run.skip ?_ | refine Run.inBlock ?_ | refine Run.opsNil ?_)
  obtain ⟨k, i, nm, ls, ks⟩ := t
  refine Run.call rfl rfl (by simp) rfl hv ?_ ?_
  rotate_left
  · rintro v h' ⟨hv, _⟩; cases hv
  rintro v h' ⟨hv', rfl⟩
  simp only [AOut.ret.injEq] at hv'
  subst hv'
  refine Run.ops fun K hK => ?_
  simp
  try (simp (disch := omega) only [wrap_id])
  refine hK _ _ _ ?_; clear hK K
  repeat (first | refine Run.seq ?_ | refine Run.block ?_ | refine Run.skip ?_ | refine Run.inBlock ?_ | refine Run.opsNil ?_)
  refine Run.nil ?_
  exact Fin.ret' (h0 := B (vis st s 0 (Tm.mk k i nm ls ks)).1) (by simp) (by rw [hlen, hlen]) (hwf _) rfl rfl rfl (Weak.refl _) rfl ⟨rfl, rfl⟩

end Go.Proofs.Ytppgpabjcenjdaa
