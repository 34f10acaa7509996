import Derived.Test.YtcfcolkbeelegaaGreatOE1
import Derived.Test.YtcfcolkbeelegaaGreatOG1
set_option maxRecDepth 8000
set_option maxHeartbeats 8000000

namespace Go.AI

open Go
theorem Run.rangeG {P : Program} {nb : Nat} {k : List It} {T : List AV} {h : Heap} {D : List AD} {Q : AX → List AV → Heap → List AD → Prop} {g : Operand} {ps : Array Tmp} {ag bd : Code} {gf : FuncId} {cap : List AV} (hg : aev T g = .fn (.func gf) [] cap) (he : enterable P gf = true)
  (r : ∀ l Tl ag' bd', Tl = T → ag' = ag → bd' = bd → ∃ R : AOut → Heap → Prop, ACalls P gf (.fn (.yield l) [] [] :: cap) (h ++ [some (.aux .dblk), some (.aux (.loop l .ready none Tl ps ag' bd'))]) R ∧
   ∀ o h', R o h' → ∃ v st j, o = .ret v ∧ h'.at (h.length + 1) = some (.aux (.loop l st j Tl ps ag' bd')) ∧ st ≠ .busy ∧
    Run P none nb (match j with | none => k | some c => .code c :: k) T (h'.set (h.length + 1) (some (.aux (.loop l .exhausted j Tl ps ag' bd')))) ((.yield h.length, [], []) :: D) Q) :
  Run P none nb (.code (.rangeFunc g ps ag bd) :: k) T h D Q := Run.range hg he fun l => r l T ag bd rfl rfl rfl
theorem Run.codeEq {P : Program} {rd : Option Nat} {nb : Nat} {k : List It} {T : List AV} {h : Heap} {D : List AD} {Q : AX → List AV → Heap → List AD → Prop} {c c' : Code} (e : c' = c) (r : Run P rd nb (.code c :: k) T h D Q) : Run P rd nb (.code c' :: k) T h D Q := e ▸ r
theorem Run.tEq {P : Program} {rd : Option Nat} {nb : Nat} {k : List It} {T T' : List AV} {h : Heap} {D : List AD} {Q : AX → List AV → Heap → List AD → Prop} (e : T = T') (r : Run P rd nb k T' h D Q) : Run P rd nb k T h D Q := e ▸ r

end Go.AI

namespace Go.Proofs.YtcfcolkbeelegaaGreat

open Go Go.AI

mutual
theorem vis_live {σ : Type} (st : σ → Int → Tm → σ × Bool) (Pre : Tm → Int → Prop) (hP : ∀ k i n ls ks d, Pre (.mk k i n ls ks) d → ∀ (j : Nat) (hj : j < ks.length), Pre ks[j] (d + belowZ k j)) (Lv : σ → Prop) (hLv : ∀ s d u, Lv s → Pre u d → (st s d u).2 = true → Lv (st s d u).1) : ∀ (t : Tm) (s : σ) (d : Int), Lv s → Pre t d → (vis st s d t).2 = true → Lv (vis st s d t).1
 | .mk k i n ls ks, s, d, hl, hp, h => by
  simp only [vis] at h ⊢
  by_cases hs : (st s d (.mk k i n ls ks)).2 = true
  ·rw [if_pos hs] at h ⊢
   exact visL_live st Pre hP Lv hLv ks _ k d 0 (hLv s d _ hl hp hs) (fun j hj => by simpa using hP _ _ _ _ _ _ hp j hj) h
  ·rw [if_neg hs] at h; simp at h
theorem visL_live {σ : Type} (st : σ → Int → Tm → σ × Bool) (Pre : Tm → Int → Prop) (hP : ∀ k i n ls ks d, Pre (.mk k i n ls ks) d → ∀ (j : Nat) (hj : j < ks.length), Pre ks[j] (d + belowZ k j)) (Lv : σ → Prop) (hLv : ∀ s d u, Lv s → Pre u d → (st s d u).2 = true → Lv (st s d u).1) : ∀ (l : List Tm) (s : σ) (k d : Int) (idx : Nat), Lv s → (∀ (j : Nat) (hj : j < l.length), Pre l[j] (d + belowZ k (idx + j : Nat))) → (visL st s k d idx l).2 = true → Lv (visL st s k d idx l).1
 | [], s, k, d, idx, hl, _, _ => by simpa only [visL] using hl
 | t :: ts, s, k, d, idx, hl, hp, h => by
  simp only [visL] at h ⊢
  have h0 : Pre t (d + belowZ k idx) := hp 0 (by simp)
  by_cases hs : (vis st s (d + belowZ k idx) t).2 = true
  ·rw [if_pos hs] at h ⊢
   exact visL_live st Pre hP Lv hLv ts _ k d (idx + 1) (vis_live st Pre hP Lv hLv t s _ hl h0 hs) (fun j hj => by
    have := hp (j + 1) (by simpa using hj)
    rw [show idx + (j + 1) = idx + 1 + j by omega] at this
    simpa using this) h
  ·rw [if_neg hs] at h; simp at h
end
theorem visitL_any {σ : Type} (st : σ → Int → Tm → σ × Bool) (y p2 p3 p4 : Nat) (Pre : Tm → Int → Prop) (hP : ∀ k i n ls ks d, Pre (.mk k i n ls ks) d → ∀ (j : Nat) (hj : j < ks.length), Pre ks[j] (d + belowZ k j)) (Lv : σ → Prop) (hLv : ∀ s d u, Lv s → Pre u d → (st s d u).2 = true → Lv (st s d u).1) (N : Nat) :
  ∀ (t : Tm) (s : σ) (d : Int) (B : σ → Heap) (n : Nat), t.size ≤ N → Lv s → Pre t d → 0 ≤ d → d + t.size ≤ 1099511627776 → (∀ s, (B s).length = n) → (∀ s, WF (B s)) →
   (∀ s, (B s)[p2]? = some (some (.cells [yv y])) ∧ (B s)[p3]? = some (some (.cells usesL)) ∧ (B s)[p4]? = some (some (.cells [vf p2 p3 p4]))) →
   (∀ s d u l, Lv s → Pre u d → WF (B s ++ l) → AYield Tryz.prog y [iA d, u.av] (B s ++ l) (fun o h' => o = .ret (bA (st s d u).2) ∧ h' = B (st s d u).1 ++ l)) →
   ACalls Tryz.prog 186 ([t.av, iA d] ++ [.ptr p2 0, .ptr p3 0, .ptr p4 0]) (B s) (fun o h' => o = .ret (bA (vis st s d t).2) ∧ h' = B (vis st s d t).1) := by
 induction N with
 | zero => intro t _ _ _ _ hN; have := t.size_pos; omega
 | succ N ih =>
 intro t s d B n hN hls hpre hd0 hd1 hlen hwf hcells HY
 obtain ⟨k, i, nm, ls, ks⟩ := t
 have hp2 := (List.getElem?_eq_some_iff.1 (hcells s).1).1
 have hp3 := (List.getElem?_eq_some_iff.1 (hcells s).2.1).1
 have hp4 := (List.getElem?_eq_some_iff.1 (hcells s).2.2).1
 rw [hlen] at hp2 hp3 hp4
 have c2 : ∀ s (l : List (Option AO)), (B s ++ l)[p2]? = some (some (.cells [yv y])) := fun s l => by rw [List.getElem?_append_left (by rw [hlen]; exact hp2)]; exact (hcells s).1
 have c3 : ∀ s (l : List (Option AO)), (B s ++ l)[p3]? = some (some (.cells usesL)) := fun s l => by rw [List.getElem?_append_left (by rw [hlen]; exact hp3)]; exact (hcells s).2.1
 have c4 : ∀ s (l : List (Option AO)), (B s ++ l)[p4]? = some (some (.cells [vf p2 p3 p4])) := fun s l => by rw [List.getElem?_append_left (by rw [hlen]; exact hp4)]; exact (hcells s).2.2
 have gl : ∀ s (l : List (Option AO)) (k : Nat), (B s ++ l)[n + k]? = l[k]? := fun s l k => get_lastN (hlen s)
 have gl0 : ∀ s (l : List (Option AO)), (B s ++ l)[n]? = l[0]? := fun s l => get_lastN0 (hlen s)
 have sl : ∀ s (l : List (Option AO)) (k : Nat) (o : Option AO), (B s ++ l).set (n + k) o = B s ++ l.set k o := fun s l k o => set_lastN (hlen s)
 have sl0 : ∀ s (l : List (Option AO)) (o : Option AO), (B s ++ l).set n o = B s ++ l.set 0 o := fun s l o => set_lastN0 (hlen s)
 have wfl : ∀ s (l : List (Option AO)), l.all (AO.under (n + l.length)) = true → WF (B s ++ l) := fun s l hl => (hwf s).app (by rw [hlen]; exact hl)
 simp only [Tm.size] at hN hd1
 have hll := length_le_sizes ks
 simp only [List.cons_append, List.nil_append]
 refine ACalls.of_run Tryz.func186 rfl ?_
 simp only [Tryz.ntmps186, List.length_cons, List.length_nil, Tm.av, cells_mk, List.map]
 refine nv ?_
 rw [hlen s]
 refine Run.reg fun K hK => ?_
 simp [hlen]
 refine hK _ _ _ (nv ?_); clear hK
 refine Run.reg fun K hK => ?_
 simp [gl0, c2]
 refine hK _ _ _ ?_; clear hK
 have hy := HY s d (.mk k i nm ls ks) [some (.cells [iA k, iA i, .p (sP nm), .p (.sl 2 (lvPs ls)), .p (.sl 5 (tmPs ks))])] hls hpre (wfl _ _ (by simp))
 obtain ⟨⟨s1, g1⟩, hst⟩ : ∃ r, st s d (.mk k i nm ls ks) = r := ⟨_, rfl⟩
 have hl1 := hLv s d (.mk k i nm ls ks) hls hpre
 rw [hst] at hy hl1
 simp only at hy hl1
 refine Run.yield rfl rfl (by simp) hy ?_ ?_
 rotate_left
 ·rintro v h' ⟨hv, _⟩; cases hv
 rintro v h' ⟨hv, rfl⟩
 simp only [AOut.ret.injEq] at hv
 subst hv
 have hvis : vis st s d (.mk k i nm ls ks) = if g1 = true then visL st s1 k d 0 ks else (s1, false) := by simp only [vis, hst]
 cases g1 with
 | false =>
  simp only [Bool.false_eq_true, if_false] at hvis
  refine Run.ops fun K hK => ?_
  simp
  refine hK _ _ _ (nv ?_); clear hK
  repeat (first | refine nw ?_ | (refine Run.reg fun K hK => ?_; simp; (try (simp (disch := omega) only [wrap_id])); refine hK _ _ _ ?_; clear hK) | refine ct rfl ?_ | refine cf rfl ?_ | refine Run.exit rfl ?_ | refine Run.ret ?_)
  exact Fin.ret' (h0 := B s1) (by simp) (hlen s1) (hwf s1) rfl rfl rfl (Weak.refl _) rfl ⟨by rw [hvis]; rfl, by rw [hvis]⟩
 | true =>
  simp only [if_true] at hvis
  rw [hvis]
  refine Run.ops fun K hK => ?_
  simp
  refine hK _ _ _ (nv ?_); clear hK
  refine cf (by simp) (nv ?_)
  refine Run.reg fun K hK => ?_
  simp
  refine hK _ _ _ (nv ?_); clear hK
  refine Run.regJ [1, 2, 3, 4, 5, 8] 24 (decide (0 ≤ k) && decide (k < 13)) (fun K hK => ?_) ?_
  ·simp [gl0]
   repeat' (first | apply And.intro | intro _)
   all_goals
    refine hK _ ?_
    simp
    repeat' first | exact wn | apply wc
    all_goals first | exact Weak.junk _ | (refine Weak.bool ?_; clear hK; rw [Bool.eq_iff_iff]; simp; done) | (refine Weak.bool ?_; clear hK; rw [Bool.eq_iff_iff]; simp; omega) | (refine Weak.bool ?_; clear hK; simp_all; done) | (refine Weak.bool ?_; clear hK; simp [*]; done) | (refine Weak.bool ?_; clear hK; rw [Bool.eq_iff_iff]; simp [*]; omega) | exact Weak.refl _
  simp only [setMany, keepT, keepT.go, List.contains_cons, List.set_cons_succ, List.set_cons_zero]
  simp
  refine Run.joinA [1, 2, 3, 4, 5] [(8, iA (belowK k))] (fun hJ => ?_) ?_
  ·by_cases hk : 0 ≤ k ∧ k < 13
   ·have hu := usesL_at k hk.1 hk.2
    have hk0 : ¬ k < 0 := by omega
    refine ct (by simp [hk]) ?_
    repeat (first | refine Run.skip ?_ | refine Run.opsNil ?_ | refine Run.inBlock ?_)
    refine Run.reg fun K hK => ?_
    simp [gl0, c3, hk, hk0, hu]
    refine hK _ _ _ ?_; clear hK
    repeat (first | refine Run.skip ?_ | refine Run.opsNil ?_ | refine Run.inBlock ?_)
    refine hJ _ ?_
    simp
    repeat' first | exact wn | apply wc | exact wj _ | exact wr _ | exact wz _ | exact wo _ _ _ | exact wi (by omega)
   ·have hb : belowK k = -1 := by unfold belowK; split <;> (try split) <;> omega
    have hk2 : (decide (0 ≤ k) && decide (k < 13)) = false := by simp; omega
    refine cf (by simp only [aev, tget]; rw [hk2]) ?_
    repeat (first | refine Run.skip ?_ | refine Run.opsNil ?_ | refine Run.inBlock ?_)
    refine hJ _ ?_
    rw [hb]
    simp
    repeat' first | exact wn | apply wc | exact wj _ | exact wr _ | exact wz _ | exact wo _ _ _ | exact wi (by omega)
  simp only [setMany, keepT, keepT.go, List.contains_cons, List.set_cons_succ, List.set_cons_zero]
  simp
  refine nv ?_
  refine Run.reg fun K hK => ?_
  simp [gl0]
  refine hK _ _ _ (nv ?_); clear hK
  refine Run.loopS (ι := Nat × σ) [1, 2, 3, 4, 5, 8, 31, 32] (fun p => p.1 ≤ ks.length ∧ visL st s1 k d 0 (ks.take p.1) = (p.2, true) ∧ Lv p.2) (fun p => ks.length - p.1) (fun p => [(33, iA p.1)])
   (fun p => B p.2 ++ [some (.cells [iA k, iA i, .p (sP nm), .p (.sl 2 (lvPs ls)), .p (.sl 5 (tmPs ks))])]) (0, s1) ⟨by simp, by simp [visL], hl1 rfl⟩ ?_ (by simp) ?_
  ·simp
   repeat' first | exact wn | apply wc | exact wj _ | exact wr _ | exact wz _ | exact wo _ _ _ | exact wi (by omega)
  rintro ⟨j, sj⟩ ⟨hj, hvj, hlj⟩ IH
  simp only at hj hvj hlj
  simp
  refine nv ?_
  refine Run.reg fun K hK => ?_
  simp
  refine hK _ _ _ (nv ?_); clear hK
  by_cases hjl : j < ks.length
  ·have hg : ks[j]? = some ks[j] := List.getElem?_eq_getElem hjl
   have hs := kid_size hjl
   have hpj := hP _ _ _ _ _ _ hpre j hjl
   have hbz := belowZ_01' k j
   have htk : ks.take (j + 1) = ks.take j ++ [ks[j]] := List.take_succ_eq_append_getElem hjl
   have hsn := visL_snoc st k d (ks.take j) s1 0 ks[j]
   rw [hvj, ← htk] at hsn
   simp only [if_true, Nat.zero_add, List.length_take, Nat.min_eq_left hj] at hsn
   have hbk := belowK_eq k j
   have hlv2 := vis_live st Pre hP Lv hLv ks[j] sj (d + belowZ k j) hlj hpj
   have hstop := visL_stop st k d (vis st sj (d + belowZ k j) ks[j]).1 (ks.take (j + 1)) (ks.drop (j + 1)) s1 0
   rw [List.take_append_drop] at hstop
   generalize ks[j] = u at hg hs hpj hsn hstop hlv2
   refine ct (by simp [hjl]) (nv ?_)
   refine Run.reg fun K hK => ?_
   simp [hg, hlen]
   refine hK _ _ _ (nv ?_); clear hK
   refine Run.reg fun K hK => ?_
   simp
   refine hK _ _ _ (nv ?_); clear hK
   refine Run.reg fun K hK => ?_
   simp
   refine hK _ _ _ (nv ?_); clear hK
   refine Run.joinA [1, 2, 3, 4, 5, 8, 10, 31, 32, 33] [(11, iA (d + belowZ k j))] (fun hJ => ?_) ?_
   ·by_cases hb : (j : Int) = belowK k
    ·rw [if_pos hb] at hbk
     refine ct (by simp [hb]) ?_
     repeat (first | refine Run.skip ?_ | refine Run.opsNil ?_ | refine Run.inBlock ?_)
     refine Run.reg fun K hK => ?_
     simp
     try (simp (disch := omega) only [wrap_id])
     refine hK _ _ _ ?_; clear hK
     repeat (first | refine Run.skip ?_ | refine Run.opsNil ?_ | refine Run.inBlock ?_)
     refine hJ _ ?_
     rw [hbk]
     simp
     repeat' first | exact wn | apply wc | exact wj _ | exact wr _ | exact wz _ | exact wo _ _ _ | exact wi (by omega)
    ·rw [if_neg hb] at hbk
     refine cf (by simp [hb]) ?_
     repeat (first | refine Run.skip ?_ | refine Run.opsNil ?_ | refine Run.inBlock ?_)
     refine hJ _ ?_
     rw [hbk]
     simp
     repeat' first | exact wn | apply wc | exact wj _ | exact wr _ | exact wz _ | exact wo _ _ _ | exact wi (by omega)
   simp only [setMany, keepT, keepT.go, List.contains_cons, List.set_cons_succ, List.set_cons_zero]
   simp
   refine nv ?_
   refine Run.reg fun K hK => ?_
   simp [c4, gl]
   refine hK _ _ _ ?_; clear hK
   obtain ⟨L, hL⟩ : ∃ L : List (Option AO), L = [some (.cells [iA k, iA i, .p (sP nm), .p (.sl 2 (lvPs ls)), .p (.sl 5 (tmPs ks))]), some (.cells (u.cells.map .p))] := ⟨_, rfl⟩
   have hLl : L.length = 2 := by rw [hL]; rfl
   have hLu : L.all (AO.under (n + L.length)) = true := by rw [hLl, hL]; simp
   have hcall := ih u sj (d + belowZ k j) (fun s => B s ++ L) (n + 2) (by omega) hlj hpj (by omega) (by omega) (fun s => by rw [List.length_append, hlen, hLl]) (fun s => wfl s L hLu) (fun s => ⟨c2 s L, c3 s L, c4 s L⟩)
    (fun s d u l hls hp hw => by
     have := HY s d u (L ++ l) hls hp (by rw [← List.append_assoc]; exact hw)
     rw [List.append_assoc]
     refine this.mono ?_
     intro o h' hq
     exact ⟨hq.1, by rw [hq.2, List.append_assoc]⟩)
   rw [hL] at hcall
   obtain ⟨⟨s2, g2⟩, hv2⟩ : ∃ r, vis st sj (d + belowZ k j) u = r := ⟨_, rfl⟩
   rw [hv2] at hcall hsn hstop hlv2
   simp only at hcall hstop hlv2
   refine Run.call rfl rfl (by simp) rfl hcall ?_ ?_
   rotate_left
   ·rintro v h' ⟨hv, _⟩; cases hv
   rintro v h' ⟨hv, rfl⟩
   simp only [AOut.ret.injEq] at hv
   subst hv
   cases g2 with
   | false =>
    have hs3 := hstop hsn
    refine Run.ops fun K hK => ?_
    simp
    refine hK _ _ _ (nv ?_); clear hK
    repeat (first | refine nw ?_ | (refine Run.reg fun K hK => ?_; simp; (try (simp (disch := omega) only [wrap_id])); refine hK _ _ _ ?_; clear hK) | refine ct rfl ?_ | refine cf rfl ?_ | refine Run.exit rfl ?_ | refine Run.ret ?_)
    exact Fin.ret' (h0 := B s2) (by simp) (hlen s2) (hwf s2) rfl rfl rfl (Weak.refl _) rfl ⟨by rw [hs3]; rfl, by rw [hs3]⟩
   | true =>
    refine Run.ops fun K hK => ?_
    simp
    refine hK _ _ _ (nv ?_); clear hK
    refine cf (by simp) (nv ?_)
    refine Run.reg fun K hK => ?_
    simp
    try (simp (disch := omega) only [wrap_id])
    refine hK _ _ _ (nv ?_); clear hK
    refine Run.keep [1, 2, 3, 4, 5, 8, 31, 32, 33] ?_
    simp
    refine Run.cutAt 1 (hwf s2) rfl (by rw [hlen]; omega) (by simp) (by simp [hlen]; omega) (by simp) rfl ?_
    refine IH (j + 1, s2) _ _ ⟨by simp only; omega, hsn, hlv2 rfl⟩ (by simp only; omega) ?_ (by simp)
    simp
    repeat' first | exact wn | apply wc | exact wj _ | exact wr _ | exact wz _ | exact wo _ _ _ | exact wi (by omega)
  ·have hje : j = ks.length := by omega
   subst hje
   rw [List.take_length] at hvj
   refine cf (by simp) ?_
   refine Run.exit rfl ?_
   refine nv ?_
   repeat (first | refine nw ?_ | (refine Run.reg fun K hK => ?_; simp; (try (simp (disch := omega) only [wrap_id])); refine hK _ _ _ ?_; clear hK) | refine ct rfl ?_ | refine cf rfl ?_ | refine Run.exit rfl ?_ | refine Run.ret ?_)
   exact Fin.ret' (h0 := B sj) (by simp) (hlen sj) (hwf sj) rfl rfl rfl (Weak.refl _) rfl ⟨by rw [hvj]; rfl, by rw [hvj]⟩
theorem iterL_any {σ : Type} (st : σ → Int → Tm → σ × Bool) (y q : Nat) (Pre : Tm → Int → Prop) (hP : ∀ k i n ls ks d, Pre (.mk k i n ls ks) d → ∀ (j : Nat) (hj : j < ks.length), Pre ks[j] (d + belowZ k j)) (Lv : σ → Prop) (hLv : ∀ s d u, Lv s → Pre u d → (st s d u).2 = true → Lv (st s d u).1)
  (t : Tm) (s : σ) (B : σ → Heap) (n : Nat) (hls : Lv s) (hpre : Pre t 0) (hsz : t.size ≤ 1099511627776) (hlen : ∀ s, (B s).length = n) (hwf : ∀ s, WF (B s)) (hq : ∀ s, (B s)[q]? = some (some (.cells (t.cells.map .p))))
  (HY : ∀ s d u l, Lv s → Pre u d → WF (B s ++ l) → AYield Tryz.prog y [iA d, u.av] (B s ++ l) (fun o h' => o = .ret (bA (st s d u).2) ∧ h' = B (st s d u).1 ++ l)) :
  ACalls Tryz.prog 184 [yv y, .ptr q 0] (B s) (fun o h' => o = .ret (.tup []) ∧ h' = B (vis st s 0 t).1) := by
 have hqlt := (List.getElem?_eq_some_iff.1 (hq s)).1
 rw [hlen] at hqlt
 have cq : ∀ s (l : List (Option AO)), (B s ++ l)[q]? = some (some (.cells (t.cells.map .p))) := fun s l => by rw [List.getElem?_append_left (by rw [hlen]; exact hqlt)]; exact hq s
 have gl : ∀ s (l : List (Option AO)) (k : Nat), (B s ++ l)[n + k]? = l[k]? := fun s l k => get_lastN (hlen s)
 have gl0 : ∀ s (l : List (Option AO)), (B s ++ l)[n]? = l[0]? := fun s l => get_lastN0 (hlen s)
 have sl : ∀ s (l : List (Option AO)) (k : Nat) (o : Option AO), (B s ++ l).set (n + k) o = B s ++ l.set k o := fun s l k o => set_lastN (hlen s)
 have wfl : ∀ s (l : List (Option AO)), l.all (AO.under (n + l.length)) = true → WF (B s ++ l) := fun s l hl => (hwf s).app (by rw [hlen]; exact hl)
 obtain ⟨L, hL⟩ : ∃ L : List (Option AO), L = [some (.cells [yv y]), some (.cells usesL), some (.cells [vf n (n + 1) (n + 2)])] := ⟨_, rfl⟩
 have hLl : L.length = 3 := by rw [hL]; rfl
 have hLu : L.all (AO.under (n + L.length)) = true := by rw [hLl, hL]; simp [usesL_under]
 have hv := visitL_any st y n (n + 1) (n + 2) Pre hP Lv hLv t.size t s 0 (fun s => B s ++ L) (n + 3) (Nat.le_refl _) hls hpre (by omega) (by omega) (fun s => by rw [List.length_append, hlen, hLl]) (fun s => wfl s L hLu)
  (fun s => by rw [hL]; exact ⟨by rw [gl0]; rfl, by rw [gl]; rfl, by rw [gl]; rfl⟩)
  (fun s d u l hls hp hw => by
   have := HY s d u (L ++ l) hls hp (by rw [← List.append_assoc]; exact hw)
   rw [List.append_assoc]
   refine this.mono ?_
   intro o h' hq
   exact ⟨hq.1, by rw [hq.2, List.append_assoc]⟩)
 rw [hL] at hv
 have hu := uses_any (B s ++ [some (.cells [yv y])]) (wfl s _ (by simp))
 refine ACalls.of_run Tryz.func184 rfl ?_
 simp only [Tryz.ntmps184, List.length_cons, List.length_nil]
 refine nv ?_
 refine Run.reg fun K hK => ?_
 simp [hlen]
 refine hK _ _ _ (nv ?_); clear hK
 refine Run.reg fun K hK => ?_
 simp
 refine hK _ _ _ ?_; clear hK
 refine Run.call rfl rfl (by simp) rfl hu ?_ ?_
 rotate_left
 ·rintro v h' ⟨hv, _⟩; cases hv
 rintro v h' ⟨hv', rfl⟩
 simp only [AOut.ret.injEq] at hv'
 subst hv'
 have hone : usesL.all oneA = true := rfl
 have hone' : ∀ x ∈ usesL, oneA x = true := by rw [List.all_eq_true] at hone; exact hone
 refine Run.ops fun K hK => ?_
 simp [hlen, sl, usesL_len]
 refine hK _ _ _ (nv ?_); clear hK
 refine Run.reg fun K hK => ?_
 simp [hlen]
 refine hK _ _ _ (nv ?_); clear hK
 refine Run.reg fun K hK => ?_
 simp [hlen, sl]
 refine hK _ _ _ (nv ?_); clear hK
 refine Run.reg fun K hK => ?_
 simp [hlen, cq]
 refine hK _ _ _ ?_; clear hK
 obtain ⟨k, i, nm, ls, ks⟩ := t
 refine Run.call rfl rfl (by simp) rfl hv ?_ ?_
 rotate_left
 ·rintro v h' ⟨hv, _⟩; cases hv
 rintro v h' ⟨hv', rfl⟩
 simp only [AOut.ret.injEq] at hv'
 subst hv'
 refine Run.ops fun K hK => ?_
 simp
 refine hK _ _ _ (nv ?_); clear hK
 refine Run.nil ?_
 exact Fin.ret' (h0 := B (vis st s 0 (Tm.mk k i nm ls ks)).1) (by simp) (by rw [hlen, hlen]) (hwf _) rfl rfl rfl (Weak.refl _) rfl ⟨rfl, rfl⟩


open Go Go.AI
def nodeZ (v p m l : Int) (d : Int) : Tm → Int
 | .mk k i n ls ks => if formB (.mk k i n ls ks) = false then 3 else headZ d v p m l k i n ls
def stChk (v p m l : Int) (s : Int × Int) (d : Int) (u : Tm) : (Int × Int) × Bool :=
 if nodeZ v p m l d u = 0 then ((IntKind.i64.wrap (s.1 + 1), 0), true) else ((s.1, nodeZ v p m l d u), false)

mutual
theorem vis_chk (v p m l : Int) : ∀ (t : Tm) (s d : Int), 0 ≤ s → s + t.size ≤ 1099511627776 →
  (chk v p m l d t = 0 → vis (stChk v p m l) (s, 0) d t = ((s + t.size, 0), true)) ∧ (chk v p m l d t ≠ 0 → (vis (stChk v p m l) (s, 0) d t).2 = false ∧ (vis (stChk v p m l) (s, 0) d t).1.2 = chk v p m l d t)
 | .mk k i n ls ks, s, d, h0, h1 => by
  simp only [Tm.size] at h1
  have hn : chk v p m l d (.mk k i n ls ks) = if nodeZ v p m l d (.mk k i n ls ks) ≠ 0 then nodeZ v p m l d (.mk k i n ls ks) else firstE (chkL v p m l k d 0 ks) := by
   simp only [chk, nodeZ]
   split
   ·simp
   ·rfl
  rw [hn]
  simp only [vis, stChk]
  generalize nodeZ v p m l d (.mk k i n ls ks) = z
  by_cases hz : z = 0
  ·subst hz
   simp only [if_true, ne_eq, not_true_eq_false, if_false]
   rw [wrap_id (n := s + 1) (by omega) (by omega)]
   have := visL_chk v p m l k ks (s + 1) d 0 (by omega) (by omega)
   rw [show ((Tm.mk k i n ls ks).size : Int) = 1 + Tm.sizes ks by simp [Tm.size]]
   rw [← Int.add_assoc]
   exact this
  ·simp [hz]
theorem visL_chk (v p m l k : Int) : ∀ (ks : List Tm) (s d : Int) (idx : Nat), 0 ≤ s → s + Tm.sizes ks ≤ 1099511627776 →
  (firstE (chkL v p m l k d idx ks) = 0 → visL (stChk v p m l) (s, 0) k d idx ks = ((s + Tm.sizes ks, 0), true)) ∧
  (firstE (chkL v p m l k d idx ks) ≠ 0 → (visL (stChk v p m l) (s, 0) k d idx ks).2 = false ∧ (visL (stChk v p m l) (s, 0) k d idx ks).1.2 = firstE (chkL v p m l k d idx ks))
 | [], s, d, idx, _, _ => by simp [chkL, firstE, visL, Tm.sizes]
 | t :: ts, s, d, idx, h0, h1 => by
  simp only [Tm.sizes] at h1
  obtain ⟨a1, a2⟩ := vis_chk v p m l t s (d + belowZ k idx) h0 (by omega)
  simp only [chkL, firstE, visL]
  by_cases hz : chk v p m l (d + belowZ k idx) t = 0
  ·rw [a1 hz]
   simp only [hz, if_true]
   have := visL_chk v p m l k ts (s + t.size) d (idx + 1) (by omega) (by omega)
   rw [show ((Tm.sizes (t :: ts) : Nat) : Int) = t.size + Tm.sizes ts by simp [Tm.sizes], ← Int.add_assoc]
   exact this
  ·obtain ⟨b1, b2⟩ := a2 hz
   simp [hz, b1, b2]
end
def pos0 (n : Int) : Int := if n < 0 then 0 else n
theorem levelZ_pos (p l : Int) (x : Lv) : levelZ (pos0 p) (pos0 l) x = levelZ p l x := by
 have e1 : ∀ a : Int, (decide (0 ≤ a) && decide (pos0 p ≤ a)) = (decide (0 ≤ a) && decide (p ≤ a)) := by
  intro a
  unfold pos0
  split
  ·by_cases h : 0 ≤ a
   ·simp [h, show p ≤ a by omega]
   ·simp [h]
  ·rfl
 have e2 : ∀ a : Int, (decide (a < 0) && decide (pos0 l ≤ -1 - a)) = (decide (a < 0) && decide (l ≤ -1 - a)) := by
  intro a
  unfold pos0
  split
  ·by_cases h : a < 0
   ·have q1 : l ≤ -1 - a := by omega
    have q2 : (0 : Int) ≤ -1 - a := by omega
    rw [decide_eq_true h, decide_eq_true q1, decide_eq_true q2]
   ·simp [h]
  ·rfl
 simp only [levelZ, e1, e2]
theorem headZ_pos (d v p m l k i : Int) (n : List UInt8) (ls : List Lv) : headZ d v (pos0 p) (pos0 m) (pos0 l) k i n ls = headZ d v p m l k i n ls := by
 have e1 : ls.map (levelZ (pos0 p) (pos0 l)) = ls.map (levelZ p l) := List.map_congr_left fun x _ => levelZ_pos p l x
 have e2 : (k = 12 ∧ (i < 0 ∨ pos0 m ≤ i)) ↔ (k = 12 ∧ (i < 0 ∨ m ≤ i)) := by
  unfold pos0
  split
  ·constructor
   ·rintro ⟨h1, h2⟩; exact ⟨h1, by omega⟩
   ·rintro ⟨h1, h2⟩; exact ⟨h1, by omega⟩
  ·rfl
 simp only [headZ, e1, e2]

mutual
theorem chk_pos (v p m l : Int) : ∀ (t : Tm) (d : Int), chk v (pos0 p) (pos0 m) (pos0 l) d t = chk v p m l d t
 | .mk k i n ls ks, d => by simp only [chk, headZ_pos, chkL_pos v p m l ks k d 0]
theorem chkL_pos (v p m l : Int) : ∀ (ks : List Tm) (k d : Int) (idx : Nat), chkL v (pos0 p) (pos0 m) (pos0 l) k d idx ks = chkL v p m l k d idx ks
 | [], _, _, _ => by simp only [chkL]
 | t :: ts, k, d, idx => by simp only [chkL, chk_pos v p m l t, chkL_pos v p m l ts k d (idx + 1)]
end
def checkP (v p m l : Int) (t : Tm) : Int :=
 if (vis (stChk (pos0 v) (pos0 p) (pos0 m) (pos0 l)) (0, 0) 0 t).2 = false then (vis (stChk (pos0 v) (pos0 p) (pos0 m) (pos0 l)) (0, 0) 0 t).1.2
 else if 4096 < (vis (stChk (pos0 v) (pos0 p) (pos0 m) (pos0 l)) (0, 0) 0 t).1.1 then 5 else if 200 < (t.depth : Int) then 7 else 0
theorem checkP_eq (v p m l : Int) (t : Tm) (hsz : t.size ≤ 1099511627776) : checkP v p m l t = checkZ v p m l t := by
 obtain ⟨a1, a2⟩ := vis_chk (pos0 v) (pos0 p) (pos0 m) (pos0 l) t 0 0 (by omega) (by omega)
 unfold checkP checkZ
 rw [chk_pos] at a1 a2
 have e : (if v < 0 then 0 else v) = pos0 v := rfl
 rw [e]
 by_cases hz : chk (pos0 v) p m l 0 t = 0
 ·rw [a1 hz]; simp [hz]
 ·obtain ⟨b1, b2⟩ := a2 hz
  simp [hz, b1, b2]
def nameP (n : List UInt8) : Bool := nameSt n == some false && decide ((n.length : Int) ≤ 64)
theorem nameP_eq (n : List UInt8) : nameP n = nameB n := by
 unfold nameP nameB
 have e1 : decide ((n.length : Int) ≤ 64) = !decide (64 < (n.length : Int)) := by
  by_cases h : 64 < (n.length : Int)
  ·rw [decide_eq_true h, decide_eq_false (by omega)]; rfl
  ·rw [decide_eq_false h, decide_eq_true (by omega)]; rfl
 rw [e1]
 cases n with
 | nil => simp [nameSt]
 | cons c n => rw [decide_eq_false (List.cons_ne_nil c n), Bool.false_or, Bool.and_comm]


open Go Go.AI

structure Ct where
 nm : List UInt8
 ty : Tm

mutual
inductive Tr where
 | mk (k : Int) (b : Tm) (v : Int) (bs : List Br)
inductive Br where
 | mk (c : List UInt8) (a : Bool) (t : Tr)
end

structure Fu where
 nm : List UInt8
 ty : Tm
 ar : Int
 tr : Tr

structure Dc where
 k : Int
 nm : List UInt8
 ps : Int
 ty : Tm
 va : Tm
 fx : Int
 cs : List Ct
 rp : Int
 rt : Tm
 rr : List Tm
 fs : List Fu
def Ct.cells (c : Ct) : List PV := sP c.nm :: c.ty.cells
abbrev bP (b : Bool) : PV := .prim (.bool b)

mutual
def Tr.cells : Tr → List PV
 | .mk k b v bs => iP k :: (b.cells ++ [iP v, .sl 10 (brPs bs)])
def Br.cells : Br → List PV
 | .mk c a t => sP c :: bP a :: t.cells
def brPs : List Br → List (List PV)
 | [] => []
 | b :: bs => b.cells :: brPs bs
end
theorem brPs_eq : ∀ l : List Br, brPs l = l.map Br.cells
 | [] => by simp [brPs]
 | b :: l => by simp [brPs, brPs_eq l]
def Fu.cells (f : Fu) : List PV := sP f.nm :: (f.ty.cells ++ (iP f.ar :: f.tr.cells))
def Dc.cells (d : Dc) : List PV := iP d.k :: sP d.nm :: iP d.ps :: (d.ty.cells ++ (d.va.cells ++ (iP d.fx :: .sl 6 (d.cs.map Ct.cells) :: iP d.rp :: (d.rt.cells ++ [.sl 5 (tmPs d.rr), .sl 15 (d.fs.map Fu.cells)]))))
def Dc.av (d : Dc) : AV := .agg (d.cells.map .p)
def Tr.av (t : Tr) : AV := .agg (t.cells.map .p)
abbrev envA (env : List Dc) : AV := .p (.sl 23 (env.map Dc.cells))
theorem ct_cells_len (c : Ct) : c.cells.length = 6 := by simp [Ct.cells]
theorem tr_cells_len (t : Tr) : t.cells.length = 8 := by cases t; simp [Tr.cells]
theorem br_cells_len (b : Br) : b.cells.length = 10 := by cases b; simp [Br.cells, tr_cells_len]
theorem fu_cells_len (f : Fu) : f.cells.length = 15 := by simp [Fu.cells, tr_cells_len]
theorem dc_cells_len (d : Dc) : d.cells.length = 23 := by simp [Dc.cells]
def Tm.good (t : Tm) : Prop := t.size ≤ 1048576 ∧ t.fit ∧ t.lvs

mutual
def Tr.size : Tr → Nat
 | .mk _ _ _ bs => 1 + Br.sizes bs
def Br.size : Br → Nat
 | .mk _ _ t => 1 + t.size
def Br.sizes : List Br → Nat
 | [] => 0
 | b :: bs => b.size + Br.sizes bs
end

mutual
def Tr.good : Tr → Prop
 | .mk _ b _ bs => b.good ∧ bs.length ≤ 1048576 ∧ Br.goods bs
def Br.good : Br → Prop
 | .mk _ _ t => t.good
def Br.goods : List Br → Prop
 | [] => True
 | b :: bs => b.good ∧ Br.goods bs
end
theorem Br.goods_at {l : List Br} (h : Br.goods l) : ∀ b ∈ l, b.good := by
 induction l with
 | nil => intro b hb; cases hb
 | cons x l ih =>
  simp only [Br.goods] at h
  intro b hb
  cases List.mem_cons.1 hb with
  | inl e => subst e; exact h.1
  | inr e => exact ih h.2 b e
theorem br_size_at {l : List Br} {b : Br} (h : b ∈ l) : b.size ≤ Br.sizes l := by
 induction l with
 | nil => cases h
 | cons x l ih =>
  simp only [Br.sizes]
  rcases List.mem_cons.1 h with rfl | h
  ·omega
  ·have := ih h; omega
def Fu.good (f : Fu) : Prop := f.ty.good ∧ f.tr.good

structure Dc.good (d : Dc) : Prop where
 ty : d.ty.good
 va : d.va.good
 rt : d.rt.good
 csl : d.cs.length ≤ 1048576
 cs : ∀ c ∈ d.cs, c.ty.good
 rrl : d.rr.length ≤ 1048576
 rr : ∀ t ∈ d.rr, t.good
 fsl : d.fs.length ≤ 1048576
 fs : ∀ f ∈ d.fs, f.good
def Env.good (env : List Dc) : Prop := env.length ≤ 1048576 ∧ ∀ d ∈ env, d.good

end Go.Proofs.YtcfcolkbeelegaaGreat
