/-
  term: nodes, Size.
-/
import Derived.Test.YtcfcolkbeelegaaGreatLE5
import Derived.Test.YtcfcolkbeelegaaGreatLC

namespace Go.Proofs.YtcfcolkbeelegaaGreat

open Go Go.AI
set_option maxRecDepth 8000 in
set_option maxHeartbeats 8000000 in
theorem iter_any {σ : Type} (st : σ → Int → Tm → σ × Bool) (y q : Nat) (Pre : Tm → Int → Prop) (hP : ∀ k i n ls ks d, Pre (.mk k i n ls ks) d → ∀ (j : Nat) (hj : j < ks.length), Pre ks[j] (d + belowZ k j))
    (t : Tm) (s : σ) (B : σ → Heap) (n : Nat) (hpre : Pre t 0) (hsz : t.size ≤ 1099511627776) (hlen : ∀ s, (B s).length = n) (hwf : ∀ s, WF (B s)) (hq : ∀ s, (B s)[q]? = some (some (.cells (t.cells.map .p))))
    (HY : ∀ s d u l, Pre u d → WF (B s ++ l) → AYield Tryz.prog y [iA d, u.av] (B s ++ l) (fun o h' => o = .ret (bA (st s d u).2) ∧ h' = B (st s d u).1 ++ l)) :
    ACalls Tryz.prog 184 [yv y, .ptr q 0] (B s) (fun o h' => o = .ret (.tup []) ∧ h' = B (vis st s 0 t).1) := by
  have hqlt := (List.getElem?_eq_some_iff.1 (hq s)).1
  rw [hlen] at hqlt
  have cq : ∀ s (l : List (Option AO)), (B s ++ l)[q]? = some (some (.cells (t.cells.map .p))) := fun s l => by rw [List.getElem?_append_left (by rw [hlen]; exact hqlt)]; exact hq s
  have gl : ∀ s (l : List (Option AO)) (k : Nat), (B s ++ l)[n + k]? = l[k]? := fun s l k => get_lastN (hlen s)
  have gl0 : ∀ s (l : List (Option AO)), (B s ++ l)[n]? = l[0]? := fun s l => get_lastN0 (hlen s)
  have sl : ∀ s (l : List (Option AO)) (k : Nat) (o : Option AO), (B s ++ l).set (n + k) o = B s ++ l.set k o := fun s l k o => set_lastN (hlen s)
  have wfl : ∀ s (l : List (Option AO)), l.all (AO.under (n + l.length)) = true → WF (B s ++ l) := fun s l hl => (hwf s).app (by rw [hlen]; exact hl)
  obtain ⟨L, hL⟩ : ∃ L : List (Option AO), L = [some (.cells [yv y]), some (.cells usesL), some (.cells [vf n (n + 1) (n + 2)])] := ⟨_, rfl⟩
  have hLl : L.length = 3 := by rw [hL]; rfl
  have hLu : L.all (AO.under (n + L.length)) = true := by rw [hLl, hL]; simp [usesL_under]
  have hv := visit_any st y n (n + 1) (n + 2) Pre hP t.size t s 0 (fun s => B s ++ L) (n + 3) (Nat.le_refl _) hpre (by omega) (by omega) (fun s => by rw [List.length_append, hlen, hLl]) (fun s => wfl s L hLu)
    (fun s => by rw [hL]; exact ⟨by rw [gl0]; rfl, by rw [gl]; rfl, by rw [gl]; rfl⟩)
    (fun s d u l hp hw => by
      have := HY s d u (L ++ l) hp (by rw [← List.append_assoc]; exact hw)
      rw [List.append_assoc]
      refine this.mono ?_
      intro o h' hq
      exact ⟨hq.1, by rw [hq.2, List.append_assoc]⟩)
  rw [hL] at hv
  have hu := uses_any (B s ++ [some (.cells [yv y])]) (wfl s _ (by simp))
  refine ACalls.of_run Tryz.func184 rfl ?_
  simp only [Tryz.ntmps184, List.length_cons, List.length_nil]
  refine nv ?_
  refine Run.reg fun K hK => ?_
  simp [hlen]
  try (simp (disch := omega) only [wrap_id])
  refine hK _ _ _ ?_; clear hK K
  refine nv ?_
  refine Run.reg fun K hK => ?_
  simp
  try (simp (disch := omega) only [wrap_id])
  refine hK _ _ _ ?_; clear hK K
  refine nv ?_
  refine Run.call rfl rfl (by simp) rfl hu ?_ ?_
  rotate_left
  · rintro v h' ⟨hv, _⟩; cases hv
  rintro v h' ⟨hv', rfl⟩
  simp only [AOut.ret.injEq] at hv'
  subst hv'
  have hone : usesL.all oneA = true := rfl
  have hone' : ∀ x ∈ usesL, oneA x = true := by rw [List.all_eq_true] at hone; exact hone
  refine Run.ops fun K hK => ?_
  simp [hlen, sl, usesL_len]
  try (simp (disch := omega) only [wrap_id])
  refine hK _ _ _ ?_; clear hK K
  refine nv ?_
  refine Run.reg fun K hK => ?_
  simp [hlen]
  try (simp (disch := omega) only [wrap_id])
  refine hK _ _ _ ?_; clear hK K
  refine nv ?_
  refine Run.reg fun K hK => ?_
  simp [hlen, sl]
  try (simp (disch := omega) only [wrap_id])
  refine hK _ _ _ ?_; clear hK K
  refine nv ?_
  refine Run.reg fun K hK => ?_
  simp [hlen, cq]
  try (simp (disch := omega) only [wrap_id])
  refine hK _ _ _ ?_; clear hK K
  refine nv ?_
  obtain ⟨k, i, nm, ls, ks⟩ := t
  refine Run.call rfl rfl (by simp) rfl hv ?_ ?_
  rotate_left
  · rintro v h' ⟨hv, _⟩; cases hv
  rintro v h' ⟨hv', rfl⟩
  simp only [AOut.ret.injEq] at hv'
  subst hv'
  refine Run.ops fun K hK => ?_
  simp
  try (simp (disch := omega) only [wrap_id])
  refine hK _ _ _ ?_; clear hK K
  refine nv ?_
  refine Run.nil ?_
  exact Fin.ret' (h0 := B (vis st s 0 (Tm.mk k i nm ls ks)).1) (by simp) (by rw [hlen, hlen]) (hwf _) rfl rfl rfl (Weak.refl _) rfl ⟨rfl, rfl⟩
set_option maxRecDepth 4000 in
theorem iterOf_any (h : Heap) (hh : WF h) (t : Tm) : ACalls Tryz.prog 144 [t.av] h fun o h' => o = .ret (.fn (.func 184) [] [.ptr h.length 0]) ∧ h' = h ++ [some (.cells (t.cells.map .p))] := by
  obtain ⟨k, i, nm, ls, ks⟩ := t
  refine ACalls.of_run Tryz.func144 rfl ?_
  simp only [Tryz.ntmps144, List.length_cons, List.length_nil, Tm.av, cells_mk, List.map]
  refine nv ?_
  refine Run.reg fun K hK => ?_
  simp
  try (simp (disch := omega) only [wrap_id])
  refine hK _ _ _ ?_; clear hK K
  refine nv ?_
  refine Run.reg fun K hK => ?_
  simp
  try (simp (disch := omega) only [wrap_id])
  refine hK _ _ _ ?_; clear hK K
  refine nv ?_
  refine Run.ret ?_
  refine Fin.retM (h0 := h ++ [some (.cells [iA k, iA i, .p (sP nm), .p (.sl 2 (lvPs ls)), .p (.sl 5 (tmPs ks))])]) (l := []) (by simp) (by simp) (hh.app (by simp)) (by simp) (by simp; rfl) rfl (Weak.refl _) (by simp) ⟨rfl, rfl⟩

mutual
theorem vis_count (d : Int) : ∀ (t : Tm) (s : Int), 0 ≤ s → s + t.size ≤ 1099511627776 → vis (fun (s : Int) _ _ => (IntKind.i64.wrap (s + 1), true)) s d t = (s + t.size, true)
  | .mk k i n ls ks, s, h0, h1 => by
    simp only [Tm.size] at h1
    simp only [vis, if_true]
    rw [wrap_id (n := s + 1) (by omega) (by omega), visL_count d k ks (s + 1) 0 (by omega) (by omega)]
    simp only [Tm.size]
    congr 1; omega
theorem visL_count (d k : Int) : ∀ (l : List Tm) (s : Int) (idx : Nat), 0 ≤ s → s + Tm.sizes l ≤ 1099511627776 → visL (fun (s : Int) _ _ => (IntKind.i64.wrap (s + 1), true)) s k d idx l = (s + Tm.sizes l, true)
  | [], s, idx, _, _ => by simp [visL, Tm.sizes]
  | t :: ts, s, idx, h0, h1 => by
    simp only [Tm.sizes] at h1
    simp only [visL]
    rw [vis_count (d + belowZ k idx) t s h0 (by omega)]
    simp only [if_true]
    rw [visL_count d k ts (s + t.size) (idx + 1) (by omega) (by omega)]
    simp only [Tm.sizes]
    congr 1; omega
end
set_option maxRecDepth 8000 in
set_option maxHeartbeats 8000000 in
theorem tsize_any (h : Heap) (hh : WF h) (t : Tm) (hsz : t.size ≤ 1099511627776) : ACalls Tryz.prog 155 [t.av] h fun o h' => o = .ret (iA t.size) ∧ h' = h := by
  obtain ⟨k, i, nm, ls, ks⟩ := t
  have hno := iterOf_any (h ++ [some (.cells [iA k, iA i, .p (sP nm), .p (.sl 2 (lvPs ls)), .p (.sl 5 (tmPs ks))]), some (.cells [iA 0])]) (hh.app (by simp)) (.mk k i nm ls ks)
  refine ACalls.of_runM Tryz.func155 rfl ?_
  simp only [Tryz.ntmps155, List.length_cons, List.length_nil, Tm.av, cells_mk, List.map]
  refine nv ?_
  refine Run.reg fun K hK => ?_
  simp
  try (simp (disch := omega) only [wrap_id])
  refine hK _ _ _ ?_; clear hK K
  refine nv ?_
  refine Run.reg fun K hK => ?_
  simp
  try (simp (disch := omega) only [wrap_id])
  refine hK _ _ _ ?_; clear hK K
  refine nv ?_
  refine Run.reg fun K hK => ?_
  simp
  try (simp (disch := omega) only [wrap_id])
  refine hK _ _ _ ?_; clear hK K
  refine nv ?_
  refine Run.call rfl rfl (by simp) rfl hno ?_ ?_
  rotate_left
  · rintro v h' ⟨hv, _⟩; cases hv
  rintro v h' ⟨hv', rfl⟩
  simp only [AOut.ret.injEq] at hv'
  subst hv'
  refine Run.ops fun K hK => ?_
  simp
  try (simp (disch := omega) only [wrap_id])
  refine hK _ _ _ ?_; clear hK K
  refine nv ?_
  refine Run.keep [1, 3, 5] ?_
  simp
  refine Run.range (gf := 184) (cap := [.ptr (h.length + 2) 0]) (by simp) rfl fun y => ?_
  generalize hT : [AV.junk, AV.ptr h.length 0, AV.junk, AV.ptr (h.length + 1) 0, AV.junk, AV.fn (Fn.func 184) [] [AV.ptr (h.length + 2) 0], AV.junk, AV.junk, AV.junk, AV.junk, AV.junk] = Tl
  have hTu : ∀ k, AV.underL (h.length + (3 + k)) Tl = true := fun k => by rw [← hT]; simp; omega
  generalize hbd : (Code.block 1 _) = bd
  obtain ⟨B, hB⟩ : ∃ B : Int → Heap, B = fun s => h ++ [some (.cells ((Tm.mk k i nm ls ks).cells.map .p)), some (.cells [iA s]), some (.cells ((Tm.mk k i nm ls ks).cells.map .p)), some (.aux .dblk), some (.aux (.loop y .ready none Tl #[6, 7] .skip bd))] := ⟨_, rfl⟩
  have hlen : ∀ s, (B s).length = h.length + 5 := fun s => by rw [hB]; simp
  have hwf : ∀ s, WF (B s) := fun s => by rw [hB]; exact hh.app (by simp [AO.under, hTu 2])
  have hst : ∀ s (o : Option AO) (l : List (Option AO)), (B s ++ l).set (h.length + 4) o = h ++ [some (.cells ((Tm.mk k i nm ls ks).cells.map .p)), some (.cells [iA s]), some (.cells ((Tm.mk k i nm ls ks).cells.map .p)), some (.aux .dblk), o] ++ l := fun s o l => by rw [hB]; simp
  have hat4 : ∀ s (l : List (Option AO)), Heap.at (B s ++ l) (h.length + 4) = some (.aux (.loop y .ready none Tl #[6, 7] .skip bd)) := fun s l => by rw [hB]; simp
  have hit := iter_any (fun (s : Int) _ _ => (IntKind.i64.wrap (s + 1), true)) y (h.length + 2) (fun _ _ => True) (fun _ _ _ _ _ _ _ _ _ => trivial) (.mk k i nm ls ks) 0 B (h.length + 5) trivial hsz hlen hwf (fun s => by rw [hB]; simp)
    (fun s d u l _ hw => by
      refine AYield.of_run (hat4 s l) (by simp) ?_
      refine Run.skip (Run.nil ⟨rfl, rfl, hat4 s l, ?_⟩)
      rw [hst]
      subst hbd
      rw [← hT]
      obtain ⟨uk, ui, un, uls, uks⟩ := u
      simp
      refine nv ?_
      refine Run.reg fun K hK => ?_
      simp
      try (simp (disch := omega) only [wrap_id])
      refine hK _ _ _ ?_; clear hK K
      refine nv ?_
      refine Run.nil ?_
      rw [hT]
      have hw2 : WF (B (IntKind.i64.wrap (s + 1)) ++ l) := by
        have := hw.set (id := h.length + 1) (o := some (.cells [iA (IntKind.i64.wrap (s + 1))])) (by simp)
        rwa [show List.set (B s ++ l) (h.length + 1) (some (.cells [iA (IntKind.i64.wrap (s + 1))])) = B (IntKind.i64.wrap (s + 1)) ++ l from by rw [hB]; simp] at this
      refine ⟨none, (B (IntKind.i64.wrap (s + 1)) ++ l).length, rfl, rfl, by simp [hlen], by simp [hlen]; omega, by simp, ?_, rfl, ?_⟩
      · rw [show (List.set _ (h.length + 4) _ : Heap) = B (IntKind.i64.wrap (s + 1)) ++ l from by rw [hB]; simp [stOf], List.take_length]
        exact hw2
      · rw [show (List.set _ (h.length + 4) _ : Heap) = B (IntKind.i64.wrap (s + 1)) ++ l from by rw [hB]; simp [stOf], List.take_length])
  rw [vis_count 0 _ 0 (by omega) (by omega)] at hit
  have hB0 : B 0 = (h ++ [some (.cells ((Tm.mk k i nm ls ks).cells.map .p)), some (.cells [iA 0]), some (.cells ((Tm.mk k i nm ls ks).cells.map .p))]) ++ [some (.aux .dblk), some (.aux (.loop y .ready none Tl #[6, 7] .skip bd))] := by rw [hB]; simp
  refine ⟨_, hB0 ▸ hit, ?_⟩
  rintro o h' ⟨rfl, rfl⟩
  have hsz2 : (0 + ((Tm.mk k i nm ls ks).size : Int)) = (Tm.mk k i nm ls ks).size := by omega
  rw [hsz2]
  generalize (Tm.mk k i nm ls ks).size = sz
  refine ⟨_, .ready, none, rfl, by rw [hB]; simp [Nat.add_assoc], by simp, ?_⟩
  rw [hB]
  simp [Nat.add_assoc]
  rw [← hT]
  refine nv ?_
  refine Run.reg fun K hK => ?_
  simp
  try (simp (disch := omega) only [wrap_id])
  refine hK _ _ _ ?_; clear hK K
  refine nv ?_
  refine Run.ret ?_
  refine ⟨by simp, ?_⟩
  exact Fin.ret' (h0 := h) (by simp) rfl hh (by simp; rfl) rfl rfl (Weak.refl _) rfl ⟨rfl, rfl⟩

end Go.Proofs.YtcfcolkbeelegaaGreat
