/-
  term.Free.
-/
import Derived.Test.YtppgpabjcenjdaaTP11
import Derived.Test.YtppgpabjcenjdaaTN1
import Derived.Test.YtppgpabjcenjdaaTFM
import Derived.Test.YtppgpabjcenjdaaTFV
import Derived.Test.YtppgpabjcenjdaaTFR
namespace Go.Proofs.Ytppgpabjcenjdaa

open Go Go.AI Go.MapKept

/-- The keys of a map. -/
def keysI (l : List Int) : List Value := l.map (Value.int .i64)

theorem keysI_append (l : List Int) (z : Int) : keysI l ++ [.int .i64 z] = keysI (l ++ [z]) := by simp [keysI]

theorem mem_keysI (l : List Int) (z : Int) : Value.int .i64 z ∈ keysI l ↔ z ∈ l := by simp [keysI]

theorem keysI_key (l : List Int) : ∀ x ∈ keysI l, IsKey (.int .i64) x := by
  intro x hx
  obtain ⟨z, _, rfl⟩ := List.mem_map.1 hx
  rfl

theorem intPs_snoc (l : List Int) (z : Int) : intPs l ++ [[iP z]] = intPs (l ++ [z]) := by simp [intPs]

theorem intPs_len1 (l : List Int) : ∀ e ∈ intPs l, e.length = 1 := by
  intro e he
  obtain ⟨z, _, rfl⟩ := List.mem_map.1 he
  rfl

set_option maxRecDepth 8000 in
set_option maxHeartbeats 16000000 in
theorem free_any (h : Heap) (hh : WF h) (t : Tm) (hfit : t.fit) (hsz : t.size ≤ 1099511627776) : ACalls Try.prog 85 [t.av] h fun o h' => o = .ret (.p (.sl 1 (intPs (freeZ t)))) ∧ h' = h := by
  have hno := iterOf_any (h ++ [some (.cells (t.cells.map .p)), some (.aux (.map [])), some (.cells [.mp (h.length + 1)]), some (.cells [.vec (h.length + 4) 0]), some (.vec 1 [])]) (hh.app (by simp [AO.under, AV.under])) t
  have hvf := vis_free t [] 0 hfit (by omega)
  have hsf := sort_fold (frees 0 t)
  have hfl := frees_len t 0
  obtain ⟨F, hF⟩ : ∃ F, F = frees 0 t := ⟨_, rfl⟩
  have hpre : PreF F t 0 := ⟨hfit, by omega, by omega, by rw [hF]; exact fun _ h => h⟩
  have hfz : freeZ t = F.foldl add1 [] := by rw [hF]; rfl
  rw [hfz]
  rw [← hF] at hvf hsf hfl
  have hlvL : LvF F (F.foldl app1 []) := ⟨nodup_fold_app1 F [] List.nodup_nil, fun x hx => by simpa using (mem_fold_app1 F [] x).1 hx⟩
  have hlL := nodup_len hlvL.1 hlvL.2
  rw [← hsf]
  generalize hLe : F.foldl app1 [] = L at hvf hlvL hlL ⊢
  obtain ⟨k, i, nm, ls, ks⟩ := t
  refine ACalls.of_runM Try.func85 rfl ?_
  simp only [Try.ntmps85, List.length_cons, List.length_nil, Tm.av, cells_mk, List.map] at hno ⊢
  repeat (first | refine Run.seq ?_ | refine Run.block ?_ | refine Run.skip ?_ | refine Run.inBlock ?_ | refine Run.opsNil ?_)
  refine Run.reg fun K hK => ?_
  simp
  try (simp (disch := omega) only [wrap_id])
  refine hK _ _ _ ?_; clear hK K
  repeat (first | refine Run.seq ?_ | refine Run.block ?_ | refine Run.skip ?_ | refine Run.inBlock ?_ | refine Run.opsNil ?_)
  repeat (first | refine Run.seq ?_ | refine Run.block ?_ | refine Run.skip ?_ | refine Run.inBlock ?_ | refine Run.opsNil ?_)
  refine Run.regPre 0 fun K hK => ?_
  simp only [List.take_zero]
  simp
  try (simp (disch := omega) only [wrap_id])
  refine hK _ _ _ ?_; clear hK K
  simp only [List.nil_append, List.drop_zero]
  refine Run.makeMap rfl rfl ?_
  refine Run.ops fun K hK => ?_
  simp
  try (simp (disch := omega) only [wrap_id])
  refine hK _ _ _ ?_; clear hK K
  repeat (first | refine Run.seq ?_ | refine Run.block ?_ | refine Run.skip ?_ | refine Run.inBlock ?_ | refine Run.opsNil ?_)
  repeat (first | refine Run.seq ?_ | refine Run.block ?_ | refine Run.skip ?_ | refine Run.inBlock ?_ | refine Run.opsNil ?_)
  refine Run.reg fun K hK => ?_
  simp
  try (simp (disch := omega) only [wrap_id])
  refine hK _ _ _ ?_; clear hK K
  repeat (first | refine Run.seq ?_ | refine Run.block ?_ | refine Run.skip ?_ | refine Run.inBlock ?_ | refine Run.opsNil ?_)
  refine Run.vecAt (h.length + 3) 0 1 (cs := [.p (.prim (.slice none 0 0))]) (by simp) rfl ?_
  simp
  repeat (first | refine Run.seq ?_ | refine Run.block ?_ | refine Run.skip ?_ | refine Run.inBlock ?_ | refine Run.opsNil ?_)
  refine Run.reg fun K hK => ?_
  simp
  try (simp (disch := omega) only [wrap_id])
  refine hK _ _ _ ?_; clear hK K
  repeat (first | refine Run.seq ?_ | refine Run.block ?_ | refine Run.skip ?_ | refine Run.inBlock ?_ | refine Run.opsNil ?_)
  refine Run.call rfl (by first | rfl | simp) (by simp) rfl (hno) ?_ ?_
  rotate_left
  · rintro v h' ⟨hv, _⟩; cases hv
  rintro v h' ⟨hv, rfl⟩
  simp only [AOut.ret.injEq] at hv
  subst hv
  refine Run.ops fun K hK => ?_
  simp
  try (simp (disch := omega) only [wrap_id])
  refine hK _ _ _ ?_; clear hK K
  repeat (first | refine Run.seq ?_ | refine Run.block ?_ | refine Run.skip ?_ | refine Run.inBlock ?_ | refine Run.opsNil ?_)
  refine Run.keep [1, 3, 4, 10] ?_
  simp
  refine Run.rangeG (gf := 169) (cap := [.ptr (h.length + 5) 0]) (by simp) rfl fun y Tl ag' bd' hT hag hbd => ?_
  have hTu : ∀ k, AV.underL (h.length + (6 + k)) Tl = true := fun k => by rw [hT]; simp; omega
  obtain ⟨tc, htc⟩ : ∃ tc : List AV, tc = [.p (iP k), .p (iP i), .p (sP nm), .p (.sl 2 (lvPs ls)), .p (.sl 5 (tmPs ks))] := ⟨_, rfl⟩
  have htu : ∀ n, AV.underL n tc = true := fun n => by rw [htc]; simp
  obtain ⟨B, hB⟩ : ∃ B : List Int → Heap, B = fun l => h ++ [some (.cells tc), some (.aux (.map (keysI l))), some (.cells [.mp (h.length + 1)]), some (.cells [.vec (h.length + 4) l.length]), some (.vec 1 (intPs l)), some (.cells tc), some (.aux .dblk), some (.aux (.loop y .ready none Tl #[11, 12] ag' bd'))] := ⟨_, rfl⟩
  obtain ⟨Z, hZ⟩ : ∃ Z : List Int → Nat → List Int → Heap, Z = fun m n l => h ++ [some (.cells tc), some (.aux (.map (keysI m))), some (.cells [.mp (h.length + 1)]), some (.cells [.vec (h.length + 4) n]), some (.vec 1 (intPs l)), some (.cells tc), some (.aux .dblk), some (.aux (.loop y .busy none Tl #[11, 12] ag' bd'))] := ⟨_, rfl⟩
  have hlen : ∀ s, (B s).length = h.length + 8 := fun s => by rw [hB]; simp
  have hlenZ : ∀ m n l, (Z m n l).length = h.length + 8 := fun m n l => by rw [hZ]; simp
  have hwf : ∀ s, WF (B s) := fun s => by rw [hB]; exact hh.app (by simp [AO.under, AV.under, hTu 2, htu])
  have hat : ∀ c (l : List (Option AO)), Heap.at (B c ++ l) (h.length + 7) = some (.aux (.loop y .ready none Tl #[11, 12] ag' bd')) := fun c l => by rw [hB]; simp
  have hatZ : ∀ m n c (l : List (Option AO)), Heap.at (Z m n c ++ l) (h.length + 7) = some (.aux (.loop y .busy none Tl #[11, 12] ag' bd')) := fun m n c l => by rw [hZ]; simp
  have hbusy : ∀ c (l : List (Option AO)), (B c ++ l).set (h.length + 7) (some (.aux (.loop y .busy none Tl #[11, 12] ag' bd'))) = Z c c.length c ++ l := fun c l => by rw [hB, hZ]; simp
  have hnorm : ∀ c (l : List (Option AO)), (Z c c.length c ++ l).set (h.length + 7) (some (.aux (.loop y .ready none Tl #[11, 12] ag' bd'))) = B c ++ l := fun c l => by rw [hB, hZ]; simp
  have c1 : ∀ m n c (l : List (Option AO)), Heap.at (Z m n c ++ l) (h.length + 1) = some (.aux (.map (keysI m))) := fun m n c l => by rw [hZ]; simp
  have c2 : ∀ m n c (l : List (Option AO)), (Z m n c ++ l)[h.length + 2]? = some (some (.cells [.mp (h.length + 1)])) := fun m n c l => by rw [hZ]; simp
  have c3 : ∀ m n c (l : List (Option AO)), (Z m n c ++ l)[h.length + 3]? = some (some (.cells [.vec (h.length + 4) n])) := fun m n c l => by rw [hZ]; simp
  have c4 : ∀ m n c (l : List (Option AO)), Heap.at (Z m n c ++ l) (h.length + 4) = some (.vec 1 (intPs c)) := fun m n c l => by rw [hZ]; simp
  have s1 : ∀ m n c z (l : List (Option AO)), (Z m n c ++ l).set (h.length + 1) (some (.aux (.map (keysI m ++ [.int .i64 z])))) = Z (m ++ [z]) n c ++ l := fun m n c z l => by rw [hZ, keysI_append]; simp
  have s3 : ∀ m n n' c (l : List (Option AO)), (Z m n c ++ l).set (h.length + 3) (some (.cells [.vec (h.length + 4) n'])) = Z m n' c ++ l := fun m n n' c l => by rw [hZ]; simp
  have s4 : ∀ m n c z (l : List (Option AO)), (Z m n c ++ l).set (h.length + 4) (some (.vec 1 (intPs c ++ [[iP z]]))) = Z m n (c ++ [z]) ++ l := fun m n c z l => by rw [hZ, intPs_snoc]; simp
  have glZ : ∀ m n c (l l' : List (Option AO)), (Z m n c ++ (l ++ l'))[h.length + 8 + l.length]? = l'[0]? := fun m n c l l' => by rw [get_lastN (hlenZ m n c), get_last0]
  have htk : ∀ s (l l' : List (Option AO)), (B s ++ (l ++ l')).take (h.length + 8 + l.length) = B s ++ l := fun s l l' => by rw [← List.append_assoc, show h.length + 8 + l.length = (B s ++ l).length by rw [List.length_append, hlen], take_last]
  have hit := iterL_any stFree y (h.length + 5) (PreF F) (preF_kid F) (LvF F) (lvF_st F) (.mk k i nm ls ks) [] B (h.length + 8) ⟨List.nodup_nil, by simp⟩ hpre hsz hlen hwf (fun s => by rw [hB, htc]; simp)
    (fun s d u l hs hp hw => by
      refine AYield.of_run (hat s l) (by simp) ?_
      refine Run.codeEq hag ?_
      refine Run.tEq (congrArg (fun T => putMany T _ _) hT) ?_
      obtain ⟨uk, ui, un, uls, uks⟩ := u
      simp
      repeat (first | refine Run.seq ?_ | refine Run.block ?_ | refine Run.skip ?_ | refine Run.inBlock ?_ | refine Run.opsNil ?_)
      refine Run.reg fun K hK => ?_
      simp
      try (simp (disch := omega) only [wrap_id])
      refine hK _ _ _ ?_; clear hK K
      repeat (first | refine Run.seq ?_ | refine Run.block ?_ | refine Run.skip ?_ | refine Run.inBlock ?_ | refine Run.opsNil ?_)
      repeat (first | refine Run.seq ?_ | refine Run.block ?_ | refine Run.skip ?_ | refine Run.inBlock ?_ | refine Run.opsNil ?_)
      refine Run.reg fun K hK => ?_
      simp [hlen]
      try (simp (disch := omega) only [wrap_id])
      refine hK _ _ _ ?_; clear hK K
      repeat (first | refine Run.seq ?_ | refine Run.block ?_ | refine Run.skip ?_ | refine Run.inBlock ?_ | refine Run.opsNil ?_)
      refine Run.nil ⟨rfl, rfl, hat _ _, ?_⟩
      rw [hbusy]
      refine Run.codeEq hbd ?_
      have hsl := nodup_len hs.1 hs.2
      have hw2 : ∀ s, WF (B s ++ l) := fun s => by
        refine (hwf s).app ?_
        have := hw.all
        rw [List.all_append, Bool.and_eq_true, List.length_append, hlen] at this
        rw [hlen]; exact this.2
      obtain ⟨z, hz⟩ : ∃ z, IntKind.i64.wrap (ui - d) = z := ⟨_, rfl⟩
      obtain ⟨q, hq⟩ : ∃ q, q = (uk == 0 && decide (d ≤ ui)) := ⟨_, rfl⟩
      have hst : stFree s d (.mk uk ui un uls uks) = (if q = true then app1 s z else s, true) := by
        rw [hq, ← hz]; rfl
      rw [hst, hlen]
      repeat (first | refine Run.seq ?_ | refine Run.block ?_ | refine Run.skip ?_ | refine Run.inBlock ?_ | refine Run.opsNil ?_)
      repeat (first | refine Run.seq ?_ | refine Run.block ?_ | refine Run.skip ?_ | refine Run.inBlock ?_ | refine Run.opsNil ?_)
      refine Run.reg fun K hK => ?_
      simp [glZ, hz]
      try (simp (disch := omega) only [wrap_id])
      refine hK _ _ _ ?_; clear hK K
      repeat (first | refine Run.seq ?_ | refine Run.block ?_ | refine Run.skip ?_ | refine Run.inBlock ?_ | refine Run.opsNil ?_)
      repeat (first | refine Run.seq ?_ | refine Run.block ?_ | refine Run.skip ?_ | refine Run.inBlock ?_ | refine Run.opsNil ?_)
      refine Run.regPreJ 9 [3, 4, 5, 6, 7] 25 (uk == 0 && decide (d ≤ ui)) (fun K hK => ?_) ?_
      · simp only [List.take_succ_cons, List.take_zero]
        simp [glZ]
        repeat' (first | apply And.intro | intro _)
        all_goals
          try (simp (disch := omega) only [wrap_id])
          refine hK _ ?_
          simp
          repeat' (first | exact WeakL.nil | apply WeakL.cons)
          all_goals first | exact Weak.junk _ | (refine Weak.bool ?_; clear hK K; rw [Bool.eq_iff_iff]; simp; done) | (refine Weak.bool ?_; clear hK K; rw [Bool.eq_iff_iff]; simp; omega) | (refine Weak.bool ?_; clear hK K; simp_all; done) | (refine Weak.bool ?_; clear hK K; simp [*]; done) | (refine Weak.bool ?_; clear hK K; rw [Bool.eq_iff_iff]; simp [*]; omega) | exact Weak.refl _
      simp only [setMany, keepT, keepT.go, List.contains_cons, List.set_cons_succ, List.set_cons_zero, List.drop_succ_cons, List.drop_zero]
      simp
      rw [← hq]
      clear hq
      cases q with
      | false =>
        refine Run.ops fun K hK => ?_
        simp
        try (simp (disch := omega) only [wrap_id])
        refine hK _ _ _ ?_; clear hK K
        repeat (first | refine Run.seq ?_ | refine Run.block ?_ | refine Run.skip ?_ | refine Run.inBlock ?_ | refine Run.opsNil ?_)
        repeat (first | refine Run.seq ?_ | refine Run.block ?_ | refine Run.skip ?_ | refine Run.inBlock ?_ | refine Run.opsNil ?_)
        refine Run.cond (b := false) (by simp) ?_
        simp only [Bool.false_eq_true, if_false]
        repeat (first | refine Run.seq ?_ | refine Run.block ?_ | refine Run.skip ?_ | refine Run.inBlock ?_ | refine Run.opsNil ?_)
        refine Run.nil ?_
        refine ⟨none, h.length + 8 + l.length, rfl, rfl, Nat.le_refl _, by simp [hlenZ], hatZ _ _ _ _, ?_, ?_⟩
        · rw [show stOf none = .ready from rfl, hnorm, htk]
          have := (hw2 s).all
          rwa [List.length_append, hlen] at this
        · rw [show stOf none = .ready from rfl, hnorm, htk]
          exact ⟨rfl, rfl⟩
      | true =>
        refine Run.opsPre 3 fun K hK => ?_
        simp only [List.take_succ_cons, List.take_zero]
        simp [c2]
        try (simp (disch := omega) only [wrap_id])
        refine hK _ _ _ ?_; clear hK K
        simp only [List.nil_append, List.drop_succ_cons, List.drop_zero]
        refine Run.lookup (kt := 3) (et := 4) (d := .int .i64) (id := h.length + 1) (ks := keysI s) (key := .int .i64 z) (decide (z ∈ s)) rfl (by simp [awanted]) Try.underlying163 Try.underlying3 (by kernel_rfl) (by simp) (c1 _ _ _ _) (keysI_key s) (by simp) rfl (by rw [mem_keysI]; simp) ?_
        simp
        by_cases hzs : z ∈ s
        · refine Run.ops fun K hK => ?_
          simp [hzs]
          try (simp (disch := omega) only [wrap_id])
          refine hK _ _ _ ?_; clear hK K
          repeat (first | refine Run.seq ?_ | refine Run.block ?_ | refine Run.skip ?_ | refine Run.inBlock ?_ | refine Run.opsNil ?_)
          repeat (first | refine Run.seq ?_ | refine Run.block ?_ | refine Run.skip ?_ | refine Run.inBlock ?_ | refine Run.opsNil ?_)
          refine Run.cond (b := false) (by simp) ?_
          simp only [Bool.false_eq_true, if_false]
          repeat (first | refine Run.seq ?_ | refine Run.block ?_ | refine Run.skip ?_ | refine Run.inBlock ?_ | refine Run.opsNil ?_)
          refine Run.nil ?_
          refine ⟨none, h.length + 8 + l.length, rfl, rfl, Nat.le_refl _, by simp [hlenZ], hatZ _ _ _ _, ?_, ?_⟩
          · rw [show stOf none = .ready from rfl, hnorm, htk]
            have := (hw2 s).all
            rwa [List.length_append, hlen] at this
          · rw [show stOf none = .ready from rfl, hnorm, htk]
            exact ⟨by simp, by simp [app1, hzs]⟩
        · refine Run.ops fun K hK => ?_
          simp [hzs]
          try (simp (disch := omega) only [wrap_id])
          refine hK _ _ _ ?_; clear hK K
          repeat (first | refine Run.seq ?_ | refine Run.block ?_ | refine Run.skip ?_ | refine Run.inBlock ?_ | refine Run.opsNil ?_)
          repeat (first | refine Run.seq ?_ | refine Run.block ?_ | refine Run.skip ?_ | refine Run.inBlock ?_ | refine Run.opsNil ?_)
          refine Run.cond (b := true) (by simp) ?_
          simp only [if_true]
          repeat (first | refine Run.seq ?_ | refine Run.block ?_ | refine Run.skip ?_ | refine Run.inBlock ?_ | refine Run.opsNil ?_)
          repeat (first | refine Run.seq ?_ | refine Run.block ?_ | refine Run.skip ?_ | refine Run.inBlock ?_ | refine Run.opsNil ?_)
          refine Run.regPre 2 fun K hK => ?_
          simp only [List.take_succ_cons, List.take_zero]
          simp [c2]
          try (simp (disch := omega) only [wrap_id])
          refine hK _ _ _ ?_; clear hK K
          simp only [List.nil_append, List.drop_succ_cons, List.drop_zero]
          refine Run.mapUpdate (kt := 3) (et := 4) (d := .int .i64) (id := h.length + 1) (ks := keysI s) (key := .int .i64 z) rfl (by simp [awanted]) Try.underlying163 Try.underlying3 (by simp) (c1 _ _ _ _) (keysI_key s) (by simp) rfl (by rw [mem_keysI]; exact hzs) (by simp) ?_
          rw [s1]
          refine Run.ops fun K hK => ?_
          simp
          try (simp (disch := omega) only [wrap_id])
          refine hK _ _ _ ?_; clear hK K
          repeat (first | refine Run.seq ?_ | refine Run.block ?_ | refine Run.skip ?_ | refine Run.inBlock ?_ | refine Run.opsNil ?_)
          repeat (first | refine Run.seq ?_ | refine Run.block ?_ | refine Run.skip ?_ | refine Run.inBlock ?_ | refine Run.opsNil ?_)
          refine Run.regPre 3 fun K hK => ?_
          simp only [List.take_succ_cons, List.take_zero]
          simp [c3]
          try (simp (disch := omega) only [wrap_id])
          refine hK _ _ _ ?_; clear hK K
          simp only [List.nil_append, List.drop_succ_cons, List.drop_zero]
          refine Run.appendV (id := h.length + 4) (es := intPs s) (ys := [[iP z]]) (sz := 1) (by_ := 8) (e := 3) rfl (by simp [awanted]) rfl rfl rfl rfl (by simp) (c4 _ _ _ _) (intPs_len1 s) (by simp) (by simp) (by simp) (by simp; omega) (by simp; omega) ?_
          rw [s4]
          simp
          refine Run.ops fun K hK => ?_
          simp [c3, s3]
          try (simp (disch := omega) only [wrap_id])
          refine hK _ _ _ ?_; clear hK K
          repeat (first | refine Run.seq ?_ | refine Run.block ?_ | refine Run.skip ?_ | refine Run.inBlock ?_ | refine Run.opsNil ?_)
          refine Run.nil ?_
          have hap : app1 s z = s ++ [z] := by simp [app1, hzs]
          refine ⟨none, h.length + 8 + l.length, rfl, rfl, Nat.le_refl _, by simp [hlenZ], hatZ _ _ _ _, ?_, ?_⟩
          · rw [show stOf none = .ready from rfl, show s.length + 1 = (s ++ [z]).length by simp, hnorm, htk]
            have := (hw2 (s ++ [z])).all
            rwa [List.length_append, hlen] at this
          · rw [show stOf none = .ready from rfl, show s.length + 1 = (s ++ [z]).length by simp, hnorm, htk]
            exact ⟨by simp, by simp [hap]⟩)
  rw [hvf] at hit
  simp only at hit
  have hB0 : B [] = (h ++ [some (.cells tc), some (.aux (.map [])), some (.cells [.mp (h.length + 1)]), some (.cells [.vec (h.length + 4) 0]), some (.vec 1 []), some (.cells tc)]) ++ [some (.aux .dblk), some (.aux (.loop y .ready none Tl #[11, 12] ag' bd'))] := by rw [hB]; simp [keysI, intPs]
  rw [htc] at hB0
  refine ⟨_, hB0 ▸ hit, ?_⟩
  rintro o h' ⟨rfl, rfl⟩
  refine ⟨_, .ready, none, rfl, by rw [hB, htc]; simp [Nat.add_assoc], by simp, ?_⟩
  rw [hB, htc]
  simp [Nat.add_assoc]
  have hcall : ∀ g : Heap, g.at (h.length + 4) = some (.vec 1 (intPs L)) → ACalls Try.prog 150 [.vec (h.length + 4) L.length] g fun o h' => o = .ret (.tup []) ∧ h' = g.set (h.length + 4) (some (.vec 1 (intPs (L.mergeSort fun x y => decide (x ≤ y))))) := fun g hg => sort_vec lays189 hg rfl (by omega)
  have hml : (L.mergeSort fun x y => decide (x ≤ y)).length = L.length := by simp
  generalize (L.mergeSort fun x y => decide (x ≤ y)) = M at hcall hml ⊢
  repeat (first | refine Run.seq ?_ | refine Run.block ?_ | refine Run.skip ?_ | refine Run.inBlock ?_ | refine Run.opsNil ?_)
  refine Run.reg fun K hK => ?_
  simp
  try (simp (disch := omega) only [wrap_id])
  refine hK _ _ _ ?_; clear hK K
  repeat (first | refine Run.seq ?_ | refine Run.block ?_ | refine Run.skip ?_ | refine Run.inBlock ?_ | refine Run.opsNil ?_)
  refine Run.call rfl (by first | rfl | simp) (by simp) rfl (hcall _ (by simp)) ?_ ?_
  rotate_left
  · rintro v h' ⟨hv, _⟩; cases hv
  rintro v h' ⟨hv, rfl⟩
  simp only [AOut.ret.injEq] at hv
  subst hv
  refine Run.ops fun K hK => ?_
  simp
  try (simp (disch := omega) only [wrap_id])
  refine hK _ _ _ ?_; clear hK K
  repeat (first | refine Run.seq ?_ | refine Run.block ?_ | refine Run.skip ?_ | refine Run.inBlock ?_ | refine Run.opsNil ?_)
  repeat (first | refine Run.seq ?_ | refine Run.block ?_ | refine Run.skip ?_ | refine Run.inBlock ?_ | refine Run.opsNil ?_)
  refine Run.reg fun K hK => ?_
  simp
  try (simp (disch := omega) only [wrap_id])
  refine hK _ _ _ ?_; clear hK K
  repeat (first | refine Run.seq ?_ | refine Run.block ?_ | refine Run.skip ?_ | refine Run.inBlock ?_ | refine Run.opsNil ?_)
  refine Run.keep [2] ?_
  simp
  refine Run.freezeV 2 (id := h.length + 4) (n := L.length) (sz := 1) (es := intPs M) (by simp) (by simp) (intPs_len1 _) (by simp [hml]) ?_
  simp
  refine Run.ret ?_
  refine ⟨by simp, ?_⟩
  exact Fin.ret' (h0 := h) (by simp) rfl hh (by simp; rfl) (by simp; rfl) rfl (Weak.refl _) rfl ⟨rfl, rfl⟩

end Go.Proofs.Ytppgpabjcenjdaa
