/-
  The reference's levels of a term: the walk.
-/
import Derived.Test.YtcfcolkbeelegaaGreatLLR

namespace Go.Proofs.YtcfcolkbeelegaaGreat

open Go Go.AI
set_option maxRecDepth 8000 in
set_option maxHeartbeats 16000000 in
theorem wlev_any (vals : List Lv) (metas : Bool) (hbs : vals.length ≤ 1048576) (hbv : ∀ x ∈ vals, x.vars.length ≤ 1048576) (nodes : Int) (N : Nat) :
    ∀ (t : Tm) (err : Int) (h : Heap) (id : Nat), t.size ≤ N → t.size ≤ 1048576 → t.lvs → WF h → h[id]? = some (wk err nodes) →
    ACalls Tryz.prog 57 [.ptr id 0, t.av, .p (.sl 2 (lvPs vals)), bA metas] h fun o h' => o = .ret (lvT (lvF vals metas) t).av ∧ h' = h.set id (wk (leT (lvF vals metas) err t) nodes) := by
  induction N with
  | zero => intro t _ _ _ hN; have := t.size_pos; omega
  | succ N ih =>
  intro t err h id hN hB hlv hh hid
  obtain ⟨g1, g2, g3, g4, g5, hlt⟩ := idf hid
  obtain ⟨k, i, n, ls, ks⟩ := t
  simp only [Tm.size] at hN hB
  simp only [Tm.lvs] at hlv
  obtain ⟨hl1, hl2, hl3⟩ := hlv
  have hF : ∀ l, lvF vals metas l = if metas then assignL l vals else substL l vals := fun _ => rfl
  simp only [lvT, leT]
  generalize lvF vals metas = f at hF ih ⊢
  refine ACalls.of_run Tryz.func57 rfl ?_
  simp only [Tryz.ntmps57, List.length_cons, List.length_nil, Tm.av, cells_mk, List.map]
  refine nv ?_
  refine Run.reg fun K hK => ?_
  simp
  try (simp (disch := omega) only [wrap_id])
  refine hK _ _ _ ?_; clear hK K
  refine nv ?_
  refine Run.reg fun K hK => ?_
  simp
  try (simp (disch := omega) only [wrap_id])
  refine hK _ _ _ ?_; clear hK K
  refine nv ?_
  refine Run.reg fun K hK => ?_
  simp
  try (simp (disch := omega) only [wrap_id])
  refine hK _ _ _ ?_; clear hK K
  refine nv ?_
  refine Run.tok 9 2 (by simp) ?_
  simp
  refine Run.loopS (ι := Nat) [0, 2, 3, 5, 8] (fun j : Nat => j ≤ ls.length) (fun j => ls.length - j) (fun j => [(9, .own (h.length + 2) 2 (lvPs ((ls.take j).map fun l => (f l).1))), (10, iA j)])
    (fun j => h.set id (wk (errN f err (ls.take j)) nodes) ++ [some (.cells [iA k, iA i, .p (sP n), .p (.sl 2 (lvPs ls)), .p (.sl 5 (tmPs ks))]), some (.cells [iA 0, iA 0, .p (sP []), .p (.prim (.slice none 0 0)), .p (.prim (.slice none 0 0))]), some (.tok j 2)]) 0 (by omega) ?_ (by simp [errN, set_same hid]) ?_
  · simp [lvPs]
    repeat' (first | exact WeakL.nil | apply WeakL.cons)
    all_goals first | exact Weak.junk _ | exact Weak.refl _ | exact Weak.nil _ | exact Weak.own _ _ _ | exact Weak.int (by omega)
  · intro j hj IH
    simp
    refine nv ?_
    refine Run.reg fun K hK => ?_
    simp
    try (simp (disch := omega) only [wrap_id])
    refine hK _ _ _ ?_; clear hK K
    refine nv ?_
    by_cases hjl : j < ls.length
    · have hg : ls[j]? = some ls[j] := List.getElem?_eq_getElem hjl
      have hbl := hl2 _ (List.getElem_mem hjl)
      have hsn := errN_snoc f err hg
      have htk : ls.take (j + 1) = ls.take j ++ [ls[j]] := List.take_succ_eq_append_getElem hjl
      have hcs := fun (g : Heap) (hg : WF g) => rsubst_any g hg ls[j] vals hbl hbs hbv
      have hca := fun (g : Heap) (hg : WF g) => rassign_any g hg ls[j] vals hbl hbs hbv
      have hfj := hF ls[j]
      generalize ls[j] = l at hg hsn htk hcs hca hfj
      generalize substL l vals = r1 at hcs hfj
      generalize assignL l vals = r2 at hca hfj
      obtain ⟨⟨c2, v2⟩, e2⟩ := r2
      obtain ⟨⟨c1, v1⟩, e1⟩ := r1
      obtain ⟨⟨⟨c', v'⟩, e⟩, hfl⟩ : ∃ q, f l = q := ⟨_, rfl⟩
      rw [hfl] at hfj hsn
      simp only at hsn
      obtain ⟨c, v⟩ := l
      simp only [Lv.av, Lv.cells, List.map] at hcs hca
      have hmin : min j ls.length = j := Nat.min_eq_left hj
      have hb3 : (j + 1) * 32 ≤ 140737488355328 := by omega
      have hb4 : j + 1 ≤ 9223372036854775807 := by omega
      refine nv ?_
      refine Run.cond (b := true) (by simp [hjl]) ?_
      simp only [if_true]
      refine nv ?_
      refine Run.reg fun K hK => ?_
      simp [hg, Lv.cells]
      try (simp (disch := omega) only [wrap_id])
      refine hK _ _ _ ?_; clear hK K
      refine nv ?_
      refine Run.call rfl (by first | rfl | simp) (by simp) rfl (hcs _ ((hh.set (by simp)).app (by simp))) ?_ ?_
      rotate_left
      · rintro v h' ⟨hv, _⟩; cases hv
      rintro v h' ⟨hv, rfl⟩
      simp only [AOut.ret.injEq] at hv
      subst hv
      refine Run.ops fun K hK => ?_
      simp
      try (simp (disch := omega) only [wrap_id])
      refine hK _ _ _ ?_; clear hK K
      refine nv ?_
      refine Run.reg fun K hK => ?_
      simp
      try (simp (disch := omega) only [wrap_id])
      refine hK _ _ _ ?_; clear hK K
      repeat (first | refine Run.skip ?_ | refine Run.opsNil ?_ | refine Run.inBlock ?_)
      refine Run.joinH [0, 2, 3, 5, 8, 9, 10, 11] [(12, iA e)] (h.set id (wk (errN f err (ls.take j)) nodes) ++ [some (.cells [iA k, iA i, .p (sP n), .p (.sl 2 (lvPs ls)), .p (.sl 5 (tmPs ks))]), some (.cells [iA 0, iA 0, .p (sP []), .p (.prim (.slice none 0 0)), .p (.prim (.slice none 0 0))]), some (.tok j 2), some (.cells [iA c', .p (.sl 2 (varPs v'))])]) (fun hJ => ?_) ?_
      · cases metas with
        | true =>
          simp only [if_true, Prod.mk.injEq, Lv.mk.injEq] at hfj
          obtain ⟨⟨rfl, rfl⟩, rfl⟩ := hfj
          refine Run.cond (b := true) (by simp) ?_
          simp only [if_true]
          refine nv ?_
          refine Run.reg fun K hK => ?_
          simp [hg, Lv.cells]
          try (simp (disch := omega) only [wrap_id])
          refine hK _ _ _ ?_; clear hK K
          repeat (first | refine Run.skip ?_ | refine Run.opsNil ?_ | refine Run.inBlock ?_)
          refine Run.call rfl (by first | rfl | simp) (by simp) rfl (hca _ ((hh.set (by simp)).app (by simp))) ?_ ?_
          rotate_left
          · rintro v h' ⟨hv, _⟩; cases hv
          rintro v h' ⟨hv, rfl⟩
          simp only [AOut.ret.injEq] at hv
          subst hv
          refine Run.ops fun K hK => ?_
          simp
          try (simp (disch := omega) only [wrap_id])
          refine hK _ _ _ ?_; clear hK K
          repeat (first | refine Run.skip ?_ | refine Run.opsNil ?_ | refine Run.inBlock ?_)
          refine hJ _ ?_
          simp
          repeat' (first | exact WeakL.nil | apply WeakL.cons)
          all_goals first | exact Weak.junk _ | exact Weak.refl _ | exact Weak.nil _ | exact Weak.own _ _ _ | exact Weak.int (by omega)
        | false =>
          simp only [Bool.false_eq_true, if_false, Prod.mk.injEq, Lv.mk.injEq] at hfj
          obtain ⟨⟨rfl, rfl⟩, rfl⟩ := hfj
          refine Run.cond (b := false) (by simp) ?_
          simp only [Bool.false_eq_true, if_false]
          refine Run.skip ?_
          refine hJ _ ?_
          simp
          repeat' (first | exact WeakL.nil | apply WeakL.cons)
          all_goals first | exact Weak.junk _ | exact Weak.refl _ | exact Weak.nil _ | exact Weak.own _ _ _ | exact Weak.int (by omega)
      simp only [setMany, keepT, keepT.go, List.contains_cons, List.set_cons_succ, List.set_cons_zero]
      simp
      refine nv ?_
      refine Run.reg fun K hK => ?_
      simp
      try (simp (disch := omega) only [wrap_id])
      refine hK _ _ _ ?_; clear hK K
      repeat (first | refine Run.skip ?_ | refine Run.opsNil ?_ | refine Run.inBlock ?_)
      refine Run.joinH [0, 2, 3, 5, 8, 9, 10, 11] [] (h.set id (wk (errN f err (ls.take (j + 1))) nodes) ++ [some (.cells [iA k, iA i, .p (sP n), .p (.sl 2 (lvPs ls)), .p (.sl 5 (tmPs ks))]), some (.cells [iA 0, iA 0, .p (sP []), .p (.prim (.slice none 0 0)), .p (.prim (.slice none 0 0))]), some (.tok j 2), some (.cells [iA c', .p (.sl 2 (varPs v'))])]) (fun hJ => ?_) ?_
      · by_cases he : e = 0
        · rw [he, firstErr_zero] at hsn
          rw [hsn] at hJ
          refine Run.cond (b := false) (by simp [he]) ?_
          simp only [Bool.false_eq_true, if_false]
          refine Run.skip ?_
          refine hJ _ ?_
          simp
          repeat' (first | exact WeakL.nil | apply WeakL.cons)
          all_goals first | exact Weak.junk _ | exact Weak.refl _ | exact Weak.nil _ | exact Weak.own _ _ _ | exact Weak.int (by omega)
        · refine Run.cond (b := true) (by simp [he]) ?_
          simp only [if_true]
          refine nv ?_
          refine Run.reg fun K hK => ?_
          simp
          try (simp (disch := omega) only [wrap_id])
          refine hK _ _ _ ?_; clear hK K
          repeat (first | refine Run.skip ?_ | refine Run.opsNil ?_ | refine Run.inBlock ?_)
          refine Run.call (args := [.ptr id 0, iA e]) rfl (by first | rfl | simp) (by simp) rfl (fail_any _ ((hh.set (by simp)).app (by simp)) id (errN f err (ls.take j)) nodes e (g4 _ _)) ?_ ?_
          rotate_left
          · rintro v h' ⟨hv, _⟩; cases hv
          rintro v h' ⟨hv, rfl⟩
          simp only [AOut.ret.injEq] at hv
          subst hv
          rw [g5, ← hsn]
          refine Run.ops fun K hK => ?_
          simp
          try (simp (disch := omega) only [wrap_id])
          refine hK _ _ _ ?_; clear hK K
          repeat (first | refine Run.skip ?_ | refine Run.opsNil ?_ | refine Run.inBlock ?_)
          refine hJ _ ?_
          simp
          repeat' (first | exact WeakL.nil | apply WeakL.cons)
          all_goals first | exact Weak.junk _ | exact Weak.refl _ | exact Weak.nil _ | exact Weak.own _ _ _ | exact Weak.int (by omega)
      simp only [setMany, keepT, keepT.go, List.contains_cons]
      simp
      refine nv ?_
      refine Run.reg fun K hK => ?_
      simp [hmin, hb3, hb4]
      try (simp (disch := omega) only [wrap_id])
      refine hK _ _ _ ?_; clear hK K
      refine nv ?_
      refine Run.keep [0, 2, 3, 5, 8, 9, 10] ?_
      simp only [keepT, keepT.go, List.contains_cons]
      simp
      refine Run.cutAt 3 (hh.set (by simp)) rfl (by simp) (by simp) (by simp; omega) (by simp) rfl ?_
      simp
      refine nv ?_
      refine Run.reg fun K hK => ?_
      simp
      try (simp (disch := omega) only [wrap_id])
      refine hK _ _ _ ?_; clear hK K
      refine nv ?_
      refine IH (j + 1) _ _ (by omega) (by omega) ?_ ?_
      · rw [htk]
        simp [lvPs, hfl, Lv.cells]
        repeat' (first | exact WeakL.nil | apply WeakL.cons)
        all_goals first | exact Weak.junk _ | exact Weak.refl _ | exact Weak.nil _ | exact Weak.own _ _ _ | exact Weak.int (by omega)
      · simp
    · have hje : j = ls.length := by omega
      subst hje
      refine nv ?_
      refine Run.cond (b := false) (by simp) ?_
      simp only [Bool.false_eq_true, if_false]
      refine nv ?_
      refine Run.exit rfl ?_
      refine nv ?_
      refine Run.reg fun K hK => ?_
      simp
      try (simp (disch := omega) only [wrap_id])
      refine hK _ _ _ ?_; clear hK K
      refine nv ?_
      refine Run.reg fun K hK => ?_
      simp
      try (simp (disch := omega) only [wrap_id])
      refine hK _ _ _ ?_; clear hK K
      refine nv ?_
      refine Run.reg fun K hK => ?_
      simp
      try (simp (disch := omega) only [wrap_id])
      refine hK _ _ _ ?_; clear hK K
      refine nv ?_
      refine Run.tok 13 5 (by simp) ?_
      simp
      obtain ⟨ls2, hls2⟩ : ∃ q, ls.map (fun l => (f l).1) = q := ⟨_, rfl⟩
      have hls3 : List.take ls.length ls2 = ls2 := List.take_of_length_le (by rw [← hls2]; simp)
      simp only [hls2, hls3]
      refine Run.loopS (ι := Nat) [0, 2, 3, 5, 8] (fun j : Nat => j ≤ ks.length) (fun j => ks.length - j) (fun j => [(13, .own (h.length + 3) 5 (tmPs (lvTs f (ks.take j)))), (14, iA j)])
        (fun j => h.set id (wk (leTs f (errN f err ls) (ks.take j)) nodes) ++ [some (.cells [iA k, iA i, .p (sP n), .own (h.length + 2) 2 (lvPs ls2), .p (.sl 5 (tmPs ks))]), some (.cells [iA 0, iA 0, .p (sP []), .p (.prim (.slice none 0 0)), .p (.prim (.slice none 0 0))]), some (.tok ls.length 2), some (.tok j 5)]) 0 (by omega) ?_ (by simp only [List.take_zero, leTs]) ?_
      · simp [lvTs, tmPs]
        repeat' (first | exact WeakL.nil | apply WeakL.cons)
        all_goals first | exact Weak.junk _ | exact Weak.refl _ | exact Weak.nil _ | exact Weak.own _ _ _ | exact Weak.int (by omega)
      · intro j hj IH
        simp
        refine nv ?_
        refine Run.reg fun K hK => ?_
        simp
        try (simp (disch := omega) only [wrap_id])
        refine hK _ _ _ ?_; clear hK K
        refine nv ?_
        by_cases hjk : j < ks.length
        · have hgk : ks[j]? = some ks[j] := List.getElem?_eq_getElem hjk
          have htk : ks.take (j + 1) = ks.take j ++ [ks[j]] := List.take_succ_eq_append_getElem hjk
          have hs := sizes_take ks j _ hgk
          have hs2 := sizes_take_le ks (j + 1)
          have hs3 := length_le_sizes ks
          have hlvj := Tm.lvss_at hl3 _ (List.getElem_mem hjk)
          have hc := fun (g : Heap) (hg : WF g) (hid2 : g[id]? = some (wk (leTs f (errN f err ls) (ks.take j)) nodes)) => ih ks[j] (leTs f (errN f err ls) (ks.take j)) g id (by omega) (by omega) hlvj hg hid2
          generalize ks[j] = u at hgk htk hc
          have hsn := leTs_snoc f (ks.take j) u (errN f err ls)
          rw [← htk] at hsn
          rw [← hsn] at hc
          have hmin : min j ks.length = j := Nat.min_eq_left hj
          have hb1 : (j + 1) * 80 ≤ 140737488355328 := by omega
          have hb2 : j + 1 ≤ 9223372036854775807 := by omega
          have hts := lvTs_snoc f (ks.take j) u
          rw [← htk] at hts
          have htl := lvTs_length f (ks.take j)
          rw [List.length_take, hmin] at htl
          obtain ⟨u', hu'⟩ : ∃ u', lvT f u = u' := ⟨_, rfl⟩
          rw [hu'] at hts hc
          obtain ⟨k', i', n', ls', ks'⟩ := u'
          refine nv ?_
          refine Run.cond (b := true) (by simp [hjk]) ?_
          simp only [if_true]
          refine nv ?_
          refine Run.reg fun K hK => ?_
          simp [hgk]
          try (simp (disch := omega) only [wrap_id])
          refine hK _ _ _ ?_; clear hK K
          refine nv ?_
          refine Run.call (args := [.ptr id 0, u.av, .p (.sl 2 (lvPs vals)), bA metas]) rfl rfl (by simp) rfl (hc _ ((hh.set (by simp)).app (by simp)) (g4 _ _)) ?_ ?_
          rotate_left
          · rintro v h' ⟨hv, _⟩; cases hv
          rintro v h' ⟨hv, rfl⟩
          simp only [AOut.ret.injEq] at hv
          subst hv
          rw [g5]
          simp only [Tm.av, cells_mk, List.map]
          refine Run.ops fun K hK => ?_
          simp [htl, hb1, hb2]
          try (simp (disch := omega) only [wrap_id])
          refine hK _ _ _ ?_; clear hK K
          refine nv ?_
          refine Run.reg fun K hK => ?_
          simp
          try (simp (disch := omega) only [wrap_id])
          refine hK _ _ _ ?_; clear hK K
          refine nv ?_
          refine IH (j + 1) _ _ (by omega) (by omega) ?_ ?_
          · rw [hts, tmPs_snoc]
            simp
            repeat' (first | exact WeakL.nil | apply WeakL.cons)
            all_goals first | exact Weak.junk _ | exact Weak.refl _ | exact Weak.nil _ | exact Weak.own _ _ _ | exact Weak.int (by omega)
          · simp
        · have hje : j = ks.length := by omega
          subst hje
          rw [List.take_length]
          refine nv ?_
          refine Run.cond (b := false) (by simp) ?_
          simp only [Bool.false_eq_true, if_false]
          refine nv ?_
          refine Run.exit rfl ?_
          refine nv ?_
          refine Run.reg fun K hK => ?_
          simp
          try (simp (disch := omega) only [wrap_id])
          refine hK _ _ _ ?_; clear hK K
          refine nv ?_
          refine Run.reg fun K hK => ?_
          simp
          try (simp (disch := omega) only [wrap_id])
          refine hK _ _ _ ?_; clear hK K
          refine nv ?_
          refine Run.ret ?_
          refine Fin.ret' (h0 := h.set id (wk (leTs f (errN f err ls) ks) nodes)) (by simp) (by simp) (hh.set (by simp)) rfl (by simp; rfl) rfl (y := (Tm.mk k i n ls2 (lvTs f ks)).av) ?_ (by simp) ⟨rfl, rfl⟩
          refine Weak.agg ?_
          repeat' (first | exact WeakL.nil | apply WeakL.cons)
          all_goals first | exact Weak.junk _ | exact Weak.refl _ | exact Weak.nil _ | exact Weak.own _ _ _ | exact Weak.int (by omega)

end Go.Proofs.YtcfcolkbeelegaaGreat
