/-
  subst: plain, its levels in a row that may be written; the builder of leveled.
-/
import Derived.Test.YtcfcolkbeelegaaGreatLFU
import Derived.Test.YtcfcolkbeelegaaGreatLLJ
import Derived.Test.YtcfcolkbeelegaaGreatLC

namespace Go.Proofs.YtcfcolkbeelegaaGreat

open Go Go.AI
set_option maxRecDepth 8000 in
set_option maxHeartbeats 4000000 in
theorem plainV_any (h : Heap) (hh : WF h) (k i : Int) (n : List UInt8) (ls : List Lv) (ks : List Tm) (hb : lvBound ls) : ACalls Tryz.prog 102 [(Tm.mk k i n ls ks).av] h fun o h' => o = .ret (.agg [iA k, iA i, .p (sP n), .vec (h.length + 3) ls.length, .p (.prim (.slice none 0 0))]) ∧
    h' = h ++ [some (.cells [iA k, iA i, .p (sP n), .p (.sl 2 (lvPs ls)), .p (.sl 5 (tmPs ks))]), some (.cells [iA k, iA i, .p (sP n), .vec (h.length + 3) ls.length, .p (.prim (.slice none 0 0))]),
        some (.cells [iA k, iA i, .p (sP n), .vec (h.length + 3) ls.length, .p (.prim (.slice none 0 0))]), some (.vec 2 (lvPs ls))] := by
  refine ACalls.of_run Tryz.func102 rfl ?_
  simp only [Tryz.ntmps102, List.length_cons, List.length_nil, Tm.av, cells_mk, List.map]
  refine nv ?_
  refine Run.reg fun K hK => ?_
  simp
  try (simp (disch := omega) only [wrap_id])
  refine hK _ _ _ ?_; clear hK K
  refine nv ?_
  refine Run.reg fun K hK => ?_
  simp
  try (simp (disch := omega) only [wrap_id])
  refine hK _ _ _ ?_; clear hK K
  refine nv ?_
  refine Run.reg fun K hK => ?_
  simp
  try (simp (disch := omega) only [wrap_id])
  refine hK _ _ _ ?_; clear hK K
  refine nv ?_
  refine Run.vecAt (h.length + 2) 3 2 (by simp; rfl) (by simp) ?_
  simp
  refine Run.loopS [1, 2, 3, 14, 15] (fun j : Nat => j ≤ ls.length) (fun j => ls.length - j) (fun j => [(16, iA j)])
      (fun j => h ++ [some (.cells [iA k, iA i, .p (sP n), .p (.sl 2 (lvPs ls)), .p (.sl 5 (tmPs ks))]), some (.cells [iA 0, iA 0, .p (sP []), .p (.prim (.slice none 0 0)), .p (.prim (.slice none 0 0))]),
        some (.cells [iA k, iA i, .p (sP n), .vec (h.length + 3) j, .p (.prim (.slice none 0 0))]), some (.vec 2 (lvPs (ls.take j)))])
      0 (by simp) ?_ (by simp [lvPs]) ?_
  · simp
    repeat' (first | exact WeakL.nil | apply WeakL.cons)
    all_goals first | exact Weak.junk _ | exact Weak.refl _ | exact Weak.nil _ | exact Weak.own _ _ _ | exact Weak.int (by omega)
  · intro j hj IH
    simp
    refine nv ?_
    refine Run.reg fun K hK => ?_
    simp
    try (simp (disch := omega) only [wrap_id])
    refine hK _ _ _ ?_; clear hK K
    refine nv ?_
    by_cases hjl : j < ls.length
    · have hg : ls[j]? = some ls[j] := List.getElem?_eq_getElem hjl
      have hvl := hb.2 _ (List.getElem_mem hjl)
      have hmin : min j ls.length = j := Nat.min_eq_left hj
      have hb0 := hb.1
      refine nv ?_
      refine Run.cond (b := true) (by simp [hjl]) ?_
      simp only [if_true]
      refine nv ?_
      refine Run.reg fun K hK => ?_
      simp [hg, Lv.cells]
      try (simp (disch := omega) only [wrap_id])
      refine hK _ _ _ ?_; clear hK K
      refine nv ?_
      refine Run.draw [0, 0, 0, 0, 0, 0, 0, 1, 1, 1, 2, 2] [0, 0, 0, 0, 0, 0, 0, 0, 0, 1, 0, 2] [0, 1, 0, 4, 0, 16, 48, 124, 252, 511, 1023, 2047] [4, 5, 6, 0, 1, 2, 3, 7, 8, 9, 10, 11] (by kernel_rfl) (by kernel_rfl) ?_
      have hb1 : ls[j].vars.length * 16 ≤ 140737488355328 := by omega
      have hb2 : ls[j].vars.length ≤ 9223372036854775807 := by omega
      have hb3 : (j + 1) * 32 ≤ 140737488355328 := by omega
      have hb4 : j + 1 ≤ 9223372036854775807 := by omega
      have hl2 : (∀ (x : List PV), x ∈ lvPs (List.take j ls) → x.length = 2) = True := eq_true fun e he => by simp only [lvPs, List.mem_map] at he; obtain ⟨a, _, rfl⟩ := he; simp [Lv.cells]
      refine DR.go fun K hK => ?_
      simp [hmin, hb1, hb2, hb3, hb4, hl2]
      try (simp (disch := omega) only [wrap_id])
      refine hK _ _ _ _ ?_; clear hK K
      change Run _ _ _ _ _ _ _ _
      refine nv ?_
      refine Run.reg fun K hK => ?_
      simp
      try (simp (disch := omega) only [wrap_id])
      refine hK _ _ _ ?_; clear hK K
      refine nv ?_
      have htk : ls.take (j + 1) = ls.take j ++ [ls[j]] := List.take_succ_eq_append_getElem hjl
      refine Run.keep [1, 2, 3, 14, 15, 16] ?_
      simp
      refine Run.cutAt 4 hh rfl (by omega) (by simp) (by simp) (by simp) rfl ?_
      refine IH (j + 1) _ _ (by omega) (by omega) ?_ ?_
      · simp
        repeat' (first | exact WeakL.nil | apply WeakL.cons)
        all_goals first | exact Weak.junk _ | exact Weak.refl _ | exact Weak.nil _ | exact Weak.own _ _ _ | exact Weak.int (by omega)
      · rw [htk, lvPs_snoc]
        simp [Lv.cells]
    · have hje : j = ls.length := by omega
      subst hje
      refine nv ?_
      refine Run.cond (b := false) (by simp) ?_
      simp only [Bool.false_eq_true, if_false]
      refine nv ?_
      refine Run.exit rfl ?_
      refine nv ?_
      refine Run.reg fun K hK => ?_
      simp
      try (simp (disch := omega) only [wrap_id])
      refine hK _ _ _ ?_; clear hK K
      refine nv ?_
      refine Run.ret ?_
      refine Fin.retM (h0 := h ++ [some (.cells [iA k, iA i, .p (sP n), .p (.sl 2 (lvPs ls)), .p (.sl 5 (tmPs ks))]), some (.cells [iA k, iA i, .p (sP n), .vec (h.length + 3) ls.length, .p (.prim (.slice none 0 0))]),
        some (.cells [iA k, iA i, .p (sP n), .vec (h.length + 3) ls.length, .p (.prim (.slice none 0 0))]), some (.vec 2 (lvPs ls))]) (l := []) (by simp) (by simp) (hh.app (by simp)) (by simp) (by simp; rfl) rfl (Weak.refl _) (by simp) ⟨rfl, rfl⟩

end Go.Proofs.YtcfcolkbeelegaaGreat
