/-
  telescope: binders over a term; slices.Backward.
-/
import Derived.Test.YtppgpabjcenjdaaCT3
import Derived.Test.YtppgpabjcenjdaaCK1

namespace Go.Proofs.Ytppgpabjcenjdaa

open Go Go.AI
abbrev vc (x : Int) : List PV := [iP 0, iP x, sP [], .prim (.slice none 0 0), .prim (.slice none 0 0)]
theorem vc_len (l : List Int) : ∀ e ∈ l.map vc, e.length = 5 := by
  intro e he
  obtain ⟨x, _, rfl⟩ := List.mem_map.1 he
  rfl
theorem vc_weak : ∀ l : List Int, WeakPs (l.map vc) (tmPs (l.map vr))
  | [] => WeakPs.nil
  | x :: l => by
    simp only [List.map_cons, tmPs, vr, cells_mk]
    refine WeakPs.cons ?_ (vc_weak l)
    repeat' (first | exact WeakPL.nil | apply WeakPL.cons)
    all_goals first | exact WeakP.refl _ | exact WeakP.nil _
def varZ (n fr : Int) : List Int := if n < 1 ∨ 4096 < n ∨ fr < 0 then [] else (List.range n.toNat).map fun j : Nat => fr + n - 1 - j
def varL (n fr : Int) : List Tm := (varZ n fr).map vr
def varRow (fr : Int) (N j : Nat) : List (List PV) := ((List.range j).map fun j : Nat => fr + N - 1 - j).map vc ++ List.replicate (N - j) z5
theorem varRow_len5 (fr : Int) (N j : Nat) : ∀ e ∈ varRow fr N j, e.length = 5 := by
  intro e he
  rcases List.mem_append.1 he with h | h
  · exact vc_len _ e h
  · rw [(List.mem_replicate.1 h).2]; rfl
theorem varRow_length (fr : Int) (N j : Nat) (hj : j ≤ N) : (varRow fr N j).length = N := by simp [varRow]; omega
theorem varRow_set (fr : Int) (N j : Nat) (hj : j < N) : (varRow fr N j).set j (vc (fr + N - 1 - j)) = varRow fr N (j + 1) := by
  unfold varRow
  rw [List.set_append_right _ _ (by simp), show N - j = N - (j + 1) + 1 by omega, List.replicate_succ]
  simp only [List.length_map, List.length_range, Nat.sub_self, List.set_cons_zero, List.range_succ, List.map_append, List.map_cons, List.map_nil, List.append_assoc, List.cons_append, List.nil_append]
theorem varRow_zero (fr : Int) (N : Nat) : (List.replicate N [iA 0, iA 0, AV.p (sP []), AV.p (.prim (.slice none 0 0)), AV.p (.prim (.slice none 0 0))]).flatten = buf 5 (varRow fr N 0) 0 := by
  rw [kidCells_zero]
  simp [kidCells, buf, varRow, tmPs]
set_option maxRecDepth 8000 in
set_option maxHeartbeats 4000000 in
theorem vars53_any (h : Heap) (hh : WF h) (n fr : Int) (hn : -9223372036854775808 ≤ n) (hn2 : n ≤ 9223372036854775807) (hf : fr ≤ 1099511627776) : ACalls Try.prog 53 [iA n, iA fr] h fun o h' => o = .ret (.p (.sl 5 (tmPs (varL n fr)))) ∧ h' = h := by
  obtain ⟨r, hr⟩ : ∃ r, r = varZ n fr := ⟨_, rfl⟩
  unfold varL
  rw [← hr]
  unfold varZ at hr
  by_cases c1 : n < 1
  · rw [if_pos (.inl c1)] at hr
    subst hr
    refine ACalls.of_run Try.func53 rfl ?_
    simp only [Try.ntmps53, List.length_cons, List.length_nil, List.map]
    refine Run.reg fun K hK => ?_
    simp
    refine hK _ _ _ ?_; clear hK K
    refine Run.reg fun K hK => ?_
    simp [c1]
    refine hK _ _ _ ?_; clear hK K
    refine Run.cond (b := true) (by simp) ?_
    simp only [if_true]
    refine Run.reg fun K hK => ?_
    simp
    refine hK _ _ _ ?_; clear hK K
    refine Run.ret ?_
    exact Fin.ret' (h0 := h) (xs := [.p (.prim (.slice none 0 0))]) (by simp) rfl hh (List.append_nil _).symm (by simp) rfl (Weak.nil 5) rfl ⟨rfl, rfl⟩
  by_cases c2 : 4096 < n
  · rw [if_pos (.inr (.inl c2))] at hr
    subst hr
    refine ACalls.of_run Try.func53 rfl ?_
    simp only [Try.ntmps53, List.length_cons, List.length_nil, List.map]
    refine Run.reg fun K hK => ?_
    simp
    refine hK _ _ _ ?_; clear hK K
    refine Run.reg fun K hK => ?_
    simp [c1, c2]
    refine hK _ _ _ ?_; clear hK K
    refine Run.cond (b := true) (by simp) ?_
    simp only [if_true]
    refine Run.reg fun K hK => ?_
    simp
    refine hK _ _ _ ?_; clear hK K
    refine Run.ret ?_
    exact Fin.ret' (h0 := h) (xs := [.p (.prim (.slice none 0 0))]) (by simp) rfl hh (List.append_nil _).symm (by simp) rfl (Weak.nil 5) rfl ⟨rfl, rfl⟩
  by_cases c3 : fr < 0
  · rw [if_pos (.inr (.inr c3))] at hr
    subst hr
    refine ACalls.of_run Try.func53 rfl ?_
    simp only [Try.ntmps53, List.length_cons, List.length_nil, List.map]
    refine Run.reg fun K hK => ?_
    simp
    refine hK _ _ _ ?_; clear hK K
    refine Run.reg fun K hK => ?_
    simp [c1, c2, c3]
    refine hK _ _ _ ?_; clear hK K
    refine Run.cond (b := true) (by simp) ?_
    simp only [if_true]
    refine Run.reg fun K hK => ?_
    simp
    refine hK _ _ _ ?_; clear hK K
    refine Run.ret ?_
    exact Fin.ret' (h0 := h) (xs := [.p (.prim (.slice none 0 0))]) (by simp) rfl hh (List.append_nil _).symm (by simp) rfl (Weak.nil 5) rfl ⟨rfl, rfl⟩
  rw [if_neg (by omega)] at hr
  obtain ⟨N, hN⟩ : ∃ N : Nat, n = N := ⟨n.toNat, by omega⟩
  subst hN
  rw [Int.toNat_natCast] at hr
  have hm1 : N * 80 ≤ 140737488355328 := by omega
  have hm2 : N ≤ 1099511627776 := by omega
  refine ACalls.of_run Try.func53 rfl ?_
  simp only [Try.ntmps53, List.length_cons, List.length_nil]
  refine Run.reg fun K hK => ?_
  simp
  refine hK _ _ _ ?_; clear hK K
  refine Run.reg fun K hK => ?_
  simp [c1, c2, c3]
  refine hK _ _ _ ?_; clear hK K
  refine Run.cond (b := false) (by simp) ?_
  simp only [Bool.false_eq_true, if_false]
  refine Run.reg fun K hK => ?_
  simp [hm1, hm2]
  refine hK _ _ _ ?_; clear hK K
  rw [varRow_zero fr N]
  refine Run.reg fun K hK => ?_
  simp
  refine hK _ _ _ ?_; clear hK K
  refine Run.loopS [0, 1, 5, 20] (fun j : Nat => j ≤ N) (fun j => N - j) (fun j => [(21, iA j)]) (fun j => h ++ [some (.cells (buf 5 (varRow fr N j) 0))]) 0 (by simp) ?_ (by simp) ?_
  · simp
    repeat' (first | exact WeakL.nil | apply WeakL.cons)
    all_goals first | exact Weak.junk _ | exact Weak.refl _ | exact Weak.nil _ | exact Weak.own _ _ _ | exact Weak.int (by omega)
  intro j hj IH
  simp
  refine Run.reg fun K hK => ?_
  simp
  refine hK _ _ _ ?_; clear hK K
  by_cases hjl : j < N
  · have hl := varRow_length fr N j hj
    have hw1 : IntKind.i64.wrap (fr + N) = fr + N := wrap_id (by omega) (by omega)
    have hw2 : IntKind.i64.wrap (fr + N - 1) = fr + N - 1 := wrap_id (by omega) (by omega)
    have hw3 : IntKind.i64.wrap (fr + N - 1 - j) = fr + N - 1 - j := wrap_id (by omega) (by omega)
    have hput : patch (buf 5 (varRow fr N j) 0) (j * 5) [iA 0, iA (fr + N - 1 - j), .p (sP []), .p (.prim (.slice none 0 0)), .p (.prim (.slice none 0 0))] = buf 5 (varRow fr N (j + 1)) 0 := by
      have := buf_set (m := 0) (k := j) (e := vc (fr + N - 1 - j)) (varRow_len5 fr N j) (by omega) rfl
      rw [varRow_set fr N j hjl] at this
      exact this
    have hlen : j * 5 + 5 ≤ (buf 5 (varRow fr N j) 0).length := by rw [buf_len (varRow_len5 fr N j), hl]; omega
    refine Run.cond (b := true) (by simp [hjl]) ?_
    simp only [if_true]
    refine Run.reg fun K hK => ?_
    simp
    refine hK _ _ _ ?_; clear hK K
    refine Run.reg fun K hK => ?_
    simp [hjl, hw1, hw2, hw3, hlen]
    refine hK _ _ _ ?_; clear hK K
    refine Run.reg fun K hK => ?_
    simp
    refine hK _ _ _ ?_; clear hK K
    refine IH (j + 1) _ _ (by omega) (by omega) ?_ ?_
    · simp
      repeat' (first | exact WeakL.nil | apply WeakL.cons)
      all_goals first | exact Weak.junk _ | exact Weak.refl _ | exact Weak.nil _ | exact Weak.own _ _ _ | exact Weak.int (by omega)
    · exact congrArg (fun c => h ++ [some (AO.cells c)]) hput
  · have hje : j = N := by omega
    subst hje
    refine Run.cond (b := false) (by simp) ?_
    simp only [Bool.false_eq_true, if_false]
    refine Run.exit rfl ?_
    refine Run.reg fun K hK => ?_
    simp
    refine hK _ _ _ ?_; clear hK K
    have hfin : varRow fr j j = r.map vc := by rw [hr]; simp [varRow]
    rw [hfin]
    refine Run.freezeS 4 (id := h.length) (n := j) (cap := j) (sz := 5) (m := 0) (es := r.map vc) (by simp) (by simp) (vc_len r) (by rw [← hfin, varRow_length _ _ _ (Nat.le_refl _)]) (Nat.le_refl _) ?_
    simp
    refine Run.ret ?_
    exact Fin.ret' (h0 := h) (xs := [.p (.sl 5 (r.map vc))]) (by simp) rfl hh rfl (by simp) rfl (WeakP.sl (vc_weak r)).av rfl ⟨rfl, rfl⟩
set_option maxRecDepth 8000 in
set_option maxHeartbeats 4000000 in
theorem vars54_any (h : Heap) (hh : WF h) (n fr : Int) (hn : -9223372036854775808 ≤ n) (hn2 : n ≤ 9223372036854775807) (hf : fr ≤ 1099511627776) : ACalls Try.prog 54 [iA n, iA fr] h fun o h' => o = .ret (.p (.sl 5 (tmPs (varL n fr)))) ∧ h' = h := by
  obtain ⟨r, hr⟩ : ∃ r, r = varZ n fr := ⟨_, rfl⟩
  unfold varL
  rw [← hr]
  unfold varZ at hr
  by_cases c1 : n < 1
  · rw [if_pos (.inl c1)] at hr
    subst hr
    refine ACalls.of_run Try.func54 rfl ?_
    simp only [Try.ntmps54, List.length_cons, List.length_nil, List.map]
    refine Run.reg fun K hK => ?_
    simp
    refine hK _ _ _ ?_; clear hK K
    refine Run.reg fun K hK => ?_
    simp [c1]
    refine hK _ _ _ ?_; clear hK K
    refine Run.cond (b := true) (by simp) ?_
    simp only [if_true]
    refine Run.reg fun K hK => ?_
    simp
    refine hK _ _ _ ?_; clear hK K
    refine Run.ret ?_
    exact Fin.ret' (h0 := h) (xs := [.p (.prim (.slice none 0 0))]) (by simp) rfl hh (List.append_nil _).symm (by simp) rfl (Weak.nil 5) rfl ⟨rfl, rfl⟩
  by_cases c2 : 4096 < n
  · rw [if_pos (.inr (.inl c2))] at hr
    subst hr
    refine ACalls.of_run Try.func54 rfl ?_
    simp only [Try.ntmps54, List.length_cons, List.length_nil, List.map]
    refine Run.reg fun K hK => ?_
    simp
    refine hK _ _ _ ?_; clear hK K
    refine Run.reg fun K hK => ?_
    simp [c1, c2]
    refine hK _ _ _ ?_; clear hK K
    refine Run.cond (b := true) (by simp) ?_
    simp only [if_true]
    refine Run.reg fun K hK => ?_
    simp
    refine hK _ _ _ ?_; clear hK K
    refine Run.ret ?_
    exact Fin.ret' (h0 := h) (xs := [.p (.prim (.slice none 0 0))]) (by simp) rfl hh (List.append_nil _).symm (by simp) rfl (Weak.nil 5) rfl ⟨rfl, rfl⟩
  by_cases c3 : fr < 0
  · rw [if_pos (.inr (.inr c3))] at hr
    subst hr
    refine ACalls.of_run Try.func54 rfl ?_
    simp only [Try.ntmps54, List.length_cons, List.length_nil, List.map]
    refine Run.reg fun K hK => ?_
    simp
    refine hK _ _ _ ?_; clear hK K
    refine Run.reg fun K hK => ?_
    simp [c1, c2, c3]
    refine hK _ _ _ ?_; clear hK K
    refine Run.cond (b := true) (by simp) ?_
    simp only [if_true]
    refine Run.reg fun K hK => ?_
    simp
    refine hK _ _ _ ?_; clear hK K
    refine Run.ret ?_
    exact Fin.ret' (h0 := h) (xs := [.p (.prim (.slice none 0 0))]) (by simp) rfl hh (List.append_nil _).symm (by simp) rfl (Weak.nil 5) rfl ⟨rfl, rfl⟩
  rw [if_neg (by omega)] at hr
  obtain ⟨N, hN⟩ : ∃ N : Nat, n = N := ⟨n.toNat, by omega⟩
  subst hN
  rw [Int.toNat_natCast] at hr
  have hw0 : IntKind.i64.wrap ((N : Int) - 1) = (N : Int) - 1 := wrap_id (by omega) (by omega)
  refine ACalls.of_run Try.func54 rfl ?_
  simp only [Try.ntmps54, List.length_cons, List.length_nil]
  refine Run.reg fun K hK => ?_
  simp
  refine hK _ _ _ ?_; clear hK K
  refine Run.reg fun K hK => ?_
  simp [c1, c2, c3]
  refine hK _ _ _ ?_; clear hK K
  refine Run.cond (b := false) (by simp) ?_
  simp only [Bool.false_eq_true, if_false]
  refine Run.reg fun K hK => ?_
  simp
  refine hK _ _ _ ?_; clear hK K
  refine Run.reg fun K hK => ?_
  simp [hw0]
  refine hK _ _ _ ?_; clear hK K
  refine Run.tok 5 5 (by simp) ?_
  simp
  refine Run.loopS [0, 1] (fun j : Nat => j ≤ N) (fun j => N - j) (fun j => [(5, .own h.length 5 (((List.range j).map fun j : Nat => fr + N - 1 - j).map vc)), (6, iA ((N : Int) - 1 - j))]) (fun j => h ++ [some (.tok j 5)]) 0 (by simp) ?_ (by simp) ?_
  · simp
    repeat' (first | exact WeakL.nil | apply WeakL.cons)
    all_goals first | exact Weak.junk _ | exact Weak.refl _ | exact Weak.nil _ | exact Weak.own _ _ _ | exact Weak.int (by omega)
  intro j hj IH
  simp
  by_cases hjl : j < N
  · have c4 : (j : Int) ≤ (N : Int) - 1 := by omega
    have hw1 : IntKind.i64.wrap (fr + ((N : Int) - 1 - j)) = fr + N - 1 - j := by rw [wrap_id (by omega) (by omega)]; omega
    have hw2 : IntKind.i64.wrap ((N : Int) - 1 - j - 1) = (N : Int) - 1 - j - 1 := wrap_id (by omega) (by omega)
    have hb1 : (j + 1) * 80 ≤ 140737488355328 := by omega
    have hb2 : j + 1 ≤ 9223372036854775807 := by omega
    refine Run.reg fun K hK => ?_
    simp
    refine hK _ _ _ ?_; clear hK K
    refine Run.cond (b := true) (by simp [c4]) ?_
    simp only [if_true]
    refine Run.reg fun K hK => ?_
    simp [hw1, hb1, hb2]
    refine hK _ _ _ ?_; clear hK K
    refine Run.reg fun K hK => ?_
    simp [hw2]
    refine hK _ _ _ ?_; clear hK K
    refine IH (j + 1) _ _ (by omega) (by omega) ?_ ?_
    · simp [List.range_succ]
      repeat' (first | exact WeakL.nil | apply WeakL.cons)
      all_goals first | exact Weak.junk _ | exact Weak.refl _ | exact Weak.int (by omega)
    · simp
  · have hje : j = N := by omega
    subst hje
    have c4 : (j : Int) - 1 < j := by omega
    refine Run.reg fun K hK => ?_
    simp
    refine hK _ _ _ ?_; clear hK K
    refine Run.cond (b := false) (by simp [c4]) ?_
    simp only [Bool.false_eq_true, if_false]
    refine Run.exit rfl ?_
    refine Run.reg fun K hK => ?_
    simp
    refine hK _ _ _ ?_; clear hK K
    refine Run.ret ?_
    have hfin : ((List.range j).map fun q : Nat => fr + j - 1 - q).map vc = r.map vc := by rw [hr]
    refine Fin.ret' (h0 := h) (xs := [.own h.length 5 (r.map vc)]) (by simp) rfl hh rfl (by rw [← hfin]; simp) rfl (fun E w v hv => (WeakP.sl (vc_weak r)).av E w v (Weak.own _ _ _ E w v hv)) rfl ⟨rfl, rfl⟩

end Go.Proofs.Ytppgpabjcenjdaa

namespace Go.Proofs.Ytppgpabjcenjdaa

open Go Go.AI
def resInst (ctx : List Tm) (t : Tm) (args : List Tm) : Tm × Int := if args.length ≠ ctx.length then (zT, 6) else resRefUnder t args.reverse 0

end Go.Proofs.Ytppgpabjcenjdaa

namespace Go.Proofs.Ytppgpabjcenjdaa

open Go Go.AI
def bindT (k : Int) (ctx : List Tm) (t : Tm) : Tm := ctx.foldr (fun a t => .mk k 0 [] [] [a, t]) t

end Go.Proofs.Ytppgpabjcenjdaa
