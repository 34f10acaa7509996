/-
  ref07.Names.
-/
import Derived.Test.YtcfcolkbeelegaaGreatMX2
import Derived.Test.YtcfcolkbeelegaaGreatMFV

namespace Go.AI

open Go
@[simp] theorem str_append (a b : List UInt8) : (ByteArray.mk a.toArray ++ ByteArray.mk b.toArray) = ByteArray.mk (a ++ b).toArray := by
 apply ByteArray.ext
 simp
@[simp] theorem str_size (a : List UInt8) : (ByteArray.mk a.toArray).size = a.length := by simp [ByteArray.size]

end Go.AI

namespace Go.Proofs.YtcfcolkbeelegaaGreat

open Go Go.AI
theorem strPs_len1 (l : List (List UInt8)) : ∀ e ∈ strPs l, e.length = 1 := by
 intro e he
 obtain ⟨z, _, rfl⟩ := List.mem_map.1 he
 rfl
theorem strPs_snoc (l : List (List UInt8)) (s : List UInt8) : strPs l ++ [[sP s]] = strPs (l ++ [s]) := by simp [strPs]
@[simp] theorem ctCells_get (l : List Ct) (j : Nat) : (l.map Ct.cells)[j]? = (l[j]?).map Ct.cells := by simp
theorem kcase (k : Int) : k = 0 ∨ k = 1 ∨ k = 2 ∨ k = 3 ∨ k = 4 ∨ ((k == 0) = false ∧ (k == 1) = false ∧ (k == 2) = false ∧ (k == 3) = false ∧ (k == 4) = false) := by simp; omega
set_option maxRecDepth 8000 in
set_option maxHeartbeats 8000000 in
theorem names_any (h : Heap) (hh : WF h) (d : Dc) (hn : d.nm.length ≤ 1099511627776) (hc : d.cs.length ≤ 1048576) (hf : d.fs.length ≤ 1048576) : ACalls Tryz.prog 218 [d.av] h fun o h' => o = .ret (.p (.sl 1 (strPs (namesZ d)))) ∧ h' = h := by
 have hk := kcase d.k
 obtain ⟨r, hr⟩ : ∃ r, r = namesZ d := ⟨_, rfl⟩
 rw [← hr]
 unfold namesZ at hr
 obtain ⟨k, nm, ps, ⟨k1, i1, n1, l1, s1⟩, ⟨k2, i2, n2, l2, s2⟩, fx, cs, rp, ⟨k3, i3, n3, l3, s3⟩, rr, fs⟩ := d
 simp only at hn hc hf hr hk
 simp only [Dc.av, Dc.cells, cells_mk, List.map, List.cons_append, List.nil_append]
 refine ACalls.of_run Tryz.func218 rfl ?_
 simp only [Tryz.ntmps218, List.length_cons, List.length_nil]
 refine nv ?_
 refine Run.reg fun K hK => ?_
 simp
 try (simp (disch := omega) only [wrap_id])
 refine hK _ _ _ (nv ?_); clear hK K
 refine Run.reg fun K hK => ?_
 simp
 try (simp (disch := omega) only [wrap_id])
 refine hK _ _ _ (nv ?_); clear hK K
 rcases hk with rfl | rfl | rfl | rfl | rfl | ⟨e0, e1, e2, e3, e4⟩
 ·rw [if_pos (by omega)] at hr
  refine nv ?_
  refine Run.reg fun K hK => ?_
  simp
  try (simp (disch := omega) only [wrap_id])
  refine hK _ _ _ (nv ?_); clear hK K
  refine ct (by simp) (nv ?_)
  refine ct (by simp) (nv ?_)
  refine Run.reg fun K hK => ?_
  simp
  try (simp (disch := omega) only [wrap_id])
  refine hK _ _ _ (nv ?_); clear hK K
  refine Run.ret ?_
  exact Fin.ret' (h0 := h) (by simp) rfl hh rfl (by simp; rfl) rfl (Weak.refl _) (by simp) ⟨by rw [hr]; rfl, rfl⟩
 ·rw [if_pos (by omega)] at hr
  refine nv ?_
  refine Run.reg fun K hK => ?_
  simp
  try (simp (disch := omega) only [wrap_id])
  refine hK _ _ _ (nv ?_); clear hK K
  refine cf (by simp) (nv ?_)
  refine Run.reg fun K hK => ?_
  simp
  try (simp (disch := omega) only [wrap_id])
  refine hK _ _ _ (nv ?_); clear hK K
  refine ct (by simp) (nv ?_)
  refine ct (by simp) (nv ?_)
  refine Run.reg fun K hK => ?_
  simp
  try (simp (disch := omega) only [wrap_id])
  refine hK _ _ _ (nv ?_); clear hK K
  refine Run.ret ?_
  exact Fin.ret' (h0 := h) (by simp) rfl hh rfl (by simp; rfl) rfl (Weak.refl _) (by simp) ⟨by rw [hr]; rfl, rfl⟩
 ·rw [if_pos (by omega)] at hr
  refine nv ?_
  refine Run.reg fun K hK => ?_
  simp
  try (simp (disch := omega) only [wrap_id])
  refine hK _ _ _ (nv ?_); clear hK K
  refine cf (by simp) (nv ?_)
  refine Run.reg fun K hK => ?_
  simp
  try (simp (disch := omega) only [wrap_id])
  refine hK _ _ _ (nv ?_); clear hK K
  refine cf (by simp) (nv ?_)
  refine Run.reg fun K hK => ?_
  simp
  try (simp (disch := omega) only [wrap_id])
  refine hK _ _ _ (nv ?_); clear hK K
  refine ct (by simp) (nv ?_)
  refine Run.reg fun K hK => ?_
  simp
  try (simp (disch := omega) only [wrap_id])
  refine hK _ _ _ (nv ?_); clear hK K
  refine Run.ret ?_
  exact Fin.ret' (h0 := h) (by simp) rfl hh rfl (by simp; rfl) rfl (Weak.refl _) (by simp) ⟨by rw [hr]; rfl, rfl⟩
 ·rw [if_neg (by omega), if_pos rfl] at hr
  refine nv ?_
  refine Run.reg fun K hK => ?_
  simp
  try (simp (disch := omega) only [wrap_id])
  refine hK _ _ _ (nv ?_); clear hK K
  refine cf (by simp) (nv ?_)
  refine Run.reg fun K hK => ?_
  simp
  try (simp (disch := omega) only [wrap_id])
  refine hK _ _ _ (nv ?_); clear hK K
  refine cf (by simp) (nv ?_)
  refine Run.reg fun K hK => ?_
  simp
  try (simp (disch := omega) only [wrap_id])
  refine hK _ _ _ (nv ?_); clear hK K
  refine cf (by simp) (nv ?_)
  refine Run.reg fun K hK => ?_
  simp
  try (simp (disch := omega) only [wrap_id])
  refine hK _ _ _ (nv ?_); clear hK K
  refine ct (by simp) (nv ?_)
  refine Run.regPre 2 fun K hK => ?_
  simp only [List.take_succ_cons, List.take_zero]
  simp
  try (simp (disch := omega) only [wrap_id])
  refine hK _ _ _ ?_; clear hK K
  simp only [List.nil_append, List.drop_succ_cons, List.drop_zero]
  refine Run.buildV (sz := 1) (es := [[sP nm]]) rfl (by simp [awanted]) (by simp) (by simp) ?_
  simp
  refine Run.ops fun K hK => ?_
  simp
  try (simp (disch := omega) only [wrap_id])
  refine hK _ _ _ (nv ?_); clear hK K
  refine Run.reg fun K hK => ?_
  simp
  try (simp (disch := omega) only [wrap_id])
  refine hK _ _ _ (nv ?_); clear hK K
  refine Run.loopS [1] (fun j : Nat => j ≤ cs.length) (fun j => cs.length - j) (fun j => [(3, .vec (h.length + 1) (j + 1)), (4, iA j)])
   (fun j => h ++ [some (.cells [iA 3, .p (sP nm), iA ps, .p (iP k1), .p (iP i1), .p (sP n1), .p (.sl 2 (lvPs l1)), .p (.sl 5 (tmPs s1)), .p (iP k2), .p (iP i2), .p (sP n2), .p (.sl 2 (lvPs l2)), .p (.sl 5 (tmPs s2)), iA fx, .p (.sl 6 (cs.map Ct.cells)), iA rp, .p (iP k3), .p (iP i3), .p (sP n3), .p (.sl 2 (lvPs l3)), .p (.sl 5 (tmPs s3)), .p (.sl 5 (tmPs rr)), .p (.sl 15 (fs.map Fu.cells))]), some (.vec 1 (strPs (nm :: (cs.take j).map Ct.nm)))]) 0 (by simp) ?_ (by simp [strPs]) ?_
  ·simp
   repeat' (first | exact WeakL.nil | apply WeakL.cons)
   all_goals first | exact Weak.junk _ | exact Weak.refl _ | exact Weak.nil _ | exact Weak.own _ _ _ | exact Weak.int (by omega)
  intro j hj IH
  simp
  refine nv ?_
  refine Run.reg fun K hK => ?_
  simp
  try (simp (disch := omega) only [wrap_id])
  refine hK _ _ _ (nv ?_); clear hK K
  by_cases hjl : j < cs.length
  ·have hg : cs[j]? = some cs[j] := List.getElem?_eq_getElem hjl
   have htk : cs.take (j + 1) = cs.take j ++ [cs[j]] := List.take_succ_eq_append_getElem hjl
   have hmin : min j cs.length = j := Nat.min_eq_left hj
   obtain ⟨⟨x, y⟩, hxy⟩ : ∃ c, cs[j] = c := ⟨_, rfl⟩
   rw [hxy] at hg htk
   refine nv ?_
   refine ct (by simp [hjl]) (nv ?_)
   refine Run.regPre 8 fun K hK => ?_
   simp only [List.take_succ_cons, List.take_zero]
   simp [hg, Ct.cells]
   try (simp (disch := omega) only [wrap_id])
   refine hK _ _ _ ?_; clear hK K
   simp only [List.nil_append, List.drop_succ_cons, List.drop_zero]
   refine Run.appendV (id := h.length + 1) (es := strPs (nm :: (cs.take j).map Ct.nm)) (ys := [[sP x]]) (sz := 1) (by_ := 16) (e := 9) rfl (by simp [awanted]) rfl rfl rfl rfl (by simp [hmin]) (by simp) (strPs_len1 _) (by simp) (by simp) (by simp) (by simp; omega) (by simp; omega) ?_
   simp [hmin]
   refine Run.ops fun K hK => ?_
   simp
   try (simp (disch := omega) only [wrap_id])
   refine hK _ _ _ (nv ?_); clear hK K
   refine Run.reg fun K hK => ?_
   simp
   try (simp (disch := omega) only [wrap_id])
   refine hK _ _ _ (nv ?_); clear hK K
   refine IH (j + 1) _ _ (by omega) (by omega) ?_ ?_
   ·simp
    repeat' (first | exact WeakL.nil | apply WeakL.cons)
    all_goals first | exact Weak.junk _ | exact Weak.refl _ | exact Weak.nil _ | exact Weak.own _ _ _ | exact Weak.int (by omega)
   ·rw [htk]; simp [strPs]
  ·have hje : j = cs.length := by omega
   subst hje
   have hsz : nm.length + 4 ≤ 9223372036854775807 := by omega
   have htl : List.take cs.length (cs.map Ct.nm) = cs.map Ct.nm := List.take_of_length_le (by simp)
   rw [htl]
   refine nv ?_
   refine cf (by simp) (nv ?_)
   refine Run.exit rfl ?_
   refine nv ?_
   refine Run.regPre 5 fun K hK => ?_
   simp only [List.take_succ_cons, List.take_zero]
   simp [hsz]
   try (simp (disch := omega) only [wrap_id])
   refine hK _ _ _ ?_; clear hK K
   simp only [List.nil_append, List.drop_succ_cons, List.drop_zero]
   refine Run.appendV (id := h.length + 1) (es := strPs (nm :: cs.map Ct.nm)) (ys := [[sP (nm ++ recB)]]) (sz := 1) (by_ := 16) (e := 9) rfl (by simp [awanted]) rfl rfl rfl rfl (by simp) (by simp) (strPs_len1 _) (by simp [recB]) (by simp) (by simp) (by simp; omega) (by simp; omega) ?_
   simp
   refine Run.ops fun K hK => ?_
   simp
   try (simp (disch := omega) only [wrap_id])
   refine hK _ _ _ (nv ?_); clear hK K
   refine Run.keep [2] ?_
   simp
   refine Run.freezeV 2 (id := h.length + 1) (n := cs.length + 1 + 1) (sz := 1) (es := strPs (nm :: cs.map Ct.nm) ++ [[sP (nm ++ recB)]]) (by simp) (by simp) (by rw [strPs_snoc]; exact strPs_len1 _) (by simp) ?_
   simp
   refine Run.ret ?_
   exact Fin.ret' (h0 := h) (by simp) rfl hh rfl (by simp; rfl) rfl (Weak.refl _) (by simp) ⟨by rw [hr, strPs_snoc]; rfl, rfl⟩
 ·rw [if_neg (by omega), if_neg (by omega), if_pos rfl] at hr
  refine nv ?_
  refine Run.reg fun K hK => ?_
  simp
  try (simp (disch := omega) only [wrap_id])
  refine hK _ _ _ (nv ?_); clear hK K
  refine cf (by simp) (nv ?_)
  refine Run.reg fun K hK => ?_
  simp
  try (simp (disch := omega) only [wrap_id])
  refine hK _ _ _ (nv ?_); clear hK K
  refine cf (by simp) (nv ?_)
  refine Run.reg fun K hK => ?_
  simp
  try (simp (disch := omega) only [wrap_id])
  refine hK _ _ _ (nv ?_); clear hK K
  refine cf (by simp) (nv ?_)
  refine Run.reg fun K hK => ?_
  simp
  try (simp (disch := omega) only [wrap_id])
  refine hK _ _ _ (nv ?_); clear hK K
  refine cf (by simp) (nv ?_)
  refine Run.reg fun K hK => ?_
  simp
  try (simp (disch := omega) only [wrap_id])
  refine hK _ _ _ (nv ?_); clear hK K
  refine ct (by simp) (nv ?_)
  refine Run.reg fun K hK => ?_
  simp
  try (simp (disch := omega) only [wrap_id])
  refine hK _ _ _ (nv ?_); clear hK K
  refine Run.tok 5 1 (by simp) ?_
  simp
  refine nv ?_
  refine Run.reg fun K hK => ?_
  simp
  try (simp (disch := omega) only [wrap_id])
  refine hK _ _ _ (nv ?_); clear hK K
  refine Run.loopS [1] (fun j : Nat => j ≤ fs.length) (fun j => fs.length - j) (fun j => [(5, .own (h.length + 1) 1 (strPs ((fs.take j).map Fu.nm))), (6, iA j)])
   (fun j => h ++ [some (.cells [iA 4, .p (sP nm), iA ps, .p (iP k1), .p (iP i1), .p (sP n1), .p (.sl 2 (lvPs l1)), .p (.sl 5 (tmPs s1)), .p (iP k2), .p (iP i2), .p (sP n2), .p (.sl 2 (lvPs l2)), .p (.sl 5 (tmPs s2)), iA fx, .p (.sl 6 (cs.map Ct.cells)), iA rp, .p (iP k3), .p (iP i3), .p (sP n3), .p (.sl 2 (lvPs l3)), .p (.sl 5 (tmPs s3)), .p (.sl 5 (tmPs rr)), .p (.sl 15 (fs.map Fu.cells))]), some (.tok j 1)]) 0 (by simp) ?_ (by simp) ?_
  ·simp [strPs]
   repeat' (first | exact WeakL.nil | apply WeakL.cons)
   all_goals first | exact Weak.junk _ | exact Weak.refl _ | exact Weak.nil _ | exact Weak.own _ _ _ | exact Weak.int (by omega)
  intro j hj IH
  simp
  refine nv ?_
  refine Run.reg fun K hK => ?_
  simp
  try (simp (disch := omega) only [wrap_id])
  refine hK _ _ _ (nv ?_); clear hK K
  by_cases hjl : j < fs.length
  ·have hg : fs[j]? = some fs[j] := List.getElem?_eq_getElem hjl
   have htk : fs.take (j + 1) = fs.take j ++ [fs[j]] := List.take_succ_eq_append_getElem hjl
   have hmin : min j fs.length = j := Nat.min_eq_left hj
   have hb1 : (j + 1) * 16 ≤ 140737488355328 := by omega
   have hb2 : j + 1 ≤ 9223372036854775807 := by omega
   obtain ⟨⟨x, y, z, w⟩, hxy⟩ : ∃ c, fs[j] = c := ⟨_, rfl⟩
   rw [hxy] at hg htk
   refine nv ?_
   refine ct (by simp [hjl]) (nv ?_)
   refine Run.reg fun K hK => ?_
   simp [hg, Fu.cells, hmin, hb1, hb2]
   try (simp (disch := omega) only [wrap_id])
   refine hK _ _ _ (nv ?_); clear hK K
   refine Run.reg fun K hK => ?_
   simp
   try (simp (disch := omega) only [wrap_id])
   refine hK _ _ _ (nv ?_); clear hK K
   refine IH (j + 1) _ _ (by omega) (by omega) ?_ ?_
   ·rw [htk]
    simp [strPs]
    repeat' (first | exact WeakL.nil | apply WeakL.cons)
    all_goals first | exact Weak.junk _ | exact Weak.refl _ | exact Weak.nil _ | exact Weak.own _ _ _ | exact Weak.int (by omega)
   ·simp
  ·have hje : j = fs.length := by omega
   subst hje
   have htl : List.take fs.length (fs.map Fu.nm) = fs.map Fu.nm := List.take_of_length_le (by simp)
   rw [htl]
   refine nv ?_
   refine cf (by simp) (nv ?_)
   refine Run.exit rfl ?_
   refine nv ?_
   refine Run.reg fun K hK => ?_
   simp
   try (simp (disch := omega) only [wrap_id])
   refine hK _ _ _ (nv ?_); clear hK K
   refine Run.ret ?_
   exact Fin.ret' (h0 := h) (xs := [.own (h.length + 1) 1 (strPs (fs.map Fu.nm))]) (by simp) rfl hh rfl (by simp) rfl (Weak.own _ _ _) (by simp) ⟨by rw [hr], rfl⟩
 ·rw [if_neg (by simp at e0 e1 e2; omega), if_neg (by simpa using e3), if_neg (by simpa using e4)] at hr
  refine nv ?_
  refine Run.reg fun K hK => ?_
  simp [e0]
  try (simp (disch := omega) only [wrap_id])
  refine hK _ _ _ (nv ?_); clear hK K
  refine cf (by simp) (nv ?_)
  refine Run.reg fun K hK => ?_
  simp [e1]
  try (simp (disch := omega) only [wrap_id])
  refine hK _ _ _ (nv ?_); clear hK K
  refine cf (by simp) (nv ?_)
  refine Run.reg fun K hK => ?_
  simp [e2]
  try (simp (disch := omega) only [wrap_id])
  refine hK _ _ _ (nv ?_); clear hK K
  refine cf (by simp) (nv ?_)
  refine Run.reg fun K hK => ?_
  simp [e3]
  try (simp (disch := omega) only [wrap_id])
  refine hK _ _ _ (nv ?_); clear hK K
  refine cf (by simp) (nv ?_)
  refine Run.reg fun K hK => ?_
  simp [e4]
  try (simp (disch := omega) only [wrap_id])
  refine hK _ _ _ (nv ?_); clear hK K
  refine cf (by simp) (nv ?_)
  refine Run.reg fun K hK => ?_
  simp
  try (simp (disch := omega) only [wrap_id])
  refine hK _ _ _ (nv ?_); clear hK K
  refine Run.ret ?_
  exact Fin.ret' (h0 := h) (xs := [.p (.prim (.slice none 0 0))]) (by simp) rfl hh rfl (by simp) rfl (Weak.nil 1) (by simp) ⟨by rw [hr]; rfl, rfl⟩

end Go.Proofs.YtcfcolkbeelegaaGreat
