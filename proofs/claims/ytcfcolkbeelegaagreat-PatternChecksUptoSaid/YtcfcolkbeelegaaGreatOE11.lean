import Derived.Test.YtcfcolkbeelegaaGreatOD
import Derived.Test.YtcfcolkbeelegaaGreatOE1
import Derived.Test.YtcfcolkbeelegaaGreatOC
set_option maxRecDepth 8000
set_option maxHeartbeats 4000000

namespace Go.Proofs.YtcfcolkbeelegaaGreat

open Go Go.AI
theorem tdepth_any (N : Nat) : ∀ (t : Tm) (h : Heap), t.size ≤ N → t.size ≤ 1099511627776 → WF h → ACalls Tryz.prog 146 [t.av] h fun o h' => o = .ret (iA t.depth) ∧ h' = h := by
 induction N with
 | zero => intro t h hN; cases t; simp [Tm.size] at hN
 | succ N ih =>
 intro t h hN hsz hh
 obtain ⟨k, i, n, ls, ks⟩ := t
 simp only [Tm.size] at hN hsz
 have hll := length_le_sizes ks
 refine ACalls.of_run Tryz.func146 rfl ?_
 simp only [Tryz.ntmps146, List.length_cons, List.length_nil, Tm.av, cells_mk, List.map]
 refine nv ?_
 refine Run.reg fun K hK => ?_
 simp
 refine hK _ _ _ (nv ?_); clear hK
 refine Run.reg fun K hK => ?_
 simp
 refine hK _ _ _ (nv ?_); clear hK
 refine Run.reg fun K hK => ?_
 simp
 refine hK _ _ _ (nv ?_); clear hK
 refine Run.loopS [7, 8] (fun j : Nat => j ≤ ks.length) (fun j => ks.length - j) (fun j => [(3, iA (Tm.depths (ks.take j) : Nat)), (9, iA j)]) (fun _ => _) 0 (by simp) ?_ rfl ?_
 ·simp [Tm.depths]
  repeat' first | exact wn | apply wc | exact wj _ | exact wr _ | exact wz _ | exact wo _ _ _ | exact wi (by omega)
 ·intro j hj IH
  simp
  refine nv ?_
  refine Run.reg fun K hK => ?_
  simp
  refine hK _ _ _ (nv ?_); clear hK
  by_cases hjl : j < ks.length
  ·have hg : ks[j]? = some ks[j] := List.getElem?_eq_getElem hjl
   have hs := kid_size hjl
   have htk : ks.take (j + 1) = ks.take j ++ [ks[j]] := List.take_succ_eq_append_getElem hjl
   have hd1 := depth_le_size ks[j]
   have hd2 := depths_take_le ks j
   refine ct (by simp [hjl]) (nv ?_)
   refine Run.reg fun K hK => ?_
   simp [hg]
   refine hK _ _ _ (nv ?_); clear hK
   refine Run.reg fun K hK => ?_
   simp
   refine hK _ _ _ ?_; clear hK
   refine Run.call (args := [ks[j].av]) rfl rfl (by simp) rfl (ih ks[j] _ (by omega) (by omega) (hh.app (by simp))) ?_ ?_
   ·rintro v h' ⟨hv, rfl⟩
    simp only [AOut.ret.injEq] at hv
    subst hv
    refine Run.ops fun K hK => ?_
    simp
    refine hK _ _ _ (nv ?_); clear hK
    refine Run.reg fun K hK => ?_
    simp
    try (simp (disch := omega) only [wrap_id])
    refine hK _ _ _ (nv ?_); clear hK
    refine Run.keep [3, 7, 8, 9] ?_
    simp
    refine Run.cutAt 1 hh rfl (by omega) (by simp) (by simp) (by simp) rfl ?_
    refine IH (j + 1) _ _ (by omega) (by omega) ?_ (by simp)
    rw [htk, depths_snoc]
    simp
    repeat' first | exact wn | apply wc
    all_goals first | exact Weak.junk _ | exact Weak.refl _ | exact Weak.int (by omega) | (refine Weak.int ?_; split <;> omega)
   ·rintro v h' ⟨hv, _⟩; cases hv
  ·have hje : j = ks.length := by omega
   subst hje
   rw [List.take_length]
   have hd2 := depths_le_sizes ks
   refine cf (by simp) ?_
   refine Run.exit rfl ?_
   refine nv ?_
   repeat (first | refine nw ?_ | (refine Run.reg fun K hK => ?_; simp; (try (simp (disch := omega) only [wrap_id])); refine hK _ _ _ ?_; clear hK) | refine ct rfl ?_ | refine cf rfl ?_ | refine Run.exit rfl ?_ | refine Run.ret ?_)
   refine Fin.ret' (by simp) rfl hh rfl rfl rfl (Weak.refl _) rfl ⟨by simp [Tm.depth], rfl⟩
@[simp] theorem patch2 (a b : AV) (t : Lv) : patch [a, b] 0 (t.cells.map AV.p) = t.cells.map AV.p := by cases t; rfl
def eqVars (xs ys : List (Int × Int)) : Bool := !((xs.length : Int) != ys.length) && allTo (varsAt xs ys) xs.length
theorem eqVars_any (h : Heap) (hh : WF h) (xs ys : List (Int × Int)) (hb : xs.length ≤ 1048576) : ACalls Tryz.prog 183 [.p (.sl 2 (varPs xs)), .p (.sl 2 (varPs ys))] h fun o h' => o = .ret (bA (eqVars xs ys)) ∧ h' = h := by
 refine ACalls.of_run Tryz.func183 rfl ?_
 simp only [Tryz.ntmps183, List.length_cons, List.length_nil]
 refine nv ?_
 refine Run.reg fun K hK => ?_
 simp
 refine hK _ _ _ (nv ?_); clear hK
 refine Run.reg fun K hK => ?_
 simp
 refine hK _ _ _ (nv ?_); clear hK
 by_cases hl : xs.length = ys.length
 ·have h0 : ((xs.length : Int) != ys.length) = false := by simp [hl]
  refine cf (by simp [hl]) (nv ?_)
  refine Run.reg fun K hK => ?_
  simp
  refine hK _ _ _ (nv ?_); clear hK
  refine Run.loopS [0, 1, 11, 12] (fun j : Nat => j ≤ xs.length ∧ allTo (varsAt xs ys) j = true) (fun j => xs.length - j) (fun j => [(13, iA j)]) (fun _ => _) 0 (by simp [allTo]) ?_ rfl ?_
  ·simp
   repeat' first | exact wn | apply wc | exact wj _ | exact wr _ | exact wz _ | exact wo _ _ _ | exact wi (by omega)
  ·rintro j ⟨hj, hall⟩ IH
   simp
   refine nv ?_
   refine Run.reg fun K hK => ?_
   simp
   refine hK _ _ _ (nv ?_); clear hK
   by_cases hjl : j < xs.length
   ·have hg : xs[j]? = some xs[j] := List.getElem?_eq_getElem hjl
    have hg' : ys[j]? = some ys[j] := List.getElem?_eq_getElem (by omega)
    generalize xs[j] = u at hg
    generalize ys[j]'(by omega) = v at hg'
    obtain ⟨x, y⟩ := u
    obtain ⟨x', y'⟩ := v
    refine ct (by simp [hjl]) (nv ?_)
    refine Run.reg fun K hK => ?_
    simp
    refine hK _ _ _ (nv ?_); clear hK
    refine Run.draw [0, 0, 0, 0, 0, 0, 0, 0, 0] [0, 0, 0, 0, 0, 0, 0, 0, 0] [0, 0, 3, 7, 0, 0, 48, 112, 255] [0, 1, 2, 3, 4, 5, 6, 7, 8] (by kernel_rfl) (by kernel_rfl) ?_
    refine DR.go fun K hK => ?_
    simp [hg, hg']
    refine hK _ _ _ _ ?_; clear hK
    change Run _ _ _ _ _ _ _ _
    refine Run.condB rfl (fun h1 => ?_) (fun h1 => ?_)
    ·repeat (first | refine nw ?_ | (refine Run.reg fun K hK => ?_; simp; (try (simp (disch := omega) only [wrap_id])); refine hK _ _ _ ?_; clear hK) | refine ct rfl ?_ | refine cf rfl ?_ | refine Run.exit rfl ?_ | refine Run.ret ?_)
     have h2 : sameVar (x, y) (x', y') = false := by simp only [sameVar]; simp at h1 ⊢; omega
     have := allTo_false (p := varsAt xs ys) hjl (by simp only [varsAt, hg, hg', h2])
     exact Fin.ret' (by simp) rfl hh (List.append_nil _).symm rfl rfl (Weak.refl _) rfl ⟨by simp only [eqVars, this]; simp, rfl⟩
    ·refine nv ?_
     refine Run.reg fun K hK => ?_
     simp
     try (simp (disch := omega) only [wrap_id])
     refine hK _ _ _ (nv ?_); clear hK
     have h2 : sameVar (x, y) (x', y') = true := by simpa [sameVar] using h1
     refine IH (j + 1) _ _ ⟨by omega, by rw [allTo_succ, hall]; simp only [varsAt, hg, hg', h2]; rfl⟩ (by omega) ?_ rfl
     simp
     repeat' first | exact wn | apply wc | exact wj _ | exact wr _ | exact wz _ | exact wo _ _ _ | exact wi (by omega)
   ·have hje : j = xs.length := by omega
    subst hje
    refine cf (by simp) ?_
    refine Run.exit rfl ?_
    refine nv ?_
    repeat (first | refine nw ?_ | (refine Run.reg fun K hK => ?_; simp; (try (simp (disch := omega) only [wrap_id])); refine hK _ _ _ ?_; clear hK) | refine ct rfl ?_ | refine cf rfl ?_ | refine Run.exit rfl ?_ | refine Run.ret ?_)
    exact Fin.ret' (by simp) rfl hh (List.append_nil _).symm rfl rfl (Weak.refl _) rfl ⟨by simp only [eqVars, h0, hall]; simp, rfl⟩
 ·have h0 : ((xs.length : Int) != ys.length) = true := by simp; omega
  have hl' : ¬ (xs.length : Int) = ys.length := by omega
  refine ct (by simp [hl']) (nv ?_)
  repeat (first | refine nw ?_ | (refine Run.reg fun K hK => ?_; simp; (try (simp (disch := omega) only [wrap_id])); refine hK _ _ _ ?_; clear hK) | refine ct rfl ?_ | refine cf rfl ?_ | refine Run.exit rfl ?_ | refine Run.ret ?_)
  exact Fin.ret' (by simp) rfl hh (List.append_nil _).symm rfl rfl (Weak.refl _) rfl ⟨by simp only [eqVars, h0]; simp, rfl⟩
theorem sameLv_eq (a b : Lv) : sameLv a b = (a.c == b.c && eqVars a.vars b.vars) := by
 simp only [sameLv, eqVars]
 cases h1 : a.c != b.c <;> cases h2 : (a.vars.length : Int) != b.vars.length <;> simp_all
theorem sameLevel_any (h : Heap) (hh : WF h) (a b : Lv) (hb : a.vars.length ≤ 1048576) : ACalls Tryz.prog 142 [a.av, b.av] h fun o h' => o = .ret (bA (sameLv a b)) ∧ h' = h := by
 rw [sameLv_eq]
 obtain ⟨c, vs⟩ := a
 obtain ⟨c', vs'⟩ := b
 simp only at hb ⊢
 have he := eqVars_any (h ++ [some (.cells [iA c, .p (.sl 2 (varPs vs))]), some (.cells [iA c', .p (.sl 2 (varPs vs'))])]) (hh.app (by simp)) vs vs' hb
 simp only [Lv.av, Lv.cells, List.map]
 refine ACalls.of_run Tryz.func142 rfl ?_
 simp only [Tryz.ntmps142, List.length_cons, List.length_nil]
 refine nv ?_
 refine Run.reg fun K hK => ?_
 simp
 refine hK _ _ _ (nv ?_); clear hK
 cases h1 : c == c' with
 | false =>
  refine Run.reg fun K hK => ?_
  simp [h1]
  refine hK _ _ _ (nv ?_); clear hK
  refine Run.ret ?_
  exact Fin.ret' (by simp) rfl hh rfl rfl rfl (Weak.refl _) rfl ⟨rfl, rfl⟩
 | true =>
  refine Run.reg fun K hK => ?_
  simp [h1]
  refine hK _ _ _ ?_; clear hK
  refine Run.call rfl (by simp) (by simp) rfl he ?_ ?_
  ·rintro v h' ⟨hv, rfl⟩
   simp only [AOut.ret.injEq] at hv
   subst hv
   refine Run.ops fun K hK => ?_
   simp
   refine hK _ _ _ (nv ?_); clear hK
   refine Run.ret ?_
   exact Fin.ret' (by simp) rfl hh rfl rfl rfl (Weak.of_eq (by simp [atuple])) rfl ⟨rfl, rfl⟩
  ·rintro v h' ⟨hv, _⟩; cases hv
theorem eqLvs_any (h : Heap) (hh : WF h) (xs ys : List Lv) (hb : xs.length ≤ 1048576) (hbv : ∀ l ∈ xs, l.vars.length ≤ 1048576) :
  ACalls Tryz.prog 141 [.p (.sl 2 (lvPs xs)), .p (.sl 2 (lvPs ys)), .p (.prim (.func (.func 142) #[] #[]))] h fun o h' => o = .ret (bA (sameLvs xs ys)) ∧ h' = h := by
 refine ACalls.of_run Tryz.func141 rfl ?_
 simp only [Tryz.ntmps141, List.length_cons, List.length_nil]
 refine nv ?_
 refine Run.reg fun K hK => ?_
 simp
 refine hK _ _ _ (nv ?_); clear hK
 refine Run.reg fun K hK => ?_
 simp
 refine hK _ _ _ (nv ?_); clear hK
 by_cases hl : xs.length = ys.length
 ·have h0 : ((xs.length : Int) != ys.length) = false := by simp [hl]
  refine cf (by simp [hl]) (nv ?_)
  refine Run.reg fun K hK => ?_
  simp
  refine hK _ _ _ (nv ?_); clear hK
  refine Run.loopS [0, 1, 2, 15, 16] (fun j : Nat => j ≤ xs.length ∧ allTo (lvsAt xs ys) j = true) (fun j => xs.length - j) (fun j => [(17, iA j)]) (fun _ => _) 0 (by simp [allTo]) ?_ rfl ?_
  ·simp
   repeat' first | exact wn | apply wc | exact wj _ | exact wr _ | exact wz _ | exact wo _ _ _ | exact wi (by omega)
  ·rintro j ⟨hj, hall⟩ IH
   simp
   refine nv ?_
   refine Run.reg fun K hK => ?_
   simp
   refine hK _ _ _ (nv ?_); clear hK
   by_cases hjl : j < xs.length
   ·have hg : xs[j]? = some xs[j] := List.getElem?_eq_getElem hjl
    have hg' : ys[j]? = some ys[j] := List.getElem?_eq_getElem (by omega)
    have hv := hbv _ (List.getElem_mem hjl)
    generalize xs[j] = u at hg hv
    generalize ys[j]'(by omega) = v at hg'
    refine ct (by simp [hjl]) (nv ?_)
    refine Run.reg fun K hK => ?_
    simp [hg]
    refine hK _ _ _ (nv ?_); clear hK
    refine Run.reg fun K hK => ?_
    simp [hg']
    refine hK _ _ _ (nv ?_); clear hK
    refine Run.reg fun K hK => ?_
    simp
    refine hK _ _ _ ?_; clear hK
    refine Run.call (args := [u.av, v.av]) rfl rfl (by simp) rfl (sameLevel_any _ (hh.app (by simp)) u v hv) ?_ ?_
    rotate_left
    ·rintro v h' ⟨hv, _⟩; cases hv
    rintro v0 h' ⟨hv0, rfl⟩
    simp only [AOut.ret.injEq] at hv0
    subst hv0
    refine Run.ops fun K hK => ?_
    simp
    refine hK _ _ _ (nv ?_); clear hK
    refine Run.condB rfl (fun h1 => ?_) (fun h1 => ?_)
    ·repeat (first | refine nw ?_ | (refine Run.reg fun K hK => ?_; simp; (try (simp (disch := omega) only [wrap_id])); refine hK _ _ _ ?_; clear hK) | refine ct rfl ?_ | refine cf rfl ?_ | refine Run.exit rfl ?_ | refine Run.ret ?_)
     have h2 : sameLv u v = false := by simpa using h1
     have := allTo_false (p := lvsAt xs ys) hjl (by simp only [lvsAt, hg, hg', h2])
     exact Fin.ret' (by simp) rfl hh rfl rfl rfl (Weak.refl _) rfl ⟨by simp only [sameLvs, this]; simp, rfl⟩
    ·refine nv ?_
     refine Run.reg fun K hK => ?_
     simp
     try (simp (disch := omega) only [wrap_id])
     refine hK _ _ _ (nv ?_); clear hK
     have h2 : sameLv u v = true := by simpa using h1
     refine Run.keep [0, 1, 2, 15, 16, 17] ?_
     simp
     refine Run.cutAt 0 hh rfl (by omega) (by simp) (by simp) (by simp) rfl ?_
     refine IH (j + 1) _ _ ⟨by omega, by rw [allTo_succ, hall]; simp only [lvsAt, hg, hg', h2]; rfl⟩ (by omega) ?_ (by simp)
     simp
     repeat' first | exact wn | apply wc | exact wj _ | exact wr _ | exact wz _ | exact wo _ _ _ | exact wi (by omega)
   ·have hje : j = xs.length := by omega
    subst hje
    refine cf (by simp) ?_
    refine Run.exit rfl ?_
    refine nv ?_
    repeat (first | refine nw ?_ | (refine Run.reg fun K hK => ?_; simp; (try (simp (disch := omega) only [wrap_id])); refine hK _ _ _ ?_; clear hK) | refine ct rfl ?_ | refine cf rfl ?_ | refine Run.exit rfl ?_ | refine Run.ret ?_)
    exact Fin.ret' (by simp) rfl hh (List.append_nil _).symm rfl rfl (Weak.refl _) rfl ⟨by simp only [sameLvs, h0, hall]; simp, rfl⟩
 ·have h0 : ((xs.length : Int) != ys.length) = true := by simp; omega
  have hl' : ¬ (xs.length : Int) = ys.length := by omega
  refine ct (by simp [hl']) (nv ?_)
  repeat (first | refine nw ?_ | (refine Run.reg fun K hK => ?_; simp; (try (simp (disch := omega) only [wrap_id])); refine hK _ _ _ ?_; clear hK) | refine ct rfl ?_ | refine cf rfl ?_ | refine Run.exit rfl ?_ | refine Run.ret ?_)
  exact Fin.ret' (by simp) rfl hh (List.append_nil _).symm rfl rfl (Weak.refl _) rfl ⟨by simp only [sameLvs, h0]; simp, rfl⟩
theorem eqTms_any (h : Heap) (hh : WF h) (xs ys : List Tm) (hb : xs.length ≤ 1099511627776) (H : ∀ u ∈ xs, ∀ (v : Tm) (h : Heap), WF h → ACalls Tryz.prog 88 [u.av, v.av] h fun o h' => o = .ret (bA (sameT u v)) ∧ h' = h) :
  ACalls Tryz.prog 143 [.p (.sl 5 (tmPs xs)), .p (.sl 5 (tmPs ys)), .p (.prim (.func (.func 88) #[] #[]))] h fun o h' => o = .ret (bA (!((xs.length : Int) != ys.length) && sameTs xs ys)) ∧ h' = h := by
 rw [sameTs_at]
 refine ACalls.of_run Tryz.func143 rfl ?_
 simp only [Tryz.ntmps143, List.length_cons, List.length_nil]
 refine nv ?_
 refine Run.reg fun K hK => ?_
 simp
 refine hK _ _ _ (nv ?_); clear hK
 refine Run.reg fun K hK => ?_
 simp
 refine hK _ _ _ (nv ?_); clear hK
 by_cases hl : xs.length = ys.length
 ·have h0 : ((xs.length : Int) != ys.length) = false := by simp [hl]
  rw [h0]
  refine cf (by simp) (nv ?_)
  refine Run.reg fun K hK => ?_
  simp
  refine hK _ _ _ (nv ?_); clear hK
  refine Run.loopS [0, 1, 2, 15, 16] (fun j : Nat => j ≤ xs.length ∧ allTo (tmsAt xs ys) j = true) (fun j => xs.length - j) (fun j => [(17, iA j)]) (fun _ => _) 0 (by simp [allTo]) ?_ rfl ?_
  ·simp
   repeat' first | exact wn | apply wc | exact wj _ | exact wr _ | exact wz _ | exact wo _ _ _ | exact wi (by omega)
  ·rintro j ⟨hj, hall⟩ IH
   simp
   refine nv ?_
   refine Run.reg fun K hK => ?_
   simp
   refine hK _ _ _ (nv ?_); clear hK
   by_cases hjl : j < xs.length
   ·have hg : xs[j]? = some xs[j] := List.getElem?_eq_getElem hjl
    have hg' : ys[j]? = some ys[j] := List.getElem?_eq_getElem (by omega)
    have hv := H _ (List.getElem_mem hjl)
    generalize xs[j] = u at hg hv
    generalize ys[j]'(by omega) = v at hg'
    refine ct (by simp [hjl]) (nv ?_)
    refine Run.reg fun K hK => ?_
    simp [hg]
    refine hK _ _ _ (nv ?_); clear hK
    refine Run.reg fun K hK => ?_
    simp [hg']
    refine hK _ _ _ (nv ?_); clear hK
    refine Run.reg fun K hK => ?_
    simp
    refine hK _ _ _ ?_; clear hK
    refine Run.call (args := [u.av, v.av]) rfl rfl (by simp) rfl (hv v _ (hh.app (by simp))) ?_ ?_
    rotate_left
    ·rintro v h' ⟨hv, _⟩; cases hv
    rintro v0 h' ⟨hv0, rfl⟩
    simp only [AOut.ret.injEq] at hv0
    subst hv0
    refine Run.ops fun K hK => ?_
    simp
    refine hK _ _ _ (nv ?_); clear hK
    refine Run.condB rfl (fun h1 => ?_) (fun h1 => ?_)
    ·repeat (first | refine nw ?_ | (refine Run.reg fun K hK => ?_; simp; (try (simp (disch := omega) only [wrap_id])); refine hK _ _ _ ?_; clear hK) | refine ct rfl ?_ | refine cf rfl ?_ | refine Run.exit rfl ?_ | refine Run.ret ?_)
     have h2 : sameT u v = false := by simpa using h1
     have := allTo_false (p := tmsAt xs ys) hjl (by simp only [tmsAt, hg, hg', h2])
     exact Fin.ret' (by simp) rfl hh rfl rfl rfl (Weak.refl _) rfl ⟨by simp only [this]; simp, rfl⟩
    ·refine nv ?_
     refine Run.reg fun K hK => ?_
     simp
     try (simp (disch := omega) only [wrap_id])
     refine hK _ _ _ (nv ?_); clear hK
     have h2 : sameT u v = true := by simpa using h1
     refine Run.keep [0, 1, 2, 15, 16, 17] ?_
     simp
     refine Run.cutAt 0 hh rfl (by omega) (by simp) (by simp) (by simp) rfl ?_
     refine IH (j + 1) _ _ ⟨by omega, by rw [allTo_succ, hall]; simp only [tmsAt, hg, hg', h2]; rfl⟩ (by omega) ?_ (by simp)
     simp
     repeat' first | exact wn | apply wc | exact wj _ | exact wr _ | exact wz _ | exact wo _ _ _ | exact wi (by omega)
   ·have hje : j = xs.length := by omega
    subst hje
    refine cf (by simp) ?_
    refine Run.exit rfl ?_
    refine nv ?_
    repeat (first | refine nw ?_ | (refine Run.reg fun K hK => ?_; simp; (try (simp (disch := omega) only [wrap_id])); refine hK _ _ _ ?_; clear hK) | refine ct rfl ?_ | refine cf rfl ?_ | refine Run.exit rfl ?_ | refine Run.ret ?_)
    exact Fin.ret' (by simp) rfl hh (List.append_nil _).symm rfl rfl (Weak.refl _) rfl ⟨by simp only [hall]; simp, rfl⟩
 ·have h0 : ((xs.length : Int) != ys.length) = true := by simp; omega
  have hl' : ¬ (xs.length : Int) = ys.length := by omega
  rw [h0]
  refine ct (by simp) (nv ?_)
  repeat (first | refine nw ?_ | (refine Run.reg fun K hK => ?_; simp; (try (simp (disch := omega) only [wrap_id])); refine hK _ _ _ ?_; clear hK) | refine ct rfl ?_ | refine cf rfl ?_ | refine Run.exit rfl ?_ | refine Run.ret ?_)
  exact Fin.ret' (by simp) rfl hh (List.append_nil _).symm rfl rfl (Weak.refl _) rfl ⟨by simp, rfl⟩
theorem tsame_any (N : Nat) : ∀ (a b : Tm) (h : Heap), a.size ≤ N → a.size ≤ 1099511627776 → a.lvs → WF h → ACalls Tryz.prog 88 [a.av, b.av] h fun o h' => o = .ret (bA (sameT a b)) ∧ h' = h := by
 induction N with
 | zero => intro t _ h hN; cases t; simp [Tm.size] at hN
 | succ N ih =>
 intro a b h hN hsz hlv hh
 obtain ⟨k, i, n, ls, ks⟩ := a
 obtain ⟨k', i', n', ls', ks'⟩ := b
 simp only [Tm.size] at hN hsz
 simp only [Tm.lvs] at hlv
 have hll := length_le_sizes ks
 obtain ⟨H, hH⟩ : ∃ H : Heap, H = h ++ [some (.cells [iA k, iA i, .p (sP n), .p (.sl 2 (lvPs ls)), .p (.sl 5 (tmPs ks))]), some (.cells [iA k', iA i', .p (sP n'), .p (.sl 2 (lvPs ls')), .p (.sl 5 (tmPs ks'))])] := ⟨_, rfl⟩
 have hwf : WF H := by rw [hH]; exact hh.app (by simp)
 have hlvs := eqLvs_any H hwf ls ls' hlv.1 hlv.2.1
 have htms := eqTms_any H hwf ks ks' (by omega) (fun u hu v h hh => by
  obtain ⟨j, hj, rfl⟩ := List.mem_iff_getElem.1 hu
  have := kid_size hj
  exact ih _ v h (by omega) (by omega) (Tm.lvss_at hlv.2.2 _ hu) hh)
 rw [hH] at hlvs htms
 refine ACalls.of_run Tryz.func88 rfl ?_
 simp only [Tryz.ntmps88, List.length_cons, List.length_nil, Tm.av, cells_mk, List.map]
 refine nv ?_
 refine Run.reg fun K hK => ?_
 simp
 refine hK _ _ _ (nv ?_); clear hK
 have hst : sameT (.mk k i n ls ks) (.mk k' i' n' ls' ks') = (!(k != k') && (!(i != i') && ((n == n') && (sameLvs ls ls' && (!((ks.length : Int) != ks'.length) && sameTs ks ks'))))) := by
  simp only [sameT, sameHead, Tm.kind, Tm.index, Tm.name, Tm.levels, Tm.kids]
  cases k != k' <;> cases i != i' <;> cases n == n' <;> cases sameLvs ls ls' <;> cases (ks.length : Int) != ks'.length <;> simp
 rw [hst]
 cases c1 : k == k' with
 | false =>
  have c1' : (k != k') = true := by simp only [bne, c1]; rfl
  refine Run.reg fun K hK => ?_
  simp [c1]
  refine hK _ _ _ (nv ?_); clear hK
  refine Run.ret ?_
  exact Fin.ret' (by simp) rfl hh rfl rfl rfl (Weak.refl _) rfl ⟨by rw [c1']; rfl, rfl⟩
 | true =>
 have c1' : (k != k') = false := by simp only [bne, c1]; rfl
 cases c2 : i == i' with
 | false =>
  have c2' : (i != i') = true := by simp only [bne, c2]; rfl
  refine Run.reg fun K hK => ?_
  simp [c1, c2]
  refine hK _ _ _ (nv ?_); clear hK
  refine Run.ret ?_
  exact Fin.ret' (by simp) rfl hh rfl rfl rfl (Weak.refl _) rfl ⟨by rw [c1', c2']; rfl, rfl⟩
 | true =>
 have c2' : (i != i') = false := by simp only [bne, c2]; rfl
 cases c3 : n == n' with
 | false =>
  refine Run.reg fun K hK => ?_
  simp [c1, c2, c3]
  refine hK _ _ _ (nv ?_); clear hK
  refine Run.ret ?_
  exact Fin.ret' (by simp) rfl hh rfl rfl rfl (Weak.refl _) rfl ⟨by rw [c1', c2']; rfl, rfl⟩
 | true =>
 refine Run.reg fun K hK => ?_
 simp [c1, c2, c3]
 refine hK _ _ _ ?_; clear hK
 refine Run.call rfl (by simp) (by simp) rfl hlvs ?_ ?_
 rotate_left
 ·rintro v h' ⟨hv, _⟩; cases hv
 rintro v0 h' ⟨hv0, rfl⟩
 simp only [AOut.ret.injEq] at hv0
 subst hv0
 cases c4 : sameLvs ls ls' with
 | false =>
  refine Run.ops fun K hK => ?_
  simp
  refine hK _ _ _ (nv ?_); clear hK
  refine Run.ret ?_
  exact Fin.ret' (by simp) rfl hh rfl rfl rfl (Weak.refl _) rfl ⟨by rw [c1', c2']; rfl, rfl⟩
 | true =>
 refine Run.ops fun K hK => ?_
 simp
 refine hK _ _ _ ?_; clear hK
 refine Run.call rfl (by simp) (by simp) rfl htms ?_ ?_
 rotate_left
 ·rintro v h' ⟨hv, _⟩; cases hv
 rintro v0 h' ⟨hv0, rfl⟩
 simp only [AOut.ret.injEq] at hv0
 subst hv0
 refine Run.ops fun K hK => ?_
 simp
 refine hK _ _ _ (nv ?_); clear hK
 refine Run.ret ?_
 exact Fin.ret' (by simp) rfl hh rfl rfl rfl (Weak.refl _) rfl ⟨by rw [c1', c2']; rfl, rfl⟩

end Go.Proofs.YtcfcolkbeelegaaGreat

namespace Go.AI

open Go
theorem Run.joinH {P : Program} {rd : Option Nat} {nb : Nat} {k : List It} {T : List AV} {h : Heap} {D : List AD} {Q : AX → List AV → Heap → List AD → Prop} {c : Code} (keep : List Nat) (sets : List (Nat × AV)) (h2 : Heap) (r : (∀ T', WeakL T' (setMany (keepT keep T) sets) → Run P rd nb k T' h2 D Q) → Run P rd nb (.code c :: k) T h D Q)
  (next : Run P rd nb k (setMany (keepT keep T) sets) h2 D Q) : Run P rd nb (.code c :: k) T h D Q := r fun _ hw => Run.weak hw next

end Go.AI

namespace Go.Proofs.YtcfcolkbeelegaaGreat

open Go Go.AI


open Go Go.AI
def DomU (t : Tm) (d : Int) : Prop := Dom 65536 t d ∧ d + t.size ≤ 2097152
theorem DomU.one : ∀ k i n ls ks d, DomU (.mk k i n ls ks) d → ks.length ≤ 1048576 ∧ 0 ≤ d ∧ d ≤ 1099511627776 := fun k i n ls ks d h => Dom.one k i n ls ks d h.1
theorem DomU.two : ∀ k i n ls ks d, DomU (.mk k i n ls ks) d → ∀ (j : Nat) (hj : j < ks.length), DomU ks[j] (d + belowZ k j) := fun k i n ls ks d h j hj => by
 refine ⟨Dom.two k i n ls ks d h.1 j hj, ?_⟩
 have h1 := h.2
 have h2 := kid_size hj
 have h3 := belowZ_01' k j
 simp only [Tm.size] at h1
 omega


open Go Go.AI

mutual
theorem ok_lvs : ∀ (t : Tm) (m : Int), t.ok m → t.lvs
 | .mk k i n ls ks, m, h => by
  simp only [Tm.ok, Tm.okN] at h
  simp only [Tm.lvs]
  exact ⟨by omega, h.1.2.2.1, ok_lvss ks m k 0 h.2⟩
theorem ok_lvss : ∀ (l : List Tm) (m k : Int) (idx : Nat), Tm.oks m k idx l → Tm.lvss l
 | [], _, _, _, _ => trivial
 | t :: ts, m, k, idx, h => by
  simp only [Tm.oks] at h
  exact ⟨ok_lvs t _ h.1, ok_lvss ts m k (idx + 1) h.2⟩
end
theorem take3 {H l : Heap} {a b c : Option AO} : (H ++ (l ++ [a, b, c])).take (H.length + (l.length + 2)) = H ++ (l ++ [a, b]) := by
 rw [take_lastK, take_lastK]; rfl
theorem Run.cut3 {P : Program} {rd : Option Nat} {nb : Nat} {k : List It} {T : List AV} {H l : Heap} {a b c : Option AO} {D : List AD} {Q : AX → List AV → Heap → List AD → Prop} (n : Nat) (hn : H.length = n) (hw : WF (H ++ (l ++ [a, b]))) (hnb : nb ≤ n + (l.length + 2)) (hT : AV.underL (n + (l.length + 2)) T = true) (hD : underD (n + (l.length + 2)) D = true)
  (r : Run P rd nb k T (H ++ (l ++ [a, b])) D Q) : Run P rd nb k T (H ++ (l ++ [a, b, c])) D Q := by
 subst hn
 refine Run.cut (H.length + (l.length + 2)) hnb (by simp) hT ?_ hD (by rw [take3]; exact r)
 rw [take3]
 have := hw.all
 simpa using this

end Go.Proofs.YtcfcolkbeelegaaGreat
