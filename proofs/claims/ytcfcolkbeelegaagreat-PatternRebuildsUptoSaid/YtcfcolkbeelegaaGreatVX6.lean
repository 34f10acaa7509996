import Derived.Test.YtcfcolkbeelegaaGreatVX4
import Derived.Test.YtcfcolkbeelegaaGreatVX1
set_option maxRecDepth 8000
set_option maxHeartbeats 16000000

namespace Go.Proofs.YtcfcolkbeelegaaGreat

open Go Go.AI
def fixB (d : Dc) : Bool := decide (d.fx ≤ leadN d.ty) && d.cs.all fun c => decide (d.fx ≤ leadN c.ty)
theorem fixed_any (h : Heap) (hh : WF h) (d : Dc) (hd : d.good) : ACalls Tryz.prog 228 [d.av] h fun o h' => o = .ret (bA (fixB d)) ∧ h' = h := by
 have h1 := fun (g : Heap) (hw : WF g) => leading_any g hw d.ty hd.ty.1
 have hcs := hd.cs
 have hcl := hd.csl
 obtain ⟨r, hr⟩ : ∃ r, r = fixB d := ⟨_, rfl⟩
 rw [← hr]
 unfold fixB at hr
 generalize leadN d.ty = n1 at h1 hr
 obtain ⟨k, nm, ps, ⟨k1, i1, n1', l1, s1⟩, ⟨k2, i2, n2, l2, s2⟩, fx, cs, rp, ⟨k3, i3, n3, l3, s3⟩, rr, fs⟩ := d
 clear hd
 simp only at hcs hcl h1 hr
 simp only [Dc.av, Dc.cells, Tm.av, cells_mk, List.map, List.cons_append, List.nil_append] at h1 ⊢
 refine ACalls.of_run Tryz.func228 rfl ?_
 simp only [Tryz.ntmps228, List.length_cons, List.length_nil]
 refine nv ?_
 refine Run.reg fun K J => ?_
 simp
 refine J _ _ _ (nv ?_); clear J
 refine Run.draw [0, 0, 0, 0, 0, 1, 1] [0, 0, 0, 0, 0, 0, 0] [0, 1, 3, 0, 8, 31, 63] [0, 1, 2, 3, 4, 5, 6] (by kernel_rfl) (by kernel_rfl) ?_
 refine DR.go fun K J => ?_
 simp
 refine J _ _ _ _ ?_; clear J
 refine DR.call rfl rfl rfl (by simp) rfl (h1 _ (hh.app (by simp))) ?_
 refine DR.go fun K J => ?_
 simp
 refine J _ _ _ _ ?_; clear J
 change Run _ _ _ _ _ _ _ _
 refine nv ?_
 refine Run.reg fun K J => ?_
 simp
 refine J _ _ _ (nv ?_); clear J
 refine Run.loopS (ι := Nat × Bool) [1] (fun p => p.1 ≤ cs.length ∧ p.2 = (decide (fx ≤ (n1 : Int)) && (cs.take p.1).all fun c => decide (fx ≤ (leadN c.ty : Int)))) (fun p => cs.length - p.1) (fun p => [(3, bA p.2), (4, iA p.1)]) (fun _ => _) (0, decide (fx ≤ (n1 : Int))) (by simp) ?_ rfl ?_
 ·simp
  repeat' first | exact wn | apply wc | exact wj _ | exact wr _ | exact wz _ | exact wo _ _ _ | exact wi (by omega)
 rintro ⟨j, b⟩ ⟨hj, hall⟩ IH
 simp only at hj hall
 simp
 refine nv ?_
 refine Run.reg fun K J => ?_
 simp
 refine J _ _ _ (nv ?_); clear J
 by_cases hjl : j < cs.length
 ·have hg : cs[j]? = some cs[j] := List.getElem?_eq_getElem hjl
  have htk : cs.take (j + 1) = cs.take j ++ [cs[j]] := List.take_succ_eq_append_getElem hjl
  have hgd := hcs _ (List.getElem_mem hjl)
  have c1 := fun (g : Heap) (hw : WF g) => leading_any g hw cs[j].ty hgd.1
  have hall2 : (decide (fx ≤ (n1 : Int)) && (cs.take (j + 1)).all fun c => decide (fx ≤ (leadN c.ty : Int))) = (b && decide (fx ≤ (leadN cs[j].ty : Int))) := by
   rw [htk, List.all_append, hall, ← Bool.and_assoc]; simp
  generalize leadN cs[j].ty = m at c1 hall2
  generalize cs[j] = c at hg htk hgd c1
  obtain ⟨x, ⟨k4, i4, n4, l4, s4⟩⟩ := c
  simp only [Tm.av, cells_mk, List.map] at c1
  refine ct (by simp [hjl]) (nv ?_)
  refine Run.draw [0, 0, 0, 0, 0, 0, 0, 0, 0, 0, 0, 1, 1, 1] [0, 0, 0, 0, 0, 0, 0, 0, 0, 0, 0, 0, 0, 0] [0, 1, 3, 7, 3, 31, 63, 127, 255, 3, 515, 2047, 4095, 8191] [0, 1, 2, 3, 4, 5, 6, 7, 8, 9, 10, 11, 12, 13] (by kernel_rfl) (by kernel_rfl) ?_
  cases b with
  | false =>
   refine DR.go fun K J => ?_
   simp
   refine J _ _ _ _ ?_; clear J
   change Run _ _ _ _ _ _ _ _
   refine nv ?_
   refine Run.reg fun K J => ?_
   simp
   try (simp (disch := omega) only [wrap_id])
   refine J _ _ _ (nv ?_); clear J
   refine IH (j + 1, false) _ _ ⟨by simp only; omega, by simp only; rw [hall2]; rfl⟩ (by simp only; omega) ?_ rfl
   simp
   repeat' first | exact wn | apply wc | exact wj _ | exact wr _ | exact wz _ | exact wo _ _ _ | exact wi (by omega)
  | true =>
   refine DR.go fun K J => ?_
   simp [hg, Ct.cells]
   refine J _ _ _ _ ?_; clear J
   refine DR.call rfl rfl rfl (by simp) rfl (c1 _ (hh.app (by simp))) ?_
   refine DR.go fun K J => ?_
   simp
   refine J _ _ _ _ ?_; clear J
   change Run _ _ _ _ _ _ _ _
   refine nv ?_
   refine Run.reg fun K J => ?_
   simp
   try (simp (disch := omega) only [wrap_id])
   refine J _ _ _ (nv ?_); clear J
   refine IH (j + 1, decide (fx ≤ (m : Int))) _ _ ⟨by simp only; omega, by simp only; rw [hall2]; simp⟩ (by simp only; omega) ?_ rfl
   simp
   repeat' first | exact wn | apply wc | exact wj _ | exact wr _ | exact wz _ | exact wo _ _ _ | exact wi (by omega)
 ·have hje : j = cs.length := by omega
  subst hje
  rw [List.take_length] at hall
  rw [← hall] at hr
  refine cf (by simp) ?_
  refine Run.exit rfl ?_
  refine nv ?_
  refine Run.reg fun K J => ?_
  simp
  refine J _ _ _ (nv ?_); clear J
  refine Run.ret ?_
  exact Fin.ret' (h0 := h) (by simp) rfl hh rfl (by simp; rfl) rfl (Weak.refl _) (by simp) ⟨by rw [hr]; rfl, rfl⟩
def arB (f : Fu) : Bool := decide (f.ar < 1) || decide (16 < f.ar)
def countsZ (d : Dc) : Int :=
 if (decide (d.ps < 0) || decide (8 < d.ps) || decide (d.fx < 0)) = true then 2
 else if (decide (32 < (d.cs.length : Int)) || (d.k == 4 && (decide ((d.fs.length : Int) < 1) || decide (8 < (d.fs.length : Int))))) = true then 6
 else if d.fs.any arB = true then 3
 else if d.k = 3 ∧ (((d.rp != d.ps && d.rp != d.ps + 1) = true) ∨ ((d.rr.length : Int) != d.cs.length) = true ∨ fixB d = false) then 3 else 0
theorem counts_any (h : Heap) (hh : WF h) (d : Dc) (hd : d.good) : ACalls Tryz.prog 204 [d.av] h fun o h' => o = .ret (iA (countsZ d)) ∧ h' = h := by
 have hf := fun (g : Heap) (hw : WF g) => fixed_any g hw d hd
 have hcl := hd.csl
 have hfl := hd.fsl
 have hrl := hd.rrl
 obtain ⟨r, hr⟩ : ∃ r, r = countsZ d := ⟨_, rfl⟩
 rw [← hr]
 unfold countsZ at hr
 generalize fixB d = fb at hf hr
 obtain ⟨k, nm, ps, ⟨k1, i1, n1', l1, s1⟩, ⟨k2, i2, n2, l2, s2⟩, fx, cs, rp, ⟨k3, i3, n3, l3, s3⟩, rr, fs⟩ := d
 clear hd
 simp only at hcl hfl hrl hr
 simp only [Dc.av, Dc.cells, cells_mk, List.map, List.cons_append, List.nil_append] at hf ⊢
 refine ACalls.of_run Tryz.func204 rfl ?_
 simp only [Tryz.ntmps204, List.length_cons, List.length_nil]
 refine nv ?_
 refine Run.reg fun K J => ?_
 simp
 refine J _ _ _ (nv ?_); clear J
 refine Run.regJ [1] 16 (decide (ps < 0) || decide (8 < ps) || decide (fx < 0)) (fun K J => ?_) ?_
 ·simp
  repeat' (first | apply And.intro | intro _)
  all_goals
   refine J _ ?_
   simp
   repeat' first | exact wn | apply wc
   all_goals first | exact Weak.junk _ | (refine Weak.bool ?_; clear J; rw [Bool.eq_iff_iff]; simp; done) | (refine Weak.bool ?_; clear J; rw [Bool.eq_iff_iff]; simp; omega) | (refine Weak.bool ?_; clear J; simp_all; done) | (refine Weak.bool ?_; clear J; simp [*]; done) | (refine Weak.bool ?_; clear J; rw [Bool.eq_iff_iff]; simp [*]; omega) | exact Weak.refl _
 simp only [setMany, keepT, keepT.go, List.contains_cons, List.set_cons_succ, List.set_cons_zero]
 simp
 refine Run.condB rfl (fun h1 => ?_) (fun h1 => ?_)
 ·rw [if_pos h1] at hr
  repeat (first | refine nw ?_ | (refine Run.reg fun K J => ?_; simp; (try (simp (disch := omega) only [wrap_id])); refine J _ _ _ ?_; clear J) | refine ct rfl ?_ | refine cf rfl ?_ | refine Run.exit rfl ?_ | refine Run.ret ?_)
  exact Fin.ret' (h0 := h) (by simp) rfl hh rfl rfl rfl (Weak.refl _) rfl ⟨by rw [hr]; rfl, rfl⟩
 rw [if_neg (by rw [h1]; simp)] at hr
 have h1' : 0 ≤ ps ∧ ps ≤ 8 ∧ 0 ≤ fx := by simp at h1; omega
 obtain ⟨b, hb⟩ : ∃ b, b = (decide (32 < (cs.length : Int)) || (k == 4 && (decide ((fs.length : Int) < 1) || decide (8 < (fs.length : Int))))) := ⟨_, rfl⟩
 refine nv ?_
 refine Run.regJ [1] 37 (decide (32 < (cs.length : Int)) || (k == 4 && (decide ((fs.length : Int) < 1) || decide (8 < (fs.length : Int))))) (fun K J => ?_) ?_
 ·simp
  repeat' (first | apply And.intro | intro _)
  all_goals
   refine J _ ?_
   simp
   repeat' first | exact wn | apply wc
   all_goals first | exact Weak.junk _ | (refine Weak.bool ?_; clear J; rw [Bool.eq_iff_iff]; simp; done) | (refine Weak.bool ?_; clear J; rw [Bool.eq_iff_iff]; simp; omega) | (refine Weak.bool ?_; clear J; simp_all; done) | (refine Weak.bool ?_; clear J; simp [*]; done) | (refine Weak.bool ?_; clear J; rw [Bool.eq_iff_iff]; simp [*]; omega) | exact Weak.refl _
 simp only [setMany, keepT, keepT.go, List.contains_cons, List.set_cons_succ, List.set_cons_zero]
 simp
 rw [← hb]
 rw [← hb] at hr
 cases b with
 | true =>
  rw [if_pos rfl] at hr
  refine ct (by simp) (nv ?_)
  repeat (first | refine nw ?_ | (refine Run.reg fun K J => ?_; simp; (try (simp (disch := omega) only [wrap_id])); refine J _ _ _ ?_; clear J) | refine ct rfl ?_ | refine cf rfl ?_ | refine Run.exit rfl ?_ | refine Run.ret ?_)
  exact Fin.ret' (h0 := h) (by simp) rfl hh rfl rfl rfl (Weak.refl _) rfl ⟨by rw [hr]; rfl, rfl⟩
 | false =>
 rw [if_neg (by simp)] at hr
 refine cf (by simp) (nv ?_)
 refine Run.reg fun K J => ?_
 simp
 refine J _ _ _ (nv ?_); clear J
 refine Run.loopS [1] (fun j : Nat => j ≤ fs.length ∧ (fs.take j).any arB = false) (fun j => fs.length - j) (fun j => [(3, iA j)]) (fun _ => _) 0 (by simp) ?_ rfl ?_
 ·simp
  repeat' first | exact wn | apply wc | exact wj _ | exact wr _ | exact wz _ | exact wo _ _ _ | exact wi (by omega)
 rintro j ⟨hj, hall⟩ IH
 simp
 refine nv ?_
 refine Run.reg fun K J => ?_
 simp
 refine J _ _ _ (nv ?_); clear J
 by_cases hjl : j < fs.length
 ·have hg : fs[j]? = some fs[j] := List.getElem?_eq_getElem hjl
  have htk : fs.take (j + 1) = fs.take j ++ [fs[j]] := List.take_succ_eq_append_getElem hjl
  have hmem : fs[j] ∈ fs := List.getElem_mem hjl
  obtain ⟨⟨x, ⟨k4, i4, n4, l4, s4⟩, z, w⟩, hxy⟩ : ∃ c, fs[j] = c := ⟨_, rfl⟩
  rw [hxy] at hg htk hmem
  refine ct (by simp [hjl]) (nv ?_)
  refine Run.regJ [1, 3] 60 (decide (z < 1) || decide (16 < z)) (fun K J => ?_) ?_
  ·simp [hg, Fu.cells]
   repeat' (first | apply And.intro | intro _)
   all_goals
    refine J _ ?_
    simp
    repeat' first | exact wn | apply wc
    all_goals first | exact Weak.junk _ | (refine Weak.bool ?_; clear J; rw [Bool.eq_iff_iff]; simp; done) | (refine Weak.bool ?_; clear J; rw [Bool.eq_iff_iff]; simp; omega) | (refine Weak.bool ?_; clear J; simp_all; done) | (refine Weak.bool ?_; clear J; simp [*]; done) | (refine Weak.bool ?_; clear J; rw [Bool.eq_iff_iff]; simp [*]; omega) | exact Weak.refl _
  simp only [setMany, keepT, keepT.go, List.contains_cons, List.set_cons_succ, List.set_cons_zero]
  simp
  refine Run.condB rfl (fun h2 => ?_) (fun h2 => ?_)
  ·have : fs.any arB = true := List.any_eq_true.2 ⟨_, hmem, h2⟩
   rw [if_pos this] at hr
   repeat (first | refine nw ?_ | (refine Run.reg fun K J => ?_; simp; (try (simp (disch := omega) only [wrap_id])); refine J _ _ _ ?_; clear J) | refine ct rfl ?_ | refine cf rfl ?_ | refine Run.exit rfl ?_ | refine Run.ret ?_)
   exact Fin.ret' (h0 := h) (by simp) rfl hh rfl rfl rfl (Weak.refl _) rfl ⟨by rw [hr]; rfl, rfl⟩
  ·refine nv ?_
   refine Run.reg fun K J => ?_
   simp
   try (simp (disch := omega) only [wrap_id])
   refine J _ _ _ (nv ?_); clear J
   refine IH (j + 1) _ _ ⟨by omega, ?_⟩ (by omega) ?_ rfl
   ·rw [htk, List.any_append, hall]; simp only [List.any_cons, List.any_nil, arB]; rw [h2]; rfl
   ·simp
    repeat' first | exact wn | apply wc | exact wj _ | exact wr _ | exact wz _ | exact wo _ _ _ | exact wi (by omega)
 ·have hje : j = fs.length := by omega
  subst hje
  rw [List.take_length] at hall
  rw [if_neg (by rw [hall]; simp)] at hr
  have hw : IntKind.i64.wrap (ps + 1) = ps + 1 := wrap_id (by omega) (by omega)
  refine cf (by simp) ?_
  refine Run.exit rfl ?_
  refine nv ?_
  by_cases hk : k = 3
  ·subst hk
   by_cases cA : rp = ps
   ·subst cA
    have e0 : (rp != rp && rp != rp + 1) = false := by simp
    rw [e0] at hr
    by_cases c3 : rr.length = cs.length
    ·have e3 : ((rr.length : Int) != cs.length) = false := by simp [c3]
     rw [e3] at hr
     refine Run.reg fun K J => ?_
     simp [e3]
     refine J _ _ _ ?_; clear J
     refine rl rfl (by first | rfl | simp) (by simp) rfl (hf _ (hh.app (by simp))) ?_
     cases fb with
     | false =>
      rw [if_pos (by simp)] at hr
      refine Run.ops fun K J => ?_
      simp
      refine J _ _ _ (nv ?_); clear J
      refine ct (by simp) (nv ?_)
      repeat (first | refine nw ?_ | (refine Run.reg fun K J => ?_; simp; (try (simp (disch := omega) only [wrap_id])); refine J _ _ _ ?_; clear J) | refine ct rfl ?_ | refine cf rfl ?_ | refine Run.exit rfl ?_ | refine Run.ret ?_)
      exact Fin.ret' (h0 := h) (by simp) rfl hh rfl rfl rfl (Weak.refl _) rfl ⟨by rw [hr]; rfl, rfl⟩
     | true =>
      rw [if_neg (by simp)] at hr
      refine Run.ops fun K J => ?_
      simp
      refine J _ _ _ (nv ?_); clear J
      refine cf (by simp) (nv ?_)
      repeat (first | refine nw ?_ | (refine Run.reg fun K J => ?_; simp; (try (simp (disch := omega) only [wrap_id])); refine J _ _ _ ?_; clear J) | refine ct rfl ?_ | refine cf rfl ?_ | refine Run.exit rfl ?_ | refine Run.ret ?_)
      exact Fin.ret' (h0 := h) (by simp) rfl hh rfl rfl rfl (Weak.refl _) rfl ⟨by rw [hr]; rfl, rfl⟩
    ·have e3 : ((rr.length : Int) != cs.length) = true := by simp; omega
     rw [e3] at hr
     rw [if_pos (by simp)] at hr
     refine Run.reg fun K J => ?_
     simp [e3]
     refine J _ _ _ (nv ?_); clear J
     refine ct (by simp) (nv ?_)
     repeat (first | refine nw ?_ | (refine Run.reg fun K J => ?_; simp; (try (simp (disch := omega) only [wrap_id])); refine J _ _ _ ?_; clear J) | refine ct rfl ?_ | refine cf rfl ?_ | refine Run.exit rfl ?_ | refine Run.ret ?_)
     exact Fin.ret' (h0 := h) (by simp) rfl hh rfl rfl rfl (Weak.refl _) rfl ⟨by rw [hr]; rfl, rfl⟩
   by_cases cB : rp = ps + 1
   ·subst cB
    have e0 : (ps + 1 != ps && ps + 1 != ps + 1) = false := by simp
    have e1 : (ps + 1 != ps) = true := by simp; omega
    rw [e0] at hr
    by_cases c3 : rr.length = cs.length
    ·have e3 : ((rr.length : Int) != cs.length) = false := by simp [c3]
     rw [e3] at hr
     refine Run.reg fun K J => ?_
     simp [e1, hw, e3]
     refine J _ _ _ ?_; clear J
     refine rl rfl (by first | rfl | simp) (by simp) rfl (hf _ (hh.app (by simp))) ?_
     cases fb with
     | false =>
      rw [if_pos (by simp)] at hr
      refine Run.ops fun K J => ?_
      simp
      refine J _ _ _ (nv ?_); clear J
      refine ct (by simp) (nv ?_)
      repeat (first | refine nw ?_ | (refine Run.reg fun K J => ?_; simp; (try (simp (disch := omega) only [wrap_id])); refine J _ _ _ ?_; clear J) | refine ct rfl ?_ | refine cf rfl ?_ | refine Run.exit rfl ?_ | refine Run.ret ?_)
      exact Fin.ret' (h0 := h) (by simp) rfl hh rfl rfl rfl (Weak.refl _) rfl ⟨by rw [hr]; rfl, rfl⟩
     | true =>
      rw [if_neg (by simp)] at hr
      refine Run.ops fun K J => ?_
      simp
      refine J _ _ _ (nv ?_); clear J
      refine cf (by simp) (nv ?_)
      repeat (first | refine nw ?_ | (refine Run.reg fun K J => ?_; simp; (try (simp (disch := omega) only [wrap_id])); refine J _ _ _ ?_; clear J) | refine ct rfl ?_ | refine cf rfl ?_ | refine Run.exit rfl ?_ | refine Run.ret ?_)
      exact Fin.ret' (h0 := h) (by simp) rfl hh rfl rfl rfl (Weak.refl _) rfl ⟨by rw [hr]; rfl, rfl⟩
    ·have e3 : ((rr.length : Int) != cs.length) = true := by simp; omega
     rw [e3] at hr
     rw [if_pos (by simp)] at hr
     refine Run.reg fun K J => ?_
     simp [e1, hw, e3]
     refine J _ _ _ (nv ?_); clear J
     refine ct (by simp) (nv ?_)
     repeat (first | refine nw ?_ | (refine Run.reg fun K J => ?_; simp; (try (simp (disch := omega) only [wrap_id])); refine J _ _ _ ?_; clear J) | refine ct rfl ?_ | refine cf rfl ?_ | refine Run.exit rfl ?_ | refine Run.ret ?_)
     exact Fin.ret' (h0 := h) (by simp) rfl hh rfl rfl rfl (Weak.refl _) rfl ⟨by rw [hr]; rfl, rfl⟩
   ·have e1 : (rp != ps) = true := by simp [cA]
    have e2 : (rp != ps + 1) = true := by simp [cB]
    rw [e1, e2] at hr
    rw [if_pos (by simp)] at hr
    refine Run.reg fun K J => ?_
    simp [e1, e2, hw]
    refine J _ _ _ (nv ?_); clear J
    refine ct (by simp) (nv ?_)
    repeat (first | refine nw ?_ | (refine Run.reg fun K J => ?_; simp; (try (simp (disch := omega) only [wrap_id])); refine J _ _ _ ?_; clear J) | refine ct rfl ?_ | refine cf rfl ?_ | refine Run.exit rfl ?_ | refine Run.ret ?_)
    exact Fin.ret' (h0 := h) (by simp) rfl hh rfl rfl rfl (Weak.refl _) rfl ⟨by rw [hr]; rfl, rfl⟩
  ·have hk' : (k == 3) = false := by simp [hk]
   rw [if_neg (by simp [hk])] at hr
   refine Run.reg fun K J => ?_
   simp [hk']
   refine J _ _ _ (nv ?_); clear J
   refine cf (by simp) (nv ?_)
   repeat (first | refine nw ?_ | (refine Run.reg fun K J => ?_; simp; (try (simp (disch := omega) only [wrap_id])); refine J _ _ _ ?_; clear J) | refine ct rfl ?_ | refine cf rfl ?_ | refine Run.exit rfl ?_ | refine Run.ret ?_)
   exact Fin.ret' (h0 := h) (by simp) rfl hh rfl rfl rfl (Weak.refl _) rfl ⟨by rw [hr]; rfl, rfl⟩


open Go Go.AI
def noTr : Tr → Bool
 | .mk k b v bs => !((k != 0) || (v != 0) || !sameT b zT || ((bs.length : Int) != 0))
theorem sameTr_any (h : Heap) (hh : WF h) (a : Tr) (hgd : a.good) : ACalls Tryz.prog 258 [a.av, .agg [iA 0, iA 0, iA 0, .p (sP []), .p (.prim (.slice none 0 0)), .p (.prim (.slice none 0 0)), iA 0, .p (.prim (.slice none 0 0))]] h fun o h' => o = .ret (bA (noTr a)) ∧ h' = h := by
 obtain ⟨k, bo, v, bs⟩ := a
 simp only [Tr.good] at hgd
 obtain ⟨hb, hbl, hbs⟩ := hgd
 have c1 := fun (g : Heap) (hw : WF g) => ACalls.weak (args := [bo.av, .agg [iA 0, iA 0, .p (sP []), .p (.prim (.slice none 0 0)), .p (.prim (.slice none 0 0))]]) (WeakL.cons (Weak.refl _) (WeakL.cons Weak.zT WeakL.nil)) (same_any bo.size bo zT g (Nat.le_refl _) (by have := hb.1; omega) hb.2.2 hw)
 obtain ⟨r, hr⟩ : ∃ r, r = noTr (.mk k bo v bs) := ⟨_, rfl⟩
 rw [← hr]
 simp only [noTr] at hr
 generalize sameT bo zT = sb at c1 hr
 obtain ⟨k1, i1, n1, l1, s1⟩ := bo
 simp only [Tr.av, Tr.cells, Tm.av, cells_mk, List.map, List.cons_append, List.nil_append, brPs_eq] at c1 ⊢
 refine ACalls.of_run Tryz.func258 rfl ?_
 simp only [Tryz.ntmps258, List.length_cons, List.length_nil]
 refine nv ?_
 refine Run.reg fun K J => ?_
 simp
 refine J _ _ _ (nv ?_); clear J
 have hcase : (k != 0) = true ∨ ((k != 0) = false ∧ (v != 0) = true) ∨ ((k != 0) = false ∧ (v != 0) = false) := by
  cases k != 0 <;> cases v != 0 <;> simp
 rcases hcase with e1 | ⟨e1, e2⟩ | ⟨e1, e2⟩
 ·rw [e1] at hr
  refine Run.reg fun K J => ?_
  simp [e1]
  refine J _ _ _ (nv ?_); clear J
  refine ct (by simp) (nv ?_)
  repeat (first | refine nw ?_ | (refine Run.reg fun K J => ?_; simp; (try (simp (disch := omega) only [wrap_id])); refine J _ _ _ ?_; clear J) | refine ct rfl ?_ | refine cf rfl ?_ | refine Run.exit rfl ?_ | refine Run.ret ?_)
  exact Fin.ret' (h0 := h) (by simp) rfl hh rfl rfl rfl (Weak.refl _) rfl ⟨by rw [hr]; rfl, rfl⟩
 ·rw [e1, e2] at hr
  refine Run.reg fun K J => ?_
  simp [e1, e2]
  refine J _ _ _ (nv ?_); clear J
  refine ct (by simp) (nv ?_)
  repeat (first | refine nw ?_ | (refine Run.reg fun K J => ?_; simp; (try (simp (disch := omega) only [wrap_id])); refine J _ _ _ ?_; clear J) | refine ct rfl ?_ | refine cf rfl ?_ | refine Run.exit rfl ?_ | refine Run.ret ?_)
  exact Fin.ret' (h0 := h) (by simp) rfl hh rfl rfl rfl (Weak.refl _) rfl ⟨by rw [hr]; rfl, rfl⟩
 rw [e1, e2] at hr
 refine Run.reg fun K J => ?_
 simp [e1, e2]
 refine J _ _ _ ?_; clear J
 refine rl rfl (by first | rfl | simp) (by simp) rfl (c1 _ (hh.app (by simp))) ?_
 cases sb with
 | false =>
  refine Run.ops fun K J => ?_
  simp
  refine J _ _ _ (nv ?_); clear J
  refine ct (by simp) (nv ?_)
  repeat (first | refine nw ?_ | (refine Run.reg fun K J => ?_; simp; (try (simp (disch := omega) only [wrap_id])); refine J _ _ _ ?_; clear J) | refine ct rfl ?_ | refine cf rfl ?_ | refine Run.exit rfl ?_ | refine Run.ret ?_)
  exact Fin.ret' (h0 := h) (by simp) rfl hh rfl rfl rfl (Weak.refl _) rfl ⟨by rw [hr]; rfl, rfl⟩
 | true =>
 by_cases hl : bs.length = 0
 rotate_left
 ·have e3 : ((bs.length : Int) != 0) = true := by simp; exact fun h => hl (by rw [h]; rfl)
  rw [e3] at hr
  refine Run.ops fun K J => ?_
  simp [e3]
  refine J _ _ _ (nv ?_); clear J
  refine ct (by simp) (nv ?_)
  repeat (first | refine nw ?_ | (refine Run.reg fun K J => ?_; simp; (try (simp (disch := omega) only [wrap_id])); refine J _ _ _ ?_; clear J) | refine ct rfl ?_ | refine cf rfl ?_ | refine Run.exit rfl ?_ | refine Run.ret ?_)
  exact Fin.ret' (h0 := h) (by simp) rfl hh rfl rfl rfl (Weak.refl _) rfl ⟨by rw [hr]; rfl, rfl⟩
 obtain rfl : bs = [] := List.eq_nil_of_length_eq_zero hl
 simp only [List.length_nil] at hr
 refine Run.ops fun K J => ?_
 simp
 refine J _ _ _ (nv ?_); clear J
 refine cf (by simp) (nv ?_)
 refine Run.reg fun K J => ?_
 simp
 refine J _ _ _ (nv ?_); clear J
 refine Run.loopS [2, 3] (fun j : Nat => j = 0) (fun j => 0) (fun j => [(5, iA j)]) (fun _ => _) 0 rfl ?_ rfl ?_
 ·simp
  repeat' first | exact wn | apply wc | exact wj _ | exact wr _ | exact wz _ | exact wo _ _ _ | exact wi (by omega)
 rintro j hj IH
 subst hj
 simp
 refine nv ?_
 refine Run.reg fun K J => ?_
 simp
 refine J _ _ _ (nv ?_); clear J
 refine cf (by simp) ?_
 refine Run.exit rfl ?_
 refine nv ?_
 repeat (first | refine nw ?_ | (refine Run.reg fun K J => ?_; simp; (try (simp (disch := omega) only [wrap_id])); refine J _ _ _ ?_; clear J) | refine ct rfl ?_ | refine cf rfl ?_ | refine Run.exit rfl ?_ | refine Run.ret ?_)
 exact Fin.ret' (h0 := h) (by simp) rfl hh rfl rfl rfl (Weak.refl _) rfl ⟨by rw [hr]; rfl, rfl⟩

end Go.Proofs.YtcfcolkbeelegaaGreat
