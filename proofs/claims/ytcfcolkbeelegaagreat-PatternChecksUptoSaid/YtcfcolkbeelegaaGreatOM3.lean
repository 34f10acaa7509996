import Derived.Test.YtcfcolkbeelegaaGreatOX0
import Derived.Test.YtcfcolkbeelegaaGreatOFS
set_option maxRecDepth 8000
set_option maxHeartbeats 4000000

namespace Go.Proofs.YtcfcolkbeelegaaGreat

open Go Go.AI
def lowAt (c : Int) (vs : List (Int × Int)) (j : Nat) : Bool := match vs[j]? with | some v => !decide (c ≤ v.2) | none => true
def coverB (c : Int) (vs : List (Int × Int)) : Bool := !allTo (lowAt c vs) vs.length
theorem cov1_any (h : Heap) (hh : WF h) (q : Nat) (c x y : Int) (vs0 : List (Int × Int)) (hq : h[q]? = some (some (.cells [iA c, .p (.sl 2 (varPs vs0))]))) :
  ACalls Tryz.prog 194 [.agg [iA x, iA y], .ptr q 0] h fun o h' => o = .ret (bA (decide (c ≤ y))) ∧ h' = h := by
 have hql := (List.getElem?_eq_some_iff.1 hq).1
 have hq' : ∀ l : List (Option AO), (h ++ l)[q]? = some (some (.cells [iA c, .p (.sl 2 (varPs vs0))])) := fun l => by rw [List.getElem?_append_left hql]; exact hq
 refine ACalls.of_run Tryz.func194 rfl ?_
 simp only [Tryz.ntmps194, List.length_cons, List.length_nil]
 refine nv ?_
 refine Run.reg fun K hK => ?_
 simp
 refine hK _ _ _ (nv ?_); clear hK
 refine Run.reg fun K hK => ?_
 simp [hq']
 refine hK _ _ _ (nv ?_); clear hK
 refine Run.ret ?_
 exact Fin.ret' (h0 := h) (by simp) rfl hh rfl (by simp; rfl) rfl (Weak.refl _) (by simp) ⟨rfl, rfl⟩
theorem covIx_any (h : Heap) (hh : WF h) (q : Nat) (c : Int) (vs0 vs : List (Int × Int)) (hb : vs.length ≤ 1048576) (hq : h[q]? = some (some (.cells [iA c, .p (.sl 2 (varPs vs0))]))) :
  ACalls Tryz.prog 223 [.p (.sl 2 (varPs vs)), .fn (.func 194) [] [.ptr q 0]] h fun o h' => ∃ r : Int, o = .ret (iA r) ∧ h' = h ∧ decide (0 ≤ r) = coverB c vs := by
 refine ACalls.of_run Tryz.func223 rfl ?_
 simp only [Tryz.ntmps223, List.length_cons, List.length_nil]
 refine nv ?_
 refine Run.reg fun K hK => ?_
 simp
 refine hK _ _ _ (nv ?_); clear hK
 refine Run.reg fun K hK => ?_
 simp
 refine hK _ _ _ (nv ?_); clear hK
 refine Run.loopS [0, 1, 7] (fun j : Nat => j ≤ vs.length ∧ allTo (lowAt c vs) j = true) (fun j => vs.length - j) (fun j => [(8, iA j)]) (fun _ => _) 0 (by simp [allTo]) ?_ rfl ?_
 ·simp
  repeat' first | exact wn | apply wc | exact wj _ | exact wr _ | exact wz _ | exact wo _ _ _ | exact wi (by omega)
 ·rintro j ⟨hj, hall⟩ IH
  simp
  refine nv ?_
  refine Run.reg fun K hK => ?_
  simp
  refine hK _ _ _ (nv ?_); clear hK
  by_cases hjl : j < vs.length
  ·have hg : vs[j]? = some vs[j] := List.getElem?_eq_getElem hjl
   obtain ⟨⟨x, y⟩, hxy⟩ : ∃ p, vs[j] = p := ⟨_, rfl⟩
   rw [hxy] at hg
   refine ct (by simp [hjl]) (nv ?_)
   refine Run.reg fun K hK => ?_
   simp
   refine hK _ _ _ (nv ?_); clear hK
   refine Run.reg fun K hK => ?_
   simp [hg]
   refine hK _ _ _ ?_; clear hK
   refine Run.call rfl (by first | rfl | simp) (by simp) rfl (cov1_any h hh q c x y vs0 hq) ?_ ?_
   rotate_left
   ·rintro v h' ⟨hv, _⟩; cases hv
   rintro v h' ⟨hv, rfl⟩
   simp only [AOut.ret.injEq] at hv
   subst hv
   refine Run.ops fun K hK => ?_
   simp
   refine hK _ _ _ (nv ?_); clear hK
   by_cases h1 : c ≤ y
   ·skip
    refine ct (by simp [h1]) (nv ?_)
    repeat (first | refine nw ?_ | (refine Run.reg fun K hK => ?_; simp; (try (simp (disch := omega) only [wrap_id])); refine hK _ _ _ ?_; clear hK) | refine ct rfl ?_ | refine cf rfl ?_ | refine Run.exit rfl ?_ | refine Run.ret ?_)
    have := allTo_false (p := lowAt c vs) hjl (by simp only [lowAt, hg]; simp [h1])
    exact Fin.ret' (by simp) rfl hh (List.append_nil _).symm rfl rfl (Weak.refl _) rfl ⟨j, rfl, rfl, by simp [coverB, this]⟩
   ·skip
    refine cf (by simp [h1]) (nv ?_)
    refine Run.reg fun K hK => ?_
    simp
    try (simp (disch := omega) only [wrap_id])
    refine hK _ _ _ (nv ?_); clear hK
    refine IH (j + 1) _ _ ⟨by omega, by rw [allTo_succ, hall]; simp only [lowAt, hg]; simp [h1]⟩ (by omega) ?_ rfl
    simp
    repeat' first | exact wn | apply wc | exact wj _ | exact wr _ | exact wz _ | exact wo _ _ _ | exact wi (by omega)
  ·have hje : j = vs.length := by omega
   subst hje
   refine cf (by simp) ?_
   refine Run.exit rfl ?_
   refine nv ?_
   repeat (first | refine nw ?_ | (refine Run.reg fun K hK => ?_; simp; (try (simp (disch := omega) only [wrap_id])); refine hK _ _ _ ?_; clear hK) | refine ct rfl ?_ | refine cf rfl ?_ | refine Run.exit rfl ?_ | refine Run.ret ?_)
   exact Fin.ret' (by simp) rfl hh (List.append_nil _).symm rfl rfl (Weak.refl _) rfl ⟨-1, rfl, rfl, by simp [coverB, hall]⟩
theorem covContains_any (h : Heap) (hh : WF h) (q : Nat) (c : Int) (vs0 vs : List (Int × Int)) (hb : vs.length ≤ 1048576) (hq : h[q]? = some (some (.cells [iA c, .p (.sl 2 (varPs vs0))]))) :
  ACalls Tryz.prog 193 [.p (.sl 2 (varPs vs)), .fn (.func 194) [] [.ptr q 0]] h fun o h' => o = .ret (bA (coverB c vs)) ∧ h' = h := by
 refine ACalls.of_run Tryz.func193 rfl ?_
 simp only [Tryz.ntmps193, List.length_cons, List.length_nil]
 refine nv ?_
 refine Run.reg fun K hK => ?_
 simp
 refine hK _ _ _ (nv ?_); clear hK
 refine Run.reg fun K hK => ?_
 simp
 refine hK _ _ _ ?_; clear hK
 refine Run.call rfl rfl (by simp) rfl (covIx_any h hh q c vs0 vs hb hq) ?_ ?_
 ·rintro v h' ⟨r, hv, rfl, hr⟩
  simp only [AOut.ret.injEq] at hv
  subst hv
  refine Run.ops fun K hK => ?_
  simp
  refine hK _ _ _ (nv ?_); clear hK
  refine Run.ret ?_
  exact Fin.ret' (by simp) rfl hh (List.append_nil _).symm rfl rfl (Weak.of_eq (by simp [← hr])) rfl ⟨rfl, rfl⟩
 ·rintro v h' ⟨r, hv, _⟩; cases hv
theorem covered_any (h : Heap) (hh : WF h) (c : Int) (vs : List (Int × Int)) (hb : vs.length ≤ 1048576) :
  ACalls Tryz.prog 160 [.agg [iA c, .p (.sl 2 (varPs vs))]] h fun o h' => o = .ret (bA (coverB c vs)) ∧ h' = h := by
 have hc := covContains_any (h ++ [some (.cells [iA c, .p (.sl 2 (varPs vs))])]) (hh.app (by simp)) h.length c vs vs hb (by simp)
 refine ACalls.of_run Tryz.func160 rfl ?_
 simp only [Tryz.ntmps160, List.length_cons, List.length_nil]
 refine nv ?_
 refine Run.reg fun K hK => ?_
 simp
 refine hK _ _ _ (nv ?_); clear hK
 refine Run.reg fun K hK => ?_
 simp
 refine hK _ _ _ ?_; clear hK
 refine Run.call rfl (by first | rfl | simp) (by simp) rfl (hc) ?_ ?_
 rotate_left
 ·rintro v h' ⟨hv, _⟩; cases hv
 rintro v h' ⟨hv, rfl⟩
 simp only [AOut.ret.injEq] at hv
 subst hv
 refine Run.ops fun K hK => ?_
 simp
 refine hK _ _ _ (nv ?_); clear hK
 refine Run.ret ?_
 exact Fin.ret' (h0 := h) (by simp) rfl hh rfl (by simp; rfl) rfl (Weak.refl _) (by simp) ⟨rfl, rfl⟩
theorem valid_cover (c : Int) (vs : List (Int × Int)) : validB ⟨c, vs⟩ = (!(decide (c < 0) || (decide (100 < c) || (decide (0 < c) && coverB c vs))) && allTo (varOk (-1) vs) vs.length) := by
 unfold validB coverB
 by_cases h1 : c < 0
 ·simp [h1]
 ·by_cases h2 : 100 < c
  ·simp [h1, h2]
  ·by_cases h3 : 0 < c
   ·simp only [h1, h2, h3, decide_false, decide_true, Bool.or_self, Bool.not_false, Bool.true_and, Bool.false_or, Bool.not_not]
    rw [Bool.eq_iff_iff, Bool.and_eq_true, allTo_iff, allTo_iff, allTo_iff]
    constructor
    ·intro h
     refine ⟨fun j hj => ?_, fun j hj => ?_⟩
     ·have := h j hj
      rw [varOk, List.getElem?_eq_getElem hj] at this
      simp only [lowAt, List.getElem?_eq_getElem hj]
      simp at this ⊢
      omega
     ·have := h j hj
      rw [varOk, List.getElem?_eq_getElem hj] at this ⊢
      simp at this ⊢
      exact ⟨this.1.1, this.1.2⟩
    ·rintro ⟨ha, hb⟩ j hj
     have h4 := ha j hj
     have h5 := hb j hj
     rw [varOk, List.getElem?_eq_getElem hj] at h5 ⊢
     simp only [lowAt, List.getElem?_eq_getElem hj] at h4
     simp at h4 h5 ⊢
     exact ⟨⟨h5.1, h5.2⟩, .inr (by omega)⟩
   ·have e : varOk c vs = varOk (-1) vs := by
     funext j
     unfold varOk
     cases vs[j]? with
     | none => rfl
     | some v => simp [h3]
    simp [h1, h2, h3, e]
theorem tvalid_any (h : Heap) (hh : WF h) (l : Lv) (hb : l.vars.length ≤ 1048576) : ACalls Tryz.prog 107 [l.av] h fun o h' => o = .ret (bA (validB l)) ∧ h' = h := by
 obtain ⟨c, vs⟩ := l
 simp only at hb
 simp only [Lv.av, Lv.cells, List.map]
 have hcv := covered_any (h ++ [some (.cells [iA c, .p (.sl 2 (varPs vs))])]) (hh.app (by simp)) c vs hb
 rw [valid_cover]
 generalize coverB c vs = cv at hcv
 obtain ⟨r, hr⟩ : ∃ r, r = (!(decide (c < 0) || (decide (100 < c) || (decide (0 < c) && cv))) && allTo (varOk (-1) vs) vs.length) := ⟨_, rfl⟩
 rw [← hr]
 have hcase : (decide (c < 0) || (decide (100 < c) || (decide (0 < c) && cv))) = true ∨ (decide (c < 0) || (decide (100 < c) || (decide (0 < c) && cv))) = false := by cases (decide (c < 0) || (decide (100 < c) || (decide (0 < c) && cv))) <;> simp
 refine ACalls.of_run Tryz.func107 rfl ?_
 simp only [Tryz.ntmps107, List.length_cons, List.length_nil]
 refine nv ?_
 refine Run.reg fun K hK => ?_
 simp
 refine hK _ _ _ (nv ?_); clear hK
 refine Run.joinA [0, 1] [(21, bA (decide (c < 0) || (decide (100 < c) || (decide (0 < c) && cv))))] (fun hJ => ?_) ?_
 ·by_cases c1 : c < 0
  ·skip
   refine Run.reg fun K hK => ?_
   simp [c1]
   refine hK _ _ _ ?_; clear hK
   repeat (first | refine Run.skip ?_ | refine Run.opsNil ?_ | refine Run.inBlock ?_)
   refine hJ _ ?_
   simp [c1]
   repeat' first | exact wn | apply wc | exact wj _ | exact wr _ | exact wz _ | exact wo _ _ _ | exact wi (by omega)
  ·by_cases c2 : 100 < c
   ·skip
    refine Run.reg fun K hK => ?_
    simp [c1, c2]
    refine hK _ _ _ ?_; clear hK
    repeat (first | refine Run.skip ?_ | refine Run.opsNil ?_ | refine Run.inBlock ?_)
    refine hJ _ ?_
    simp [c1, c2]
    repeat' first | exact wn | apply wc | exact wj _ | exact wr _ | exact wz _ | exact wo _ _ _ | exact wi (by omega)
   ·by_cases c3 : 0 < c
    ·skip
     refine Run.reg fun K hK => ?_
     simp [c1, c2, c3]
     refine hK _ _ _ ?_; clear hK
     repeat (first | refine Run.skip ?_ | refine Run.opsNil ?_ | refine Run.inBlock ?_)
     refine Run.call rfl (by first | rfl | simp) (by simp) rfl (hcv) ?_ ?_
     rotate_left
     ·rintro v h' ⟨hv, _⟩; cases hv
     rintro v h' ⟨hv, rfl⟩
     simp only [AOut.ret.injEq] at hv
     subst hv
     refine Run.ops fun K hK => ?_
     simp
     refine hK _ _ _ ?_; clear hK
     repeat (first | refine Run.skip ?_ | refine Run.opsNil ?_ | refine Run.inBlock ?_)
     refine hJ _ ?_
     simp [c1, c2, c3]
     repeat' first | exact wn | apply wc | exact wj _ | exact wr _ | exact wz _ | exact wo _ _ _ | exact wi (by omega)
    ·skip
     refine Run.reg fun K hK => ?_
     simp [c1, c2, c3]
     refine hK _ _ _ ?_; clear hK
     repeat (first | refine Run.skip ?_ | refine Run.opsNil ?_ | refine Run.inBlock ?_)
     refine hJ _ ?_
     simp [c1, c2, c3]
     repeat' first | exact wn | apply wc | exact wj _ | exact wr _ | exact wz _ | exact wo _ _ _ | exact wi (by omega)
 simp only [setMany, keepT, keepT.go, List.contains_cons, List.set_cons_succ, List.set_cons_zero]
 simp
 rcases hcase with hc | hc
 ·rw [hc]
  repeat (first | refine nw ?_ | (refine Run.reg fun K hK => ?_; simp; (try (simp (disch := omega) only [wrap_id])); refine hK _ _ _ ?_; clear hK) | refine ct rfl ?_ | refine cf rfl ?_ | refine Run.exit rfl ?_ | refine Run.ret ?_)
  exact Fin.ret' (h0 := h) (by simp) rfl hh rfl rfl rfl (Weak.refl _) rfl ⟨by rw [hr, hc]; rfl, rfl⟩
 rw [hc]
 rw [hc] at hr
 refine cf (by simp) (nv ?_)
 refine Run.reg fun K hK => ?_
 simp
 refine hK _ _ _ (nv ?_); clear hK
 refine Run.loopS [1, 23, 24] (fun j : Nat => j ≤ vs.length ∧ allTo (varOk (-1) vs) j = true) (fun j => vs.length - j) (fun j => [(25, iA j)]) (fun _ => _) 0 (by simp [allTo]) ?_ rfl ?_
 ·simp
  repeat' first | exact wn | apply wc | exact wj _ | exact wr _ | exact wz _ | exact wo _ _ _ | exact wi (by omega)
 rintro j ⟨hj, hall⟩ IH
 simp
 refine nv ?_
 refine Run.reg fun K hK => ?_
 simp
 refine hK _ _ _ (nv ?_); clear hK
 by_cases hjl : j < vs.length
 ·have hg : vs[j]? = some vs[j] := List.getElem?_eq_getElem hjl
  obtain ⟨⟨x, y⟩, hxy⟩ : ∃ p, vs[j] = p := ⟨_, rfl⟩
  rw [hxy] at hg
  refine ct (by simp [hjl]) (nv ?_)
  refine Run.reg fun K hK => ?_
  simp [hg]
  refine hK _ _ _ (nv ?_); clear hK
  obtain ⟨b2, hb2⟩ : ∃ b, b = (decide (0 < j) && (match vs[j - 1]? with | some u => decide (x ≤ u.1) | none => false)) := ⟨_, rfl⟩
  have hvk : varOk (-1) vs j = !(decide (x < -65536) || (decide (7 < x) || (decide (y < 0) || (decide (100 < y) || b2)))) := by
   have x2e : decide (8 ≤ x) = decide (7 < x) := by rw [decide_eq_decide]; omega
   rw [hb2]
   simp only [varOk, hg, x2e]
   cases vs[j - 1]? <;> simp [Bool.and_assoc]
  have hjj : (∃ u, 0 < j ∧ vs[j - 1]? = some u) ∨ j = 0 := by
   rcases Nat.eq_zero_or_pos j with e | e
   ·exact .inr e
   ·exact .inl ⟨_, e, List.getElem?_eq_getElem (show j - 1 < vs.length by omega)⟩
  refine Run.joinA [1, 23, 24, 25] [(63, bA (decide (x < -65536) || (decide (7 < x) || (decide (y < 0) || (decide (100 < y) || b2)))))] (fun hJ => ?_) ?_
  ·skip
   refine Run.drawPlain [0, 0, 0, 0, 0, 0, 0, 0, 0, 0, 0, 0, 0, 0, 0, 0, 0, 0, 0, 0, 0, 0, 0, 0, 0, 0, 0, 0, 0, 0, 0, 0, 0, 0] [0, 0, 0, 0, 0, 0, 0, 0, 0, 0, 0, 0, 0, 0, 0, 0, 0, 0, 0, 0, 0, 0, 0, 0, 0, 0, 0, 0, 0, 0, 0, 0, 0, 0] [0, 1, 3, 7, 15, 31, 63, 127, 255, 511, 1023, 2047, 4095, 8191, 16383, 32767, 65535, 131071, 262143, 524287, 1048575, 2097151, 4194303, 8388607, 4194303, 20971519, 67108863, 134217727, 268435455, 4194303, 541065215, 2147483647, 4294967295, 8589934591] (by kernel_rfl) (by kernel_rfl) rfl (fun K hK => ?_)
   by_cases x1 : x < -65536
   ·simp (maxSteps := 1000000) [x1]
    refine hK _ (hJ _ ?_)
    simp [x1]
    repeat' first | exact wn | apply wc | exact wj _ | exact wr _ | exact wz _ | exact wo _ _ _ | exact wi (by omega)
   by_cases x2 : 7 < x
   ·simp (maxSteps := 1000000) [x1, x2]
    refine hK _ (hJ _ ?_)
    simp [x1, x2]
    repeat' first | exact wn | apply wc | exact wj _ | exact wr _ | exact wz _ | exact wo _ _ _ | exact wi (by omega)
   by_cases x3 : y < 0
   ·simp (maxSteps := 1000000) [x1, x2, x3]
    refine hK _ (hJ _ ?_)
    simp [x1, x2, x3]
    repeat' first | exact wn | apply wc | exact wj _ | exact wr _ | exact wz _ | exact wo _ _ _ | exact wi (by omega)
   by_cases x4 : 100 < y
   ·simp (maxSteps := 1000000) [x1, x2, x3, x4]
    refine hK _ (hJ _ ?_)
    simp [x1, x2, x3, x4]
    repeat' first | exact wn | apply wc | exact wj _ | exact wr _ | exact wz _ | exact wo _ _ _ | exact wi (by omega)
   rcases hjj with ⟨u, hj0, hu⟩ | hj0
   ·have hw : IntKind.i64.wrap ((j : Int) - 1) = (j : Int) - 1 := wrap_id (by omega) (by omega)
    have hn : ¬ ((j : Int) - 1 < 0) := by omega
    have ht : ((j : Int) - 1).toNat = j - 1 := by omega
    have hb3 : b2 = decide (x ≤ u.1) := by rw [hb2, hu]; simp [hj0]
    rw [hb3] at hJ
    clear hb3 hb2 hvk
    simp (maxSteps := 1000000) [hw, hn, ht, hu, hj0, x1, x2, x3, x4]
    refine hK _ (hJ _ ?_)
    simp [x1, x2, x3, x4]
    repeat' first | exact wn | apply wc | exact wj _ | exact wr _ | exact wz _ | exact wo _ _ _ | exact wi (by omega)
   ·subst hj0
    have hb3 : b2 = false := by rw [hb2]; simp
    rw [hb3] at hJ
    simp (maxSteps := 1000000) [x1, x2, x3, x4]
    refine hK _ (hJ _ ?_)
    simp [x1, x2, x3, x4]
    repeat' first | exact wn | apply wc | exact wj _ | exact wr _ | exact wz _ | exact wo _ _ _ | exact wi (by omega)
  simp only [setMany, keepT, keepT.go, List.contains_cons, List.set_cons_succ, List.set_cons_zero]
  simp
  refine Run.condB rfl (fun h2 => ?_) (fun h2 => ?_)
  ·repeat (first | refine nw ?_ | (refine Run.reg fun K hK => ?_; simp; (try (simp (disch := omega) only [wrap_id])); refine hK _ _ _ ?_; clear hK) | refine ct rfl ?_ | refine cf rfl ?_ | refine Run.exit rfl ?_ | refine Run.ret ?_)
   refine Fin.ret' (h0 := h) (by simp) rfl hh rfl rfl rfl (Weak.refl _) rfl ⟨?_, rfl⟩
   rw [hr, allTo_false hjl (by rw [hvk, h2]; rfl)]
   simp
  ·refine nv ?_
   refine Run.reg fun K hK => ?_
   simp
   try (simp (disch := omega) only [wrap_id])
   refine hK _ _ _ (nv ?_); clear hK
   refine Run.cutAt 1 hh rfl (by omega) (by simp) (by simp) (by simp) rfl ?_
   refine IH (j + 1) _ _ ⟨by omega, ?_⟩ (by omega) ?_ ?_
   ·rw [allTo_succ, hall, hvk, h2]; rfl
   ·simp
    repeat' first | exact wn | apply wc | exact wj _ | exact wr _ | exact wz _ | exact wo _ _ _ | exact wi (by omega)
   ·simp
 ·have hje : j = vs.length := by omega
  subst hje
  refine cf (by simp) ?_
  refine Run.exit rfl ?_
  refine nv ?_
  repeat (first | refine nw ?_ | (refine Run.reg fun K hK => ?_; simp; (try (simp (disch := omega) only [wrap_id])); refine hK _ _ _ ?_; clear hK) | refine ct rfl ?_ | refine cf rfl ?_ | refine Run.exit rfl ?_ | refine Run.ret ?_)
  refine Fin.ret' (h0 := h) (by simp) rfl hh rfl rfl rfl (Weak.refl _) rfl ⟨by rw [hr, hall]; rfl, rfl⟩


open Go Go.AI
def outP (p : Int) (vs : List (Int × Int)) (j : Nat) : Bool := match vs[j]? with | some v => !(decide (0 ≤ v.1) && decide (p ≤ v.1)) | none => true
def outL (l : Int) (vs : List (Int × Int)) (j : Nat) : Bool := match vs[j]? with | some v => !(decide (v.1 < 0) && decide (l ≤ -1 - v.1)) | none => true
theorem levelZ_eq (p l c : Int) (vs : List (Int × Int)) : levelZ p l ⟨c, vs⟩ = if validB ⟨c, vs⟩ = false then 3 else if allTo (outP p vs) vs.length = false then 15 else if allTo (outL l vs) vs.length = false then 23 else 0 := rfl
theorem tlevel_any (h : Heap) (hh : WF h) (l : Lv) (v p m k : Int) (h0 : 0 ≤ p) (hb : l.vars.length ≤ 1048576) (hr : ∀ v ∈ l.vars, -9223372036854775808 ≤ v.1) :
  ACalls Tryz.prog 189 [.agg [iA v, iA p, iA m, iA k], l.av] h fun o h' => o = .ret (iA (levelZ p k l)) ∧ h' = h := by
 have hval := tvalid_any (h ++ [some (.cells [iA v, iA p, iA m, iA k]), some (.cells (l.cells.map .p))]) (hh.app (by simp)) l hb
 obtain ⟨c, vs⟩ := l
 simp only at hb hr
 simp only [Lv.av, Lv.cells, List.map] at hval ⊢
 obtain ⟨r, hrr⟩ : ∃ r, r = levelZ p k ⟨c, vs⟩ := ⟨_, rfl⟩
 rw [← hrr]
 rw [levelZ_eq] at hrr
 refine ACalls.of_run Tryz.func189 rfl ?_
 simp only [Tryz.ntmps189, List.length_cons, List.length_nil]
 refine nv ?_
 refine Run.reg fun K hK => ?_
 simp
 refine hK _ _ _ (nv ?_); clear hK
 refine Run.reg fun K hK => ?_
 simp
 refine hK _ _ _ ?_; clear hK
 refine Run.call rfl (by first | rfl | simp) (by simp) rfl (hval) ?_ ?_
 rotate_left
 ·rintro v h' ⟨hv, _⟩; cases hv
 rintro v h' ⟨hv, rfl⟩
 simp only [AOut.ret.injEq] at hv
 subst hv
 cases hvb : validB ⟨c, vs⟩ with
 | false =>
  rw [hvb] at hrr
  refine Run.ops fun K hK => ?_
  simp
  refine hK _ _ _ (nv ?_); clear hK
  refine ct (by simp) (nv ?_)
  repeat (first | refine nw ?_ | (refine Run.reg fun K hK => ?_; simp; (try (simp (disch := omega) only [wrap_id])); refine hK _ _ _ ?_; clear hK) | refine ct rfl ?_ | refine cf rfl ?_ | refine Run.exit rfl ?_ | refine Run.ret ?_)
  exact Fin.ret' (h0 := h) (by simp) rfl hh rfl rfl rfl (Weak.refl _) rfl ⟨by rw [hrr]; rfl, rfl⟩
 | true =>
  rw [hvb] at hrr
  refine Run.ops fun K hK => ?_
  simp
  refine hK _ _ _ (nv ?_); clear hK
  refine cf (by simp) (nv ?_)
  refine Run.reg fun K hK => ?_
  simp
  refine hK _ _ _ (nv ?_); clear hK
  refine Run.loopS [2, 3, 13, 14] (fun j : Nat => j ≤ vs.length ∧ allTo (outP p vs) j = true) (fun j => vs.length - j) (fun j => [(15, iA j)]) (fun _ => _) 0 (by simp [allTo]) ?_ rfl ?_
  ·simp
   repeat' first | exact wn | apply wc | exact wj _ | exact wr _ | exact wz _ | exact wo _ _ _ | exact wi (by omega)
  rintro j ⟨hj, hall⟩ IH
  simp
  refine nv ?_
  refine Run.reg fun K hK => ?_
  simp
  refine hK _ _ _ (nv ?_); clear hK
  by_cases hjl : j < vs.length
  ·have hg : vs[j]? = some vs[j] := List.getElem?_eq_getElem hjl
   obtain ⟨⟨x, y⟩, hxy⟩ : ∃ p, vs[j] = p := ⟨_, rfl⟩
   rw [hxy] at hg
   refine ct (by simp [hjl]) (nv ?_)
   refine Run.reg fun K hK => ?_
   simp [hg]
   refine hK _ _ _ (nv ?_); clear hK
   refine Run.reg fun K hK => ?_
   simp
   refine hK _ _ _ (nv ?_); clear hK
   by_cases h1 : p ≤ x
   ·have hx0 : 0 ≤ x := by omega
    refine ct (by simp [h1]) (nv ?_)
    repeat (first | refine nw ?_ | (refine Run.reg fun K hK => ?_; simp; (try (simp (disch := omega) only [wrap_id])); refine hK _ _ _ ?_; clear hK) | refine ct rfl ?_ | refine cf rfl ?_ | refine Run.exit rfl ?_ | refine Run.ret ?_)
    refine Fin.ret' (h0 := h) (by simp) rfl hh rfl rfl rfl (Weak.refl _) rfl ⟨?_, rfl⟩
    rw [hrr, allTo_false (p := outP p vs) hjl (by simp only [outP, hg]; rw [decide_eq_true h1, decide_eq_true hx0]; rfl)]
    rfl
   ·skip
    refine cf (by simp [h1]) (nv ?_)
    refine Run.reg fun K hK => ?_
    simp
    try (simp (disch := omega) only [wrap_id])
    refine hK _ _ _ (nv ?_); clear hK
    refine Run.keep [2, 3, 13, 14, 15] ?_
    simp
    refine Run.cutAt 2 hh rfl (by omega) (by simp) (by simp) (by simp) rfl ?_
    refine IH (j + 1) _ _ ⟨by omega, ?_⟩ (by omega) ?_ ?_
    ·rw [allTo_succ, hall]; simp only [outP, hg]; rw [decide_eq_false h1]; simp
    ·simp
     repeat' first | exact wn | apply wc | exact wj _ | exact wr _ | exact wz _ | exact wo _ _ _ | exact wi (by omega)
    ·simp
  ·have hje : j = vs.length := by omega
   subst hje
   rw [hall] at hrr
   refine cf (by simp) ?_
   refine Run.exit rfl ?_
   refine nv ?_
   refine Run.reg fun K hK => ?_
   simp
   refine hK _ _ _ (nv ?_); clear hK
   refine Run.loopS [2, 3, 26, 27] (fun j : Nat => j ≤ vs.length ∧ allTo (outL k vs) j = true) (fun j => vs.length - j) (fun j => [(28, iA j)]) (fun _ => _) 0 (by simp [allTo]) ?_ rfl ?_
   ·simp
    repeat' first | exact wn | apply wc | exact wj _ | exact wr _ | exact wz _ | exact wo _ _ _ | exact wi (by omega)
   rintro i ⟨hi, hall2⟩ IH2
   simp
   refine nv ?_
   refine Run.reg fun K hK => ?_
   simp
   refine hK _ _ _ (nv ?_); clear hK
   by_cases hil : i < vs.length
   ·have hg : vs[i]? = some vs[i] := List.getElem?_eq_getElem hil
    have hr2 := hr _ (List.getElem_mem hil)
    obtain ⟨⟨x, y⟩, hxy⟩ : ∃ p, vs[i] = p := ⟨_, rfl⟩
    rw [hxy] at hg hr2
    simp only at hr2
    refine ct (by simp [hil]) (nv ?_)
    refine Run.reg fun K hK => ?_
    simp [hg]
    refine hK _ _ _ (nv ?_); clear hK
    refine Run.regJ [2, 3, 26, 27, 28] 42 (decide (x < 0) && decide (k ≤ -1 - x)) (fun K hK => ?_) ?_
    ·by_cases hx : x < 0
     ·have hw : IntKind.i64.wrap (-1 - x) = -1 - x := wrap_id (by omega) (by omega)
      simp [hx, hw]
      repeat' (first | apply And.intro | intro _)
      all_goals
       refine hK _ ?_
       simp
       repeat' first | exact wn | apply wc
       all_goals first | exact Weak.junk _ | (refine Weak.bool ?_; clear hK; rw [Bool.eq_iff_iff]; simp [hx]; done) | (refine Weak.bool ?_; clear hK; rw [Bool.eq_iff_iff]; simp [hx, hw]; omega) | (refine Weak.bool ?_; clear hK; simp_all; done) | (refine Weak.bool ?_; clear hK; simp [*]; done) | (refine Weak.bool ?_; clear hK; rw [Bool.eq_iff_iff]; simp [*]; omega) | exact Weak.refl _
     ·simp [hx]
      repeat' (first | apply And.intro | intro _)
      all_goals
       refine hK _ ?_
       simp
       repeat' first | exact wn | apply wc
       all_goals first | exact Weak.junk _ | (refine Weak.bool ?_; clear hK; rw [Bool.eq_iff_iff]; simp [hx]; done) | (refine Weak.bool ?_; clear hK; rw [Bool.eq_iff_iff]; simp [hx]; omega) | (refine Weak.bool ?_; clear hK; simp_all; done) | (refine Weak.bool ?_; clear hK; simp [*]; done) | (refine Weak.bool ?_; clear hK; rw [Bool.eq_iff_iff]; simp [*]; omega) | exact Weak.refl _
    simp only [setMany, keepT, keepT.go, List.contains_cons, List.set_cons_succ, List.set_cons_zero]
    simp
    refine Run.condB rfl (fun h1 => ?_) (fun h1 => ?_)
    ·repeat (first | refine nw ?_ | (refine Run.reg fun K hK => ?_; simp; (try (simp (disch := omega) only [wrap_id])); refine hK _ _ _ ?_; clear hK) | refine ct rfl ?_ | refine cf rfl ?_ | refine Run.exit rfl ?_ | refine Run.ret ?_)
     refine Fin.ret' (h0 := h) (by simp) rfl hh rfl rfl rfl (Weak.refl _) rfl ⟨?_, rfl⟩
     rw [hrr, allTo_false (p := outL k vs) hil (by simp only [outL, hg, h1]; rfl)]
     rfl
    ·refine nv ?_
     refine Run.reg fun K hK => ?_
     simp
     try (simp (disch := omega) only [wrap_id])
     refine hK _ _ _ (nv ?_); clear hK
     refine Run.cutAt 2 hh rfl (by omega) (by simp) (by simp) (by simp) rfl ?_
     refine IH2 (i + 1) _ _ ⟨by omega, ?_⟩ (by omega) ?_ ?_
     ·rw [allTo_succ, hall2]; simp only [outL, hg, h1]; rfl
     ·simp
      repeat' first | exact wn | apply wc | exact wj _ | exact wr _ | exact wz _ | exact wo _ _ _ | exact wi (by omega)
     ·simp
   ·have hie : i = vs.length := by omega
    subst hie
    rw [hall2] at hrr
    refine cf (by simp) ?_
    refine Run.exit rfl ?_
    refine nv ?_
    repeat (first | refine nw ?_ | (refine Run.reg fun K hK => ?_; simp; (try (simp (disch := omega) only [wrap_id])); refine hK _ _ _ ?_; clear hK) | refine ct rfl ?_ | refine cf rfl ?_ | refine Run.exit rfl ?_ | refine Run.ret ?_)
    exact Fin.ret' (h0 := h) (by simp) rfl hh rfl rfl rfl (Weak.refl _) rfl ⟨by rw [hrr]; rfl, rfl⟩

end Go.Proofs.YtcfcolkbeelegaaGreat
