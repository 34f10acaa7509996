import Derived.Test.YtcfcolkbeelegaaGreatOX0
import Derived.Test.YtcfcolkbeelegaaGreatOFS
import Derived.Test.YtcfcolkbeelegaaGreatOM1
import Derived.Test.YtcfcolkbeelegaaGreatOM3
set_option maxRecDepth 8000
set_option maxHeartbeats 8000000

namespace Go.Proofs.YtcfcolkbeelegaaGreat

open Go Go.AI
def lvZ (k : Int) : Int := if k = 2 then 1 else if k = 3 then -1 else 0
theorem usesL_row (k : Int) (h0 : 0 ≤ k) (h1 : k < 13) : (usesL.drop (k.toNat * 5)).take 5 = [bA (k == 0 || k == 12), bA (k == 3), iA (lvZ k), iA (kidsZ k), iA (belowK k)] := by
 have : k = 0 ∨ k = 1 ∨ k = 2 ∨ k = 3 ∨ k = 4 ∨ k = 5 ∨ k = 6 ∨ k = 7 ∨ k = 8 ∨ k = 9 ∨ k = 10 ∨ k = 11 ∨ k = 12 := by omega
 rcases this with rfl | rfl | rfl | rfl | rfl | rfl | rfl | rfl | rfl | rfl | rfl | rfl | rfl <;> rfl
theorem fit_form (k i : Int) (n : List UInt8) (a b : Int) (h0 : ¬ k < 0) (h1 : ¬ 13 ≤ k) : formN k i n a b = (((k == 0 || k == 12) || i == 0) && ((k == 3 || decide (n = [])) && ((decide (lvZ k < 0) || a == lvZ k) && b == kidsZ k))) := by
 unfold formN lvZ
 by_cases k2 : k = 2
 ·subst k2; rw [Bool.eq_iff_iff]; simp; constructor <;> (intro h; simp_all)
 ·by_cases k3 : k = 3
  ·subst k3; rw [Bool.eq_iff_iff]; simp; constructor <;> (intro h; simp_all)
  ·rw [Bool.eq_iff_iff]; simp [k2, k3, h0, h1]
   constructor
   ·rintro ⟨⟨⟨q1, q2⟩, q3⟩, q4⟩
    refine ⟨?_, q3, q4, q1⟩
    rcases q2 with q | q
    ·exact .inr q
    ·left; omega
   ·rintro ⟨q1, q2, q3, q4⟩
    refine ⟨⟨⟨q4, ?_⟩, q2⟩, q3⟩
    omega
theorem fits_any (h : Heap) (hh : WF h) (t : Tm) : ACalls Tryz.prog 187 [t.av] h fun o h' => o = .ret (bA (formB t)) ∧ h' = h := by
 obtain ⟨k, i, n, ls, ks⟩ := t
 refine ACalls.of_run Tryz.func187 rfl ?_
 simp only [Tryz.ntmps187, List.length_cons, List.length_nil, Tm.av, cells_mk, List.map]
 refine nv ?_
 refine Run.reg fun K hK => ?_
 simp
 refine hK _ _ _ (nv ?_); clear hK
 refine Run.regJ [1] 11 (decide (k < 0) || decide (13 ≤ k)) (fun K hK => ?_) ?_
 ·simp
  repeat' (first | apply And.intro | intro _)
  all_goals
   refine hK _ ?_
   simp
   repeat' first | exact wn | apply wc
   all_goals first | exact Weak.junk _ | (refine Weak.bool ?_; clear hK; rw [Bool.eq_iff_iff]; simp; done) | (refine Weak.bool ?_; clear hK; rw [Bool.eq_iff_iff]; simp; omega) | (refine Weak.bool ?_; clear hK; simp_all; done) | (refine Weak.bool ?_; clear hK; simp [*]; done) | (refine Weak.bool ?_; clear hK; rw [Bool.eq_iff_iff]; simp [*]; omega) | exact Weak.refl _
 simp only [setMany, keepT, keepT.go, List.contains_cons, List.set_cons_succ, List.set_cons_zero]
 simp
 refine Run.condB rfl (fun h1 => ?_) (fun h1 => ?_)
 ·repeat (first | refine nw ?_ | (refine Run.reg fun K hK => ?_; simp; (try (simp (disch := omega) only [wrap_id])); refine hK _ _ _ ?_; clear hK) | refine ct rfl ?_ | refine cf rfl ?_ | refine Run.exit rfl ?_ | refine Run.ret ?_)
  exact Fin.ret' (h0 := h) (by simp) rfl hh rfl rfl rfl (Weak.refl _) rfl ⟨by simp [formB, formN, h1], rfl⟩
 have h0 : ¬ k < 0 := by simp at h1; omega
 have h13 : ¬ 13 ≤ k := by simp at h1; omega
 have hrow := usesL_row k (by omega) (by omega)
 have hff := fit_form k i n ls.length ks.length h0 h13
 refine nv ?_
 refine PC.Run.drawP (pc := [0]) [0, 0, 0, 0, 0, 1] [0, 0, 0, 0, 0, 1] [0, 0, 2, 7, 0, 31] [4, 0, 1, 2, 3, 5] (by kernel_rfl) (by kernel_rfl) ?_
 refine PC.DR.go fun K hK => ?_
 simp
 refine hK _ _ _ _ ?_; clear hK
 refine PC.DR.pcall (args := []) rfl rfl rfl (by simp) rfl rfl (fun g hg => (uses_any) g ?_) ?_
 ·simp at hg; (first | (rcases hg with rfl | rfl | rfl | rfl) | (rcases hg with rfl | rfl | rfl) | (rcases hg with rfl | rfl) | subst hg) <;> exact hh.app (by simp)
 refine PC.DR.go fun K hK => ?_
 simp [h0, hrow, show k < 13 by omega]
 refine hK _ _ _ _ ?_; clear hK
 change Run _ _ _ _ _ _ _ _
 refine nv ?_
 rw [show formB (.mk k i n ls ks) = _ from hff]
 clear hff hrow h1 h0 h13
 generalize (k == 0 || k == 12) = ui
 generalize (k == 3) = un
 generalize lvZ k = lv
 generalize kidsZ k = kd
 obtain ⟨ne, hne⟩ : ∃ ne, ne = decide (n = []) := ⟨_, rfl⟩
 have hne2 : n.isEmpty = ne := by rw [hne, Bool.eq_iff_iff]; simp
 rw [← hne]
 refine Run.regPreJ 8 [1, 3] 23 (ui || i == 0) (fun K hK => ?_) ?_
 ·simp only [List.take_succ_cons, List.take_zero]
  simp
  repeat' (first | apply And.intro | intro _)
  all_goals
   refine hK _ ?_
   simp
   repeat' first | exact wn | apply wc
   all_goals first | exact Weak.junk _ | (refine Weak.bool ?_; clear hK; rw [Bool.eq_iff_iff]; simp; done) | (refine Weak.bool ?_; clear hK; rw [Bool.eq_iff_iff]; simp; omega) | (refine Weak.bool ?_; clear hK; simp_all; done) | (refine Weak.bool ?_; clear hK; simp [*]; done) | (refine Weak.bool ?_; clear hK; rw [Bool.eq_iff_iff]; simp [*]; omega) | exact Weak.refl _
 simp only [setMany, keepT, keepT.go, List.contains_cons, List.set_cons_succ, List.set_cons_zero, List.drop_succ_cons, List.drop_zero]
 simp
 generalize (ui || i == 0) = a1
 refine Run.opsPreJ 9 [1, 3] 32 (a1 && (un || ne)) (fun K hK => ?_) ?_
 ·simp only [List.take_succ_cons, List.take_zero]
  simp [hne2]
  repeat' (first | apply And.intro | intro _)
  all_goals
   refine hK _ ?_
   simp
   repeat' first | exact wn | apply wc
   all_goals first | exact Weak.junk _ | (refine Weak.bool ?_; clear hK; rw [Bool.eq_iff_iff]; simp; done) | (refine Weak.bool ?_; clear hK; rw [Bool.eq_iff_iff]; simp; omega) | (refine Weak.bool ?_; clear hK; simp_all; done) | (refine Weak.bool ?_; clear hK; simp [*]; done) | (refine Weak.bool ?_; clear hK; rw [Bool.eq_iff_iff]; simp [*]; omega) | exact Weak.refl _
 simp only [setMany, keepT, keepT.go, List.contains_cons, List.set_cons_succ, List.set_cons_zero, List.drop_succ_cons, List.drop_zero]
 simp
 rw [← Bool.and_assoc]
 generalize (a1 && (un || ne)) = a2
 refine Run.opsPreJ 13 [1, 3] 45 (a2 && (decide (lv < 0) || (ls.length : Int) == lv)) (fun K hK => ?_) ?_
 ·simp only [List.take_succ_cons, List.take_zero]
  simp
  repeat' (first | apply And.intro | intro _)
  all_goals
   refine hK _ ?_
   simp
   repeat' first | exact wn | apply wc
   all_goals first | exact Weak.junk _ | (refine Weak.bool ?_; clear hK; rw [Bool.eq_iff_iff]; simp; done) | (refine Weak.bool ?_; clear hK; rw [Bool.eq_iff_iff]; simp; omega) | (refine Weak.bool ?_; clear hK; simp_all; done) | (refine Weak.bool ?_; clear hK; simp [*]; done) | (refine Weak.bool ?_; clear hK; rw [Bool.eq_iff_iff]; simp [*]; omega) | exact Weak.refl _
 simp only [setMany, keepT, keepT.go, List.contains_cons, List.set_cons_succ, List.set_cons_zero, List.drop_succ_cons, List.drop_zero]
 simp
 rw [← Bool.and_assoc]
 generalize (a2 && (decide (lv < 0) || (ls.length : Int) == lv)) = a3
 refine Run.opsJ [] 2 (a3 && (ks.length : Int) == kd) (fun K hK => ?_) ?_
 ·simp
  repeat' (first | apply And.intro | intro _)
  all_goals
   refine hK _ ?_
   simp
   repeat' first | exact wn | apply wc
   all_goals first | exact Weak.junk _ | (refine Weak.bool ?_; clear hK; rw [Bool.eq_iff_iff]; simp; done) | (refine Weak.bool ?_; clear hK; rw [Bool.eq_iff_iff]; simp; omega) | (refine Weak.bool ?_; clear hK; simp_all; done) | (refine Weak.bool ?_; clear hK; simp [*]; done) | (refine Weak.bool ?_; clear hK; rw [Bool.eq_iff_iff]; simp [*]; omega) | exact Weak.refl _
 simp only [setMany, keepT, keepT.go, List.set_cons_succ, List.set_cons_zero]
 simp
 refine Run.ret ?_
 exact Fin.ret' (h0 := h) (by simp) rfl hh rfl (by simp; rfl) rfl (Weak.refl _) (by simp) ⟨rfl, rfl⟩

end Go.Proofs.YtcfcolkbeelegaaGreat

namespace Go.AI

open Go
theorem Run.joinC {P : Program} {rd : Option Nat} {nb : Nat} {k : List It} {T : List AV} {h : Heap} {D : List AD} {Q : AX → List AV → Heap → List AD → Prop} {c : Code} (C : Prop) (keep : List Nat) (sets : List (Nat × AV)) (r : (∀ T', WeakL T' (setMany (keepT keep T) sets) → C → Run P rd nb k T' h D Q) → Run P rd nb (.code c :: k) T h D Q)
  (next : C → Run P rd nb k (setMany (keepT keep T) sets) h D Q) : Run P rd nb (.code c :: k) T h D Q := r fun _ hw hc => Run.weak hw (next hc)

end Go.AI

namespace Go.Proofs.YtcfcolkbeelegaaGreat

open Go Go.AI
theorem form_few {k i : Int} {n : List UInt8} {ls : List Lv} {ks : List Tm} (h : formB (.mk k i n ls ks) = true) (hk : k ≠ 3) : ls.length ≤ 1 := by
 unfold formB formN at h
 simp only [Bool.and_eq_true] at h
 have h4 := h.2
 split at h4
 ·simp at h4; omega
 ·simp [hk] at h4; simp [h4]
theorem tnode_any (h : Heap) (hh : WF h) (k i : Int) (n : List UInt8) (ls : List Lv) (ks : List Tm) (v p m l d : Int) (h0 : 0 ≤ p) (hfit : (Tm.mk k i n ls ks).fit) (hn : n.length ≤ 1099511627776) (hd0 : 0 ≤ d) (hd1 : d ≤ 1099511627776) :
  ACalls Tryz.prog 145 [.agg [iA v, iA p, iA m, iA l], (Tm.mk k i n ls ks).av, iA d] h fun o h' => o = .ret (iA (nodeZ v p m l d (.mk k i n ls ks))) ∧ h' = h := by
 have hform := fits_any (h ++ [some (.cells [iA v, iA p, iA m, iA l]), some (.cells ((Tm.mk k i n ls ks).cells.map .p))]) (hh.app (by simp)) (.mk k i n ls ks)
 have hname := tname_any (h ++ [some (.cells [iA v, iA p, iA m, iA l]), some (.cells ((Tm.mk k i n ls ks).cells.map .p))]) (hh.app (by simp)) n hn
 obtain ⟨r, hr⟩ : ∃ r, r = nodeZ v p m l d (.mk k i n ls ks) := ⟨_, rfl⟩
 rw [← hr]
 simp only [nodeZ] at hr
 have hfw : k ≠ 3 → formB (.mk k i n ls ks) = true → ls.length ≤ 1 := fun h1 h2 => form_few h2 h1
 generalize formB (.mk k i n ls ks) = fb at hform hr hfw
 simp only [Tm.fit] at hfit
 obtain ⟨hf1, hf2, hf3, hf4, -⟩ := hfit
 simp only [Tm.av, cells_mk, List.map] at hform hname ⊢
 refine ACalls.of_run Tryz.func145 rfl ?_
 simp only [Tryz.ntmps145, List.length_cons, List.length_nil]
 refine nv ?_
 refine Run.reg fun K hK => ?_
 simp
 refine hK _ _ _ (nv ?_); clear hK
 refine Run.reg fun K hK => ?_
 simp
 refine hK _ _ _ ?_; clear hK
 refine Run.call rfl (by first | rfl | simp) (by simp) rfl (hform) ?_ ?_
 rotate_left
 ·rintro v h' ⟨hv, _⟩; cases hv
 rintro v h' ⟨hv, rfl⟩
 simp only [AOut.ret.injEq] at hv
 subst hv
 cases fb with
 | false =>
  refine Run.ops fun K hK => ?_
  simp
  refine hK _ _ _ (nv ?_); clear hK
  refine ct (by simp) (nv ?_)
  repeat (first | refine nw ?_ | (refine Run.reg fun K hK => ?_; simp; (try (simp (disch := omega) only [wrap_id])); refine hK _ _ _ ?_; clear hK) | refine ct rfl ?_ | refine cf rfl ?_ | refine Run.exit rfl ?_ | refine Run.ret ?_)
  exact Fin.ret' (h0 := h) (by simp) rfl hh rfl rfl rfl (Weak.refl _) rfl ⟨by rw [hr]; rfl, rfl⟩
 | true =>
 rw [if_neg (by simp)] at hr
 unfold headZ at hr
 rw [← nameP_eq] at hr
 have hfw := fun hk => hfw hk rfl
 refine Run.ops fun K hK => ?_
 simp
 refine hK _ _ _ (nv ?_); clear hK
 refine cf (by simp) (nv ?_)
 refine Run.reg fun K hK => ?_
 simp
 refine hK _ _ _ (nv ?_); clear hK
 refine Run.joinC (¬ (k = 3 ∧ nameP n = false) ∧ ¬ 8 < ls.length) [2, 3, 4] [] (fun hJ => ?_) fun hC => ?_
 ·by_cases hk3 : k = 3
  ·subst hk3
   refine ct (by simp) (nv ?_)
   refine Run.reg fun K hK => ?_
   simp
   refine hK _ _ _ ?_; clear hK
   refine Run.call rfl (by first | rfl | simp) (by simp) rfl (hname) ?_ ?_
   rotate_left
   ·rintro v h' ⟨hv, _⟩; cases hv
   rintro v h' ⟨hv, rfl⟩
   simp only [AOut.ret.injEq] at hv
   subst hv
   cases hnm : nameP n with
   | false =>
    refine Run.ops fun K hK => ?_
    simp
    refine hK _ _ _ (nv ?_); clear hK
    refine ct (by simp) (nv ?_)
    repeat (first | refine nw ?_ | (refine Run.reg fun K hK => ?_; simp; (try (simp (disch := omega) only [wrap_id])); refine hK _ _ _ ?_; clear hK) | refine ct rfl ?_ | refine cf rfl ?_ | refine Run.exit rfl ?_ | refine Run.ret ?_)
    rw [if_pos ⟨rfl, hnm⟩] at hr
    exact Fin.ret' (h0 := h) (by simp) rfl hh rfl rfl rfl (Weak.refl _) rfl ⟨by rw [hr]; rfl, rfl⟩
   | true =>
    refine Run.ops fun K hK => ?_
    simp
    refine hK _ _ _ (nv ?_); clear hK
    refine cf (by simp) (nv ?_)
    refine Run.reg fun K hK => ?_
    simp
    refine hK _ _ _ (nv ?_); clear hK
    by_cases h8 : 8 < ls.length
    ·have h8' : 8 < (ls.length : Int) := by omega
     refine ct (by simp [h8']) (nv ?_)
     repeat (first | refine nw ?_ | (refine Run.reg fun K hK => ?_; simp; (try (simp (disch := omega) only [wrap_id])); refine hK _ _ _ ?_; clear hK) | refine ct rfl ?_ | refine cf rfl ?_ | refine Run.exit rfl ?_ | refine Run.ret ?_)
     rw [if_neg (by simp [hnm]), if_pos h8] at hr
     exact Fin.ret' (h0 := h) (by simp) rfl hh rfl rfl rfl (Weak.refl _) rfl ⟨by rw [hr]; rfl, rfl⟩
    ·have h8' : ¬ 8 < (ls.length : Int) := by omega
     refine cf (by simp [h8']) ?_
     repeat (first | refine Run.skip ?_ | refine Run.opsNil ?_ | refine Run.inBlock ?_)
     refine hJ _ ?_ ⟨by simp [hnm], h8⟩
     simp
     repeat' first | exact wn | apply wc | exact wj _ | exact wr _ | exact wz _ | exact wo _ _ _ | exact wi (by omega)
  ·have hk4 : (k == 3) = false := by simpa using hk3
   refine cf (by simp [hk4]) ?_
   repeat (first | refine Run.skip ?_ | refine Run.opsNil ?_ | refine Run.inBlock ?_)
   refine hJ _ ?_ ⟨by simp [hk3], by have := hfw hk3; omega⟩
   simp
   repeat' first | exact wn | apply wc | exact wj _ | exact wr _ | exact wz _ | exact wo _ _ _ | exact wi (by omega)
 simp only [setMany, keepT, keepT.go, List.contains_cons]
 simp
 rw [if_neg hC.1, if_neg hC.2] at hr
 refine nv ?_
 refine Run.reg fun K hK => ?_
 simp
 refine hK _ _ _ (nv ?_); clear hK
 refine Run.loopS [2, 3, 4, 25, 26] (fun j : Nat => j ≤ ls.length ∧ firstE ((ls.map (levelZ p l)).take j) = 0) (fun j => ls.length - j) (fun j => [(27, iA j)]) (fun _ => _) 0 (by simp [firstE]) ?_ rfl ?_
 ·simp
  repeat' first | exact wn | apply wc | exact wj _ | exact wr _ | exact wz _ | exact wo _ _ _ | exact wi (by omega)
 rintro j ⟨hj, hall⟩ IH
 simp
 refine nv ?_
 refine Run.reg fun K hK => ?_
 simp
 refine hK _ _ _ (nv ?_); clear hK
 by_cases hjl : j < ls.length
 ·have hg : ls[j]? = some ls[j] := List.getElem?_eq_getElem hjl
  have hl := hf2 _ (List.getElem_mem hjl)
  generalize ls[j] = u at hg hl
  obtain ⟨uc, uvs⟩ := u
  obtain ⟨u, hu⟩ : ∃ u : Lv, u = ⟨uc, uvs⟩ := ⟨_, rfl⟩
  have hcall := fun g hg => tlevel_any g hg ⟨uc, uvs⟩ v p m l h0 hl.1 hl.2
  rw [← hu] at hcall
  obtain ⟨e, he⟩ : ∃ e, levelZ p l u = e := ⟨_, rfl⟩
  rw [he] at hcall
  have htk : (ls.map (levelZ p l)).take (j + 1) = (ls.map (levelZ p l)).take j ++ [e] := by
   rw [List.take_add_one, List.getElem?_map, hg, ← he, hu]; rfl
  refine ct (by simp [hjl]) (nv ?_)
  refine Run.reg fun K hK => ?_
  simp [hg, Lv.cells]
  refine hK _ _ _ (nv ?_); clear hK
  rw [hu] at hcall
  simp only [Lv.av, Lv.cells, List.map] at hcall
  refine Run.reg fun K hK => ?_
  simp
  refine hK _ _ _ ?_; clear hK
  refine rc rfl (by first | rfl | simp) (by simp) rfl (hcall _ (hh.app (by simp))) ?_
  refine Run.ops fun K hK => ?_
  simp
  refine hK _ _ _ (nv ?_); clear hK
  refine Run.reg fun K hK => ?_
  simp
  refine hK _ _ _ (nv ?_); clear hK
  by_cases h4 : e = 0
  ·skip
   refine cf (by simp [h4]) (nv ?_)
   refine Run.reg fun K hK => ?_
   simp
   try (simp (disch := omega) only [wrap_id])
   refine hK _ _ _ (nv ?_); clear hK
   refine Run.keep [2, 3, 4, 25, 26, 27] ?_
   simp
   refine Run.cutAt 2 hh rfl (by omega) (by simp) (by simp) (by simp) rfl ?_
   refine IH (j + 1) _ _ ⟨by omega, by rw [htk, firstE_snoc, hall, if_pos rfl, h4]⟩ (by omega) ?_ ?_
   ·simp
    repeat' first | exact wn | apply wc | exact wj _ | exact wr _ | exact wz _ | exact wo _ _ _ | exact wi (by omega)
   ·simp
  ·skip
   refine ct (by simp [h4]) (nv ?_)
   repeat (first | refine nw ?_ | (refine Run.reg fun K hK => ?_; simp; (try (simp (disch := omega) only [wrap_id])); refine hK _ _ _ ?_; clear hK) | refine ct rfl ?_ | refine cf rfl ?_ | refine Run.exit rfl ?_ | refine Run.ret ?_)
   have hst : firstE (ls.map (levelZ p l)) = e := by
    have e1 : firstE ((ls.map (levelZ p l)).take (j + 1)) = e := by rw [htk, firstE_snoc, hall, if_pos rfl]
    rw [firstE_stop (j := j + 1) (by rw [e1]; exact h4), e1]
   rw [if_pos (by rw [hst]; exact h4), hst] at hr
   exact Fin.ret' (h0 := h) (by simp) rfl hh rfl rfl rfl (Weak.refl _) rfl ⟨by rw [hr]; simp, rfl⟩
 have hje : j = ls.length := by omega
 subst hje
 rw [List.take_of_length_le (by simp)] at hall
 rw [if_neg (by simp [hall])] at hr
 refine cf (by simp) ?_
 refine Run.exit rfl ?_
 refine nv ?_
 refine Run.regJ [2, 3, 4] 38 (k == 0 && (decide (i < 0) || decide (v ≤ i - d))) (fun K hK => ?_) ?_
 ·by_cases hi : i < 0
  ·simp [hi]
   repeat' (first | apply And.intro | intro _)
   all_goals
    refine hK _ ?_
    simp
    repeat' first | exact wn | apply wc
    all_goals first | exact Weak.junk _ | (refine Weak.bool ?_; clear hK; rw [Bool.eq_iff_iff]; simp [hi]; done) | (refine Weak.bool ?_; clear hK; rw [Bool.eq_iff_iff]; simp [hi]; omega) | (refine Weak.bool ?_; clear hK; simp_all; done) | (refine Weak.bool ?_; clear hK; simp [*]; done) | (refine Weak.bool ?_; clear hK; rw [Bool.eq_iff_iff]; simp [*]; omega) | exact Weak.refl _
  ·have hw : IntKind.i64.wrap (i - d) = i - d := wrap_id (by omega) (by omega)
   simp [hi, hw]
   repeat' (first | apply And.intro | intro _)
   all_goals
    refine hK _ ?_
    simp
    repeat' first | exact wn | apply wc
    all_goals first | exact Weak.junk _ | (refine Weak.bool ?_; clear hK; rw [Bool.eq_iff_iff]; simp [hi]; done) | (refine Weak.bool ?_; clear hK; rw [Bool.eq_iff_iff]; simp [hi]; omega) | (refine Weak.bool ?_; clear hK; simp_all; done) | (refine Weak.bool ?_; clear hK; simp [*]; done) | (refine Weak.bool ?_; clear hK; rw [Bool.eq_iff_iff]; simp [*]; omega) | exact Weak.refl _
 simp only [setMany, keepT, keepT.go, List.contains_cons, List.set_cons_succ, List.set_cons_zero]
 simp
 refine Run.condB rfl (fun h4 => ?_) (fun h4 => ?_)
 ·repeat (first | refine nw ?_ | (refine Run.reg fun K hK => ?_; simp; (try (simp (disch := omega) only [wrap_id])); refine hK _ _ _ ?_; clear hK) | refine ct rfl ?_ | refine cf rfl ?_ | refine Run.exit rfl ?_ | refine Run.ret ?_)
  rw [if_pos (by simpa using h4)] at hr
  exact Fin.ret' (h0 := h) (by simp) rfl hh rfl rfl rfl (Weak.refl _) rfl ⟨by rw [hr]; rfl, rfl⟩
 rw [if_neg (by simpa using h4)] at hr
 refine nv ?_
 refine Run.regJ [2, 3, 4] 56 (k == 12 && (decide (i < 0) || decide (m ≤ i))) (fun K hK => ?_) ?_
 ·simp
  repeat' (first | apply And.intro | intro _)
  all_goals
   refine hK _ ?_
   simp
   repeat' first | exact wn | apply wc
   all_goals first | exact Weak.junk _ | (refine Weak.bool ?_; clear hK; rw [Bool.eq_iff_iff]; simp; done) | (refine Weak.bool ?_; clear hK; rw [Bool.eq_iff_iff]; simp; omega) | (refine Weak.bool ?_; clear hK; simp_all; done) | (refine Weak.bool ?_; clear hK; simp [*]; done) | (refine Weak.bool ?_; clear hK; rw [Bool.eq_iff_iff]; simp [*]; omega) | exact Weak.refl _
 simp only [setMany, keepT, keepT.go, List.contains_cons, List.set_cons_succ, List.set_cons_zero]
 simp
 refine Run.condB rfl (fun h5 => ?_) (fun h5 => ?_)
 ·repeat (first | refine nw ?_ | (refine Run.reg fun K hK => ?_; simp; (try (simp (disch := omega) only [wrap_id])); refine hK _ _ _ ?_; clear hK) | refine ct rfl ?_ | refine cf rfl ?_ | refine Run.exit rfl ?_ | refine Run.ret ?_)
  rw [if_pos (by simpa using h5)] at hr
  exact Fin.ret' (h0 := h) (by simp) rfl hh rfl rfl rfl (Weak.refl _) rfl ⟨by rw [hr]; rfl, rfl⟩
 rw [if_neg (by simpa using h5)] at hr
 repeat (first | refine nw ?_ | (refine Run.reg fun K hK => ?_; simp; (try (simp (disch := omega) only [wrap_id])); refine hK _ _ _ ?_; clear hK) | refine ct rfl ?_ | refine cf rfl ?_ | refine Run.exit rfl ?_ | refine Run.ret ?_)
 exact Fin.ret' (h0 := h) (by simp) rfl hh rfl rfl rfl (Weak.refl _) rfl ⟨by rw [hr]; rfl, rfl⟩

end Go.Proofs.YtcfcolkbeelegaaGreat
