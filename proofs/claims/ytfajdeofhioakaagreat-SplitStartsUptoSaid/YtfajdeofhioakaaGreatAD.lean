import Derived.Laws.Strings
import Derived.Test.YtfajdeofhioakaaGreatAC
import Derived.Test.YtfajdeofhioakaaGreatAFD
set_option maxRecDepth 8000
set_option maxHeartbeats 8000000


namespace Go.Proofs.YtfajdeofhioakaaGreat

open Go Go.AI

mutual
theorem ok_idx : ∀ (t : Tm) (m : Int), t.ok m → m + t.size ≤ 1099511627776 → t.idx
 | .mk k i n ls ks, m, h, hm => by
  simp only [Tm.ok, Tm.okN] at h
  simp only [Tm.size] at hm
  simp only [Tm.idx]
  exact ⟨fun hk => by have := h.1.1 hk; omega, ok_idxs ks m k 0 h.2 (by omega)⟩
theorem ok_idxs : ∀ (l : List Tm) (m k : Int) (idx : Nat), Tm.oks m k idx l → m + 1 + Tm.sizes l ≤ 1099511627776 → Tm.idxs l
 | [], _, _, _, _, _ => trivial
 | t :: ts, m, k, idx, h, hm => by
  simp only [Tm.oks] at h
  simp only [Tm.sizes] at hm
  have := belowZ_01' k idx
  exact ⟨ok_idx t _ h.1 (by omega), ok_idxs ts m k (idx + 1) h.2 (by omega)⟩
end
def resRefShift (by_ fr : Int) (t : Tm) : Tm × Int :=
 if fr < 0 ∨ by_ < -65536 ∨ 65536 < by_ then (zT, 2)
 else if shiftBad by_ (if 65536 < fr then 65536 else fr) 0 t = true then (zT, 24) else (shiftT by_ (if 65536 < fr then 65536 else fr) 0 t, 0)
theorem refShift_any (h : Heap) (hh : WF h) (t : Tm) (by_ fr : Int) (hb1 : -9223372036854775808 ≤ by_) (hb2 : by_ ≤ 9223372036854775807) (hsz : t.size ≤ 1048576) (hix : t.idx) :
  ACalls Tryz.prog 48 [t.av, iA by_, iA fr] h fun o h' => o = .ret (.tup [(resRefShift by_ fr t).1.av, iA (resRefShift by_ fr t).2]) ∧ h' = h := by
 have hcase : ((fr < 0) ∧ resRefShift by_ fr t = (zT, 2)) ∨ (¬ fr < 0 ∧ by_ < -65536 ∧ resRefShift by_ fr t = (zT, 2)) ∨ (¬ fr < 0 ∧ ¬ by_ < -65536 ∧ 65536 < by_ ∧ resRefShift by_ fr t = (zT, 2)) ∨
   (¬ fr < 0 ∧ ¬ by_ < -65536 ∧ ¬ 65536 < by_ ∧ resRefShift by_ fr t = if shiftBad by_ (if 65536 < fr then 65536 else fr) 0 t = true then (zT, 24) else (shiftT by_ (if 65536 < fr then 65536 else fr) 0 t, 0)) := by
  unfold resRefShift
  by_cases c1 : fr < 0
  ·simp [c1]
  ·by_cases c2 : by_ < -65536
   ·simp [c1, c2]
   ·by_cases c3 : 65536 < by_
    ·simp [c1, c2, c3]
    ·simp [c1, c2, c3]
 obtain ⟨f0, hf0⟩ : ∃ f0 : Int, f0 = if 65536 < fr then 65536 else fr := ⟨_, rfl⟩
 rw [← hf0] at hcase
 have hs := fun (hb1 : -1099511627776 ≤ by_) (hb2 : by_ ≤ 1099511627776) (h1 : 0 ≤ f0) => wshift_any by_ f0 hb1 hb2 h1 (by rw [hf0]; split <;> omega) 0 t.size t 0 0 (h ++ [some (.cells (t.cells.map .p)), some (.cells zTm), some (.cells [iA 0, iA 0])]) (h.length + 2) (Nat.le_refl _) hsz hix (by omega) (by omega) (hh.app (by simp)) (by simp)
 have hmin : ∀ x : Int, (if 65536 < x then (65536 : Int) else x) = if 65536 < x then 65536 else x := fun _ => rfl
 generalize resRefShift by_ fr t = r at hcase ⊢
 generalize hB : shiftBad by_ f0 0 t = bad at hcase hs
 obtain ⟨T, hT⟩ : ∃ T, shiftT by_ f0 0 t = T := ⟨_, rfl⟩
 rw [hT] at hcase hs
 obtain ⟨k', i', nm', ls', ks'⟩ := T
 obtain ⟨k, i, nm, ls, ks⟩ := t
 refine ACalls.of_run Tryz.func48 rfl ?_
 simp only [Tryz.ntmps48, List.length_cons, List.length_nil, Tm.av, cells_mk, List.map]
 refine nv ?_
 refine Run.reg fun K J => ?_
 simp
 try (simp (disch := omega) only [wrap_id])
 refine J _ _ _ (nv ?_); clear J
 rcases hcase with ⟨c1, rfl⟩ | ⟨c1, c2, rfl⟩ | ⟨c1, c2, c3, rfl⟩ | ⟨c1, c2, c3, rfl⟩
 ·refine nv ?_
  refine Run.reg fun K J => ?_
  simp [c1]
  try (simp (disch := omega) only [wrap_id])
  refine J _ _ _ (nv ?_); clear J
  refine ct (by simp) (nv ?_)
  refine Run.reg fun K J => ?_
  simp
  try (simp (disch := omega) only [wrap_id])
  refine J _ _ _ (nv ?_); clear J
  refine Run.ret ?_
  refine Fin.ret' (h0 := h) (xs := [.agg zTm, iA 2]) (by simp) rfl hh rfl (by simp) rfl (Weak.tup (WeakL.cons Weak.zT (WeakL.refl _))) (by simp) ⟨rfl, rfl⟩
 ·refine nv ?_
  refine Run.reg fun K J => ?_
  simp [c1, c2]
  try (simp (disch := omega) only [wrap_id])
  refine J _ _ _ (nv ?_); clear J
  refine ct (by simp) (nv ?_)
  refine Run.reg fun K J => ?_
  simp
  try (simp (disch := omega) only [wrap_id])
  refine J _ _ _ (nv ?_); clear J
  refine Run.ret ?_
  refine Fin.ret' (h0 := h) (xs := [.agg zTm, iA 2]) (by simp) rfl hh rfl (by simp) rfl (Weak.tup (WeakL.cons Weak.zT (WeakL.refl _))) (by simp) ⟨rfl, rfl⟩
 ·refine nv ?_
  refine Run.reg fun K J => ?_
  simp [c1, c2, c3]
  try (simp (disch := omega) only [wrap_id])
  refine J _ _ _ (nv ?_); clear J
  refine ct (by simp) (nv ?_)
  refine Run.reg fun K J => ?_
  simp
  try (simp (disch := omega) only [wrap_id])
  refine J _ _ _ (nv ?_); clear J
  refine Run.ret ?_
  refine Fin.ret' (h0 := h) (xs := [.agg zTm, iA 2]) (by simp) rfl hh rfl (by simp) rfl (Weak.tup (WeakL.cons Weak.zT (WeakL.refl _))) (by simp) ⟨rfl, rfl⟩
 ·refine nv ?_
  refine Run.reg fun K J => ?_
  simp [c1, c2, c3]
  try (simp (disch := omega) only [wrap_id])
  refine J _ _ _ (nv ?_); clear J
  refine cf (by simp) (nv ?_)
  refine Run.reg fun K J => ?_
  simp
  try (simp (disch := omega) only [wrap_id])
  refine J _ _ _ (nv ?_); clear J
  refine Run.reg fun K J => ?_
  simp
  try (simp (disch := omega) only [wrap_id])
  refine J _ _ _ (nv ?_); clear J
  rw [← hf0]
  have hs := hs (by omega) (by omega) (by rw [hf0]; split <;> omega)
  refine Run.call (args := [.ptr (h.length + 2) 0, (Tm.mk k i nm ls ks).av, iA by_, iA f0, iA 0]) rfl rfl (by simp) rfl hs ?_ ?_
  ·rintro v h' ⟨hv, rfl⟩
   simp only [AOut.ret.injEq] at hv
   subst hv
   refine Run.ops fun K J => ?_
   simp
   try (simp (disch := omega) only [wrap_id])
   refine J _ _ _ (nv ?_); clear J
   refine Run.reg fun K J => ?_
   simp
   try (simp (disch := omega) only [wrap_id])
   refine J _ _ _ (nv ?_); clear J
   cases bad with
   | true =>
    refine nv ?_
    refine ct (by simp [errIf, firstErr]) (nv ?_)
    refine Run.draw [0, 0, 0, 0, 0, 0, 1] [0, 0, 0, 0, 0, 0, 0] [0, 0, 2, 6, 14, 1, 63] [0, 5, 1, 2, 3, 4, 6] (by kernel_rfl) (by kernel_rfl) ?_
    refine DR.go fun K J => ?_
    simp [errIf, firstErr]
    try (simp (disch := omega) only [wrap_id])
    refine J _ _ _ _ ?_; clear J
    change Run _ _ _ _ _ _ _ _
    refine nv ?_
    refine Run.ret ?_
    refine Fin.ret' (h0 := h) (xs := [.agg zTm, iA 24]) (by simp) rfl hh rfl (by simp) rfl (Weak.tup (WeakL.cons Weak.zT (WeakL.refl _))) (by simp) ⟨rfl, rfl⟩
   | false =>
    refine nv ?_
    refine cf (by simp [errIf]) (nv ?_)
    refine Run.reg fun K J => ?_
    simp [errIf]
    try (simp (disch := omega) only [wrap_id])
    refine J _ _ _ (nv ?_); clear J
    refine Run.ret ?_
    refine Fin.ret' (h0 := h) (by simp) rfl hh rfl (by simp; rfl) rfl (Weak.refl _) (by simp) ⟨rfl, rfl⟩
  ·rintro v h' ⟨hv, _⟩; cases hv


open Go Go.AI
@[simp] theorem pair157 : pairT Tryz.prog 146 = true := by kernel_rfl
def allTo (p : Nat → Bool) (n : Nat) : Bool := (List.range n).all p
theorem allTo_succ (p : Nat → Bool) (n : Nat) : allTo p (n + 1) = (allTo p n && p n) := by simp [allTo, List.range_succ]
theorem allTo_false {p : Nat → Bool} {n j : Nat} (hj : j < n) (h : p j = false) : allTo p n = false := by
 rw [allTo, List.all_eq_false]; exact ⟨j, List.mem_range.2 hj, by simp [h]⟩
theorem allTo_at {p : Nat → Bool} {n : Nat} (h : allTo p n = true) {j : Nat} (hj : j < n) : p j = true := by
 rw [allTo, List.all_eq_true] at h; exact h j (List.mem_range.2 hj)
theorem allTo_iff {p : Nat → Bool} {n : Nat} : allTo p n = true ↔ ∀ j, j < n → p j = true :=
 ⟨fun h _ hj => allTo_at h hj, fun h => by rw [allTo, List.all_eq_true]; exact fun j hj => h j (List.mem_range.1 hj)⟩
def letterB (c : Int) : Bool := (decide (97 ≤ c) && decide (c ≤ 122)) || ((decide (65 ≤ c) && decide (c ≤ 90)) || c == 95)
theorem letter_any (h : Heap) (hh : WF h) (c : Int) : ACalls Tryz.prog 190 [.p (.prim (.int .u8 c))] h fun o h' => o = .ret (bA (letterB c)) ∧ h' = h := by
 refine ACalls.of_run Tryz.func190 rfl ?_
 simp only [Tryz.ntmps190, List.length_cons, List.length_nil]
 refine nv ?_
 refine Run.reg fun K J => ?_
 simp
 try (simp (disch := omega) only [wrap_id])
 refine J _ _ _ (nv ?_); clear J
 refine Run.regJ [] 2 (letterB c) (fun K J => ?_) ?_
 ·simp
  repeat' (first | apply And.intro | intro _)
  all_goals
   try (simp (disch := omega) only [wrap_id])
   refine J _ ?_
   simp
   repeat' first | exact wn | apply wc
   all_goals first | exact Weak.junk _ | (refine Weak.bool ?_; clear J; rw [Bool.eq_iff_iff]; simp [letterB]; done) | (refine Weak.bool ?_; clear J; rw [Bool.eq_iff_iff]; simp [letterB]; omega) | (refine Weak.bool ?_; clear J; simp_all; done) | (refine Weak.bool ?_; clear J; simp [*]; done) | (refine Weak.bool ?_; clear J; rw [Bool.eq_iff_iff]; simp [*]; omega) | exact Weak.refl _
 simp only [setMany, keepT, keepT.go, List.set_cons_succ, List.set_cons_zero]
 simp
 refine Run.ret ?_
 exact Fin.ret' (by simp) rfl hh (List.append_nil _).symm rfl rfl (Weak.refl _) rfl ⟨rfl, rfl⟩
def kidsZ (k : Int) : Int := if k = 4 ∨ k = 5 ∨ k = 6 ∨ k = 7 then 2 else if k = 8 ∨ k = 11 then 3 else if k = 9 ∨ k = 10 then 1 else 0


open Go Go.AI
theorem kids_any (h : Heap) (hh : WF h) (k : Int) : ACalls Tryz.prog 189 [iA k] h fun o h' => o = .ret (iA (kidsZ k)) ∧ h' = h := by
 have hcase : k = 4 ∨ k = 5 ∨ k = 6 ∨ k = 7 ∨ k = 8 ∨ k = 11 ∨ k = 9 ∨ k = 10 ∨ ((k == 4) = false ∧ (k == 5) = false ∧ (k == 6) = false ∧ (k == 7) = false ∧ (k == 8) = false ∧ (k == 11) = false ∧ (k == 9) = false ∧ (k == 10) = false) := by simp; omega
 refine ACalls.of_run Tryz.func189 rfl ?_
 simp only [Tryz.ntmps189, List.length_cons, List.length_nil]
 refine nv ?_
 rcases hcase with rfl | rfl | rfl | rfl | rfl | rfl | rfl | rfl | ⟨e1, e2, e3, e4, e5, e6, e7, e8⟩
 case inr.inr.inr.inr.inr.inr.inr.inr =>
  repeat (first | refine nw ?_ | (refine Run.reg fun K J => ?_; simp [e1, e2, e3, e4, e5, e6, e7, e8]; (try (simp (disch := omega) only [wrap_id])); refine J _ _ _ ?_; clear J) | refine ct rfl ?_ | refine cf rfl ?_ | refine Run.exit rfl ?_ | refine Run.ret ?_)
  simp only [beq_eq_false_iff_ne, ne_eq] at *
  exact Fin.ret' (by simp) rfl hh (List.append_nil _).symm rfl rfl (Weak.refl _) rfl ⟨by simp [kidsZ, *], rfl⟩
 all_goals
  repeat (first | refine nw ?_ | (refine Run.reg fun K J => ?_; simp; (try (simp (disch := omega) only [wrap_id])); refine J _ _ _ ?_; clear J) | refine ct rfl ?_ | refine cf rfl ?_ | refine Run.exit rfl ?_ | refine Run.ret ?_)
  exact Fin.ret' (by simp) rfl hh (List.append_nil _).symm rfl rfl (Weak.refl _) rfl ⟨by simp [kidsZ], rfl⟩
def varOk (c : Int) (vs : List (Int × Int)) (j : Nat) : Bool :=
 match vs[j]? with
 | some v => !(decide (v.1 < -65536) || decide (8 ≤ v.1) || decide (v.2 < 0) || decide (100 < v.2)) &&
   !(decide (0 < j) && (match vs[j - 1]? with | some u => decide (v.1 ≤ u.1) | none => false)) && !(decide (0 < c) && decide (c ≤ v.2))
 | none => true
def validB (l : Lv) : Bool := !(decide (l.c < 0) || decide (100 < l.c)) && allTo (varOk l.c l.vars) l.vars.length
theorem valid_any (h : Heap) (hh : WF h) (l : Lv) (hb : l.vars.length ≤ 1048576) : ACalls Tryz.prog 191 [l.av] h fun o h' => o = .ret (bA (validB l)) ∧ h' = h := by
 obtain ⟨c, vs⟩ := l
 simp only at hb
 simp only [Lv.av, Lv.cells, List.map]
 refine ACalls.of_run Tryz.func191 rfl ?_
 simp only [Tryz.ntmps191, List.length_cons, List.length_nil]
 refine nv ?_
 refine Run.reg fun K J => ?_
 simp
 try (simp (disch := omega) only [wrap_id])
 refine J _ _ _ (nv ?_); clear J
 refine Run.regJ [0, 1, 2] 12 (decide (c < 0) || decide (100 < c)) (fun K J => ?_) ?_
 ·simp
  repeat' (first | apply And.intro | intro _)
  all_goals
   try (simp (disch := omega) only [wrap_id])
   refine J _ ?_
   simp
   repeat' first | exact wn | apply wc
   all_goals first | exact Weak.junk _ | (refine Weak.bool ?_; clear J; rw [Bool.eq_iff_iff]; simp; done) | (refine Weak.bool ?_; clear J; rw [Bool.eq_iff_iff]; simp; omega) | (refine Weak.bool ?_; clear J; simp_all; done) | (refine Weak.bool ?_; clear J; simp [*]; done) | (refine Weak.bool ?_; clear J; rw [Bool.eq_iff_iff]; simp [*]; omega) | exact Weak.refl _
 simp only [setMany, keepT, keepT.go, List.contains_cons, List.set_cons_succ, List.set_cons_zero]
 simp
 refine Run.condB rfl (fun hc => ?_) (fun hc => ?_)
 ·repeat (first | refine nw ?_ | (refine Run.reg fun K J => ?_; simp; (try (simp (disch := omega) only [wrap_id])); refine J _ _ _ ?_; clear J) | refine ct rfl ?_ | refine cf rfl ?_ | refine Run.exit rfl ?_ | refine Run.ret ?_)
  exact Fin.ret' (by simp) rfl hh rfl rfl rfl (Weak.refl _) rfl ⟨by simp [validB, hc], rfl⟩
 ·refine nv ?_
  refine Run.reg fun K J => ?_
  simp
  try (simp (disch := omega) only [wrap_id])
  refine J _ _ _ (nv ?_); clear J
  refine Run.loopS [1] (fun j : Nat => j ≤ vs.length ∧ allTo (varOk c vs) j = true) (fun j => vs.length - j) (fun j => [(3, iA j)]) (fun _ => _) 0 (by simp [allTo]) ?_ rfl ?_
  ·simp
   repeat' first | exact wn | apply wc | exact wj _ | exact wr _ | exact wz _ | exact wo _ _ _ | exact wi (by omega)
  ·rintro j ⟨hj, hall⟩ IH
   simp
   refine nv ?_
   refine Run.reg fun K J => ?_
   simp
   try (simp (disch := omega) only [wrap_id])
   refine J _ _ _ (nv ?_); clear J
   by_cases hjl : j < vs.length
   ·have hg : vs[j]? = some vs[j] := List.getElem?_eq_getElem hjl
    obtain ⟨⟨x, y⟩, hxy⟩ : ∃ p, vs[j] = p := ⟨_, rfl⟩
    rw [hxy] at hg
    refine nv ?_
    refine ct (by simp [hjl]) (nv ?_)
    refine Run.reg fun K J => ?_
    simp [hg]
    try (simp (disch := omega) only [wrap_id])
    refine J _ _ _ (nv ?_); clear J
    refine Run.regJ [1, 3, 4] 42 (decide (x < -65536) || decide (8 ≤ x) || decide (y < 0) || decide (100 < y)) (fun K J => ?_) ?_
    ·simp
     repeat' (first | apply And.intro | intro _)
     all_goals
      try (simp (disch := omega) only [wrap_id])
      refine J _ ?_
      simp
      repeat' first | exact wn | apply wc
      all_goals first | exact Weak.junk _ | (refine Weak.bool ?_; clear J; rw [Bool.eq_iff_iff]; simp; done) | (refine Weak.bool ?_; clear J; rw [Bool.eq_iff_iff]; simp; omega) | (refine Weak.bool ?_; clear J; simp_all; done) | (refine Weak.bool ?_; clear J; simp [*]; done) | (refine Weak.bool ?_; clear J; rw [Bool.eq_iff_iff]; simp [*]; omega) | exact Weak.refl _
    simp only [setMany, keepT, keepT.go, List.contains_cons, List.set_cons_succ, List.set_cons_zero]
    simp
    refine Run.condB rfl (fun h1 => ?_) (fun h1 => ?_)
    ·repeat (first | refine nw ?_ | (refine Run.reg fun K J => ?_; simp; (try (simp (disch := omega) only [wrap_id])); refine J _ _ _ ?_; clear J) | refine ct rfl ?_ | refine cf rfl ?_ | refine Run.exit rfl ?_ | refine Run.ret ?_)
     refine Fin.ret' (by simp) rfl hh rfl rfl rfl (Weak.refl _) rfl ⟨?_, rfl⟩
     have : varOk c vs j = false := by simp only [varOk, hg, h1]; simp
     simp [validB, allTo_false hjl this]
    ·obtain ⟨b2, hb2⟩ : ∃ b, b = (decide (0 < j) && (match vs[j - 1]? with | some u => decide (x ≤ u.1) | none => false)) := ⟨_, rfl⟩
     have hjj : (∃ u, 0 < j ∧ vs[j - 1]? = some u) ∨ j = 0 := by
      rcases Nat.eq_zero_or_pos j with e | e
      ·exact .inr e
      ·exact .inl ⟨_, e, List.getElem?_eq_getElem (show j - 1 < vs.length by omega)⟩
     refine nv ?_
     refine Run.draw [0, 0, 0, 0, 0, 0, 0, 0, 0, 0, 0, 0, 0, 0] [0, 0, 0, 0, 0, 0, 0, 0, 0, 0, 0, 0, 0, 0] [0, 1, 3, 7, 15, 7, 39, 127, 255, 511, 7, 1031, 4095, 8191] [0, 1, 2, 3, 4, 5, 6, 7, 8, 9, 10, 11, 12, 13] (by kernel_rfl) (by kernel_rfl) ?_
     refine DR.goJ [1, 3, 4] 56 b2 (fun K J => ?_) ?_
     ·subst hb2
      rcases hjj with ⟨u, hj0, hu⟩ | hj0
      ·have hw : IntKind.i64.wrap ((j : Int) - 1) = (j : Int) - 1 := wrap_id (by omega) (by omega)
       have hn : ¬ ((j : Int) - 1 < 0) := by omega
       have ht : ((j : Int) - 1).toNat = j - 1 := by omega
       simp [hw, hn, ht, hu, hj0]
       repeat' (first | apply And.intro | intro _)
       all_goals
        try (simp (disch := omega) only [wrap_id])
        refine J _ _ ?_
        simp
        repeat' first | exact wn | apply wc
        all_goals first | exact Weak.junk _ | (refine Weak.bool ?_; clear J; rw [Bool.eq_iff_iff]; simp [hu, hj0]; done) | (refine Weak.bool ?_; clear J; rw [Bool.eq_iff_iff]; simp [hw, hn, ht, hu, hj0]; omega) | (refine Weak.bool ?_; clear J; simp_all; done) | (refine Weak.bool ?_; clear J; simp [*]; done) | (refine Weak.bool ?_; clear J; rw [Bool.eq_iff_iff]; simp [*]; omega) | exact Weak.refl _
      ·subst hj0
       simp
       repeat' (first | apply And.intro | intro _)
       all_goals
        try (simp (disch := omega) only [wrap_id])
        refine J _ _ ?_
        simp
        repeat' first | exact wn | apply wc
        all_goals first | exact Weak.junk _ | (refine Weak.bool ?_; clear J; rw [Bool.eq_iff_iff]; simp; done) | (refine Weak.bool ?_; clear J; rw [Bool.eq_iff_iff]; simp; omega) | (refine Weak.bool ?_; clear J; simp_all; done) | (refine Weak.bool ?_; clear J; simp [*]; done) | (refine Weak.bool ?_; clear J; rw [Bool.eq_iff_iff]; simp [*]; omega) | exact Weak.refl _
     simp only [setMany, keepT, keepT.go, List.contains_cons, List.set_cons_succ, List.set_cons_zero]
     simp
     refine Run.condB rfl (fun h2 => ?_) (fun h2 => ?_)
     ·repeat (first | refine nw ?_ | (refine Run.reg fun K J => ?_; simp; (try (simp (disch := omega) only [wrap_id])); refine J _ _ _ ?_; clear J) | refine ct rfl ?_ | refine cf rfl ?_ | refine Run.exit rfl ?_ | refine Run.ret ?_)
      refine Fin.ret' (by simp) rfl hh rfl rfl rfl (Weak.refl _) rfl ⟨?_, rfl⟩
      have : varOk c vs j = false := by simp only [varOk, hg, h1, ← hb2, h2]; simp
      simp [validB, allTo_false hjl this]
     ·refine nv ?_
      refine Run.regJ [1, 3] 66 (decide (0 < c) && decide (c ≤ y)) (fun K J => ?_) ?_
      ·simp
       repeat' (first | apply And.intro | intro _)
       all_goals
        try (simp (disch := omega) only [wrap_id])
        refine J _ ?_
        simp
        repeat' first | exact wn | apply wc
        all_goals first | exact Weak.junk _ | (refine Weak.bool ?_; clear J; rw [Bool.eq_iff_iff]; simp; done) | (refine Weak.bool ?_; clear J; rw [Bool.eq_iff_iff]; simp; omega) | (refine Weak.bool ?_; clear J; simp_all; done) | (refine Weak.bool ?_; clear J; simp [*]; done) | (refine Weak.bool ?_; clear J; rw [Bool.eq_iff_iff]; simp [*]; omega) | exact Weak.refl _
      simp only [setMany, keepT, keepT.go, List.contains_cons, List.set_cons_succ, List.set_cons_zero]
      simp
      refine Run.condB rfl (fun h3 => ?_) (fun h3 => ?_)
      ·repeat (first | refine nw ?_ | (refine Run.reg fun K J => ?_; simp; (try (simp (disch := omega) only [wrap_id])); refine J _ _ _ ?_; clear J) | refine ct rfl ?_ | refine cf rfl ?_ | refine Run.exit rfl ?_ | refine Run.ret ?_)
       refine Fin.ret' (by simp) rfl hh rfl rfl rfl (Weak.refl _) rfl ⟨?_, rfl⟩
       have : varOk c vs j = false := by simp only [varOk, hg, h1, ← hb2, h2, h3]; simp
       simp [validB, allTo_false hjl this]
      ·refine nv ?_
       refine Run.reg fun K J => ?_
       simp
       try (simp (disch := omega) only [wrap_id])
       refine J _ _ _ (nv ?_); clear J
       refine Run.cutAt 1 hh rfl (by omega) (by simp) (by simp) (by simp) rfl ?_
       refine IH (j + 1) _ _ ⟨by omega, ?_⟩ (by omega) ?_ ?_
       ·rw [allTo_succ, hall]
        simp only [varOk, hg, h1, ← hb2, h2, h3]; simp
       ·simp
        repeat' first | exact wn | apply wc | exact wj _ | exact wr _ | exact wz _ | exact wo _ _ _ | exact wi (by omega)
       ·simp
   ·have hje : j = vs.length := by omega
    subst hje
    refine nv ?_
    refine cf (by simp) (nv ?_)
    refine Run.exit rfl ?_
    refine nv ?_
    repeat (first | refine nw ?_ | (refine Run.reg fun K J => ?_; simp; (try (simp (disch := omega) only [wrap_id])); refine J _ _ _ ?_; clear J) | refine ct rfl ?_ | refine cf rfl ?_ | refine Run.exit rfl ?_ | refine Run.ret ?_)
    refine Fin.ret' (by simp) rfl hh rfl rfl rfl (Weak.refl _) rfl ⟨by simp [validB, hc, hall], rfl⟩


open Go Go.AI
def levelZ (params levels : Int) (l : Lv) : Int :=
 if validB l = false then 3
 else if allTo (fun j => match l.vars[j]? with | some v => !(decide (0 ≤ v.1) && decide (params ≤ v.1)) | none => true) l.vars.length = false then 15
 else if allTo (fun j => match l.vars[j]? with | some v => !(decide (v.1 < 0) && decide (levels ≤ -1 - v.1)) | none => true) l.vars.length = false then 23 else 0
theorem level_any (h : Heap) (hh : WF h) (l : Lv) (params levels : Int) (hb : l.vars.length ≤ 1048576) (hr : ∀ v ∈ l.vars, -9223372036854775808 ≤ v.1) :
  ACalls Tryz.prog 140 [l.av, iA params, iA levels] h fun o h' => o = .ret (iA (levelZ params levels l)) ∧ h' = h := by
 have hval := valid_any (h ++ [some (.cells (l.cells.map .p))]) (hh.app (by simp)) l hb
 obtain ⟨c, vs⟩ := l
 simp only at hb hr
 simp only [Lv.av, Lv.cells, List.map] at hval ⊢
 refine ACalls.of_run Tryz.func140 rfl ?_
 simp only [Tryz.ntmps140, List.length_cons, List.length_nil]
 refine nv ?_
 refine Run.reg fun K J => ?_
 simp
 try (simp (disch := omega) only [wrap_id])
 refine J _ _ _ (nv ?_); clear J
 refine Run.reg fun K J => ?_
 simp
 try (simp (disch := omega) only [wrap_id])
 refine J _ _ _ (nv ?_); clear J
 refine Run.call rfl rfl (by simp) rfl hval ?_ ?_
 ·rintro v h' ⟨hv, rfl⟩
  simp only [AOut.ret.injEq] at hv
  subst hv
  cases hvb : validB ⟨c, vs⟩ with
  | false =>
   refine Run.ops fun K J => ?_
   simp
   try (simp (disch := omega) only [wrap_id])
   refine J _ _ _ (nv ?_); clear J
   repeat (first | refine nw ?_ | (refine Run.reg fun K J => ?_; simp; (try (simp (disch := omega) only [wrap_id])); refine J _ _ _ ?_; clear J) | refine ct rfl ?_ | refine cf rfl ?_ | refine Run.exit rfl ?_ | refine Run.ret ?_)
   exact Fin.ret' (by simp) rfl hh rfl rfl rfl (Weak.refl _) rfl ⟨by simp [levelZ, hvb], rfl⟩
  | true =>
   refine Run.ops fun K J => ?_
   simp
   try (simp (disch := omega) only [wrap_id])
   refine J _ _ _ (nv ?_); clear J
   refine cf (by simp) (nv ?_)
   refine Run.reg fun K J => ?_
   simp
   try (simp (disch := omega) only [wrap_id])
   refine J _ _ _ (nv ?_); clear J
   refine Run.loopS [1, 2, 3] (fun j : Nat => j ≤ vs.length ∧ allTo (fun j => match vs[j]? with | some v => !(decide (0 ≤ v.1) && decide (params ≤ v.1)) | none => true) j = true) (fun j => vs.length - j) (fun j => [(7, iA j)]) (fun _ => _) 0 (by simp [allTo]) ?_ rfl ?_
   ·simp
    repeat' first | exact wn | apply wc | exact wj _ | exact wr _ | exact wz _ | exact wo _ _ _ | exact wi (by omega)
   ·rintro j ⟨hj, hall⟩ IH
    simp
    refine nv ?_
    refine Run.reg fun K J => ?_
    simp
    try (simp (disch := omega) only [wrap_id])
    refine J _ _ _ (nv ?_); clear J
    by_cases hjl : j < vs.length
    ·have hg : vs[j]? = some vs[j] := List.getElem?_eq_getElem hjl
     obtain ⟨⟨x, y⟩, hxy⟩ : ∃ p, vs[j] = p := ⟨_, rfl⟩
     rw [hxy] at hg
     refine nv ?_
     refine ct (by simp [hjl]) (nv ?_)
     refine Run.regJ [1, 2, 3, 7] 35 (decide (0 ≤ x) && decide (params ≤ x)) (fun K J => ?_) ?_
     ·simp [hg]
      repeat' (first | apply And.intro | intro _)
      all_goals
       try (simp (disch := omega) only [wrap_id])
       refine J _ ?_
       simp
       repeat' first | exact wn | apply wc
       all_goals first | exact Weak.junk _ | (refine Weak.bool ?_; clear J; rw [Bool.eq_iff_iff]; simp; done) | (refine Weak.bool ?_; clear J; rw [Bool.eq_iff_iff]; simp; omega) | (refine Weak.bool ?_; clear J; simp_all; done) | (refine Weak.bool ?_; clear J; simp [*]; done) | (refine Weak.bool ?_; clear J; rw [Bool.eq_iff_iff]; simp [*]; omega) | exact Weak.refl _
     simp only [setMany, keepT, keepT.go, List.contains_cons, List.set_cons_succ, List.set_cons_zero]
     simp
     refine Run.condB rfl (fun h1 => ?_) (fun h1 => ?_)
     ·repeat (first | refine nw ?_ | (refine Run.reg fun K J => ?_; simp; (try (simp (disch := omega) only [wrap_id])); refine J _ _ _ ?_; clear J) | refine ct rfl ?_ | refine cf rfl ?_ | refine Run.exit rfl ?_ | refine Run.ret ?_)
      refine Fin.ret' (by simp) rfl hh rfl rfl rfl (Weak.refl _) rfl ⟨?_, rfl⟩
      have := allTo_false (p := fun j => match vs[j]? with | some v => !(decide (0 ≤ v.1) && decide (params ≤ v.1)) | none => true) hjl (by simp only [hg, h1]; rfl)
      simp only [levelZ, hvb, this, if_true]; rfl
     ·refine nv ?_
      refine Run.reg fun K J => ?_
      simp
      try (simp (disch := omega) only [wrap_id])
      refine J _ _ _ (nv ?_); clear J
      refine IH (j + 1) _ _ ⟨by omega, ?_⟩ (by omega) ?_ rfl
      ·rw [allTo_succ, hall]; simp only [hg, h1]; rfl
      ·simp
       repeat' first | exact wn | apply wc | exact wj _ | exact wr _ | exact wz _ | exact wo _ _ _ | exact wi (by omega)
    ·have hje : j = vs.length := by omega
     subst hje
     refine nv ?_
     refine cf (by simp) (nv ?_)
     refine Run.exit rfl ?_
     refine nv ?_
     refine Run.reg fun K J => ?_
     simp
     try (simp (disch := omega) only [wrap_id])
     refine J _ _ _ (nv ?_); clear J
     refine Run.loopS [1, 2, 3] (fun j : Nat => j ≤ vs.length ∧ allTo (fun j => match vs[j]? with | some v => !(decide (v.1 < 0) && decide (levels ≤ -1 - v.1)) | none => true) j = true) (fun j => vs.length - j) (fun j => [(8, iA j)]) (fun _ => _) 0 (by simp [allTo]) ?_ rfl ?_
     ·simp
      repeat' first | exact wn | apply wc | exact wj _ | exact wr _ | exact wz _ | exact wo _ _ _ | exact wi (by omega)
     ·rintro i ⟨hi, hall2⟩ IH2
      simp
      refine nv ?_
      refine Run.reg fun K J => ?_
      simp
      try (simp (disch := omega) only [wrap_id])
      refine J _ _ _ (nv ?_); clear J
      by_cases hil : i < vs.length
      ·have hg : vs[i]? = some vs[i] := List.getElem?_eq_getElem hil
       have hr2 := hr _ (List.getElem_mem hil)
       obtain ⟨⟨x, y⟩, hxy⟩ : ∃ p, vs[i] = p := ⟨_, rfl⟩
       rw [hxy] at hg hr2
       simp only at hr2
       refine nv ?_
       refine ct (by simp [hil]) (nv ?_)
       refine Run.regJ [1, 2, 3, 8] 60 (decide (x < 0) && decide (levels ≤ -1 - x)) (fun K J => ?_) ?_
       ·by_cases hx : x < 0
        ·have hw : IntKind.i64.wrap (-1 - x) = -1 - x := wrap_id (by omega) (by omega)
         simp [hg, hx, hw]
         repeat' (first | apply And.intro | intro _)
         all_goals
          try (simp (disch := omega) only [wrap_id])
          refine J _ ?_
          simp
          repeat' first | exact wn | apply wc
          all_goals first | exact Weak.junk _ | (refine Weak.bool ?_; clear J; rw [Bool.eq_iff_iff]; simp [hx]; done) | (refine Weak.bool ?_; clear J; rw [Bool.eq_iff_iff]; simp [hg, hx, hw]; omega) | (refine Weak.bool ?_; clear J; simp_all; done) | (refine Weak.bool ?_; clear J; simp [*]; done) | (refine Weak.bool ?_; clear J; rw [Bool.eq_iff_iff]; simp [*]; omega) | exact Weak.refl _
        ·simp [hg, hx]
         repeat' (first | apply And.intro | intro _)
         all_goals
          try (simp (disch := omega) only [wrap_id])
          refine J _ ?_
          simp
          repeat' first | exact wn | apply wc
          all_goals first | exact Weak.junk _ | (refine Weak.bool ?_; clear J; rw [Bool.eq_iff_iff]; simp [hx]; done) | (refine Weak.bool ?_; clear J; rw [Bool.eq_iff_iff]; simp [hg, hx]; omega) | (refine Weak.bool ?_; clear J; simp_all; done) | (refine Weak.bool ?_; clear J; simp [*]; done) | (refine Weak.bool ?_; clear J; rw [Bool.eq_iff_iff]; simp [*]; omega) | exact Weak.refl _
       simp only [setMany, keepT, keepT.go, List.contains_cons, List.set_cons_succ, List.set_cons_zero]
       simp
       refine Run.condB rfl (fun h1 => ?_) (fun h1 => ?_)
       ·repeat (first | refine nw ?_ | (refine Run.reg fun K J => ?_; simp; (try (simp (disch := omega) only [wrap_id])); refine J _ _ _ ?_; clear J) | refine ct rfl ?_ | refine cf rfl ?_ | refine Run.exit rfl ?_ | refine Run.ret ?_)
        refine Fin.ret' (by simp) rfl hh rfl rfl rfl (Weak.refl _) rfl ⟨?_, rfl⟩
        have := allTo_false (p := fun j => match vs[j]? with | some v => !(decide (v.1 < 0) && decide (levels ≤ -1 - v.1)) | none => true) hil (by simp only [hg, h1]; rfl)
        simp only [levelZ, hvb, hall, this, if_true]; rfl
       ·refine nv ?_
        refine Run.reg fun K J => ?_
        simp
        try (simp (disch := omega) only [wrap_id])
        refine J _ _ _ (nv ?_); clear J
        refine IH2 (i + 1) _ _ ⟨by omega, ?_⟩ (by omega) ?_ rfl
        ·rw [allTo_succ, hall2]; simp only [hg, h1]; rfl
        ·simp
         repeat' first | exact wn | apply wc | exact wj _ | exact wr _ | exact wz _ | exact wo _ _ _ | exact wi (by omega)
      ·have hie : i = vs.length := by omega
       subst hie
       refine nv ?_
       refine cf (by simp) (nv ?_)
       refine Run.exit rfl ?_
       refine nv ?_
       repeat (first | refine nw ?_ | (refine Run.reg fun K J => ?_; simp; (try (simp (disch := omega) only [wrap_id])); refine J _ _ _ ?_; clear J) | refine ct rfl ?_ | refine cf rfl ?_ | refine Run.exit rfl ?_ | refine Run.ret ?_)
       refine Fin.ret' (by simp) rfl hh rfl rfl rfl (Weak.refl _) rfl ⟨?_, rfl⟩
       simp only [levelZ, hvb, hall, hall2]; rfl
 ·rintro v h' ⟨hv, _⟩; cases hv


open Go Go.AI

attribute [simp] ByteArray.toList_eq
def nstep : Option Bool → UInt8 → Option Bool
 | none, _ => none
 | some true, c => if letterB c.toNat then some false else none
 | some false, c => if (c.toNat : Int) == 46 then some true else if letterB c.toNat || (c.toNat : Int) == 39 || (decide (48 ≤ (c.toNat : Int)) && decide ((c.toNat : Int) ≤ 57)) then some false else none
def nameSt (l : List UInt8) : Option Bool := l.foldl nstep (some true)
def nameB (n : List UInt8) : Bool := !(decide (n = []) || decide (64 < (n.length : Int))) && nameSt n == some false
theorem nst_none (l : List UInt8) : l.foldl nstep none = none := by
 induction l with
 | nil => rfl
 | cons c l ih => exact ih
theorem nst_snoc {n : List UInt8} {j : Nat} {c : UInt8} (h : n[j]? = some c) : nameSt (n.take (j + 1)) = nstep (nameSt (n.take j)) c := by
 have : n.take (j + 1) = n.take j ++ [c] := by
  obtain ⟨hj, rfl⟩ := List.getElem?_eq_some_iff.1 h
  exact List.take_succ_eq_append_getElem hj
 rw [this, nameSt, List.foldl_append]; rfl
theorem nst_dead {n : List UInt8} {j : Nat} (h : nameSt (n.take j) = none) : nameSt n = none := by
 have e : n = n.take j ++ n.drop j := (List.take_append_drop j n).symm
 rw [e, nameSt, List.foldl_append]
 rw [nameSt] at h
 rw [h]; exact nst_none _
theorem name_any (h : Heap) (hh : WF h) (n : List UInt8) : ACalls Tryz.prog 139 [.p (sP n)] h fun o h' => o = .ret (bA (nameB n)) ∧ h' = h := by
 refine ACalls.of_run Tryz.func139 rfl ?_
 simp only [Tryz.ntmps139, List.length_cons, List.length_nil]
 refine nv ?_
 refine Run.reg fun K J => ?_
 simp
 try (simp (disch := omega) only [wrap_id])
 refine J _ _ _ (nv ?_); clear J
 refine Run.regJ [0, 2] 12 (decide (n = []) || decide (64 < (n.length : Int))) (fun K J => ?_) ?_
 ·simp [ByteArray.size]
  repeat' (first | apply And.intro | intro _)
  all_goals
   try (simp (disch := omega) only [wrap_id])
   refine J _ ?_
   simp
   repeat' first | exact wn | apply wc
   all_goals first | exact Weak.junk _ | (refine Weak.bool ?_; clear J; rw [Bool.eq_iff_iff]; simp; done) | (refine Weak.bool ?_; clear J; rw [Bool.eq_iff_iff]; simp; omega) | (refine Weak.bool ?_; clear J; simp_all; done) | (refine Weak.bool ?_; clear J; simp [*]; done) | (refine Weak.bool ?_; clear J; rw [Bool.eq_iff_iff]; simp [*]; omega) | exact Weak.refl _
 simp only [setMany, keepT, keepT.go, List.contains_cons, List.set_cons_succ, List.set_cons_zero]
 simp
 refine Run.condB rfl (fun hc => ?_) (fun hc => ?_)
 ·repeat (first | refine nw ?_ | (refine Run.reg fun K J => ?_; simp; (try (simp (disch := omega) only [wrap_id])); refine J _ _ _ ?_; clear J) | refine ct rfl ?_ | refine cf rfl ?_ | refine Run.exit rfl ?_ | refine Run.ret ?_)
  exact Fin.ret' (by simp) rfl hh (List.append_nil _).symm rfl rfl (Weak.refl _) rfl ⟨by simp [nameB, hc], rfl⟩
 ·have hn64 : n.length ≤ 64 := by simp at hc; omega
  refine nv ?_
  refine Run.reg fun K J => ?_
  simp
  try (simp (disch := omega) only [wrap_id])
  refine J _ _ _ (nv ?_); clear J
  refine Run.reg fun K J => ?_
  simp
  try (simp (disch := omega) only [wrap_id])
  refine J _ _ _ (nv ?_); clear J
  refine Run.loopS (ι := Nat × Bool) [0, 2] (fun p => p.1 ≤ n.length ∧ nameSt (n.take p.1) = some p.2) (fun p => n.length - p.1) (fun p => [(3, bA p.2), (4, iA p.1)]) (fun _ => _) (0, true) (by simp [nameSt]) ?_ rfl ?_
  ·simp
   repeat' first | exact wn | apply wc | exact wj _ | exact wr _ | exact wz _ | exact wo _ _ _ | exact wi (by omega)
  ·rintro ⟨j, fst⟩ ⟨hj, hst⟩ IH
   simp only at hj hst
   simp
   refine nv ?_
   refine Run.reg fun K J => ?_
   simp [ByteArray.size]
   try (simp (disch := omega) only [wrap_id])
   refine J _ _ _ (nv ?_); clear J
   by_cases hjl : j < n.length
   ·have hg : n[j]? = some n[j] := List.getElem?_eq_getElem hjl
    obtain ⟨c, hcj⟩ : ∃ c, n[j] = c := ⟨_, rfl⟩
    rw [hcj] at hg
    have hsn := nst_snoc hg
    rw [hst] at hsn
    refine nv ?_
    refine ct (by simp [hjl]) (nv ?_)
    refine Run.reg fun K J => ?_
    simp [hg]
    try (simp (disch := omega) only [wrap_id])
    refine J _ _ _ (nv ?_); clear J
    refine Run.reg fun K J => ?_
    simp
    try (simp (disch := omega) only [wrap_id])
    refine J _ _ _ (nv ?_); clear J
    cases fst with
    | true =>
     refine nv ?_
     refine ct (by simp) (nv ?_)
     refine Run.reg fun K J => ?_
     simp
     try (simp (disch := omega) only [wrap_id])
     refine J _ _ _ (nv ?_); clear J
     refine Run.call rfl rfl (by simp) rfl (letter_any _ hh c.toNat) ?_ ?_
     ·rintro v h' ⟨hv, rfl⟩
      simp only [AOut.ret.injEq] at hv
      subst hv
      cases hlb : letterB c.toNat with
      | false =>
       refine Run.ops fun K J => ?_
       simp
       try (simp (disch := omega) only [wrap_id])
       refine J _ _ _ (nv ?_); clear J
       repeat (first | refine nw ?_ | (refine Run.reg fun K J => ?_; simp; (try (simp (disch := omega) only [wrap_id])); refine J _ _ _ ?_; clear J) | refine ct rfl ?_ | refine cf rfl ?_ | refine Run.exit rfl ?_ | refine Run.ret ?_)
       simp only [nstep, hlb] at hsn
       exact Fin.ret' (by simp) rfl hh (List.append_nil _).symm rfl rfl (Weak.refl _) rfl ⟨by simp [nameB, nst_dead hsn], rfl⟩
      | true =>
       refine Run.ops fun K J => ?_
       simp
       try (simp (disch := omega) only [wrap_id])
       refine J _ _ _ (nv ?_); clear J
       refine cf (by simp) (nv ?_)
       refine Run.reg fun K J => ?_
       simp
       try (simp (disch := omega) only [wrap_id])
       refine J _ _ _ (nv ?_); clear J
       refine Run.exit rfl ?_
       refine nv ?_
       refine Run.reg fun K J => ?_
       simp
       try (simp (disch := omega) only [wrap_id])
       refine J _ _ _ (nv ?_); clear J
       simp only [nstep, hlb, if_true] at hsn
       refine IH (j + 1, false) _ _ ⟨by simp only; omega, hsn⟩ (by simp only; omega) ?_ rfl
       simp
       repeat' first | exact wn | apply wc | exact wj _ | exact wr _ | exact wz _ | exact wo _ _ _ | exact wi (by omega)
     ·rintro v h' ⟨hv, _⟩; cases hv
    | false =>
     refine nv ?_
     refine cf (by simp) (nv ?_)
     refine Run.reg fun K J => ?_
     simp
     try (simp (disch := omega) only [wrap_id])
     refine J _ _ _ (nv ?_); clear J
     by_cases h46 : (c.toNat : Int) = 46
     ·refine nv ?_
      refine ct (by simp [h46]) (nv ?_)
      refine Run.reg fun K J => ?_
      simp
      try (simp (disch := omega) only [wrap_id])
      refine J _ _ _ (nv ?_); clear J
      refine Run.exit rfl ?_
      refine nv ?_
      refine Run.reg fun K J => ?_
      simp
      try (simp (disch := omega) only [wrap_id])
      refine J _ _ _ (nv ?_); clear J
      refine IH (j + 1, true) _ _ ⟨by simp only; omega, by rw [hsn]; simp [nstep, h46]⟩ (by simp only; omega) ?_ rfl
      simp
      repeat' first | exact wn | apply wc | exact wj _ | exact wr _ | exact wz _ | exact wo _ _ _ | exact wi (by omega)
     ·refine nv ?_
      refine cf (by simp [h46]) (nv ?_)
      refine Run.reg fun K J => ?_
      simp
      try (simp (disch := omega) only [wrap_id])
      refine J _ _ _ (nv ?_); clear J
      refine Run.call rfl rfl (by simp) rfl (letter_any _ hh c.toNat) ?_ ?_
      ·rintro v h' ⟨hv, rfl⟩
       simp only [AOut.ret.injEq] at hv
       subst hv
       have fin : ∀ b : Bool, b = (!letterB c.toNat && ((c.toNat : Int) != 39 && (decide ((c.toNat : Int) < 48) || decide (57 < (c.toNat : Int))))) → nstep (some false) c = if b then none else some false := by
        intro b hb
        subst hb
        simp only [nstep, beq_iff_eq, h46, if_false]
        cases letterB c.toNat <;> simp
        by_cases q1 : (c.toNat : Int) = 39 <;> simp [q1]
        by_cases q2 : 48 ≤ (c.toNat : Int) <;> by_cases q3 : (c.toNat : Int) ≤ 57 <;> simp [q2, q3] <;> omega
       obtain ⟨lb, hlb⟩ : ∃ lb, letterB c.toNat = lb := ⟨_, rfl⟩
       obtain ⟨z, hz⟩ : ∃ z : Int, (c.toNat : Int) = z := ⟨_, rfl⟩
       rw [hz] at hlb h46 fin
       rw [hlb] at fin
       rw [hz, hlb]
       refine Run.opsJ [0, 2, 3, 4, 5] 42 (!lb && (z != 39 && (decide (z < 48) || decide (57 < z)))) (fun K J => ?_) ?_
       ·simp
        repeat' (first | apply And.intro | intro _)
        all_goals
         try (simp (disch := omega) only [wrap_id])
         refine J _ ?_
         simp
         repeat' first | exact wn | apply wc
         all_goals first | exact Weak.junk _ | (refine Weak.bool ?_; clear J; rw [Bool.eq_iff_iff]; simp; done) | (refine Weak.bool ?_; clear J; rw [Bool.eq_iff_iff]; simp; omega) | (refine Weak.bool ?_; clear J; simp_all; done) | (refine Weak.bool ?_; clear J; simp [*]; done) | (refine Weak.bool ?_; clear J; rw [Bool.eq_iff_iff]; simp [*]; omega) | exact Weak.refl _
       simp only [setMany, keepT]
       simp
       refine Run.condB rfl (fun h1 => ?_) (fun h1 => ?_)
       ·repeat (first | refine nw ?_ | (refine Run.reg fun K J => ?_; simp; (try (simp (disch := omega) only [wrap_id])); refine J _ _ _ ?_; clear J) | refine ct rfl ?_ | refine cf rfl ?_ | refine Run.exit rfl ?_ | refine Run.ret ?_)
        have hf := fin _ h1.symm
        simp only [if_true] at hf
        rw [hf] at hsn
        exact Fin.ret' (by simp) rfl hh (List.append_nil _).symm rfl rfl (Weak.refl _) rfl ⟨by simp [nameB, nst_dead hsn], rfl⟩
       ·refine nv ?_
        refine Run.reg fun K J => ?_
        simp
        try (simp (disch := omega) only [wrap_id])
        refine J _ _ _ (nv ?_); clear J
        have hf := fin _ h1.symm
        simp only [Bool.false_eq_true, if_false] at hf
        rw [hf] at hsn
        refine IH (j + 1, false) _ _ ⟨by simp only; omega, hsn⟩ (by simp only; omega) ?_ rfl
        simp
        repeat' first | exact wn | apply wc | exact wj _ | exact wr _ | exact wz _ | exact wo _ _ _ | exact wi (by omega)
      ·rintro v h' ⟨hv, _⟩; cases hv
   ·have hje : j = n.length := by omega
    subst hje
    refine nv ?_
    refine cf (by simp) (nv ?_)
    refine Run.exit rfl ?_
    refine nv ?_
    repeat (first | refine nw ?_ | (refine Run.reg fun K J => ?_; simp; (try (simp (disch := omega) only [wrap_id])); refine J _ _ _ ?_; clear J) | refine ct rfl ?_ | refine cf rfl ?_ | refine Run.exit rfl ?_ | refine Run.ret ?_)
    rw [List.take_length] at hst
    refine Fin.ret' (by simp) rfl hh (List.append_nil _).symm rfl rfl (Weak.refl _) rfl ⟨?_, rfl⟩
    simp only [nameB, hst, hc]
    cases fst <;> rfl


open Go Go.AI
def formN (k i : Int) (n : List UInt8) (lsl ksl : Int) : Bool :=
 !(decide (k < 0) || decide (13 ≤ k) || ksl != kidsZ k) && !(i != 0 && (k != 0 && k != 12)) && !(!decide (n = []) && k != 3) && (if k = 2 then lsl == 1 else (lsl == 0 || k == 3))
def formB : Tm → Bool
 | .mk k i n ls ks => formN k i n ls.length ks.length
theorem form_any (h : Heap) (hh : WF h) (t : Tm) : ACalls Tryz.prog 138 [t.av] h fun o h' => o = .ret (bA (formB t)) ∧ h' = h := by
 obtain ⟨k, i, n, ls, ks⟩ := t
 have hk := kids_any (h ++ [some (.cells [iA k, iA i, .p (sP n), .p (.sl 2 (lvPs ls)), .p (.sl 5 (tmPs ks))])]) (hh.app (by simp)) k
 refine ACalls.of_run Tryz.func138 rfl ?_
 simp only [Tryz.ntmps138, List.length_cons, List.length_nil, Tm.av, cells_mk, List.map]
 refine nv ?_
 refine Run.reg fun K J => ?_
 simp
 try (simp (disch := omega) only [wrap_id])
 refine J _ _ _ (nv ?_); clear J
 have hcase : (k < 0) ∨ (¬ k < 0 ∧ 13 ≤ k) ∨ (¬ k < 0 ∧ ¬ 13 ≤ k) := by omega
 rcases hcase with c1 | ⟨c1, c2⟩ | ⟨c1, c2⟩
 ·refine nv ?_
  refine Run.draw [0, 0, 0, 0, 0, 0, 0, 0, 0, 0, 0, 0, 0, 0, 0, 1, 1] [0, 0, 0, 0, 0, 0, 0, 0, 0, 0, 0, 0, 0, 0, 0, 0, 0] [0, 1, 3, 7, 15, 31, 63, 127, 255, 511, 1023, 2047, 511, 4607, 12799, 32767, 65535] [0, 1, 2, 3, 4, 5, 6, 7, 8, 12, 13, 14, 9, 10, 11, 15, 16] (by kernel_rfl) (by kernel_rfl) ?_
  refine DR.go fun K J => ?_
  simp [c1]
  try (simp (disch := omega) only [wrap_id])
  refine J _ _ _ _ ?_; clear J
  change Run _ _ _ _ _ _ _ _
  refine nv ?_
  repeat (first | refine nw ?_ | (refine Run.reg fun K J => ?_; simp; (try (simp (disch := omega) only [wrap_id])); refine J _ _ _ ?_; clear J) | refine ct rfl ?_ | refine cf rfl ?_ | refine Run.exit rfl ?_ | refine Run.ret ?_)
  exact Fin.ret' (by simp) rfl hh rfl rfl rfl (Weak.refl _) rfl ⟨by simp [formB, formN, c1], rfl⟩
 ·refine nv ?_
  refine Run.draw [0, 0, 0, 0, 0, 0, 0, 0, 0, 0, 0, 0, 0, 0, 0, 1, 1] [0, 0, 0, 0, 0, 0, 0, 0, 0, 0, 0, 0, 0, 0, 0, 0, 0] [0, 1, 3, 7, 15, 31, 63, 127, 255, 511, 1023, 2047, 511, 4607, 12799, 32767, 65535] [0, 1, 2, 3, 4, 5, 6, 7, 8, 12, 13, 14, 9, 10, 11, 15, 16] (by kernel_rfl) (by kernel_rfl) ?_
  refine DR.go fun K J => ?_
  simp [c1, c2]
  try (simp (disch := omega) only [wrap_id])
  refine J _ _ _ _ ?_; clear J
  change Run _ _ _ _ _ _ _ _
  refine nv ?_
  repeat (first | refine nw ?_ | (refine Run.reg fun K J => ?_; simp; (try (simp (disch := omega) only [wrap_id])); refine J _ _ _ ?_; clear J) | refine ct rfl ?_ | refine cf rfl ?_ | refine Run.exit rfl ?_ | refine Run.ret ?_)
  exact Fin.ret' (by simp) rfl hh rfl rfl rfl (Weak.refl _) rfl ⟨by simp [formB, formN, c1, c2], rfl⟩
 ·refine nv ?_
  refine Run.draw [0, 0, 0, 0, 0, 0, 0, 0, 0, 0, 0, 0, 0, 0, 0, 1, 1] [0, 0, 0, 0, 0, 0, 0, 0, 0, 0, 0, 0, 0, 0, 0, 0, 0] [0, 1, 3, 7, 15, 31, 63, 127, 255, 511, 1023, 2047, 511, 4607, 12799, 32767, 65535] [0, 1, 2, 3, 4, 5, 6, 7, 8, 12, 13, 14, 9, 10, 11, 15, 16] (by kernel_rfl) (by kernel_rfl) ?_
  refine DR.go fun K J => ?_
  simp [c1, c2]
  try (simp (disch := omega) only [wrap_id])
  refine J _ _ _ _ ?_; clear J
  refine DR.call (args := [iA k]) rfl rfl (by simp) (by simp) rfl hk ?_
  refine DR.go fun K J => ?_
  simp
  try (simp (disch := omega) only [wrap_id])
  refine J _ _ _ _ ?_; clear J
  change Run _ _ _ _ _ _ _ _
  refine nv ?_
  refine Run.condB rfl (fun h1 => ?_) (fun h1 => ?_)
  ·repeat (first | refine nw ?_ | (refine Run.reg fun K J => ?_; simp; (try (simp (disch := omega) only [wrap_id])); refine J _ _ _ ?_; clear J) | refine ct rfl ?_ | refine cf rfl ?_ | refine Run.exit rfl ?_ | refine Run.ret ?_)
   exact Fin.ret' (by simp) rfl hh rfl rfl rfl (Weak.refl _) rfl ⟨by simp only [formB, formN, h1]; simp, rfl⟩
  ·refine nv ?_
   refine Run.regJ [1] 32 (i != 0 && (k != 0 && k != 12)) (fun K J => ?_) ?_
   ·simp
    repeat' (first | apply And.intro | intro _)
    all_goals
     try (simp (disch := omega) only [wrap_id])
     refine J _ ?_
     simp
     repeat' first | exact wn | apply wc
     all_goals first | exact Weak.junk _ | (refine Weak.bool ?_; clear J; rw [Bool.eq_iff_iff]; simp; done) | (refine Weak.bool ?_; clear J; rw [Bool.eq_iff_iff]; simp; omega) | (refine Weak.bool ?_; clear J; simp_all; done) | (refine Weak.bool ?_; clear J; simp [*]; done) | (refine Weak.bool ?_; clear J; rw [Bool.eq_iff_iff]; simp [*]; omega) | exact Weak.refl _
   simp only [setMany, keepT, keepT.go, List.contains_cons, List.set_cons_succ, List.set_cons_zero]
   simp
   refine Run.condB rfl (fun h2 => ?_) (fun h2 => ?_)
   ·repeat (first | refine nw ?_ | (refine Run.reg fun K J => ?_; simp; (try (simp (disch := omega) only [wrap_id])); refine J _ _ _ ?_; clear J) | refine ct rfl ?_ | refine cf rfl ?_ | refine Run.exit rfl ?_ | refine Run.ret ?_)
    exact Fin.ret' (by simp) rfl hh rfl rfl rfl (Weak.refl _) rfl ⟨by simp only [formB, formN, h2]; simp, rfl⟩
   ·refine nv ?_
    refine Run.regJ [1] 40 (!decide (n = []) && k != 3) (fun K J => ?_) ?_
    ·simp
     repeat' (first | apply And.intro | intro _)
     all_goals
      try (simp (disch := omega) only [wrap_id])
      refine J _ ?_
      simp
      repeat' first | exact wn | apply wc
      all_goals first | exact Weak.junk _ | (refine Weak.bool ?_; clear J; rw [Bool.eq_iff_iff]; simp; done) | (refine Weak.bool ?_; clear J; rw [Bool.eq_iff_iff]; simp; omega) | (refine Weak.bool ?_; clear J; simp_all; done) | (refine Weak.bool ?_; clear J; simp [*]; done) | (refine Weak.bool ?_; clear J; rw [Bool.eq_iff_iff]; simp [*]; omega) | exact Weak.refl _
    simp only [setMany, keepT, keepT.go, List.contains_cons, List.set_cons_succ, List.set_cons_zero]
    simp
    refine Run.condB rfl (fun h3 => ?_) (fun h3 => ?_)
    ·repeat (first | refine nw ?_ | (refine Run.reg fun K J => ?_; simp; (try (simp (disch := omega) only [wrap_id])); refine J _ _ _ ?_; clear J) | refine ct rfl ?_ | refine cf rfl ?_ | refine Run.exit rfl ?_ | refine Run.ret ?_)
     exact Fin.ret' (by simp) rfl hh rfl rfl rfl (Weak.refl _) rfl ⟨by simp only [formB, formN, h3]; simp, rfl⟩
    ·refine nv ?_
     refine Run.reg fun K J => ?_
     simp
     try (simp (disch := omega) only [wrap_id])
     refine J _ _ _ (nv ?_); clear J
     have h1' : (decide (k < 0) || decide (13 ≤ k) || (ks.length : Int) != kidsZ k) = false := by
      simp [c1, c2]; simpa using h1
     by_cases c4 : k = 2
     ·refine nv ?_
      refine ct (by simp [c4]) (nv ?_)
      refine Run.reg fun K J => ?_
      simp
      try (simp (disch := omega) only [wrap_id])
      refine J _ _ _ (nv ?_); clear J
      refine Run.ret ?_
      refine Fin.ret' (by simp) rfl hh rfl rfl rfl (Weak.refl _) rfl ⟨?_, rfl⟩
      have e : formB (.mk k i n ls ks) = ((ls.length : Int) == 1) := by simp only [formB, formN, h1', h2, h3]; rw [if_pos c4]; rfl
      rw [e]; rfl
     ·refine nv ?_
      refine cf (by simp [c4]) (nv ?_)
      refine Run.regJ [1] 2 ((ls.length : Int) == 0 || k == 3) (fun K J => ?_) ?_
      ·simp
       repeat' (first | apply And.intro | intro _)
       all_goals
        try (simp (disch := omega) only [wrap_id])
        refine J _ ?_
        simp
        repeat' first | exact wn | apply wc
        all_goals first | exact Weak.junk _ | (refine Weak.bool ?_; clear J; rw [Bool.eq_iff_iff]; simp; done) | (refine Weak.bool ?_; clear J; rw [Bool.eq_iff_iff]; simp; omega) | (refine Weak.bool ?_; clear J; simp_all; done) | (refine Weak.bool ?_; clear J; simp [*]; done) | (refine Weak.bool ?_; clear J; rw [Bool.eq_iff_iff]; simp [*]; omega) | exact Weak.refl _
      simp only [setMany, keepT, keepT.go, List.contains_cons, List.set_cons_succ, List.set_cons_zero]
      simp
      refine Run.ret ?_
      refine Fin.ret' (by simp) rfl hh rfl rfl rfl (Weak.refl _) rfl ⟨?_, rfl⟩
      have e : formB (.mk k i n ls ks) = ((ls.length : Int) == 0 || k == 3) := by simp only [formB, formN, h1', h2, h3]; rw [if_neg c4]; rfl
      rw [e]; rfl


open Go Go.AI

mutual
def Tm.depth : Tm → Nat
 | .mk _ _ _ _ ks => Tm.depths ks + 1
def Tm.depths : List Tm → Nat
 | [] => 0
 | t :: ts => max t.depth (Tm.depths ts)
end
theorem depths_snoc (l : List Tm) (t : Tm) : Tm.depths (l ++ [t]) = max (Tm.depths l) t.depth := by
 induction l with
 | nil => simp [Tm.depths]
 | cons x l ih => simp only [List.cons_append, Tm.depths, ih]; omega

mutual
theorem depth_le_size : ∀ t : Tm, t.depth ≤ t.size
 | .mk _ _ _ _ ks => by simp only [Tm.depth, Tm.size]; have := depths_le_sizes ks; omega
theorem depths_le_sizes : ∀ l : List Tm, Tm.depths l ≤ Tm.sizes l
 | [] => by simp [Tm.depths, Tm.sizes]
 | t :: ts => by simp only [Tm.depths, Tm.sizes]; have := depth_le_size t; have := depths_le_sizes ts; omega
end
theorem depths_take_le (l : List Tm) (i : Nat) : Tm.depths (l.take i) ≤ Tm.sizes l := Nat.le_trans (depths_le_sizes _) (sizes_take_le l i)
theorem depth_any (N : Nat) : ∀ (t : Tm) (h : Heap), t.size ≤ N → t.size ≤ 1099511627776 → WF h → ACalls Tryz.prog 36 [t.av] h fun o h' => o = .ret (iA t.depth) ∧ h' = h := by
 induction N with
 | zero => intro t h hN; cases t; simp [Tm.size] at hN
 | succ N ih =>
 intro t h hN hsz hh
 obtain ⟨k, i, n, ls, ks⟩ := t
 simp only [Tm.size] at hN hsz
 refine ACalls.of_run Tryz.func36 rfl ?_
 simp only [Tryz.ntmps36, List.length_cons, List.length_nil, Tm.av, cells_mk, List.map]
 refine nv ?_
 refine Run.reg fun K J => ?_
 simp
 try (simp (disch := omega) only [wrap_id])
 refine J _ _ _ (nv ?_); clear J
 refine Run.reg fun K J => ?_
 simp
 try (simp (disch := omega) only [wrap_id])
 refine J _ _ _ (nv ?_); clear J
 refine Run.reg fun K J => ?_
 simp
 try (simp (disch := omega) only [wrap_id])
 refine J _ _ _ (nv ?_); clear J
 refine Run.loopS [1] (fun j : Nat => j ≤ ks.length) (fun j => ks.length - j) (fun j => [(3, iA (Tm.depths (ks.take j) : Nat)), (4, iA j)]) (fun _ => _) 0 (by simp) ?_ rfl ?_
 ·simp [Tm.depths]
  repeat' first | exact wn | apply wc | exact wj _ | exact wr _ | exact wz _ | exact wo _ _ _ | exact wi (by omega)
 ·intro j hj IH
  simp
  refine nv ?_
  refine Run.reg fun K J => ?_
  simp
  try (simp (disch := omega) only [wrap_id])
  refine J _ _ _ (nv ?_); clear J
  by_cases hjl : j < ks.length
  ·have hg : ks[j]? = some ks[j] := List.getElem?_eq_getElem hjl
   have hs := kid_size hjl
   have htk : ks.take (j + 1) = ks.take j ++ [ks[j]] := List.take_succ_eq_append_getElem hjl
   have hd1 := depth_le_size ks[j]
   have hll := length_le_sizes ks
   have hd2 := depths_take_le ks j
   refine nv ?_
   refine ct (by simp [hjl]) (nv ?_)
   refine Run.reg fun K J => ?_
   simp [hg]
   try (simp (disch := omega) only [wrap_id])
   refine J _ _ _ (nv ?_); clear J
   refine Run.call (args := [ks[j].av]) rfl rfl (by simp) rfl (ih ks[j] _ (by omega) (by omega) (hh.app (by simp))) ?_ ?_
   ·rintro v h' ⟨hv, rfl⟩
    simp only [AOut.ret.injEq] at hv
    subst hv
    refine Run.ops fun K J => ?_
    simp
    try (simp (disch := omega) only [wrap_id])
    refine J _ _ _ (nv ?_); clear J
    refine Run.reg fun K J => ?_
    simp
    try (simp (disch := omega) only [wrap_id])
    refine J _ _ _ (nv ?_); clear J
    refine IH (j + 1) _ _ (by omega) (by omega) ?_ rfl
    rw [htk, depths_snoc]
    simp
    repeat' first | exact wn | apply wc
    all_goals first | exact Weak.junk _ | exact Weak.refl _ | exact Weak.int (by omega) | (refine Weak.int ?_; split <;> omega)
   ·rintro v h' ⟨hv, _⟩; cases hv
  ·have hje : j = ks.length := by omega
   subst hje
   rw [List.take_length]
   have hd2 := depths_le_sizes ks
   refine nv ?_
   refine cf (by simp) (nv ?_)
   refine Run.exit rfl ?_
   refine nv ?_
   repeat (first | refine nw ?_ | (refine Run.reg fun K J => ?_; simp; (try (simp (disch := omega) only [wrap_id])); refine J _ _ _ ?_; clear J) | refine ct rfl ?_ | refine cf rfl ?_ | refine Run.exit rfl ?_ | refine Run.ret ?_)
   refine Fin.ret' (by simp) rfl hh rfl rfl rfl (Weak.refl _) rfl ⟨by simp [Tm.depth], rfl⟩
def firstE (l : List Int) : Int := match l with
 | [] => 0
 | e :: l => if e = 0 then firstE l else e
theorem firstE_snoc (l : List Int) (e : Int) : firstE (l ++ [e]) = if firstE l = 0 then e else firstE l := by
 induction l with
 | nil => simp only [List.nil_append, firstE]; split <;> simp_all
 | cons x l ih => simp only [List.cons_append, firstE, ih]; split <;> simp_all
theorem firstE_stop {l : List Int} {j : Nat} (h : firstE (l.take j) ≠ 0) : firstE l = firstE (l.take j) := by
 induction l generalizing j with
 | nil => simp
 | cons x l ih =>
  cases j with
  | zero => simp [firstE] at h
  | succ j =>
   simp only [List.take_succ_cons, firstE] at h ⊢
   split
   ·rename_i hx; simp only [hx, if_true] at h; exact ih h
   ·rfl
def headZ (depth vars params metas levels : Int) (k i : Int) (n : List UInt8) (ls : List Lv) : Int :=
 if k = 3 ∧ nameB n = false then 29
 else if 8 < ls.length then 6
 else if firstE (ls.map (levelZ params levels)) ≠ 0 then firstE (ls.map (levelZ params levels))
 else if k = 0 ∧ (i < 0 ∨ vars ≤ i - depth) then 24
 else if k = 12 ∧ (i < 0 ∨ metas ≤ i) then 23 else 0

mutual
def chk (vars params metas levels : Int) (depth : Int) : Tm → Int
 | .mk k i n ls ks => if formB (.mk k i n ls ks) = false then 3 else
   if headZ depth vars params metas levels k i n ls ≠ 0 then headZ depth vars params metas levels k i n ls else firstE (chkL vars params metas levels k depth 0 ks)
def chkL (vars params metas levels : Int) (k depth : Int) (idx : Nat) : List Tm → List Int
 | [] => []
 | t :: ts => chk vars params metas levels (depth + belowZ k idx) t :: chkL vars params metas levels k depth (idx + 1) ts
end
theorem chkL_take (v p m l k d : Int) : ∀ (ks : List Tm) (idx j : Nat), (chkL v p m l k d idx ks).take j = chkL v p m l k d idx (ks.take j)
 | [], _, _ => by simp [chkL]
 | t :: ts, idx, 0 => by simp [chkL]
 | t :: ts, idx, j + 1 => by simp only [chkL, List.take_succ_cons, chkL_take v p m l k d ts (idx + 1) j]
theorem chkL_snoc (v p m l k d : Int) : ∀ (ks : List Tm) (idx : Nat) (t : Tm), chkL v p m l k d idx (ks ++ [t]) = chkL v p m l k d idx ks ++ [chk v p m l (d + belowZ k (idx + ks.length : Nat)) t]
 | [], idx, t => by simp [chkL]
 | x :: ks, idx, t => by simp only [List.cons_append, chkL, chkL_snoc v p m l k d ks (idx + 1) t]; simp [Nat.add_assoc, Nat.add_comm 1]


open Go Go.AI

mutual
def Tm.fit : Tm → Prop
 | .mk _ i _ ls ks => ls.length ≤ 1048576 ∧ (∀ l ∈ ls, l.vars.length ≤ 1048576 ∧ ∀ v ∈ l.vars, -9223372036854775808 ≤ v.1) ∧ -9223372036854775808 ≤ i ∧ i ≤ 9223372036854775807 ∧ Tm.fits ks
def Tm.fits : List Tm → Prop
 | [] => True
 | t :: ts => t.fit ∧ Tm.fits ts
end
theorem Tm.fits_at {l : List Tm} (h : Tm.fits l) : ∀ t ∈ l, t.fit := by
 induction l with
 | nil => intro t ht; cases ht
 | cons x l ih =>
  simp only [Tm.fits] at h
  intro t ht
  cases List.mem_cons.1 ht with
  | inl e => subst e; exact h.1
  | inr e => exact ih h.2 t e
theorem chk_any (vars params metas levels : Int) (N : Nat) : ∀ (t : Tm) (depth : Int) (h : Heap), t.size ≤ N → t.fit → 0 ≤ depth → depth + t.size ≤ 1099511627776 → WF h →
  ACalls Tryz.prog 91 [t.av, iA depth, iA vars, iA params, iA metas, iA levels] h fun o h' => o = .ret (iA (chk vars params metas levels depth t)) ∧ h' = h := by
 induction N with
 | zero => intro t _ h hN; cases t; simp [Tm.size] at hN
 | succ N ih =>
 intro t depth h hN hfit hd0 hd1 hh
 have hform := form_any (h ++ [some (.cells (t.cells.map .p))]) (hh.app (by simp)) t
 obtain ⟨k, i, n, ls, ks⟩ := t
 have hname := name_any (h ++ [some (.cells [iA k, iA i, .p (sP n), .p (.sl 2 (lvPs ls)), .p (.sl 5 (tmPs ks))])]) (hh.app (by simp)) n
 simp only [Tm.size] at hN hd1
 simp only [Tm.fit] at hfit
 obtain ⟨hf1, hf2, hf3, hf4, hf5⟩ := hfit
 refine ACalls.of_run Tryz.func91 rfl ?_
 simp only [Tryz.ntmps91, List.length_cons, List.length_nil, Tm.av, cells_mk, List.map]
 refine nv ?_
 refine Run.reg fun K J => ?_
 simp
 try (simp (disch := omega) only [wrap_id])
 refine J _ _ _ (nv ?_); clear J
 refine Run.reg fun K J => ?_
 simp
 try (simp (disch := omega) only [wrap_id])
 refine J _ _ _ (nv ?_); clear J
 refine Run.call rfl rfl (by simp) rfl hform ?_ ?_
 rotate_left
 ·rintro v h' ⟨hv, _⟩; cases hv
 rintro v h' ⟨hv, rfl⟩
 simp only [AOut.ret.injEq] at hv
 subst hv
 refine Run.ops fun K J => ?_
 simp
 try (simp (disch := omega) only [wrap_id])
 refine J _ _ _ (nv ?_); clear J
 refine Run.condB rfl (fun h1 => ?_) (fun h1 => ?_)
 ·repeat (first | refine nw ?_ | (refine Run.reg fun K J => ?_; simp; (try (simp (disch := omega) only [wrap_id])); refine J _ _ _ ?_; clear J) | refine ct rfl ?_ | refine cf rfl ?_ | refine Run.exit rfl ?_ | refine Run.ret ?_)
  have h1' : formB (.mk k i n ls ks) = false := by simpa using h1
  exact Fin.ret' (by simp) rfl hh rfl rfl rfl (Weak.refl _) rfl ⟨by simp only [chk, h1', if_true]; rfl, rfl⟩
 have h1' : formB (.mk k i n ls ks) = true := by simpa using h1
 have hchk : chk vars params metas levels depth (.mk k i n ls ks) = if headZ depth vars params metas levels k i n ls ≠ 0 then headZ depth vars params metas levels k i n ls else firstE (chkL vars params metas levels k depth 0 ks) := by
  simp only [chk, h1', Bool.true_eq_false, if_false]
 rw [hchk]
 clear hchk h1 h1' hform
 have hll := length_le_sizes ks
 obtain ⟨hz, hH⟩ : ∃ e, headZ depth vars params metas levels k i n ls = e := ⟨_, rfl⟩
 rw [hH]
 unfold headZ at hH
 refine nv ?_
 refine Run.join [1, 2, 3, 4, 5, 6] 28 (k == 3 && !nameB n) (fun hJ => ?_) ?_
 ·by_cases hk3 : k = 3
  ·subst hk3
   refine nv ?_
   refine Run.reg fun K J => ?_
   simp
   try (simp (disch := omega) only [wrap_id])
   refine J _ _ _ (nv ?_); clear J
   refine Run.call rfl (by simp) (by simp) rfl hname ?_ ?_
   ·rintro v h' ⟨hv, rfl⟩
    simp only [AOut.ret.injEq] at hv
    subst hv
    refine Run.ops fun K J => ?_
    simp
    try (simp (disch := omega) only [wrap_id])
    refine J _ _ _ (nv ?_); clear J
    refine hJ _ ?_
    simp
    repeat' first | exact wn | apply wc | exact wj _ | exact wr _ | exact wz _ | exact wo _ _ _ | exact wi (by omega)
   ·rintro v h' ⟨hv, _⟩; cases hv
  ·have hk4 : (k == 3) = false := by simpa using hk3
   refine nv ?_
   refine Run.reg fun K J => ?_
   simp [hk4]
   try (simp (disch := omega) only [wrap_id])
   refine J _ _ _ (nv ?_); clear J
   refine hJ _ ?_
   simp [hk4]
   repeat' first | exact wn | apply wc | exact wj _ | exact wr _ | exact wz _ | exact wo _ _ _ | exact wi (by omega)
 simp only [setMany, keepT, keepT.go, List.contains_cons, List.set_cons_succ, List.set_cons_zero]
 simp
 refine Run.condB rfl (fun h2 => ?_) (fun h2 => ?_)
 ·repeat (first | refine nw ?_ | (refine Run.reg fun K J => ?_; simp; (try (simp (disch := omega) only [wrap_id])); refine J _ _ _ ?_; clear J) | refine ct rfl ?_ | refine cf rfl ?_ | refine Run.exit rfl ?_ | refine Run.ret ?_)
  rw [if_pos (by simpa using h2)] at hH
  exact Fin.ret' (by simp) rfl hh rfl rfl rfl (Weak.refl _) rfl ⟨by rw [← hH]; rfl, rfl⟩
 rw [if_neg (by simpa using h2)] at hH
 refine nv ?_
 refine Run.reg fun K J => ?_
 simp
 try (simp (disch := omega) only [wrap_id])
 refine J _ _ _ (nv ?_); clear J
 by_cases h3 : 8 < ls.length
 ·have h3' : 8 < (ls.length : Int) := by omega
  refine nv ?_
  refine ct (by simp [h3']) (nv ?_)
  repeat (first | refine nw ?_ | (refine Run.reg fun K J => ?_; simp; (try (simp (disch := omega) only [wrap_id])); refine J _ _ _ ?_; clear J) | refine ct rfl ?_ | refine cf rfl ?_ | refine Run.exit rfl ?_ | refine Run.ret ?_)
  rw [if_pos h3] at hH
  exact Fin.ret' (by simp) rfl hh rfl rfl rfl (Weak.refl _) rfl ⟨by rw [← hH]; rfl, rfl⟩
 rw [if_neg h3] at hH
 have h3' : ¬ 8 < (ls.length : Int) := by omega
 refine nv ?_
 refine cf (by simp [h3']) (nv ?_)
 refine Run.reg fun K J => ?_
 simp
 try (simp (disch := omega) only [wrap_id])
 refine J _ _ _ (nv ?_); clear J
 refine Run.loopS [1, 2, 3, 4, 5, 6] (fun j : Nat => j ≤ ls.length ∧ firstE ((ls.map (levelZ params levels)).take j) = 0) (fun j => ls.length - j) (fun j => [(13, iA j)]) (fun _ => _) 0 (by simp [firstE]) ?_ rfl ?_
 ·simp
  repeat' first | exact wn | apply wc | exact wj _ | exact wr _ | exact wz _ | exact wo _ _ _ | exact wi (by omega)
 rintro j ⟨hj, hall⟩ IH
 simp
 refine nv ?_
 refine Run.reg fun K J => ?_
 simp
 try (simp (disch := omega) only [wrap_id])
 refine J _ _ _ (nv ?_); clear J
 by_cases hjl : j < ls.length
 ·have hg : ls[j]? = some ls[j] := List.getElem?_eq_getElem hjl
  have hl := hf2 _ (List.getElem_mem hjl)
  generalize ls[j] = u at hg hl
  have htk : (ls.map (levelZ params levels)).take (j + 1) = (ls.map (levelZ params levels)).take j ++ [levelZ params levels u] := by
   rw [List.take_add_one, List.getElem?_map, hg]; rfl
  refine nv ?_
  refine ct (by simp [hjl]) (nv ?_)
  refine Run.reg fun K J => ?_
  simp [hg]
  try (simp (disch := omega) only [wrap_id])
  refine J _ _ _ (nv ?_); clear J
  refine Run.call (args := [u.av, iA params, iA levels]) rfl rfl (by simp) rfl (level_any _ (hh.app (by simp)) u params levels hl.1 hl.2) ?_ ?_
  ·rintro v h' ⟨hv, rfl⟩
   simp only [AOut.ret.injEq] at hv
   subst hv
   refine Run.ops fun K J => ?_
   simp
   try (simp (disch := omega) only [wrap_id])
   refine J _ _ _ (nv ?_); clear J
   refine Run.reg fun K J => ?_
   simp
   try (simp (disch := omega) only [wrap_id])
   refine J _ _ _ (nv ?_); clear J
   by_cases h4 : levelZ params levels u = 0
   ·refine nv ?_
    refine cf (by simp [h4]) (nv ?_)
    refine Run.reg fun K J => ?_
    simp
    try (simp (disch := omega) only [wrap_id])
    refine J _ _ _ (nv ?_); clear J
    refine IH (j + 1) _ _ ⟨by omega, by rw [htk, firstE_snoc, hall, if_pos rfl, h4]⟩ (by omega) ?_ rfl
    simp
    repeat' first | exact wn | apply wc | exact wj _ | exact wr _ | exact wz _ | exact wo _ _ _ | exact wi (by omega)
   ·refine nv ?_
    refine ct (by simp [h4]) (nv ?_)
    repeat (first | refine nw ?_ | (refine Run.reg fun K J => ?_; simp; (try (simp (disch := omega) only [wrap_id])); refine J _ _ _ ?_; clear J) | refine ct rfl ?_ | refine cf rfl ?_ | refine Run.exit rfl ?_ | refine Run.ret ?_)
    have hst : firstE (ls.map (levelZ params levels)) = levelZ params levels u := by
     have e : firstE ((ls.map (levelZ params levels)).take (j + 1)) = levelZ params levels u := by rw [htk, firstE_snoc, hall, if_pos rfl]
     rw [firstE_stop (j := j + 1) (by rw [e]; exact h4), e]
    rw [if_pos (by rw [hst]; exact h4), hst] at hH
    exact Fin.ret' (by simp) rfl hh rfl rfl rfl (Weak.refl _) rfl ⟨by simp [← hH, h4], rfl⟩
  ·rintro v h' ⟨hv, _⟩; cases hv
 have hje : j = ls.length := by omega
 subst hje
 rw [List.take_of_length_le (by simp)] at hall
 rw [if_neg (by simp [hall])] at hH
 refine nv ?_
 refine cf (by simp) (nv ?_)
 refine Run.exit rfl ?_
 refine nv ?_
 refine Run.regJ [1, 2, 3, 4, 5, 6] 66 (k == 0 && (decide (i < 0) || decide (vars ≤ i - depth))) (fun K J => ?_) ?_
 ·by_cases hi : i < 0
  ·simp [hi]
   repeat' (first | apply And.intro | intro _)
   all_goals
    try (simp (disch := omega) only [wrap_id])
    refine J _ ?_
    simp
    repeat' first | exact wn | apply wc
    all_goals first | exact Weak.junk _ | (refine Weak.bool ?_; clear J; rw [Bool.eq_iff_iff]; simp [hi]; done) | (refine Weak.bool ?_; clear J; rw [Bool.eq_iff_iff]; simp [hi]; omega) | (refine Weak.bool ?_; clear J; simp_all; done) | (refine Weak.bool ?_; clear J; simp [*]; done) | (refine Weak.bool ?_; clear J; rw [Bool.eq_iff_iff]; simp [*]; omega) | exact Weak.refl _
  ·have hw : IntKind.i64.wrap (i - depth) = i - depth := wrap_id (by omega) (by omega)
   simp [hi, hw]
   repeat' (first | apply And.intro | intro _)
   all_goals
    try (simp (disch := omega) only [wrap_id])
    refine J _ ?_
    simp
    repeat' first | exact wn | apply wc
    all_goals first | exact Weak.junk _ | (refine Weak.bool ?_; clear J; rw [Bool.eq_iff_iff]; simp [hi]; done) | (refine Weak.bool ?_; clear J; rw [Bool.eq_iff_iff]; simp [hi]; omega) | (refine Weak.bool ?_; clear J; simp_all; done) | (refine Weak.bool ?_; clear J; simp [*]; done) | (refine Weak.bool ?_; clear J; rw [Bool.eq_iff_iff]; simp [*]; omega) | exact Weak.refl _
 simp only [setMany, keepT, keepT.go, List.contains_cons, List.set_cons_succ, List.set_cons_zero]
 simp
 refine Run.condB rfl (fun h4 => ?_) (fun h4 => ?_)
 ·repeat (first | refine nw ?_ | (refine Run.reg fun K J => ?_; simp; (try (simp (disch := omega) only [wrap_id])); refine J _ _ _ ?_; clear J) | refine ct rfl ?_ | refine cf rfl ?_ | refine Run.exit rfl ?_ | refine Run.ret ?_)
  rw [if_pos (by simpa using h4)] at hH
  exact Fin.ret' (by simp) rfl hh rfl rfl rfl (Weak.refl _) rfl ⟨by rw [← hH]; rfl, rfl⟩
 rw [if_neg (by simpa using h4)] at hH
 refine nv ?_
 refine Run.regJ [1, 2, 3, 4, 5, 6] 80 (k == 12 && (decide (i < 0) || decide (metas ≤ i))) (fun K J => ?_) ?_
 ·simp
  repeat' (first | apply And.intro | intro _)
  all_goals
   try (simp (disch := omega) only [wrap_id])
   refine J _ ?_
   simp
   repeat' first | exact wn | apply wc
   all_goals first | exact Weak.junk _ | (refine Weak.bool ?_; clear J; rw [Bool.eq_iff_iff]; simp; done) | (refine Weak.bool ?_; clear J; rw [Bool.eq_iff_iff]; simp; omega) | (refine Weak.bool ?_; clear J; simp_all; done) | (refine Weak.bool ?_; clear J; simp [*]; done) | (refine Weak.bool ?_; clear J; rw [Bool.eq_iff_iff]; simp [*]; omega) | exact Weak.refl _
 simp only [setMany, keepT, keepT.go, List.contains_cons, List.set_cons_succ, List.set_cons_zero]
 simp
 refine Run.condB rfl (fun h5 => ?_) (fun h5 => ?_)
 ·repeat (first | refine nw ?_ | (refine Run.reg fun K J => ?_; simp; (try (simp (disch := omega) only [wrap_id])); refine J _ _ _ ?_; clear J) | refine ct rfl ?_ | refine cf rfl ?_ | refine Run.exit rfl ?_ | refine Run.ret ?_)
  rw [if_pos (by simpa using h5)] at hH
  exact Fin.ret' (by simp) rfl hh rfl rfl rfl (Weak.refl _) rfl ⟨by rw [← hH]; rfl, rfl⟩
 rw [if_neg (by simpa using h5)] at hH
 subst hH
 refine nv ?_
 refine Run.reg fun K J => ?_
 simp
 try (simp (disch := omega) only [wrap_id])
 refine J _ _ _ (nv ?_); clear J
 refine Run.loopS [1, 2, 3, 4, 5, 6] (fun j : Nat => j ≤ ks.length ∧ firstE ((chkL vars params metas levels k depth 0 ks).take j) = 0) (fun j => ks.length - j) (fun j => [(15, iA j)]) (fun _ => _) 0 (by simp [firstE]) ?_ rfl ?_
 ·simp
  repeat' first | exact wn | apply wc | exact wj _ | exact wr _ | exact wz _ | exact wo _ _ _ | exact wi (by omega)
 rintro j ⟨hj, hall⟩ IH2
 simp
 refine nv ?_
 refine Run.reg fun K J => ?_
 simp
 try (simp (disch := omega) only [wrap_id])
 refine J _ _ _ (nv ?_); clear J
 by_cases hjl : j < ks.length
 ·have hg : ks[j]? = some ks[j] := List.getElem?_eq_getElem hjl
  have hs := kid_size hjl
  have hfj := Tm.fits_at hf5 _ (List.getElem_mem hjl)
  have hbz := belowZ_01' k j
  have htk : ks.take (j + 1) = ks.take j ++ [ks[j]] := List.take_succ_eq_append_getElem hjl
  generalize ks[j] = u at hg hs hfj htk
  have hck : (chkL vars params metas levels k depth 0 ks).take (j + 1) = (chkL vars params metas levels k depth 0 ks).take j ++ [chk vars params metas levels (depth + belowZ k j) u] := by
   rw [chkL_take, chkL_take, htk, chkL_snoc, List.length_take, Nat.zero_add, Nat.min_eq_left hj]
  obtain ⟨e, he⟩ : ∃ e, chk vars params metas levels (depth + belowZ k j) u = e := ⟨_, rfl⟩
  have hrec := ih u (depth + belowZ k j) (h ++ [some (.cells [iA k, iA i, .p (sP n), .p (.sl 2 (lvPs ls)), .p (.sl 5 (tmPs ks))])]) (by omega) hfj (by omega) (by omega) (hh.app (by simp))
  rw [he] at hck hrec
  refine nv ?_
  refine ct (by simp [hjl]) (nv ?_)
  refine Run.draw [0, 0, 0, 0, 0, 0, 0, 0, 0, 0, 1, 0, 0, 0, 0, 1, 2] [0, 0, 0, 0, 0, 0, 0, 0, 0, 0, 0, 0, 0, 0, 0, 1, 0] [0, 1, 0, 7, 15, 0, 0, 64, 0, 448, 992, 0, 0, 0, 0, 32767, 65535] [6, 7, 8, 9, 0, 1, 2, 3, 4, 5, 10, 11, 12, 13, 14, 15, 16] (by kernel_rfl) (by kernel_rfl) ?_
  refine DR.go fun K J => ?_
  simp
  try (simp (disch := omega) only [wrap_id])
  refine J _ _ _ _ ?_; clear J
  refine DR.call (args := [iA k, iA j]) rfl rfl rfl (by simp) rfl (below_any _ (hh.app (by simp)) k j) ?_
  refine DR.go fun K J => ?_
  simp [hg]
  try (simp (disch := omega) only [wrap_id])
  refine J _ _ _ _ ?_; clear J
  refine DR.call (args := [u.av, iA (depth + belowZ k j), iA vars, iA params, iA metas, iA levels]) rfl rfl rfl (by simp) rfl hrec ?_
  refine DR.go fun K J => ?_
  simp
  try (simp (disch := omega) only [wrap_id])
  refine J _ _ _ _ ?_; clear J
  change Run _ _ _ _ _ _ _ _
  refine nv ?_
  refine Run.reg fun K J => ?_
  simp
  try (simp (disch := omega) only [wrap_id])
  refine J _ _ _ (nv ?_); clear J
  by_cases h6 : e = 0
  ·refine nv ?_
   refine cf (by simp [h6]) (nv ?_)
   refine Run.reg fun K J => ?_
   simp
   try (simp (disch := omega) only [wrap_id])
   refine J _ _ _ (nv ?_); clear J
   refine IH2 (j + 1) _ _ ⟨by omega, by rw [hck, firstE_snoc, hall, if_pos rfl, h6]⟩ (by omega) ?_ rfl
   simp
   repeat' first | exact wn | apply wc | exact wj _ | exact wr _ | exact wz _ | exact wo _ _ _ | exact wi (by omega)
  ·refine nv ?_
   refine ct (by simp [h6]) (nv ?_)
   repeat (first | refine nw ?_ | (refine Run.reg fun K J => ?_; simp; (try (simp (disch := omega) only [wrap_id])); refine J _ _ _ ?_; clear J) | refine ct rfl ?_ | refine cf rfl ?_ | refine Run.exit rfl ?_ | refine Run.ret ?_)
   have hst : firstE (chkL vars params metas levels k depth 0 ks) = e := by
    have e1 : firstE ((chkL vars params metas levels k depth 0 ks).take (j + 1)) = e := by rw [hck, firstE_snoc, hall, if_pos rfl]
    rw [firstE_stop (j := j + 1) (by rw [e1]; exact h6), e1]
   exact Fin.ret' (by simp) rfl hh rfl rfl rfl (Weak.refl _) rfl ⟨by simp [hst], rfl⟩
 have hje : j = ks.length := by omega
 subst hje
 rw [chkL_take, List.take_length] at hall
 refine nv ?_
 refine cf (by simp) (nv ?_)
 refine Run.exit rfl ?_
 refine nv ?_
 repeat (first | refine nw ?_ | (refine Run.reg fun K J => ?_; simp; (try (simp (disch := omega) only [wrap_id])); refine J _ _ _ ?_; clear J) | refine ct rfl ?_ | refine cf rfl ?_ | refine Run.exit rfl ?_ | refine Run.ret ?_)
 exact Fin.ret' (by simp) rfl hh rfl rfl rfl (Weak.refl _) rfl ⟨by simp [hall], rfl⟩

end Go.Proofs.YtfajdeofhioakaaGreat
