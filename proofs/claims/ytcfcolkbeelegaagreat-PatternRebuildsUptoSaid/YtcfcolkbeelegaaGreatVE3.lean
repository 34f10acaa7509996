import Derived.Test.YtcfcolkbeelegaaGreatVD
import Derived.Test.YtcfcolkbeelegaaGreatVE1
set_option maxRecDepth 8000
set_option maxHeartbeats 8000000

namespace Go.Proofs.YtcfcolkbeelegaaGreat

open Go Go.AI

mutual
def nd1 (m : Int) : Tm → Int
 | .mk _ _ _ _ ks => 1 + nd m 0 ks
def nd (most n : Int) : List Tm → Int
 | [] => n
 | t :: ts => if most < n then n else nd most (n + nd1 (most - n) t) ts
end

mutual
theorem nd1_bound : ∀ (t : Tm) (m : Int), 1 ≤ nd1 m t ∧ nd1 m t ≤ t.size
 | .mk _ _ _ _ ks, m => by simp only [nd1, Tm.size]; have := nd_bound ks m 0; omega
theorem nd_bound : ∀ (l : List Tm) (m n : Int), n ≤ nd m n l ∧ nd m n l ≤ n + Tm.sizes l
 | [], m, n => by simp [nd, Tm.sizes]
 | t :: ts, m, n => by
  simp only [nd, Tm.sizes]
  split
  ·omega
  ·have h1 := nd1_bound t (m - n); have h2 := nd_bound ts m (n + nd1 (m - n) t); omega
end

mutual
theorem nd1_exact : ∀ (t : Tm) (m : Int), nd1 m t ≤ m + 1 → nd1 m t = t.size
 | .mk _ _ _ _ ks, m, h => by simp only [nd1, Tm.size] at h ⊢; have := nd_exact ks m 0 (by omega); omega
theorem nd_exact : ∀ (l : List Tm) (m n : Int), nd m n l ≤ m → nd m n l = n + Tm.sizes l
 | [], m, n, h => by simp [nd, Tm.sizes]
 | t :: ts, m, n, h => by
  simp only [nd, Tm.sizes] at h ⊢
  split at h
  ·omega
  ·rename_i hn
   rw [if_neg hn]
   have h2 := nd_exact ts m _ h
   have h3 := nd_bound ts m (n + nd1 (m - n) t)
   have h4 := nd1_exact t (m - n) (by omega)
   omega
end
theorem drop_at {α : Type} {l : List α} {j : Nat} {x : α} (h : l[j]? = some x) : l.drop j = x :: l.drop (j + 1) := by
 obtain ⟨hj, rfl⟩ := List.getElem?_eq_some_iff.1 h
 exact List.drop_eq_getElem_cons hj
theorem nodes_any (N : Nat) : ∀ (l : List Tm) (most : Int) (h : Heap), Tm.sizes l ≤ N → Tm.sizes l ≤ 1099511627776 → -1099511627776 ≤ most → most ≤ 1099511627776 → WF h →
  ACalls Tryz.prog 63 [iA most, .p (.sl 5 (tmPs l))] h fun o h' => o = .ret (iA (nd most 0 l)) ∧ h' = h := by
 induction N with
 | zero =>
  intro l most h hN hsz hm1 hm2 hh
  cases l with
  | cons x l => have := x.size_pos; simp only [Tm.sizes] at hN; omega
  | nil =>
  refine ACalls.of_run Tryz.func63 rfl ?_
  simp only [Tryz.ntmps63, List.length_cons, List.length_nil]
  refine nv ?_
  refine Run.reg fun K J => ?_
  simp
  refine J _ _ _ (nv ?_); clear J
  refine Run.reg fun K J => ?_
  simp
  refine J _ _ _ (nv ?_); clear J
  refine Run.reg fun K J => ?_
  simp
  refine J _ _ _ (nv ?_); clear J
  refine Run.loopS [0, 1, 5, 8, 9] (fun _ : Unit => True) (fun _ => 0) (fun _ => [(10, iA 0)]) (fun _ => _) () trivial ?_ rfl ?_
  ·simp [tmPs]
   repeat' first | exact wn | apply wc | exact wj _ | exact wr _ | exact wz _ | exact wo _ _ _ | exact wi (by omega)
  ·intro _ _ _
   simp
   repeat (first | refine nw ?_ | (refine Run.reg fun K J => ?_; simp; (try (simp (disch := omega) only [wrap_id])); refine J _ _ _ ?_; clear J) | refine ct rfl ?_ | refine cf rfl ?_ | refine Run.exit rfl ?_ | refine Run.ret ?_)
   exact Fin.ret' (by simp) rfl hh (List.append_nil _).symm rfl rfl (Weak.refl _) rfl ⟨rfl, rfl⟩
 | succ N ih =>
 intro l most h hN hsz hm1 hm2 hh
 have hll := length_le_sizes l
 refine ACalls.of_run Tryz.func63 rfl ?_
 simp only [Tryz.ntmps63, List.length_cons, List.length_nil]
 refine nv ?_
 refine Run.reg fun K J => ?_
 simp
 refine J _ _ _ (nv ?_); clear J
 refine Run.reg fun K J => ?_
 simp
 refine J _ _ _ (nv ?_); clear J
 refine Run.reg fun K J => ?_
 simp
 refine J _ _ _ (nv ?_); clear J
 refine Run.loopS (ι := Nat × Int) [0, 1, 8, 9] (fun p => p.1 ≤ l.length ∧ 0 ≤ p.2 ∧ p.2 ≤ Tm.sizes (l.take p.1) ∧ nd most 0 l = nd most p.2 (l.drop p.1)) (fun p => l.length - p.1) (fun p => [(5, iA p.2), (10, iA p.1)]) (fun _ => _) (0, 0) (by simp [Tm.sizes]) ?_ rfl ?_
 ·simp
  repeat' first | exact wn | apply wc | exact wj _ | exact wr _ | exact wz _ | exact wo _ _ _ | exact wi (by omega)
 ·rintro ⟨j, n⟩ ⟨hj, hn0, hn1, hnd⟩ IH
  simp only at hj hn0 hn1 hnd
  have hst := sizes_take_le l j
  simp
  refine nv ?_
  refine Run.reg fun K J => ?_
  simp
  refine J _ _ _ (nv ?_); clear J
  by_cases hjl : j < l.length
  ·have hg : l[j]? = some l[j] := List.getElem?_eq_getElem hjl
   have hst2 := sizes_take l j _ hg
   have hst3 := sizes_take_le l (j + 1)
   rw [drop_at hg] at hnd
   generalize l[j] = u at hg hst2 hnd
   obtain ⟨k, i, nm, ls, ks⟩ := u
   simp only [Tm.size] at hst2
   refine ct (by simp [hjl]) (nv ?_)
   refine Run.reg fun K J => ?_
   simp [hg]
   refine J _ _ _ (nv ?_); clear J
   refine Run.reg fun K J => ?_
   simp
   refine J _ _ _ (nv ?_); clear J
   by_cases hmn : most < n
   ·skip
    refine ct (by simp [hmn]) (nv ?_)
    repeat (first | refine nw ?_ | (refine Run.reg fun K J => ?_; simp; (try (simp (disch := omega) only [wrap_id])); refine J _ _ _ ?_; clear J) | refine ct rfl ?_ | refine cf rfl ?_ | refine Run.exit rfl ?_ | refine Run.ret ?_)
    refine Fin.ret' (by simp) rfl hh rfl rfl rfl (Weak.refl _) rfl ⟨?_, rfl⟩
    rw [hnd, nd, if_pos hmn]; rfl
   ·skip
    refine cf (by simp [hmn]) (nv ?_)
    refine Run.reg fun K J => ?_
    simp
    try (simp (disch := omega) only [wrap_id])
    refine J _ _ _ ?_; clear J
    have hb := nd_bound ks (most - n) 0
    refine Run.call (args := [iA (most - n), .p (.sl 5 (tmPs ks))]) rfl rfl (by simp) rfl (ih ks (most - n) _ (by omega) (by omega) (by omega) (by omega) (hh.app (by simp))) ?_ ?_
    ·rintro v h' ⟨hv, rfl⟩
     simp only [AOut.ret.injEq] at hv
     subst hv
     refine Run.ops fun K J => ?_
     simp
     try (simp (disch := omega) only [wrap_id])
     refine J _ _ _ (nv ?_); clear J
     refine Run.reg fun K J => ?_
     simp
     try (simp (disch := omega) only [wrap_id])
     refine J _ _ _ (nv ?_); clear J
     refine Run.keep [0, 1, 5, 8, 9, 10] ?_
     simp
     refine Run.cutAt 0 hh rfl (by omega) (by simp) (by simp) (by simp) rfl ?_
     refine IH (j + 1, n + (1 + nd (most - n) 0 ks)) _ _ ⟨by simp only; omega, by simp only; omega, by simp only; omega, ?_⟩ (by simp only; omega) ?_ (by simp)
     ·rw [hnd, nd, if_neg hmn]; rfl
     ·simp
      repeat' first | exact wn | apply wc | exact wj _ | exact wr _ | exact wz _ | exact wo _ _ _ | exact wi (by omega)
    ·rintro v h' ⟨hv, _⟩; cases hv
  ·have hje : j = l.length := by omega
   subst hje
   refine cf (by simp) ?_
   refine Run.exit rfl ?_
   refine nv ?_
   repeat (first | refine nw ?_ | (refine Run.reg fun K J => ?_; simp; (try (simp (disch := omega) only [wrap_id])); refine J _ _ _ ?_; clear J) | refine ct rfl ?_ | refine cf rfl ?_ | refine Run.exit rfl ?_ | refine Run.ret ?_)
   refine Fin.ret' (by simp) rfl hh (List.append_nil _).symm rfl rfl (Weak.refl _) rfl ⟨?_, rfl⟩
   rw [hnd, List.drop_length]; rfl
def longAt (ls : List Lv) (j : Nat) : Bool := match ls[j]? with | some l => !decide (20 < (l.vars.length : Int)) | none => true
def anyLong (ls : List Lv) : Bool := !allTo (longAt ls) ls.length
theorem few1_any (h : Heap) (hh : WF h) (l : Lv) : ACalls Tryz.prog 91 [l.av] h fun o h' => o = .ret (bA (decide (20 < (l.vars.length : Int)))) ∧ h' = h := by
 obtain ⟨c, vs⟩ := l
 simp only [Lv.av, Lv.cells, List.map]
 refine ACalls.of_run Tryz.func91 rfl ?_
 simp only [Tryz.ntmps91, List.length_cons, List.length_nil]
 refine nv ?_
 repeat (first | refine nw ?_ | (refine Run.reg fun K J => ?_; simp; (try (simp (disch := omega) only [wrap_id])); refine J _ _ _ ?_; clear J) | refine ct rfl ?_ | refine cf rfl ?_ | refine Run.exit rfl ?_ | refine Run.ret ?_)
 exact Fin.ret' (by simp) rfl hh rfl rfl rfl (Weak.refl _) rfl ⟨rfl, rfl⟩
theorem index_any (h : Heap) (hh : WF h) (ls : List Lv) (hb : ls.length ≤ 1048576) : ACalls Tryz.prog 94 [.p (.sl 2 (lvPs ls)), .p (.prim (.func (.func 91) #[] #[]))] h fun o h' => ∃ r : Int, o = .ret (iA r) ∧ h' = h ∧ decide (0 ≤ r) = anyLong ls := by
 refine ACalls.of_run Tryz.func94 rfl ?_
 simp only [Tryz.ntmps94, List.length_cons, List.length_nil]
 refine nv ?_
 refine Run.reg fun K J => ?_
 simp
 refine J _ _ _ (nv ?_); clear J
 refine Run.reg fun K J => ?_
 simp
 refine J _ _ _ (nv ?_); clear J
 refine Run.loopS [0, 1, 6, 7] (fun j : Nat => j ≤ ls.length ∧ allTo (longAt ls) j = true) (fun j => ls.length - j) (fun j => [(8, iA j)]) (fun _ => _) 0 (by simp [allTo]) ?_ rfl ?_
 ·simp
  repeat' first | exact wn | apply wc | exact wj _ | exact wr _ | exact wz _ | exact wo _ _ _ | exact wi (by omega)
 ·rintro j ⟨hj, hall⟩ IH
  simp
  refine nv ?_
  refine Run.reg fun K J => ?_
  simp
  refine J _ _ _ (nv ?_); clear J
  by_cases hjl : j < ls.length
  ·have hg : ls[j]? = some ls[j] := List.getElem?_eq_getElem hjl
   generalize ls[j] = u at hg
   refine ct (by simp [hjl]) (nv ?_)
   refine Run.reg fun K J => ?_
   simp
   refine J _ _ _ (nv ?_); clear J
   refine Run.reg fun K J => ?_
   simp [hg]
   refine J _ _ _ ?_; clear J
   refine Run.call (args := [u.av]) rfl rfl (by simp) rfl (few1_any h hh u) ?_ ?_
   ·rintro v h' ⟨hv, rfl⟩
    simp only [AOut.ret.injEq] at hv
    subst hv
    refine Run.ops fun K J => ?_
    simp
    refine J _ _ _ (nv ?_); clear J
    by_cases h1 : 20 < (u.vars.length : Int)
    ·skip
     refine ct (by simp [h1]) (nv ?_)
     repeat (first | refine nw ?_ | (refine Run.reg fun K J => ?_; simp; (try (simp (disch := omega) only [wrap_id])); refine J _ _ _ ?_; clear J) | refine ct rfl ?_ | refine cf rfl ?_ | refine Run.exit rfl ?_ | refine Run.ret ?_)
     have := allTo_false (p := longAt ls) hjl (by simp only [longAt, hg]; simp [h1])
     exact Fin.ret' (by simp) rfl hh (List.append_nil _).symm rfl rfl (Weak.refl _) rfl ⟨j, rfl, rfl, by simp [anyLong, this]⟩
    ·skip
     refine cf (by simp [h1]) (nv ?_)
     refine Run.reg fun K J => ?_
     simp
     try (simp (disch := omega) only [wrap_id])
     refine J _ _ _ (nv ?_); clear J
     refine IH (j + 1) _ _ ⟨by omega, by rw [allTo_succ, hall]; simp only [longAt, hg]; simp [h1]⟩ (by omega) ?_ rfl
     simp
     repeat' first | exact wn | apply wc | exact wj _ | exact wr _ | exact wz _ | exact wo _ _ _ | exact wi (by omega)
   ·rintro v h' ⟨hv, _⟩; cases hv
  ·have hje : j = ls.length := by omega
   subst hje
   refine cf (by simp) ?_
   refine Run.exit rfl ?_
   refine nv ?_
   repeat (first | refine nw ?_ | (refine Run.reg fun K J => ?_; simp; (try (simp (disch := omega) only [wrap_id])); refine J _ _ _ ?_; clear J) | refine ct rfl ?_ | refine cf rfl ?_ | refine Run.exit rfl ?_ | refine Run.ret ?_)
   exact Fin.ret' (by simp) rfl hh (List.append_nil _).symm rfl rfl (Weak.refl _) rfl ⟨-1, rfl, rfl, by simp [anyLong, hall]⟩
theorem contains_any (h : Heap) (hh : WF h) (ls : List Lv) (hb : ls.length ≤ 1048576) : ACalls Tryz.prog 46 [.p (.sl 2 (lvPs ls)), .p (.prim (.func (.func 91) #[] #[]))] h fun o h' => o = .ret (bA (anyLong ls)) ∧ h' = h := by
 refine ACalls.of_run Tryz.func46 rfl ?_
 simp only [Tryz.ntmps46, List.length_cons, List.length_nil]
 refine nv ?_
 refine Run.reg fun K J => ?_
 simp
 refine J _ _ _ (nv ?_); clear J
 refine Run.reg fun K J => ?_
 simp
 refine J _ _ _ ?_; clear J
 refine Run.call rfl rfl (by simp) rfl (index_any h hh ls hb) ?_ ?_
 ·rintro v h' ⟨r, hv, rfl, hr⟩
  simp only [AOut.ret.injEq] at hv
  subst hv
  refine Run.ops fun K J => ?_
  simp
  refine J _ _ _ (nv ?_); clear J
  refine Run.ret ?_
  exact Fin.ret' (by simp) rfl hh (List.append_nil _).symm rfl rfl (Weak.of_eq (by simp [← hr])) rfl ⟨rfl, rfl⟩
 ·rintro v h' ⟨r, hv, _⟩; cases hv


open Go Go.AI

mutual
def few1 : Tm → Bool
 | .mk _ _ n ls ks => !decide (200 < (n.length : Int)) && !decide (20 < (ls.length : Int)) && !anyLong ls && (!decide (200 < nd 200 0 ks) && fewAll ks)
def fewAll : List Tm → Bool
 | [] => true
 | t :: ts => few1 t && fewAll ts
end
def fews (l : List Tm) : Bool := !decide (200 < nd 200 0 l) && fewAll l
def few1At (l : List Tm) (j : Nat) : Bool := match l[j]? with | some t => few1 t | none => true
theorem fewAll_at : ∀ (l : List Tm), fewAll l = allTo (few1At l) l.length
 | [] => by simp [fewAll, allTo]
 | x :: l => by
  simp only [fewAll, fewAll_at l]
  rw [Bool.eq_iff_iff, Bool.and_eq_true, allTo_iff, allTo_iff]
  constructor
  ·rintro ⟨h1, h2⟩ j hj
   cases j with
   | zero => simpa [few1At] using h1
   | succ j => simpa [few1At] using h2 j (by simpa using hj)
  ·intro h
   exact ⟨by simpa [few1At] using h 0 (by simp), fun j hj => by simpa [few1At] using h (j + 1) (by simpa using hj)⟩
theorem few_any (N : Nat) : ∀ (l : List Tm) (h : Heap), Tm.sizes l ≤ N → Tm.sizes l ≤ 1099511627776 → Tm.lvss l → WF h →
  ACalls Tryz.prog 44 [.p (.sl 5 (tmPs l))] h fun o h' => o = .ret (bA (fews l)) ∧ h' = h := by
 induction N with
 | zero =>
  intro l h hN hsz hlv hh
  cases l with
  | cons x l => have := x.size_pos; simp only [Tm.sizes] at hN; omega
  | nil =>
  have hn := nodes_any 0 [] 200 h (by simp [Tm.sizes]) (by simp [Tm.sizes]) (by omega) (by omega) hh
  refine ACalls.of_run Tryz.func44 rfl ?_
  simp only [Tryz.ntmps44, List.length_cons, List.length_nil]
  refine nv ?_
  refine Run.reg fun K J => ?_
  simp
  refine J _ _ _ (nv ?_); clear J
  refine Run.reg fun K J => ?_
  simp
  refine J _ _ _ ?_; clear J
  refine Run.call rfl rfl (by simp) rfl hn ?_ ?_
  ·rintro v h' ⟨hv, rfl⟩
   simp only [AOut.ret.injEq] at hv
   subst hv
   refine Run.ops fun K J => ?_
   simp [nd]
   refine J _ _ _ (nv ?_); clear J
   refine cf (by simp) (nv ?_)
   refine Run.reg fun K J => ?_
   simp
   refine J _ _ _ (nv ?_); clear J
   refine Run.loopS [8, 9] (fun _ : Unit => True) (fun _ => 0) (fun _ => [(10, iA 0)]) (fun _ => _) () trivial ?_ rfl ?_
   ·simp [tmPs]
    repeat' first | exact wn | apply wc | exact wj _ | exact wr _ | exact wz _ | exact wo _ _ _ | exact wi (by omega)
   ·intro _ _ _
    simp
    repeat (first | refine nw ?_ | (refine Run.reg fun K J => ?_; simp; (try (simp (disch := omega) only [wrap_id])); refine J _ _ _ ?_; clear J) | refine ct rfl ?_ | refine cf rfl ?_ | refine Run.exit rfl ?_ | refine Run.ret ?_)
    exact Fin.ret' (by simp) rfl hh (List.append_nil _).symm rfl rfl (Weak.refl _) rfl ⟨rfl, rfl⟩
  ·rintro v h' ⟨hv, _⟩; cases hv
 | succ N ih =>
 intro l h hN hsz hlv hh
 have hll := length_le_sizes l
 have hn := nodes_any (Tm.sizes l) l 200 h (Nat.le_refl _) hsz (by omega) (by omega) hh
 refine ACalls.of_run Tryz.func44 rfl ?_
 simp only [Tryz.ntmps44, List.length_cons, List.length_nil]
 refine nv ?_
 refine Run.reg fun K J => ?_
 simp
 refine J _ _ _ (nv ?_); clear J
 refine Run.reg fun K J => ?_
 simp
 refine J _ _ _ ?_; clear J
 refine Run.call rfl rfl (by simp) rfl hn ?_ ?_
 rotate_left
 ·rintro v h' ⟨hv, _⟩; cases hv
 rintro v h' ⟨hv, rfl⟩
 simp only [AOut.ret.injEq] at hv
 subst hv
 refine Run.ops fun K J => ?_
 simp
 refine J _ _ _ (nv ?_); clear J
 by_cases h0 : 200 < nd 200 0 l
 ·skip
  refine ct (by simp [h0]) (nv ?_)
  repeat (first | refine nw ?_ | (refine Run.reg fun K J => ?_; simp; (try (simp (disch := omega) only [wrap_id])); refine J _ _ _ ?_; clear J) | refine ct rfl ?_ | refine cf rfl ?_ | refine Run.exit rfl ?_ | refine Run.ret ?_)
  exact Fin.ret' (by simp) rfl hh (List.append_nil _).symm rfl rfl (Weak.refl _) rfl ⟨by simp [fews, h0], rfl⟩
 have hfew : fews l = allTo (few1At l) l.length := by simp only [fews, h0, fewAll_at]; simp
 rw [hfew]
 refine cf (by simp [h0]) (nv ?_)
 refine Run.reg fun K J => ?_
 simp
 refine J _ _ _ (nv ?_); clear J
 refine Run.loopS [8, 9] (fun j : Nat => j ≤ l.length ∧ allTo (few1At l) j = true) (fun j => l.length - j) (fun j => [(10, iA j)]) (fun _ => _) 0 (by simp [allTo]) ?_ rfl ?_
 ·simp
  repeat' first | exact wn | apply wc | exact wj _ | exact wr _ | exact wz _ | exact wo _ _ _ | exact wi (by omega)
 rintro j ⟨hj, hall⟩ IH
 simp
 refine nv ?_
 refine Run.reg fun K J => ?_
 simp
 refine J _ _ _ (nv ?_); clear J
 by_cases hjl : j < l.length
 ·have hg : l[j]? = some l[j] := List.getElem?_eq_getElem hjl
  have hs := kid_size hjl
  have hlj := Tm.lvss_at hlv _ (List.getElem_mem hjl)
  generalize l[j] = u at hg hs hlj
  obtain ⟨k, i, nm, ls, ks⟩ := u
  simp only [Tm.size] at hs
  simp only [Tm.lvs] at hlj
  have no : few1 (.mk k i nm ls ks) = false → allTo (few1At l) l.length = false := fun e => allTo_false hjl (by simp only [few1At, hg, e])
  have yes : few1 (.mk k i nm ls ks) = true → allTo (few1At l) (j + 1) = true := fun e => by rw [allTo_succ, hall]; simp only [few1At, hg, e]; rfl
  refine ct (by simp [hjl]) (nv ?_)
  refine Run.reg fun K J => ?_
  simp [hg]
  refine J _ _ _ (nv ?_); clear J
  by_cases c1 : 200 < (nm.length : Int)
  ·skip
   refine Run.reg fun K J => ?_
   simp [ByteArray.size, c1]
   refine J _ _ _ (nv ?_); clear J
   repeat (first | refine nw ?_ | (refine Run.reg fun K J => ?_; simp; (try (simp (disch := omega) only [wrap_id])); refine J _ _ _ ?_; clear J) | refine ct rfl ?_ | refine cf rfl ?_ | refine Run.exit rfl ?_ | refine Run.ret ?_)
   exact Fin.ret' (by simp) rfl hh rfl rfl rfl (Weak.refl _) rfl ⟨by rw [no (by simp only [few1, c1]; rfl)]; rfl, rfl⟩
  by_cases c2 : 20 < (ls.length : Int)
  ·skip
   refine Run.reg fun K J => ?_
   simp [ByteArray.size, c1, c2]
   refine J _ _ _ (nv ?_); clear J
   repeat (first | refine nw ?_ | (refine Run.reg fun K J => ?_; simp; (try (simp (disch := omega) only [wrap_id])); refine J _ _ _ ?_; clear J) | refine ct rfl ?_ | refine cf rfl ?_ | refine Run.exit rfl ?_ | refine Run.ret ?_)
   exact Fin.ret' (by simp) rfl hh rfl rfl rfl (Weak.refl _) rfl ⟨by rw [no (by simp only [few1, c1, c2]; rfl)]; rfl, rfl⟩
  refine Run.reg fun K J => ?_
  simp [ByteArray.size, c1, c2]
  refine J _ _ _ ?_; clear J
  refine Run.call rfl (by simp) (by simp) rfl (contains_any _ (hh.app (by simp)) ls hlj.1) ?_ ?_
  rotate_left
  ·rintro v h' ⟨hv, _⟩; cases hv
  rintro v h' ⟨hv, rfl⟩
  simp only [AOut.ret.injEq] at hv
  subst hv
  cases c3 : anyLong ls with
  | true =>
   refine Run.ops fun K J => ?_
   simp
   refine J _ _ _ (nv ?_); clear J
   repeat (first | refine nw ?_ | (refine Run.reg fun K J => ?_; simp; (try (simp (disch := omega) only [wrap_id])); refine J _ _ _ ?_; clear J) | refine ct rfl ?_ | refine cf rfl ?_ | refine Run.exit rfl ?_ | refine Run.ret ?_)
   exact Fin.ret' (by simp) rfl hh rfl rfl rfl (Weak.refl _) rfl ⟨by rw [no (by simp only [few1, c1, c2, c3]; rfl)]; rfl, rfl⟩
  | false =>
   refine Run.ops fun K J => ?_
   simp
   refine J _ _ _ ?_; clear J
   refine Run.call rfl (by simp) (by simp) rfl (ih ks _ (by omega) (by omega) hlj.2.2 (hh.app (by simp))) ?_ ?_
   rotate_left
   ·rintro v h' ⟨hv, _⟩; cases hv
   rintro v h' ⟨hv, rfl⟩
   simp only [AOut.ret.injEq] at hv
   subst hv
   have hf1 : few1 (.mk k i nm ls ks) = fews ks := by simp only [few1, c1, c2, c3, fews]; rfl
   refine Run.ops fun K J => ?_
   simp
   refine J _ _ _ (nv ?_); clear J
   cases c4 : fews ks with
   | false =>
    repeat (first | refine nw ?_ | (refine Run.reg fun K J => ?_; simp; (try (simp (disch := omega) only [wrap_id])); refine J _ _ _ ?_; clear J) | refine ct rfl ?_ | refine cf rfl ?_ | refine Run.exit rfl ?_ | refine Run.ret ?_)
    exact Fin.ret' (by simp) rfl hh rfl rfl rfl (Weak.refl _) rfl ⟨by rw [no (by rw [hf1, c4])]; rfl, rfl⟩
   | true =>
    refine cf (by simp) (nv ?_)
    refine Run.reg fun K J => ?_
    simp
    try (simp (disch := omega) only [wrap_id])
    refine J _ _ _ (nv ?_); clear J
    refine Run.keep [8, 9, 10] ?_
    simp
    refine Run.cutAt 0 hh rfl (by omega) (by simp) (by simp) (by simp) rfl ?_
    refine IH (j + 1) _ _ ⟨by omega, yes (by rw [hf1, c4])⟩ (by omega) ?_ (by simp)
    simp
    repeat' first | exact wn | apply wc | exact wj _ | exact wr _ | exact wz _ | exact wo _ _ _ | exact wi (by omega)
 have hje : j = l.length := by omega
 subst hje
 refine cf (by simp) ?_
 refine Run.exit rfl ?_
 refine nv ?_
 repeat (first | refine nw ?_ | (refine Run.reg fun K J => ?_; simp; (try (simp (disch := omega) only [wrap_id])); refine J _ _ _ ?_; clear J) | refine ct rfl ?_ | refine cf rfl ?_ | refine Run.exit rfl ?_ | refine Run.ret ?_)
 exact Fin.ret' (by simp) rfl hh (List.append_nil _).symm rfl rfl (Weak.refl _) rfl ⟨by rw [hall]; rfl, rfl⟩

end Go.Proofs.YtcfcolkbeelegaaGreat
