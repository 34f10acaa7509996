import Derived.Laws.Strings
import Derived.Test.YtfajdeofhioakaaGreatAD
set_option maxRecDepth 8000
set_option maxHeartbeats 4000000

namespace Go.Proofs.YtfajdeofhioakaaGreat

open Go Go.AI
def sameVar (a b : Int × Int) : Bool := a.1 == b.1 && a.2 == b.2
abbrev varsAt (xs ys : List (Int × Int)) (j : Nat) : Bool := match xs[j]?, ys[j]? with | some u, some v => sameVar u v | _, _ => true
def sameLv (a b : Lv) : Bool :=
 !(a.c != b.c || (a.vars.length : Int) != b.vars.length) && allTo (varsAt a.vars b.vars) a.vars.length
theorem sameLv_any (h : Heap) (hh : WF h) (a b : Lv) (hb : a.vars.length ≤ 1048576) : ACalls Tryz.prog 111 [a.av, b.av] h fun o h' => o = .ret (bA (sameLv a b)) ∧ h' = h := by
 obtain ⟨c, vs⟩ := a
 obtain ⟨c', vs'⟩ := b
 simp only at hb
 simp only [Lv.av, Lv.cells, List.map]
 refine ACalls.of_run Tryz.func111 rfl ?_
 simp only [Tryz.ntmps111, List.length_cons, List.length_nil]
 refine nv ?_
 refine Run.reg fun K J => ?_
 simp
 try (simp (disch := omega) only [wrap_id])
 refine J _ _ _ (nv ?_); clear J
 refine Run.regJ [2, 3] 19 (c != c' || (vs.length : Int) != vs'.length) (fun K J => ?_) ?_
 ·simp
  repeat' (first | apply And.intro | intro _)
  all_goals
   try (simp (disch := omega) only [wrap_id])
   refine J _ ?_
   simp
   repeat' first | exact wn | apply wc
   all_goals first | exact Weak.junk _ | (refine Weak.bool ?_; clear J; rw [Bool.eq_iff_iff]; simp; done) | (refine Weak.bool ?_; clear J; rw [Bool.eq_iff_iff]; simp; omega) | (refine Weak.bool ?_; clear J; simp_all; done) | (refine Weak.bool ?_; clear J; simp [*]; done) | (refine Weak.bool ?_; clear J; rw [Bool.eq_iff_iff]; simp [*]; omega) | exact Weak.refl _
 simp only [setMany, keepT, keepT.go, List.contains_cons, List.set_cons_succ, List.set_cons_zero]
 simp
 refine Run.condB rfl (fun h0 => ?_) (fun h0 => ?_)
 ·repeat (first | refine nw ?_ | (refine Run.reg fun K J => ?_; simp; (try (simp (disch := omega) only [wrap_id])); refine J _ _ _ ?_; clear J) | refine ct rfl ?_ | refine cf rfl ?_ | refine Run.exit rfl ?_ | refine Run.ret ?_)
  exact Fin.ret' (by simp) rfl hh rfl rfl rfl (Weak.refl _) rfl ⟨by simp only [sameLv, h0]; simp, rfl⟩
 ·have hl : vs.length = vs'.length := by simp at h0; omega
  refine nv ?_
  refine Run.reg fun K J => ?_
  simp
  try (simp (disch := omega) only [wrap_id])
  refine J _ _ _ (nv ?_); clear J
  refine Run.loopS [2, 3] (fun j : Nat => j ≤ vs.length ∧ allTo (varsAt vs vs') j = true) (fun j => vs.length - j) (fun j => [(5, iA j)]) (fun _ => _) 0 (by simp [allTo]) ?_ rfl ?_
  ·simp
   repeat' first | exact wn | apply wc | exact wj _ | exact wr _ | exact wz _ | exact wo _ _ _ | exact wi (by omega)
  ·rintro j ⟨hj, hall⟩ IH
   simp
   refine nv ?_
   refine Run.reg fun K J => ?_
   simp
   try (simp (disch := omega) only [wrap_id])
   refine J _ _ _ (nv ?_); clear J
   by_cases hjl : j < vs.length
   ·have hg : vs[j]? = some vs[j] := List.getElem?_eq_getElem hjl
    have hg' : vs'[j]? = some vs'[j] := List.getElem?_eq_getElem (by omega)
    obtain ⟨⟨x, y⟩, hxy⟩ : ∃ p, vs[j] = p := ⟨_, rfl⟩
    obtain ⟨⟨x', y'⟩, hxy'⟩ : ∃ p, vs'[j]'(by omega) = p := ⟨_, rfl⟩
    rw [hxy] at hg
    rw [hxy'] at hg'
    refine nv ?_
    refine ct (by simp [hjl]) (nv ?_)
    refine Run.draw [0, 0, 0, 0, 0, 0, 0, 0, 0, 0, 0] [0, 0, 0, 0, 0, 0, 0, 0, 0, 0, 0] [0, 1, 0, 7, 15, 0, 32, 0, 224, 480, 1023] [0, 1, 2, 3, 4, 5, 6, 7, 8, 9, 10] (by kernel_rfl) (by kernel_rfl) ?_
    refine DR.go fun K J => ?_
    simp [hg, hg']
    try (simp (disch := omega) only [wrap_id])
    refine J _ _ _ _ ?_; clear J
    change Run _ _ _ _ _ _ _ _
    refine nv ?_
    refine Run.condB rfl (fun h1 => ?_) (fun h1 => ?_)
    ·repeat (first | refine nw ?_ | (refine Run.reg fun K J => ?_; simp; (try (simp (disch := omega) only [wrap_id])); refine J _ _ _ ?_; clear J) | refine ct rfl ?_ | refine cf rfl ?_ | refine Run.exit rfl ?_ | refine Run.ret ?_)
     have h2 : sameVar (x, y) (x', y') = false := by simp only [sameVar]; simp at h1 ⊢; omega
     have := allTo_false (p := varsAt vs vs') hjl (by simp only [varsAt, hg, hg', h2])
     exact Fin.ret' (by simp) rfl hh rfl rfl rfl (Weak.refl _) rfl ⟨by simp only [sameLv, this]; simp, rfl⟩
    ·refine nv ?_
     refine Run.reg fun K J => ?_
     simp
     try (simp (disch := omega) only [wrap_id])
     refine J _ _ _ (nv ?_); clear J
     have h2 : sameVar (x, y) (x', y') = true := by simpa [sameVar] using h1
     refine IH (j + 1) _ _ ⟨by omega, by rw [allTo_succ, hall]; simp only [varsAt, hg, hg', h2]; rfl⟩ (by omega) ?_ rfl
     simp
     repeat' first | exact wn | apply wc | exact wj _ | exact wr _ | exact wz _ | exact wo _ _ _ | exact wi (by omega)
   ·have hje : j = vs.length := by omega
    subst hje
    refine nv ?_
    refine cf (by simp) (nv ?_)
    refine Run.exit rfl ?_
    refine nv ?_
    repeat (first | refine nw ?_ | (refine Run.reg fun K J => ?_; simp; (try (simp (disch := omega) only [wrap_id])); refine J _ _ _ ?_; clear J) | refine ct rfl ?_ | refine cf rfl ?_ | refine Run.exit rfl ?_ | refine Run.ret ?_)
    exact Fin.ret' (by simp) rfl hh rfl rfl rfl (Weak.refl _) rfl ⟨by simp only [sameLv, h0, hall]; simp, rfl⟩
abbrev lvsAt (xs ys : List Lv) (j : Nat) : Bool := match xs[j]?, ys[j]? with | some u, some v => sameLv u v | _, _ => true
def sameLvs (xs ys : List Lv) : Bool :=
 !((xs.length : Int) != ys.length) && allTo (lvsAt xs ys) xs.length
@[simp] theorem take_lc2 (t : Lv) : List.take 2 (List.map AV.p t.cells) = List.map AV.p t.cells := take_lcells t
theorem sameLvs_any (h : Heap) (hh : WF h) (xs ys : List Lv) (hb : xs.length ≤ 1048576) (hbv : ∀ l ∈ xs, l.vars.length ≤ 1048576) : ACalls Tryz.prog 65 [.p (.sl 2 (lvPs xs)), .p (.sl 2 (lvPs ys))] h fun o h' => o = .ret (bA (sameLvs xs ys)) ∧ h' = h := by
 refine ACalls.of_run Tryz.func65 rfl ?_
 simp only [Tryz.ntmps65, List.length_cons, List.length_nil]
 refine nv ?_
 refine Run.reg fun K J => ?_
 simp
 try (simp (disch := omega) only [wrap_id])
 refine J _ _ _ (nv ?_); clear J
 refine Run.reg fun K J => ?_
 simp
 try (simp (disch := omega) only [wrap_id])
 refine J _ _ _ (nv ?_); clear J
 by_cases hl : xs.length = ys.length
 ·have h0 : ((xs.length : Int) != ys.length) = false := by simp [hl]
  refine nv ?_
  refine cf (by simp [hl]) (nv ?_)
  refine Run.reg fun K J => ?_
  simp
  try (simp (disch := omega) only [wrap_id])
  refine J _ _ _ (nv ?_); clear J
  refine Run.loopS [0, 1] (fun j : Nat => j ≤ xs.length ∧ allTo (lvsAt xs ys) j = true) (fun j => xs.length - j) (fun j => [(5, iA j)]) (fun _ => _) 0 (by simp [allTo]) ?_ rfl ?_
  ·simp
   repeat' first | exact wn | apply wc | exact wj _ | exact wr _ | exact wz _ | exact wo _ _ _ | exact wi (by omega)
  ·rintro j ⟨hj, hall⟩ IH
   simp
   refine nv ?_
   refine Run.reg fun K J => ?_
   simp
   try (simp (disch := omega) only [wrap_id])
   refine J _ _ _ (nv ?_); clear J
   by_cases hjl : j < xs.length
   ·have hg : xs[j]? = some xs[j] := List.getElem?_eq_getElem hjl
    have hg' : ys[j]? = some ys[j] := List.getElem?_eq_getElem (by omega)
    have hv := hbv _ (List.getElem_mem hjl)
    generalize xs[j] = u at hg hv
    generalize ys[j]'(by omega) = v at hg'
    refine nv ?_
    refine ct (by simp [hjl]) (nv ?_)
    refine Run.draw [0, 0, 0, 0, 0, 0, 0, 0, 0, 1] [0, 0, 0, 0, 0, 0, 0, 0, 0, 0] [0, 0, 3, 7, 0, 0, 48, 112, 255, 511] [0, 1, 2, 3, 4, 5, 6, 7, 8, 9] (by kernel_rfl) (by kernel_rfl) ?_
    refine DR.go fun K J => ?_
    simp [hg, hg']
    try (simp (disch := omega) only [wrap_id])
    refine J _ _ _ _ ?_; clear J
    refine DR.call (args := [u.av, v.av]) rfl rfl rfl (by simp) rfl (sameLv_any h hh u v hv) ?_
    refine DR.go fun K J => ?_
    simp
    try (simp (disch := omega) only [wrap_id])
    refine J _ _ _ _ ?_; clear J
    change Run _ _ _ _ _ _ _ _
    refine nv ?_
    refine Run.condB rfl (fun h1 => ?_) (fun h1 => ?_)
    ·repeat (first | refine nw ?_ | (refine Run.reg fun K J => ?_; simp; (try (simp (disch := omega) only [wrap_id])); refine J _ _ _ ?_; clear J) | refine ct rfl ?_ | refine cf rfl ?_ | refine Run.exit rfl ?_ | refine Run.ret ?_)
     have h2 : sameLv u v = false := by simpa using h1
     have := allTo_false (p := lvsAt xs ys) hjl (by simp only [lvsAt, hg, hg', h2])
     exact Fin.ret' (by simp) rfl hh (List.append_nil _).symm rfl rfl (Weak.refl _) rfl ⟨by simp only [sameLvs, this]; simp, rfl⟩
    ·refine nv ?_
     refine Run.reg fun K J => ?_
     simp
     try (simp (disch := omega) only [wrap_id])
     refine J _ _ _ (nv ?_); clear J
     have h2 : sameLv u v = true := by simpa using h1
     refine IH (j + 1) _ _ ⟨by omega, by rw [allTo_succ, hall]; simp only [lvsAt, hg, hg', h2]; rfl⟩ (by omega) ?_ rfl
     simp
     repeat' first | exact wn | apply wc | exact wj _ | exact wr _ | exact wz _ | exact wo _ _ _ | exact wi (by omega)
   ·have hje : j = xs.length := by omega
    subst hje
    refine nv ?_
    refine cf (by simp) (nv ?_)
    refine Run.exit rfl ?_
    refine nv ?_
    repeat (first | refine nw ?_ | (refine Run.reg fun K J => ?_; simp; (try (simp (disch := omega) only [wrap_id])); refine J _ _ _ ?_; clear J) | refine ct rfl ?_ | refine cf rfl ?_ | refine Run.exit rfl ?_ | refine Run.ret ?_)
    exact Fin.ret' (by simp) rfl hh (List.append_nil _).symm rfl rfl (Weak.refl _) rfl ⟨by simp only [sameLvs, h0, hall]; simp, rfl⟩
 ·have h0 : ((xs.length : Int) != ys.length) = true := by simp; omega
  have hl' : ¬ (xs.length : Int) = ys.length := by omega
  refine nv ?_
  refine ct (by simp [hl']) (nv ?_)
  repeat (first | refine nw ?_ | (refine Run.reg fun K J => ?_; simp; (try (simp (disch := omega) only [wrap_id])); refine J _ _ _ ?_; clear J) | refine ct rfl ?_ | refine cf rfl ?_ | refine Run.exit rfl ?_ | refine Run.ret ?_)
  exact Fin.ret' (by simp) rfl hh (List.append_nil _).symm rfl rfl (Weak.refl _) rfl ⟨by simp only [sameLvs, h0]; simp, rfl⟩
def sameHead (a b : Tm) : Bool :=
 !(a.kind != b.kind || a.index != b.index || !(a.name == b.name) || !sameLvs a.levels b.levels || (a.kids.length : Int) != b.kids.length)

mutual
def sameT : Tm → Tm → Bool
 | .mk k i n ls ks, .mk k' i' n' ls' ks' => sameHead (.mk k i n ls ks) (.mk k' i' n' ls' ks') && sameTs ks ks'
def sameTs : List Tm → List Tm → Bool
 | a :: xs, b :: ys => sameT a b && sameTs xs ys
 | _, _ => true
end
abbrev tmsAt (xs ys : List Tm) (j : Nat) : Bool := match xs[j]?, ys[j]? with | some u, some v => sameT u v | _, _ => true
theorem sameTs_at : ∀ (xs ys : List Tm), sameTs xs ys = allTo (tmsAt xs ys) xs.length
 | [], ys => by simp [sameTs, allTo]
 | x :: xs, [] => by simp only [sameTs]; symm; rw [allTo_iff]; intro j _; simp [tmsAt]
 | x :: xs, y :: ys => by
  simp only [sameTs, sameTs_at xs ys]
  rw [Bool.eq_iff_iff, Bool.and_eq_true, allTo_iff, allTo_iff]
  constructor
  ·rintro ⟨h1, h2⟩ j hj
   cases j with
   | zero => simpa [tmsAt] using h1
   | succ j => simpa [tmsAt] using h2 j (by simpa using hj)
  ·intro h
   exact ⟨by simpa [tmsAt] using h 0 (by simp), fun j hj => by simpa [tmsAt] using h (j + 1) (by simpa using hj)⟩

mutual
def Tm.lvs : Tm → Prop
 | .mk _ _ _ ls ks => ls.length ≤ 1048576 ∧ (∀ l ∈ ls, l.vars.length ≤ 1048576) ∧ Tm.lvss ks
def Tm.lvss : List Tm → Prop
 | [] => True
 | t :: ts => t.lvs ∧ Tm.lvss ts
end
theorem Tm.lvss_at {l : List Tm} (h : Tm.lvss l) : ∀ t ∈ l, t.lvs := by
 induction l with
 | nil => intro t ht; cases ht
 | cons x l ih =>
  simp only [Tm.lvss] at h
  intro t ht
  cases List.mem_cons.1 ht with
  | inl e => subst e; exact h.1
  | inr e => exact ih h.2 t e
theorem same_any (N : Nat) : ∀ (a b : Tm) (h : Heap), a.size ≤ N → a.size ≤ 1099511627776 → a.lvs → WF h → ACalls Tryz.prog 20 [a.av, b.av] h fun o h' => o = .ret (bA (sameT a b)) ∧ h' = h := by
 induction N with
 | zero => intro t _ h hN; cases t; simp [Tm.size] at hN
 | succ N ih =>
 intro a b h hN hsz hlv hh
 obtain ⟨k, i, n, ls, ks⟩ := a
 obtain ⟨k', i', n', ls', ks'⟩ := b
 simp only [Tm.size] at hN hsz
 have hll := length_le_sizes ks
 simp only [Tm.lvs] at hlv
 have hlvs := sameLvs_any (h ++ [some (.cells [iA k, iA i, .p (sP n), .p (.sl 2 (lvPs ls)), .p (.sl 5 (tmPs ks))]), some (.cells [iA k', iA i', .p (sP n'), .p (.sl 2 (lvPs ls')), .p (.sl 5 (tmPs ks'))])]) (hh.app (by simp)) ls ls' hlv.1 hlv.2.1
 refine ACalls.of_run Tryz.func20 rfl ?_
 simp only [Tryz.ntmps20, List.length_cons, List.length_nil, Tm.av, cells_mk, List.map]
 refine nv ?_
 refine Run.reg fun K J => ?_
 simp
 try (simp (disch := omega) only [wrap_id])
 refine J _ _ _ (nv ?_); clear J
 have hcase : (k != k') = true ∨ ((k != k') = false ∧ (i != i') = true) ∨ ((k != k') = false ∧ (i != i') = false ∧ (n == n') = false) ∨ ((k != k') = false ∧ (i != i') = false ∧ (n == n') = true) := by
  cases k != k' <;> cases i != i' <;> cases (n == n') <;> simp
 have no : sameHead (.mk k i n ls ks) (.mk k' i' n' ls' ks') = false → sameT (.mk k i n ls ks) (.mk k' i' n' ls' ks') = false := fun e => by simp only [sameT, e]; rfl
 rcases hcase with c1 | ⟨c1, c2⟩ | ⟨c1, c2, c3⟩ | ⟨c1, c2, c3⟩
 ·have := no (by simp only [sameHead, Tm.kind, c1]; rfl)
  refine nv ?_
  refine Run.reg fun K J => ?_
  simp [c1]
  try (simp (disch := omega) only [wrap_id])
  refine J _ _ _ (nv ?_); clear J
  repeat (first | refine nw ?_ | (refine Run.reg fun K J => ?_; simp; (try (simp (disch := omega) only [wrap_id])); refine J _ _ _ ?_; clear J) | refine ct rfl ?_ | refine cf rfl ?_ | refine Run.exit rfl ?_ | refine Run.ret ?_)
  exact Fin.ret' (by simp) rfl hh rfl rfl rfl (Weak.refl _) rfl ⟨by rw [this]; rfl, rfl⟩
 ·have := no (by simp only [sameHead, Tm.kind, Tm.index, c1, c2]; rfl)
  refine nv ?_
  refine Run.reg fun K J => ?_
  simp [c1, c2]
  try (simp (disch := omega) only [wrap_id])
  refine J _ _ _ (nv ?_); clear J
  repeat (first | refine nw ?_ | (refine Run.reg fun K J => ?_; simp; (try (simp (disch := omega) only [wrap_id])); refine J _ _ _ ?_; clear J) | refine ct rfl ?_ | refine cf rfl ?_ | refine Run.exit rfl ?_ | refine Run.ret ?_)
  exact Fin.ret' (by simp) rfl hh rfl rfl rfl (Weak.refl _) rfl ⟨by rw [this]; rfl, rfl⟩
 ·have := no (by simp only [sameHead, Tm.kind, Tm.index, Tm.name, c1, c2, c3]; rfl)
  refine nv ?_
  refine Run.reg fun K J => ?_
  simp [c1, c2, c3]
  try (simp (disch := omega) only [wrap_id])
  refine J _ _ _ (nv ?_); clear J
  repeat (first | refine nw ?_ | (refine Run.reg fun K J => ?_; simp; (try (simp (disch := omega) only [wrap_id])); refine J _ _ _ ?_; clear J) | refine ct rfl ?_ | refine cf rfl ?_ | refine Run.exit rfl ?_ | refine Run.ret ?_)
  exact Fin.ret' (by simp) rfl hh rfl rfl rfl (Weak.refl _) rfl ⟨by rw [this]; rfl, rfl⟩
 ·have hd0 : sameHead (.mk k i n ls ks) (.mk k' i' n' ls' ks') = !(!sameLvs ls ls' || (ks.length : Int) != ks'.length) := by
   simp only [sameHead, Tm.kind, Tm.index, Tm.name, Tm.levels, Tm.kids, c1, c2, c3, Bool.false_or, Bool.not_true]
  refine nv ?_
  refine Run.reg fun K J => ?_
  simp [c1, c2, c3]
  try (simp (disch := omega) only [wrap_id])
  refine J _ _ _ (nv ?_); clear J
  refine Run.call rfl (by simp) (by simp) rfl hlvs ?_ ?_
  ·rintro v h' ⟨hv, rfl⟩
   simp only [AOut.ret.injEq] at hv
   subst hv
   refine Run.opsJ [2, 3] 41 (!sameLvs ls ls' || (ks.length : Int) != ks'.length) (fun K J => ?_) ?_
   ·simp
    repeat' (first | apply And.intro | intro _)
    all_goals
     try (simp (disch := omega) only [wrap_id])
     refine J _ ?_
     simp
     repeat' first | exact wn | apply wc
     all_goals first | exact Weak.junk _ | (refine Weak.bool ?_; clear J; rw [Bool.eq_iff_iff]; simp; done) | (refine Weak.bool ?_; clear J; rw [Bool.eq_iff_iff]; simp; omega) | (refine Weak.bool ?_; clear J; simp_all; done) | (refine Weak.bool ?_; clear J; simp [*]; done) | (refine Weak.bool ?_; clear J; rw [Bool.eq_iff_iff]; simp [*]; omega) | exact Weak.refl _
   simp only [setMany, keepT]
   simp
   refine Run.condB rfl (fun h0 => ?_) (fun h0 => ?_)
   ·have := no (by rw [hd0, h0]; rfl)
    repeat (first | refine nw ?_ | (refine Run.reg fun K J => ?_; simp; (try (simp (disch := omega) only [wrap_id])); refine J _ _ _ ?_; clear J) | refine ct rfl ?_ | refine cf rfl ?_ | refine Run.exit rfl ?_ | refine Run.ret ?_)
    exact Fin.ret' (by simp) rfl hh rfl rfl rfl (Weak.refl _) rfl ⟨by rw [this]; rfl, rfl⟩
   ·have hl : ks.length = ks'.length := by simp at h0; omega
    have hst : sameT (.mk k i n ls ks) (.mk k' i' n' ls' ks') = sameTs ks ks' := by simp only [sameT, hd0, h0]; rfl
    rw [sameTs_at] at hst
    refine nv ?_
    refine Run.reg fun K J => ?_
    simp
    try (simp (disch := omega) only [wrap_id])
    refine J _ _ _ (nv ?_); clear J
    refine Run.loopS [2, 3] (fun j : Nat => j ≤ ks.length ∧ allTo (tmsAt ks ks') j = true) (fun j => ks.length - j) (fun j => [(5, iA j)]) (fun _ => _) 0 (by simp [allTo]) ?_ rfl ?_
    ·simp
     repeat' first | exact wn | apply wc | exact wj _ | exact wr _ | exact wz _ | exact wo _ _ _ | exact wi (by omega)
    ·rintro j ⟨hj, hall⟩ IH
     simp
     refine nv ?_
     refine Run.reg fun K J => ?_
     simp
     try (simp (disch := omega) only [wrap_id])
     refine J _ _ _ (nv ?_); clear J
     by_cases hjl : j < ks.length
     ·have hg : ks[j]? = some ks[j] := List.getElem?_eq_getElem hjl
      have hg' : ks'[j]? = some ks'[j] := List.getElem?_eq_getElem (by omega)
      have hs := kid_size hjl
      have hlj := Tm.lvss_at hlv.2.2 _ (List.getElem_mem hjl)
      generalize ks[j] = u at hg hs hlj
      generalize ks'[j]'(by omega) = v at hg'
      refine nv ?_
      refine ct (by simp [hjl]) (nv ?_)
      refine Run.draw [0, 0, 0, 0, 0, 0, 0, 0, 0, 0, 0, 1] [0, 0, 0, 0, 0, 0, 0, 0, 0, 0, 0, 0] [0, 1, 0, 7, 15, 0, 32, 0, 224, 480, 1023, 2047] [0, 1, 2, 3, 4, 5, 6, 7, 8, 9, 10, 11] (by kernel_rfl) (by kernel_rfl) ?_
      refine DR.go fun K J => ?_
      simp [hg, hg']
      try (simp (disch := omega) only [wrap_id])
      refine J _ _ _ _ ?_; clear J
      refine DR.call (args := [u.av, v.av]) rfl rfl rfl (by simp) rfl (ih u v _ (by omega) (by omega) hlj (hh.app (by simp))) ?_
      refine DR.go fun K J => ?_
      simp
      try (simp (disch := omega) only [wrap_id])
      refine J _ _ _ _ ?_; clear J
      change Run _ _ _ _ _ _ _ _
      refine nv ?_
      refine Run.condB rfl (fun h1 => ?_) (fun h1 => ?_)
      ·repeat (first | refine nw ?_ | (refine Run.reg fun K J => ?_; simp; (try (simp (disch := omega) only [wrap_id])); refine J _ _ _ ?_; clear J) | refine ct rfl ?_ | refine cf rfl ?_ | refine Run.exit rfl ?_ | refine Run.ret ?_)
       have h2 : sameT u v = false := by simpa using h1
       have := allTo_false (p := tmsAt ks ks') hjl (by simp only [tmsAt, hg, hg', h2])
       exact Fin.ret' (by simp) rfl hh rfl rfl rfl (Weak.refl _) rfl ⟨by rw [hst, this]; rfl, rfl⟩
      ·refine nv ?_
       refine Run.reg fun K J => ?_
       simp
       try (simp (disch := omega) only [wrap_id])
       refine J _ _ _ (nv ?_); clear J
       have h2 : sameT u v = true := by simpa using h1
       refine IH (j + 1) _ _ ⟨by omega, by rw [allTo_succ, hall]; simp only [tmsAt, hg, hg', h2]; rfl⟩ (by omega) ?_ rfl
       simp
       repeat' first | exact wn | apply wc | exact wj _ | exact wr _ | exact wz _ | exact wo _ _ _ | exact wi (by omega)
     ·have hje : j = ks.length := by omega
      subst hje
      refine nv ?_
      refine cf (by simp) (nv ?_)
      refine Run.exit rfl ?_
      refine nv ?_
      repeat (first | refine nw ?_ | (refine Run.reg fun K J => ?_; simp; (try (simp (disch := omega) only [wrap_id])); refine J _ _ _ ?_; clear J) | refine ct rfl ?_ | refine cf rfl ?_ | refine Run.exit rfl ?_ | refine Run.ret ?_)
      exact Fin.ret' (by simp) rfl hh rfl rfl rfl (Weak.refl _) rfl ⟨by rw [hst, hall]; rfl, rfl⟩
  ·rintro v h' ⟨hv, _⟩; cases hv

end Go.Proofs.YtfajdeofhioakaaGreat
