import Derived.Test.YtcfcolkbeelegaaGreatOD
import Derived.Test.YtcfcolkbeelegaaGreatOC
import Derived.Laws.Strings
set_option maxRecDepth 8000
set_option maxHeartbeats 4000000

namespace Go.AI

open Go
theorem Run.joinA {P : Program} {rd : Option Nat} {nb : Nat} {k : List It} {T : List AV} {h : Heap} {D : List AD} {Q : AX → List AV → Heap → List AD → Prop} {c : Code} (keep : List Nat) (sets : List (Nat × AV)) (r : (∀ T', WeakL T' (setMany (keepT keep T) sets) → Run P rd nb k T' h D Q) → Run P rd nb (.code c :: k) T h D Q)
  (next : Run P rd nb k (setMany (keepT keep T) sets) h D Q) : Run P rd nb (.code c :: k) T h D Q := r fun _ hw => Run.weak hw next

end Go.AI

namespace Go.Proofs.YtcfcolkbeelegaaGreat

open Go Go.AI
abbrev use5 (a b : Bool) (l k w : Int) : List AV := [bA a, bA b, iA l, iA k, iA w]
def usesL : List AV := use5 true false 0 0 (-1) ++ use5 false false 0 0 (-1) ++ use5 false false 1 0 (-1) ++ use5 false true (-1) 0 (-1) ++ use5 false false 0 2 (-1) ++ use5 false false 0 2 1 ++ use5 false false 0 2 1 ++ use5 false false 0 2 1 ++
 use5 false false 0 3 (-1) ++ use5 false false 0 1 (-1) ++ use5 false false 0 1 (-1) ++ use5 false false 0 3 2 ++ use5 true false 0 0 (-1)
@[simp] theorem st251 : stT Tryz.prog 251 = some ((List.range 13).map fun i => (i * 5, 5)) := by kernel_rfl
theorem uses_any (h : Heap) (hh : WF h) : ACalls Tryz.prog 185 [] h fun o h' => o = .ret (.agg usesL) ∧ h' = h := by
 refine ACalls.of_run Tryz.func185 rfl ?_
 simp only [Tryz.ntmps185, List.length_nil]
 refine nv ?_
 refine Run.reg fun K hK => ?_
 simp
 refine hK _ _ _ (nv ?_); clear hK
 refine Run.reg fun K hK => ?_
 simp [List.range, List.range.loop]
 refine hK _ _ _ (nv ?_); clear hK
 refine Run.ret ?_
 exact Fin.ret' (by simp) rfl hh rfl (by simp; rfl) rfl (Weak.refl _) rfl ⟨rfl, rfl⟩
def belowK (k : Int) : Int := if k = 5 ∨ k = 6 ∨ k = 7 then 1 else if k = 11 then 2 else -1
theorem belowK_eq (k : Int) (j : Nat) : belowZ k j = if (j : Int) = belowK k then 1 else 0 := by
 unfold belowZ belowK
 split <;> split <;> (try split) <;> omega
theorem usesL_at (k : Int) (h0 : 0 ≤ k) (h1 : k < 13) : usesL[k.toNat * 5 + 4]? = some (iA (belowK k)) := by
 have : k = 0 ∨ k = 1 ∨ k = 2 ∨ k = 3 ∨ k = 4 ∨ k = 5 ∨ k = 6 ∨ k = 7 ∨ k = 8 ∨ k = 9 ∨ k = 10 ∨ k = 11 ∨ k = 12 := by omega
 rcases this with rfl | rfl | rfl | rfl | rfl | rfl | rfl | rfl | rfl | rfl | rfl | rfl | rfl <;> rfl
theorem usesL_len : usesL.length = 65 := rfl
theorem usesL_under (n : Nat) : AV.underL n usesL = true := by simp [usesL]

section

variable {σ : Type} (st : σ → Int → Tm → σ × Bool)

mutual
def vis (s : σ) (d : Int) : Tm → σ × Bool
 | .mk k i n ls ks => if (st s d (.mk k i n ls ks)).2 = true then visL (st s d (.mk k i n ls ks)).1 k d 0 ks else ((st s d (.mk k i n ls ks)).1, false)
def visL (s : σ) (k d : Int) (idx : Nat) : List Tm → σ × Bool
 | [] => (s, true)
 | t :: ts => if (vis s (d + belowZ k idx) t).2 = true then visL (vis s (d + belowZ k idx) t).1 k d (idx + 1) ts else ((vis s (d + belowZ k idx) t).1, false)
end

end
theorem visL_snoc {σ : Type} (st : σ → Int → Tm → σ × Bool) (k d : Int) : ∀ (l : List Tm) (s : σ) (idx : Nat) (t : Tm), visL st s k d idx (l ++ [t]) =
  if (visL st s k d idx l).2 = true then vis st (visL st s k d idx l).1 (d + belowZ k (idx + l.length : Nat)) t else ((visL st s k d idx l).1, false)
 | [], s, idx, t => by
  simp only [List.nil_append, visL, List.length_nil, Nat.add_zero, if_true]
  cases h : vis st s (d + belowZ k idx) t with
  | mk a b => cases b <;> simp
 | x :: l, s, idx, t => by
  simp only [List.cons_append, visL]
  rw [visL_snoc st k d l _ (idx + 1) t]
  by_cases h : (vis st s (d + belowZ k idx) x).2 = true
  ·simp only [h, if_true, List.length_cons]
   rw [show idx + 1 + l.length = idx + (l.length + 1) by omega]
  ·simp only [h, if_false, Bool.false_eq_true]
theorem visL_stop {σ : Type} (st : σ → Int → Tm → σ × Bool) (k d : Int) (s' : σ) : ∀ (l r : List Tm) (s : σ) (idx : Nat), visL st s k d idx l = (s', false) → visL st s k d idx (l ++ r) = (s', false)
 | [], r, s, idx, h => by simp [visL] at h
 | x :: l, r, s, idx, h => by
  simp only [List.cons_append, visL] at h ⊢
  by_cases hx : (vis st s (d + belowZ k idx) x).2 = true
  ·simp only [hx, if_true] at h ⊢
   exact visL_stop st k d s' l r _ (idx + 1) h
  ·simp only [hx, if_false, Bool.false_eq_true] at h ⊢
   exact h
abbrev yv (y : Nat) : AV := .fn (.yield y) [] []
abbrev vf (p2 p3 p4 : Nat) : AV := .fn (.func 186) [] [.ptr p2 0, .ptr p3 0, .ptr p4 0]


open Go Go.AI
theorem iterOf_any (h : Heap) (hh : WF h) (t : Tm) : ACalls Tryz.prog 144 [t.av] h fun o h' => o = .ret (.fn (.func 184) [] [.ptr h.length 0]) ∧ h' = h ++ [some (.cells (t.cells.map .p))] := by
 obtain ⟨k, i, nm, ls, ks⟩ := t
 refine ACalls.of_run Tryz.func144 rfl ?_
 simp only [Tryz.ntmps144, List.length_cons, List.length_nil, Tm.av, cells_mk, List.map]
 refine nv ?_
 refine Run.reg fun K hK => ?_
 simp
 refine hK _ _ _ (nv ?_); clear hK
 refine Run.reg fun K hK => ?_
 simp
 refine hK _ _ _ (nv ?_); clear hK
 refine Run.ret ?_
 refine Fin.retM (h0 := h ++ [some (.cells [iA k, iA i, .p (sP nm), .p (.sl 2 (lvPs ls)), .p (.sl 5 (tmPs ks))])]) (l := []) (by simp) (by simp) (hh.app (by simp)) (by simp) (by simp; rfl) rfl (Weak.refl _) (by simp) ⟨rfl, rfl⟩


open Go Go.AI
def sameVar (a b : Int × Int) : Bool := a.1 == b.1 && a.2 == b.2
abbrev varsAt (xs ys : List (Int × Int)) (j : Nat) : Bool := match xs[j]?, ys[j]? with | some u, some v => sameVar u v | _, _ => true
def sameLv (a b : Lv) : Bool :=
 !(a.c != b.c || (a.vars.length : Int) != b.vars.length) && allTo (varsAt a.vars b.vars) a.vars.length
theorem sameLv_any (h : Heap) (hh : WF h) (a b : Lv) (hb : a.vars.length ≤ 1048576) : ACalls Tryz.prog 117 [a.av, b.av] h fun o h' => o = .ret (bA (sameLv a b)) ∧ h' = h := by
 obtain ⟨c, vs⟩ := a
 obtain ⟨c', vs'⟩ := b
 simp only at hb
 simp only [Lv.av, Lv.cells, List.map]
 refine ACalls.of_run Tryz.func117 rfl ?_
 simp only [Tryz.ntmps117, List.length_cons, List.length_nil]
 refine nv ?_
 refine Run.reg fun K hK => ?_
 simp
 refine hK _ _ _ (nv ?_); clear hK
 refine Run.regJ [2, 3] 19 (c != c' || (vs.length : Int) != vs'.length) (fun K hK => ?_) ?_
 ·simp
  repeat' (first | apply And.intro | intro _)
  all_goals
   refine hK _ ?_
   simp
   repeat' first | exact wn | apply wc
   all_goals first | exact Weak.junk _ | (refine Weak.bool ?_; clear hK; rw [Bool.eq_iff_iff]; simp; done) | (refine Weak.bool ?_; clear hK; rw [Bool.eq_iff_iff]; simp; omega) | (refine Weak.bool ?_; clear hK; simp_all; done) | (refine Weak.bool ?_; clear hK; simp [*]; done) | (refine Weak.bool ?_; clear hK; rw [Bool.eq_iff_iff]; simp [*]; omega) | exact Weak.refl _
 simp only [setMany, keepT, keepT.go, List.contains_cons, List.set_cons_succ, List.set_cons_zero]
 simp
 refine Run.condB rfl (fun h0 => ?_) (fun h0 => ?_)
 ·repeat (first | refine nw ?_ | (refine Run.reg fun K hK => ?_; simp; (try (simp (disch := omega) only [wrap_id])); refine hK _ _ _ ?_; clear hK) | refine ct rfl ?_ | refine cf rfl ?_ | refine Run.exit rfl ?_ | refine Run.ret ?_)
  exact Fin.ret' (by simp) rfl hh rfl rfl rfl (Weak.refl _) rfl ⟨by simp only [sameLv, h0]; simp, rfl⟩
 ·have hl : vs.length = vs'.length := by simp at h0; omega
  refine nv ?_
  refine Run.reg fun K hK => ?_
  simp
  refine hK _ _ _ (nv ?_); clear hK
  refine Run.loopS [2, 3] (fun j : Nat => j ≤ vs.length ∧ allTo (varsAt vs vs') j = true) (fun j => vs.length - j) (fun j => [(5, iA j)]) (fun _ => _) 0 (by simp [allTo]) ?_ rfl ?_
  ·simp
   repeat' first | exact wn | apply wc | exact wj _ | exact wr _ | exact wz _ | exact wo _ _ _ | exact wi (by omega)
  ·rintro j ⟨hj, hall⟩ IH
   simp
   refine nv ?_
   refine Run.reg fun K hK => ?_
   simp
   refine hK _ _ _ (nv ?_); clear hK
   by_cases hjl : j < vs.length
   ·have hg : vs[j]? = some vs[j] := List.getElem?_eq_getElem hjl
    have hg' : vs'[j]? = some vs'[j] := List.getElem?_eq_getElem (by omega)
    obtain ⟨⟨x, y⟩, hxy⟩ : ∃ p, vs[j] = p := ⟨_, rfl⟩
    obtain ⟨⟨x', y'⟩, hxy'⟩ : ∃ p, vs'[j]'(by omega) = p := ⟨_, rfl⟩
    rw [hxy] at hg
    rw [hxy'] at hg'
    refine ct (by simp [hjl]) (nv ?_)
    refine Run.draw [0, 0, 0, 0, 0, 0, 0, 0, 0, 0, 0] [0, 0, 0, 0, 0, 0, 0, 0, 0, 0, 0] [0, 1, 0, 7, 15, 0, 32, 0, 224, 480, 1023] [0, 1, 2, 3, 4, 5, 6, 7, 8, 9, 10] (by kernel_rfl) (by kernel_rfl) ?_
    refine DR.go fun K hK => ?_
    simp [hg, hg']
    refine hK _ _ _ _ ?_; clear hK
    change Run _ _ _ _ _ _ _ _
    refine Run.condB rfl (fun h1 => ?_) (fun h1 => ?_)
    ·repeat (first | refine nw ?_ | (refine Run.reg fun K hK => ?_; simp; (try (simp (disch := omega) only [wrap_id])); refine hK _ _ _ ?_; clear hK) | refine ct rfl ?_ | refine cf rfl ?_ | refine Run.exit rfl ?_ | refine Run.ret ?_)
     have h2 : sameVar (x, y) (x', y') = false := by simp only [sameVar]; simp at h1 ⊢; omega
     have := allTo_false (p := varsAt vs vs') hjl (by simp only [varsAt, hg, hg', h2])
     exact Fin.ret' (by simp) rfl hh rfl rfl rfl (Weak.refl _) rfl ⟨by simp only [sameLv, this]; simp, rfl⟩
    ·refine nv ?_
     refine Run.reg fun K hK => ?_
     simp
     try (simp (disch := omega) only [wrap_id])
     refine hK _ _ _ (nv ?_); clear hK
     have h2 : sameVar (x, y) (x', y') = true := by simpa [sameVar] using h1
     refine IH (j + 1) _ _ ⟨by omega, by rw [allTo_succ, hall]; simp only [varsAt, hg, hg', h2]; rfl⟩ (by omega) ?_ rfl
     simp
     repeat' first | exact wn | apply wc | exact wj _ | exact wr _ | exact wz _ | exact wo _ _ _ | exact wi (by omega)
   ·have hje : j = vs.length := by omega
    subst hje
    refine cf (by simp) ?_
    refine Run.exit rfl ?_
    refine nv ?_
    repeat (first | refine nw ?_ | (refine Run.reg fun K hK => ?_; simp; (try (simp (disch := omega) only [wrap_id])); refine hK _ _ _ ?_; clear hK) | refine ct rfl ?_ | refine cf rfl ?_ | refine Run.exit rfl ?_ | refine Run.ret ?_)
    exact Fin.ret' (by simp) rfl hh rfl rfl rfl (Weak.refl _) rfl ⟨by simp only [sameLv, h0, hall]; simp, rfl⟩
abbrev lvsAt (xs ys : List Lv) (j : Nat) : Bool := match xs[j]?, ys[j]? with | some u, some v => sameLv u v | _, _ => true
def sameLvs (xs ys : List Lv) : Bool :=
 !((xs.length : Int) != ys.length) && allTo (lvsAt xs ys) xs.length
@[simp] theorem take_lc2 (t : Lv) : List.take 2 (List.map AV.p t.cells) = List.map AV.p t.cells := take_lcells t
theorem sameLvs_any (h : Heap) (hh : WF h) (xs ys : List Lv) (hb : xs.length ≤ 1048576) (hbv : ∀ l ∈ xs, l.vars.length ≤ 1048576) : ACalls Tryz.prog 60 [.p (.sl 2 (lvPs xs)), .p (.sl 2 (lvPs ys))] h fun o h' => o = .ret (bA (sameLvs xs ys)) ∧ h' = h := by
 refine ACalls.of_run Tryz.func60 rfl ?_
 simp only [Tryz.ntmps60, List.length_cons, List.length_nil]
 refine nv ?_
 refine Run.reg fun K hK => ?_
 simp
 refine hK _ _ _ (nv ?_); clear hK
 refine Run.reg fun K hK => ?_
 simp
 refine hK _ _ _ (nv ?_); clear hK
 by_cases hl : xs.length = ys.length
 ·have h0 : ((xs.length : Int) != ys.length) = false := by simp [hl]
  refine cf (by simp [hl]) (nv ?_)
  refine Run.reg fun K hK => ?_
  simp
  refine hK _ _ _ (nv ?_); clear hK
  refine Run.loopS [0, 1] (fun j : Nat => j ≤ xs.length ∧ allTo (lvsAt xs ys) j = true) (fun j => xs.length - j) (fun j => [(5, iA j)]) (fun _ => _) 0 (by simp [allTo]) ?_ rfl ?_
  ·simp
   repeat' first | exact wn | apply wc | exact wj _ | exact wr _ | exact wz _ | exact wo _ _ _ | exact wi (by omega)
  ·rintro j ⟨hj, hall⟩ IH
   simp
   refine nv ?_
   refine Run.reg fun K hK => ?_
   simp
   refine hK _ _ _ (nv ?_); clear hK
   by_cases hjl : j < xs.length
   ·have hg : xs[j]? = some xs[j] := List.getElem?_eq_getElem hjl
    have hg' : ys[j]? = some ys[j] := List.getElem?_eq_getElem (by omega)
    have hv := hbv _ (List.getElem_mem hjl)
    generalize xs[j] = u at hg hv
    generalize ys[j]'(by omega) = v at hg'
    refine ct (by simp [hjl]) (nv ?_)
    refine Run.draw [0, 0, 0, 0, 0, 0, 0, 0, 0, 1] [0, 0, 0, 0, 0, 0, 0, 0, 0, 0] [0, 0, 3, 7, 0, 0, 48, 112, 255, 511] [0, 1, 2, 3, 4, 5, 6, 7, 8, 9] (by kernel_rfl) (by kernel_rfl) ?_
    refine DR.go fun K hK => ?_
    simp [hg, hg']
    refine hK _ _ _ _ ?_; clear hK
    refine DR.call (args := [u.av, v.av]) rfl rfl rfl (by simp) rfl (sameLv_any h hh u v hv) ?_
    refine DR.go fun K hK => ?_
    simp
    refine hK _ _ _ _ ?_; clear hK
    change Run _ _ _ _ _ _ _ _
    refine Run.condB rfl (fun h1 => ?_) (fun h1 => ?_)
    ·repeat (first | refine nw ?_ | (refine Run.reg fun K hK => ?_; simp; (try (simp (disch := omega) only [wrap_id])); refine hK _ _ _ ?_; clear hK) | refine ct rfl ?_ | refine cf rfl ?_ | refine Run.exit rfl ?_ | refine Run.ret ?_)
     have h2 : sameLv u v = false := by simpa using h1
     have := allTo_false (p := lvsAt xs ys) hjl (by simp only [lvsAt, hg, hg', h2])
     exact Fin.ret' (by simp) rfl hh (List.append_nil _).symm rfl rfl (Weak.refl _) rfl ⟨by simp only [sameLvs, this]; simp, rfl⟩
    ·refine nv ?_
     refine Run.reg fun K hK => ?_
     simp
     try (simp (disch := omega) only [wrap_id])
     refine hK _ _ _ (nv ?_); clear hK
     have h2 : sameLv u v = true := by simpa using h1
     refine IH (j + 1) _ _ ⟨by omega, by rw [allTo_succ, hall]; simp only [lvsAt, hg, hg', h2]; rfl⟩ (by omega) ?_ rfl
     simp
     repeat' first | exact wn | apply wc | exact wj _ | exact wr _ | exact wz _ | exact wo _ _ _ | exact wi (by omega)
   ·have hje : j = xs.length := by omega
    subst hje
    refine cf (by simp) ?_
    refine Run.exit rfl ?_
    refine nv ?_
    repeat (first | refine nw ?_ | (refine Run.reg fun K hK => ?_; simp; (try (simp (disch := omega) only [wrap_id])); refine hK _ _ _ ?_; clear hK) | refine ct rfl ?_ | refine cf rfl ?_ | refine Run.exit rfl ?_ | refine Run.ret ?_)
    exact Fin.ret' (by simp) rfl hh (List.append_nil _).symm rfl rfl (Weak.refl _) rfl ⟨by simp only [sameLvs, h0, hall]; simp, rfl⟩
 ·have h0 : ((xs.length : Int) != ys.length) = true := by simp; omega
  have hl' : ¬ (xs.length : Int) = ys.length := by omega
  refine ct (by simp [hl']) (nv ?_)
  repeat (first | refine nw ?_ | (refine Run.reg fun K hK => ?_; simp; (try (simp (disch := omega) only [wrap_id])); refine hK _ _ _ ?_; clear hK) | refine ct rfl ?_ | refine cf rfl ?_ | refine Run.exit rfl ?_ | refine Run.ret ?_)
  exact Fin.ret' (by simp) rfl hh (List.append_nil _).symm rfl rfl (Weak.refl _) rfl ⟨by simp only [sameLvs, h0]; simp, rfl⟩
def sameHead (a b : Tm) : Bool :=
 !(a.kind != b.kind || a.index != b.index || !(a.name == b.name) || !sameLvs a.levels b.levels || (a.kids.length : Int) != b.kids.length)

mutual
def sameT : Tm → Tm → Bool
 | .mk k i n ls ks, .mk k' i' n' ls' ks' => sameHead (.mk k i n ls ks) (.mk k' i' n' ls' ks') && sameTs ks ks'
def sameTs : List Tm → List Tm → Bool
 | a :: xs, b :: ys => sameT a b && sameTs xs ys
 | _, _ => true
end
abbrev tmsAt (xs ys : List Tm) (j : Nat) : Bool := match xs[j]?, ys[j]? with | some u, some v => sameT u v | _, _ => true
theorem sameTs_at : ∀ (xs ys : List Tm), sameTs xs ys = allTo (tmsAt xs ys) xs.length
 | [], ys => by simp [sameTs, allTo]
 | x :: xs, [] => by simp only [sameTs]; symm; rw [allTo_iff]; intro j _; simp [tmsAt]
 | x :: xs, y :: ys => by
  simp only [sameTs, sameTs_at xs ys]
  rw [Bool.eq_iff_iff, Bool.and_eq_true, allTo_iff, allTo_iff]
  constructor
  ·rintro ⟨h1, h2⟩ j hj
   cases j with
   | zero => simpa [tmsAt] using h1
   | succ j => simpa [tmsAt] using h2 j (by simpa using hj)
  ·intro h
   exact ⟨by simpa [tmsAt] using h 0 (by simp), fun j hj => by simpa [tmsAt] using h (j + 1) (by simpa using hj)⟩

mutual
def Tm.lvs : Tm → Prop
 | .mk _ _ _ ls ks => ls.length ≤ 1048576 ∧ (∀ l ∈ ls, l.vars.length ≤ 1048576) ∧ Tm.lvss ks
def Tm.lvss : List Tm → Prop
 | [] => True
 | t :: ts => t.lvs ∧ Tm.lvss ts
end
theorem Tm.lvss_at {l : List Tm} (h : Tm.lvss l) : ∀ t ∈ l, t.lvs := by
 induction l with
 | nil => intro t ht; cases ht
 | cons x l ih =>
  simp only [Tm.lvss] at h
  intro t ht
  cases List.mem_cons.1 ht with
  | inl e => subst e; exact h.1
  | inr e => exact ih h.2 t e
theorem same_any (N : Nat) : ∀ (a b : Tm) (h : Heap), a.size ≤ N → a.size ≤ 1099511627776 → a.lvs → WF h → ACalls Tryz.prog 18 [a.av, b.av] h fun o h' => o = .ret (bA (sameT a b)) ∧ h' = h := by
 induction N with
 | zero => intro t _ h hN; cases t; simp [Tm.size] at hN
 | succ N ih =>
 intro a b h hN hsz hlv hh
 obtain ⟨k, i, n, ls, ks⟩ := a
 obtain ⟨k', i', n', ls', ks'⟩ := b
 simp only [Tm.size] at hN hsz
 have hll := length_le_sizes ks
 simp only [Tm.lvs] at hlv
 have hlvs := sameLvs_any (h ++ [some (.cells [iA k, iA i, .p (sP n), .p (.sl 2 (lvPs ls)), .p (.sl 5 (tmPs ks))]), some (.cells [iA k', iA i', .p (sP n'), .p (.sl 2 (lvPs ls')), .p (.sl 5 (tmPs ks'))])]) (hh.app (by simp)) ls ls' hlv.1 hlv.2.1
 refine ACalls.of_run Tryz.func18 rfl ?_
 simp only [Tryz.ntmps18, List.length_cons, List.length_nil, Tm.av, cells_mk, List.map]
 refine nv ?_
 refine Run.reg fun K hK => ?_
 simp
 refine hK _ _ _ (nv ?_); clear hK
 have hcase : (k != k') = true ∨ ((k != k') = false ∧ (i != i') = true) ∨ ((k != k') = false ∧ (i != i') = false ∧ (n == n') = false) ∨ ((k != k') = false ∧ (i != i') = false ∧ (n == n') = true) := by
  cases k != k' <;> cases i != i' <;> cases (n == n') <;> simp
 have no : sameHead (.mk k i n ls ks) (.mk k' i' n' ls' ks') = false → sameT (.mk k i n ls ks) (.mk k' i' n' ls' ks') = false := fun e => by simp only [sameT, e]; rfl
 rcases hcase with c1 | ⟨c1, c2⟩ | ⟨c1, c2, c3⟩ | ⟨c1, c2, c3⟩
 ·have := no (by simp only [sameHead, Tm.kind, c1]; rfl)
  refine Run.reg fun K hK => ?_
  simp [c1]
  refine hK _ _ _ (nv ?_); clear hK
  repeat (first | refine nw ?_ | (refine Run.reg fun K hK => ?_; simp; (try (simp (disch := omega) only [wrap_id])); refine hK _ _ _ ?_; clear hK) | refine ct rfl ?_ | refine cf rfl ?_ | refine Run.exit rfl ?_ | refine Run.ret ?_)
  exact Fin.ret' (by simp) rfl hh rfl rfl rfl (Weak.refl _) rfl ⟨by rw [this]; rfl, rfl⟩
 ·have := no (by simp only [sameHead, Tm.kind, Tm.index, c1, c2]; rfl)
  refine Run.reg fun K hK => ?_
  simp [c1, c2]
  refine hK _ _ _ (nv ?_); clear hK
  repeat (first | refine nw ?_ | (refine Run.reg fun K hK => ?_; simp; (try (simp (disch := omega) only [wrap_id])); refine hK _ _ _ ?_; clear hK) | refine ct rfl ?_ | refine cf rfl ?_ | refine Run.exit rfl ?_ | refine Run.ret ?_)
  exact Fin.ret' (by simp) rfl hh rfl rfl rfl (Weak.refl _) rfl ⟨by rw [this]; rfl, rfl⟩
 ·have := no (by simp only [sameHead, Tm.kind, Tm.index, Tm.name, c1, c2, c3]; rfl)
  refine Run.reg fun K hK => ?_
  simp [c1, c2, c3]
  refine hK _ _ _ (nv ?_); clear hK
  repeat (first | refine nw ?_ | (refine Run.reg fun K hK => ?_; simp; (try (simp (disch := omega) only [wrap_id])); refine hK _ _ _ ?_; clear hK) | refine ct rfl ?_ | refine cf rfl ?_ | refine Run.exit rfl ?_ | refine Run.ret ?_)
  exact Fin.ret' (by simp) rfl hh rfl rfl rfl (Weak.refl _) rfl ⟨by rw [this]; rfl, rfl⟩
 ·have hd0 : sameHead (.mk k i n ls ks) (.mk k' i' n' ls' ks') = !(!sameLvs ls ls' || (ks.length : Int) != ks'.length) := by
   simp only [sameHead, Tm.kind, Tm.index, Tm.name, Tm.levels, Tm.kids, c1, c2, c3, Bool.false_or, Bool.not_true]
  refine Run.reg fun K hK => ?_
  simp [c1, c2, c3]
  refine hK _ _ _ ?_; clear hK
  refine Run.call rfl (by simp) (by simp) rfl hlvs ?_ ?_
  ·rintro v h' ⟨hv, rfl⟩
   simp only [AOut.ret.injEq] at hv
   subst hv
   refine Run.opsJ [2, 3] 41 (!sameLvs ls ls' || (ks.length : Int) != ks'.length) (fun K hK => ?_) ?_
   ·simp
    repeat' (first | apply And.intro | intro _)
    all_goals
     refine hK _ ?_
     simp
     repeat' first | exact wn | apply wc
     all_goals first | exact Weak.junk _ | (refine Weak.bool ?_; clear hK; rw [Bool.eq_iff_iff]; simp; done) | (refine Weak.bool ?_; clear hK; rw [Bool.eq_iff_iff]; simp; omega) | (refine Weak.bool ?_; clear hK; simp_all; done) | (refine Weak.bool ?_; clear hK; simp [*]; done) | (refine Weak.bool ?_; clear hK; rw [Bool.eq_iff_iff]; simp [*]; omega) | exact Weak.refl _
   simp only [setMany, keepT]
   simp
   refine Run.condB rfl (fun h0 => ?_) (fun h0 => ?_)
   ·have := no (by rw [hd0, h0]; rfl)
    repeat (first | refine nw ?_ | (refine Run.reg fun K hK => ?_; simp; (try (simp (disch := omega) only [wrap_id])); refine hK _ _ _ ?_; clear hK) | refine ct rfl ?_ | refine cf rfl ?_ | refine Run.exit rfl ?_ | refine Run.ret ?_)
    exact Fin.ret' (by simp) rfl hh rfl rfl rfl (Weak.refl _) rfl ⟨by rw [this]; rfl, rfl⟩
   ·have hl : ks.length = ks'.length := by simp at h0; omega
    have hst : sameT (.mk k i n ls ks) (.mk k' i' n' ls' ks') = sameTs ks ks' := by simp only [sameT, hd0, h0]; rfl
    rw [sameTs_at] at hst
    refine nv ?_
    refine Run.reg fun K hK => ?_
    simp
    refine hK _ _ _ (nv ?_); clear hK
    refine Run.loopS [2, 3] (fun j : Nat => j ≤ ks.length ∧ allTo (tmsAt ks ks') j = true) (fun j => ks.length - j) (fun j => [(5, iA j)]) (fun _ => _) 0 (by simp [allTo]) ?_ rfl ?_
    ·simp
     repeat' first | exact wn | apply wc | exact wj _ | exact wr _ | exact wz _ | exact wo _ _ _ | exact wi (by omega)
    ·rintro j ⟨hj, hall⟩ IH
     simp
     refine nv ?_
     refine Run.reg fun K hK => ?_
     simp
     refine hK _ _ _ (nv ?_); clear hK
     by_cases hjl : j < ks.length
     ·have hg : ks[j]? = some ks[j] := List.getElem?_eq_getElem hjl
      have hg' : ks'[j]? = some ks'[j] := List.getElem?_eq_getElem (by omega)
      have hs := kid_size hjl
      have hlj := Tm.lvss_at hlv.2.2 _ (List.getElem_mem hjl)
      generalize ks[j] = u at hg hs hlj
      generalize ks'[j]'(by omega) = v at hg'
      refine ct (by simp [hjl]) (nv ?_)
      refine Run.draw [0, 0, 0, 0, 0, 0, 0, 0, 0, 0, 0, 1] [0, 0, 0, 0, 0, 0, 0, 0, 0, 0, 0, 0] [0, 1, 0, 7, 15, 0, 32, 0, 224, 480, 1023, 2047] [0, 1, 2, 3, 4, 5, 6, 7, 8, 9, 10, 11] (by kernel_rfl) (by kernel_rfl) ?_
      refine DR.go fun K hK => ?_
      simp [hg, hg']
      refine hK _ _ _ _ ?_; clear hK
      refine DR.call (args := [u.av, v.av]) rfl rfl rfl (by simp) rfl (ih u v _ (by omega) (by omega) hlj (hh.app (by simp))) ?_
      refine DR.go fun K hK => ?_
      simp
      refine hK _ _ _ _ ?_; clear hK
      change Run _ _ _ _ _ _ _ _
      refine Run.condB rfl (fun h1 => ?_) (fun h1 => ?_)
      ·repeat (first | refine nw ?_ | (refine Run.reg fun K hK => ?_; simp; (try (simp (disch := omega) only [wrap_id])); refine hK _ _ _ ?_; clear hK) | refine ct rfl ?_ | refine cf rfl ?_ | refine Run.exit rfl ?_ | refine Run.ret ?_)
       have h2 : sameT u v = false := by simpa using h1
       have := allTo_false (p := tmsAt ks ks') hjl (by simp only [tmsAt, hg, hg', h2])
       exact Fin.ret' (by simp) rfl hh rfl rfl rfl (Weak.refl _) rfl ⟨by rw [hst, this]; rfl, rfl⟩
      ·refine nv ?_
       refine Run.reg fun K hK => ?_
       simp
       try (simp (disch := omega) only [wrap_id])
       refine hK _ _ _ (nv ?_); clear hK
       have h2 : sameT u v = true := by simpa using h1
       refine IH (j + 1) _ _ ⟨by omega, by rw [allTo_succ, hall]; simp only [tmsAt, hg, hg', h2]; rfl⟩ (by omega) ?_ rfl
       simp
       repeat' first | exact wn | apply wc | exact wj _ | exact wr _ | exact wz _ | exact wo _ _ _ | exact wi (by omega)
     ·have hje : j = ks.length := by omega
      subst hje
      refine cf (by simp) ?_
      refine Run.exit rfl ?_
      refine nv ?_
      repeat (first | refine nw ?_ | (refine Run.reg fun K hK => ?_; simp; (try (simp (disch := omega) only [wrap_id])); refine hK _ _ _ ?_; clear hK) | refine ct rfl ?_ | refine cf rfl ?_ | refine Run.exit rfl ?_ | refine Run.ret ?_)
      exact Fin.ret' (by simp) rfl hh rfl rfl rfl (Weak.refl _) rfl ⟨by rw [hst, hall]; rfl, rfl⟩
  ·rintro v h' ⟨hv, _⟩; cases hv

end Go.Proofs.YtcfcolkbeelegaaGreat
