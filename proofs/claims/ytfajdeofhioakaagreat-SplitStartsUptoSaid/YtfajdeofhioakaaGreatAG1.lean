import Derived.Test.YtfajdeofhioakaaGreatAD
import Derived.Test.YtfajdeofhioakaaGreatAE1
import Derived.Test.YtfajdeofhioakaaGreatAC

namespace Go.Proofs.YtfajdeofhioakaaGreat

open Go Go.AI
@[simp] theorem patch2 (a b : AV) (t : Lv) : patch [a, b] 0 (t.cells.map AV.p) = t.cells.map AV.p := by cases t; rfl


open Go Go.AI

mutual
theorem ok_lvs : ∀ (t : Tm) (m : Int), t.ok m → t.lvs
 | .mk k i n ls ks, m, h => by
  simp only [Tm.ok, Tm.okN] at h
  simp only [Tm.lvs]
  exact ⟨by omega, h.1.2.2.1, ok_lvss ks m k 0 h.2⟩
theorem ok_lvss : ∀ (l : List Tm) (m k : Int) (idx : Nat), Tm.oks m k idx l → Tm.lvss l
 | [], _, _, _, _ => trivial
 | t :: ts, m, k, idx, h => by
  simp only [Tm.oks] at h
  exact ⟨ok_lvs t _ h.1, ok_lvss ts m k (idx + 1) h.2⟩
end


open Go Go.AI

mutual
def nd1 (m : Int) : Tm → Int
 | .mk _ _ _ _ ks => 1 + nd m 0 ks
def nd (most n : Int) : List Tm → Int
 | [] => n
 | t :: ts => if most < n then n else nd most (n + nd1 (most - n) t) ts
end


open Go Go.AI
def checkZ (vars params metas levels : Int) (t : Tm) : Int :=
 if chk (if vars < 0 then 0 else vars) params metas levels 0 t ≠ 0 then chk (if vars < 0 then 0 else vars) params metas levels 0 t
 else if 4096 < (t.size : Int) then 5 else if 200 < (t.depth : Int) then 7 else 0
set_option maxRecDepth 8000 in
set_option maxHeartbeats 4000000 in
theorem check_any (h : Heap) (hh : WF h) (t : Tm) (vars params metas levels : Int) (hsz : t.size ≤ 1099511627776) (hf : t.fit) :
  ACalls Tryz.prog 37 [t.av, iA vars, iA params, iA metas, iA levels] h fun o h' => o = .ret (iA (checkZ vars params metas levels t)) ∧ h' = h := by
 have hh1 : WF (h ++ [some (.cells (t.cells.map .p))]) := hh.app (by simp)
 have hc := chk_any (if vars < 0 then 0 else vars) params metas levels t.size t 0 _ (Nat.le_refl _) hf (by omega) (by omega) hh1
 have hs := size_any t.size t _ (Nat.le_refl _) hsz hh1
 have hd := depth_any t.size t _ (Nat.le_refl _) hsz hh1
 have hz : ∃ z, checkZ vars params metas levels t = z := ⟨_, rfl⟩
 obtain ⟨z, hz⟩ := hz
 rw [hz]
 unfold checkZ at hz
 generalize chk (if vars < 0 then 0 else vars) params metas levels 0 t = e at hc hz
 generalize t.size = sz at hs hz
 generalize t.depth = dp at hd hz
 obtain ⟨k, i, n, ls, ks⟩ := t
 refine ACalls.of_run Tryz.func37 rfl ?_
 simp only [Tryz.ntmps37, List.length_cons, List.length_nil, Tm.av, cells_mk, List.map]
 refine nv ?_
 refine Run.reg fun K J => ?_
 simp
 try (simp (disch := omega) only [wrap_id])
 refine J _ _ _ (nv ?_); clear J
 refine Run.reg fun K J => ?_
 simp
 try (simp (disch := omega) only [wrap_id])
 refine J _ _ _ (nv ?_); clear J
 refine Run.call rfl rfl (by simp) rfl hc ?_ ?_
 rotate_left
 ·rintro v h' ⟨hv, _⟩; cases hv
 rintro v h' ⟨hv, rfl⟩
 simp only [AOut.ret.injEq] at hv
 subst hv
 refine Run.ops fun K J => ?_
 simp
 try (simp (disch := omega) only [wrap_id])
 refine J _ _ _ (nv ?_); clear J
 refine Run.reg fun K J => ?_
 simp
 try (simp (disch := omega) only [wrap_id])
 refine J _ _ _ (nv ?_); clear J
 by_cases h1 : e = 0
 ·rw [if_neg (by simp [h1])] at hz
  refine nv ?_
  refine cf (by simp [h1]) (nv ?_)
  refine Run.reg fun K J => ?_
  simp
  try (simp (disch := omega) only [wrap_id])
  refine J _ _ _ (nv ?_); clear J
  refine Run.call rfl rfl (by simp) rfl hs ?_ ?_
  rotate_left
  ·rintro v h' ⟨hv, _⟩; cases hv
  rintro v h' ⟨hv, rfl⟩
  simp only [AOut.ret.injEq] at hv
  subst hv
  refine Run.ops fun K J => ?_
  simp
  try (simp (disch := omega) only [wrap_id])
  refine J _ _ _ (nv ?_); clear J
  by_cases h2 : 4096 < (sz : Int)
  ·rw [if_pos h2] at hz
   refine nv ?_
   refine ct (by simp [h2]) (nv ?_)
   repeat (first | refine nw ?_ | (refine Run.reg fun K J => ?_; simp; (try (simp (disch := omega) only [wrap_id])); refine J _ _ _ ?_; clear J) | refine ct rfl ?_ | refine cf rfl ?_ | refine Run.exit rfl ?_ | refine Run.ret ?_)
   exact Fin.ret' (by simp) rfl hh rfl rfl rfl (Weak.refl _) rfl ⟨by rw [← hz]; rfl, rfl⟩
  rw [if_neg h2] at hz
  refine nv ?_
  refine cf (by simp [h2]) (nv ?_)
  refine Run.reg fun K J => ?_
  simp
  try (simp (disch := omega) only [wrap_id])
  refine J _ _ _ (nv ?_); clear J
  refine Run.call rfl rfl (by simp) rfl hd ?_ ?_
  rotate_left
  ·rintro v h' ⟨hv, _⟩; cases hv
  rintro v h' ⟨hv, rfl⟩
  simp only [AOut.ret.injEq] at hv
  subst hv
  refine Run.ops fun K J => ?_
  simp
  try (simp (disch := omega) only [wrap_id])
  refine J _ _ _ (nv ?_); clear J
  by_cases h3 : 200 < (dp : Int)
  ·rw [if_pos h3] at hz
   refine nv ?_
   refine ct (by simp [h3]) (nv ?_)
   repeat (first | refine nw ?_ | (refine Run.reg fun K J => ?_; simp; (try (simp (disch := omega) only [wrap_id])); refine J _ _ _ ?_; clear J) | refine ct rfl ?_ | refine cf rfl ?_ | refine Run.exit rfl ?_ | refine Run.ret ?_)
   exact Fin.ret' (by simp) rfl hh rfl rfl rfl (Weak.refl _) rfl ⟨by rw [← hz]; rfl, rfl⟩
  rw [if_neg h3] at hz
  refine nv ?_
  refine cf (by simp [h3]) (nv ?_)
  repeat (first | refine nw ?_ | (refine Run.reg fun K J => ?_; simp; (try (simp (disch := omega) only [wrap_id])); refine J _ _ _ ?_; clear J) | refine ct rfl ?_ | refine cf rfl ?_ | refine Run.exit rfl ?_ | refine Run.ret ?_)
  exact Fin.ret' (by simp) rfl hh rfl rfl rfl (Weak.refl _) rfl ⟨by rw [← hz]; rfl, rfl⟩
 ·rw [if_pos h1] at hz
  refine nv ?_
  refine ct (by simp [h1]) (nv ?_)
  repeat (first | refine nw ?_ | (refine Run.reg fun K J => ?_; simp; (try (simp (disch := omega) only [wrap_id])); refine J _ _ _ ?_; clear J) | refine ct rfl ?_ | refine cf rfl ?_ | refine Run.exit rfl ?_ | refine Run.ret ?_)
  exact Fin.ret' (by simp) rfl hh rfl rfl rfl (Weak.refl _) rfl ⟨by rw [← hz]; rfl, rfl⟩

end Go.Proofs.YtfajdeofhioakaaGreat

namespace Go.AI

open Go

end Go.AI

namespace Go.Proofs.YtfajdeofhioakaaGreat

open Go Go.AI
@[simp] theorem st200 : stT Tryz.prog 200 = some ((List.range 13).map fun i => (i * 5, 5)) := by kernel_rfl

section

variable {σ : Type} (st : σ → Int → Tm → σ × Bool)

mutual
def vis (s : σ) (d : Int) : Tm → σ × Bool
 | .mk k i n ls ks => if (st s d (.mk k i n ls ks)).2 = true then visL (st s d (.mk k i n ls ks)).1 k d 0 ks else ((st s d (.mk k i n ls ks)).1, false)
def visL (s : σ) (k d : Int) (idx : Nat) : List Tm → σ × Bool
 | [] => (s, true)
 | t :: ts => if (vis s (d + belowZ k idx) t).2 = true then visL (vis s (d + belowZ k idx) t).1 k d (idx + 1) ts else ((vis s (d + belowZ k idx) t).1, false)
end

end

end Go.Proofs.YtfajdeofhioakaaGreat

namespace Go.AI

open Go

def WeakP (x y : PV) : Prop := ∀ E w v, RepP E w x v → RepP E w y v
def WeakPL (xs ys : List PV) : Prop := xs.length = ys.length ∧ ∀ E w b off, RepAt E w b off xs → RepAt E w b off ys
def WeakPs (es es' : List (List PV)) : Prop := es.length = es'.length ∧ ∀ E w b sz off, RepEs E w b sz off es → RepEs E w b sz off es'
theorem WeakP.refl (x : PV) : WeakP x x := fun _ _ _ h => h
theorem WeakP.nil (sz : Nat) : WeakP (.prim (.slice none 0 0)) (.sl sz []) := fun E w v h => Weak.nil sz E w v h
theorem WeakPL.nil : WeakPL [] [] := ⟨rfl, fun _ _ _ _ h => h⟩
theorem WeakPL.cons {x y : PV} {xs ys : List PV} (h : WeakP x y) (hs : WeakPL xs ys) : WeakPL (x :: xs) (y :: ys) := ⟨by simp [hs.1], fun E w b off r => by
 simp only [RepAt] at r ⊢
 obtain ⟨v, r1, r2, r3, r4⟩ := r
 exact ⟨v, r1, r2, h E w v r3, hs.2 E w b _ r4⟩⟩
theorem WeakPs.nil : WeakPs [] [] := ⟨rfl, fun _ _ _ _ _ h => h⟩
theorem WeakPs.cons {x y : List PV} {xs ys : List (List PV)} (h : WeakPL x y) (hs : WeakPs xs ys) : WeakPs (x :: xs) (y :: ys) := ⟨by simp [hs.1], fun E w b sz off r => by
 simp only [RepEs] at r ⊢
 obtain ⟨r1, r2, r3⟩ := r
 exact ⟨by rw [← h.1]; exact r1, h.2 E w b _ r2, hs.2 E w b sz _ r3⟩⟩
theorem WeakP.sl {sz : Nat} {es es' : List (List PV)} (h : WeakPs es es') : WeakP (.sl sz es) (.sl sz es') := fun E w v r => by
 simp only [RepP] at r ⊢
 obtain ⟨a, cap, rfl, h1, h2⟩ := r
 refine ⟨a, cap, by rw [h.1], by rw [← h.1]; exact h1, ?_⟩
 rcases h2 with rfl | ⟨b, off, rfl, h3⟩
 ·left; have := h.1; cases es' with
  | nil => rfl
  | cons _ _ => simp at this
 ·exact .inr ⟨b, off, rfl, h.2 _ _ _ _ _ h3⟩
theorem WeakP.av {x y : PV} (h : WeakP x y) : Weak (.p x) (.p y) := fun E w v r => by simp only [Rep] at r ⊢; exact h E w v r

end Go.AI

namespace Go.Proofs.YtfajdeofhioakaaGreat

open Go Go.AI
def natB : List UInt8 := [78, 97, 116]
def natT : Tm := .mk 3 0 natB [] []
def appT (a b : Tm) : Tm := .mk 4 0 [] [] [a, b]
def lamT (a b : Tm) : Tm := .mk 5 0 [] [] [a, b]
def fnT (a b : Tm) : Tm := lamT natT (appT a b)


open Go Go.AI
theorem sameLv_refl (l : Lv) : sameLv l l = true := by
 simp only [sameLv, bne_self_eq_false, Bool.or_self, Bool.not_false, Bool.true_and]
 rw [allTo_iff]
 intro j hj
 simp [varsAt, hj, sameVar]
theorem sameLvs_refl (l : List Lv) : sameLvs l l = true := by
 simp only [sameLvs, bne_self_eq_false, Bool.not_false, Bool.true_and]
 rw [allTo_iff]
 intro j hj
 simp [lvsAt, hj, sameLv_refl]
theorem sameHead_refl (t : Tm) : sameHead t t = true := by simp [sameHead, sameLvs_refl]

mutual
theorem sameT_refl : ∀ t : Tm, sameT t t = true
 | .mk k i n ls ks => by simp only [sameT, sameHead_refl, Bool.true_and]; exact sameTs_refl ks
theorem sameTs_refl : ∀ l : List Tm, sameTs l l = true
 | [] => by simp only [sameTs]
 | t :: ts => by simp only [sameTs, sameT_refl t, sameTs_refl ts, Bool.and_self]
end

theorem firstE_cons {e : Int} {l : List Int} (h : firstE (e :: l) = 0) : e = 0 ∧ firstE l = 0 := by
 simp only [firstE] at h
 split at h
 ·exact ⟨by assumption, h⟩
 ·exact absurd h (by assumption)

mutual
theorem chk_ok (v p m l : Int) : ∀ (t : Tm) (d : Int), t.lvs → chk v p m l d t = 0 → t.ok (v + d)
 | .mk k i n ls ks, d, hl, h => by
  simp only [chk] at h
  simp only [Tm.lvs] at hl
  by_cases h1 : formB (.mk k i n ls ks) = false
  ·rw [if_pos h1] at h; exact absurd h (by decide)
  rw [if_neg h1] at h
  by_cases h2 : headZ d v p m l k i n ls = 0
  ·rw [if_neg (by simp [h2])] at h
   have hk := chkL_ok v p m l ks k d 0 hl.2.2 h
   simp only [Tm.ok, Tm.okN]
   have h8 : ¬ 8 < ls.length := by
    intro h8
    unfold headZ at h2
    split at h2
    ·exact absurd h2 (by decide)
    ·exact absurd h2 (by decide)
   have h0 : k = 0 → ¬ (i < 0 ∨ v ≤ i - d) := by
    intro hk0 hc
    unfold headZ at h2
    rw [if_neg (by omega), if_neg h8] at h2
    split at h2
    ·contradiction
    ·rw [if_pos ⟨hk0, hc⟩] at h2; exact absurd h2 (by decide)
   simp only [formB, formN] at h1
   have hkz : kidsZ k ≤ 3 := by unfold kidsZ; split; omega; split; omega; split <;> omega
   simp only [Bool.not_eq_false, Bool.and_eq_true, Bool.not_eq_true', Bool.or_eq_false_iff, bne_eq_false_iff_eq, decide_eq_false_iff_not] at h1
   obtain ⟨⟨⟨⟨_, hks⟩, _⟩, hn⟩, hls⟩ := h1
   refine ⟨⟨fun hk0 => ?_, by omega, hl.2.1, by omega⟩, hk⟩
   subst hk0
   have h0 := h0 rfl
   simp [kidsZ] at hks
   simp at hn hls
   exact ⟨by omega, by omega, hn, hls, hks⟩
  ·rw [if_pos h2] at h; exact absurd h h2
theorem chkL_ok (v p m l : Int) : ∀ (ks : List Tm) (k d : Int) (idx : Nat), Tm.lvss ks → firstE (chkL v p m l k d idx ks) = 0 → Tm.oks (v + d) k idx ks
 | [], _, _, _, _, _ => trivial
 | t :: ts, k, d, idx, hl, h => by
  simp only [Tm.lvss] at hl
  simp only [chkL] at h
  have h := firstE_cons h
  simp only [Tm.oks]
  have := chk_ok v p m l t (d + belowZ k idx) hl.1 h.1
  rw [show v + d + belowZ k idx = v + (d + belowZ k idx) by omega]
  exact ⟨this, chkL_ok v p m l ts k d (idx + 1) hl.2 h.2⟩
end


mutual
theorem bld_shift (by_ fr f0 : Int) (hf : f0 = if 65536 < fr then 65536 else fr) : ∀ (t : Tm) (s d : Int), t.ok (65536 + d) →
  bld (visVar (repShift by_ fr)) s t d = if shiftBad by_ f0 d t = true then .bad 24 s else .ok (shiftT by_ f0 d t) s
 | .mk k i n ls ks, s, d, h => by
  simp only [Tm.ok, Tm.okN] at h
  simp only [bld, shiftBad, shiftT]
  by_cases hk : k = 0
  ·obtain ⟨h1, h2, rfl, rfl, rfl⟩ := h.1.1 hk
   subst hk
   simp only [visVar, repShift, Tm.kind, Tm.index, if_true]
   by_cases c1 : i - d < fr
   ·have c1' : i < f0 + d := by rw [hf]; split <;> omega
    simp [c1, c1', Tm.bare]
   ·have c0 : f0 = fr := by rw [hf, if_neg (by omega)]
    subst c0
    have c1' : ¬ i < f0 + d := by omega
    simp only [c1, if_false]
    by_cases c2 : by_ < 0 ∧ i - d < f0 - by_
    ·have c2' : i + by_ < f0 + d := by omega
     simp [c2, c1', c2']
    ·have c2' : ¬ i + by_ < f0 + d := by omega
     simp only [c2, if_false]
     by_cases c3 : 65535 < i + by_
     ·simp [c1', c2', c3]
     ·simp [c1', c2', c3]
  ·simp only [visVar, Tm.kind, hk, if_false, Tm.bare]
   have e := bldL_shift by_ fr f0 hf ks s k d 0 h.2
   simp only [e]
   split
   ·rename_i heq
    split at heq
    ·rename_i hb; rw [if_pos hb]; injection heq with h1 h2; subst h1; subst h2; rfl
    ·cases heq
   ·rename_i heq
    split at heq
    ·cases heq
    ·rename_i hb; rw [if_neg hb]; injection heq with h1 h2; subst h1; subst h2; rfl
theorem bldL_shift (by_ fr f0 : Int) (hf : f0 = if 65536 < fr then 65536 else fr) : ∀ (ks : List Tm) (s k d : Int) (idx : Nat), Tm.oks (65536 + d) k idx ks →
  bldL (visVar (repShift by_ fr)) s k d idx ks = if shiftBads by_ f0 d k idx ks = true then .bad 24 s else .ok (shiftL by_ f0 d k idx ks) s
 | [], s, k, d, idx, h => by simp [bldL, shiftBads, shiftL]
 | t :: ts, s, k, d, idx, h => by
  simp only [Tm.oks] at h
  simp only [bldL, shiftBads, shiftL]
  rw [bld_shift by_ fr f0 hf t s (d + belowZ k idx) (by rw [← Int.add_assoc]; exact h.1)]
  by_cases hb : shiftBad by_ f0 (d + belowZ k idx) t = true
  ·simp only [hb, if_true, Bool.true_or]
  ·rw [if_neg hb]
   simp only
   rw [bldL_shift by_ fr f0 hf ts s k d (idx + 1) h.2]
   rw [Bool.not_eq_true] at hb
   by_cases hb2 : shiftBads by_ f0 d k (idx + 1) ts = true
   ·simp only [hb, hb2, if_true, Bool.or_true]
   ·rw [Bool.not_eq_true] at hb2
    simp only [hb, hb2, Bool.or_false, Bool.false_eq_true, if_false]
end
theorem res_shift (by_ fr : Int) (t : Tm) (h : t.ok 65536) : resShift by_ fr t = resRefShift by_ fr t := by
 unfold resShift resRefShift
 split
 ·rfl
 ·rw [shiftB, bld_shift by_ fr _ rfl t 0 0 (by simpa using h)]
  by_cases hb : shiftBad by_ (if 65536 < fr then 65536 else fr) 0 t = true
  ·rw [if_pos hb, if_pos hb]; rfl
  ·rw [if_neg hb, if_neg hb]; rfl

end Go.Proofs.YtfajdeofhioakaaGreat
