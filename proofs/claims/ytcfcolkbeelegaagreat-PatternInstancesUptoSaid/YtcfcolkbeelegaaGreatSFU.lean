import Derived.Test.YtcfcolkbeelegaaGreatSLB
import Derived.Test.YtcfcolkbeelegaaGreatST3
import Derived.Test.YtcfcolkbeelegaaGreatSD
import Derived.Test.YtcfcolkbeelegaaGreatSE11
import Derived.Test.YtcfcolkbeelegaaGreatSV0

namespace Go.Proofs.YtcfcolkbeelegaaGreat

open Go Go.AI
theorem upL_of_lt : ∀ {l : List (Int × Int)}, (l.map Prod.fst).Pairwise (· < ·) → upL l
 | [], _ => trivial
 | x :: l, h => by
  simp only [List.map_cons, List.pairwise_cons] at h
  exact ⟨fun y hy => h.1 _ (List.mem_map.2 ⟨y, hy, rfl⟩), upL_of_lt h.2⟩
def sortM (m : List (Int × Int)) : List (Int × Int) := ((m.map Prod.fst).mergeSort fun x y => decide (x ≤ y)).map fun i => (i, (lkI m i).getD 0)
theorem lkI_isSome {l : List (Int × Int)} {i : Int} (h : i ∈ l.map Prod.fst) : ∃ v, lkI l i = some v := by
 induction l with
 | nil => simp at h
 | cons x l ih =>
  simp only [lkI]
  by_cases c : x.1 = i
  ·exact ⟨_, if_pos c⟩
  ·rw [if_neg c]
   simp only [List.map_cons, List.mem_cons] at h
   exact ih (h.resolve_left fun e => c e.symm)
theorem sortM_up {m : List (Int × Int)} (h : (m.map Prod.fst).Nodup) : upL (sortM m) := by
 apply upL_of_lt
 have e : (sortM m).map Prod.fst = (m.map Prod.fst).mergeSort fun x y => decide (x ≤ y) := by
  simp [sortM, Function.comp_def]
 rw [e]
 have h1 : ((m.map Prod.fst).mergeSort fun x y => decide (x ≤ y)).Pairwise (fun a b => decide (a ≤ b) = true) :=
  List.pairwise_mergeSort (fun a b c hab hbc => by simp at *; omega) (fun a b => by simp; omega) _
 have h2 : ((m.map Prod.fst).mergeSort fun x y => decide (x ≤ y)).Nodup := (List.mergeSort_perm _ _).nodup_iff.2 h
 have h3 := List.Pairwise.and h1 h2
 exact h3.imp fun {a b} ⟨c, d⟩ => by simp at c; omega
theorem lkI_map {f : Int → Int} (ks : List Int) (i : Int) : lkI (ks.map fun i => (i, f i)) i = if i ∈ ks then some (f i) else none := by
 induction ks with
 | nil => simp [lkI]
 | cons k ks ih =>
  simp only [List.map_cons, lkI, ih, List.mem_cons]
  by_cases c : k = i
  ·subst c; simp
  ·have : ¬ i = k := fun e => c e.symm
   simp [c, this]
theorem sortM_lk {m : List (Int × Int)} (i : Int) : lkI (sortM m) i = lkI m i := by
 unfold sortM
 rw [lkI_map]
 split
 ·rename_i h
  have h' : i ∈ m.map Prod.fst := (List.mergeSort_perm _ _).mem_iff.1 h
  obtain ⟨v, hv⟩ := lkI_isSome h'
  rw [hv]; rfl
 ·rename_i h
  have h' : i ∉ m.map Prod.fst := fun c => h ((List.mergeSort_perm _ _).mem_iff.2 c)
  exact (lkI_none fun y hy e => h' (List.mem_map.2 ⟨y, hy, e⟩)).symm
theorem sortM_eq {m s : List (Int × Int)} (hs : upL s) (hm : (m.map Prod.fst).Nodup) (h : ∀ i, lkI s i = lkI m i) : sortM m = s :=
 upL_ext (sortM_up hm) hs fun i => by rw [sortM_lk, h]

structure Vd (l : Lv) : Prop where
 c0 : 0 ≤ l.c
 c1 : l.c ≤ 100
 up : upL l.vars
 v0 : ∀ v ∈ l.vars, 0 ≤ v.2
 v1 : ∀ v ∈ l.vars, v.2 ≤ 100
 i0 : ∀ v ∈ l.vars, -65536 ≤ v.1
 i1 : ∀ v ∈ l.vars, v.1 < 8
theorem upL_of_steps : ∀ {l : List (Int × Int)}, (∀ (j : Nat) u v, l[j]? = some u → l[j + 1]? = some v → u.1 < v.1) → upL l
 | [], _ => trivial
 | [x], _ => ⟨by simp, trivial⟩
 | x :: y :: l, h => by
  have ih : upL (y :: l) := upL_of_steps fun j u v hu hv => h (j + 1) u v (by simpa using hu) (by simpa using hv)
  have hxy : x.1 < y.1 := h 0 x y (by simp) (by simp)
  refine ⟨fun z hz => ?_, ih⟩
  rcases List.mem_cons.1 hz with rfl | hz
  ·exact hxy
  ·have := ih.1 z hz; omega
theorem Vd.of {l : Lv} (h : validB l = true) : Vd l := by
 obtain ⟨c, vs⟩ := l
 simp only [validB, Bool.and_eq_true, Bool.not_eq_true', Bool.or_eq_false_iff, decide_eq_false_iff_not] at h
 obtain ⟨⟨h1, h2⟩, h3⟩ := h
 have hv : ∀ (j : Nat) v, vs[j]? = some v → varOk c vs j = true := fun j v hj => allTo_at h3 (by have := (List.getElem?_eq_some_iff.1 hj).1; simpa using this)
 have hv' : ∀ v ∈ vs, -65536 ≤ v.1 ∧ v.1 < 8 ∧ 0 ≤ v.2 ∧ v.2 ≤ 100 := by
  intro v hm
  obtain ⟨j, hj⟩ := List.getElem?_of_mem hm
  have := hv j v hj
  simp only [varOk, hj, Bool.and_eq_true, Bool.not_eq_true', Bool.or_eq_false_iff, decide_eq_false_iff_not] at this
  obtain ⟨⟨⟨⟨⟨a, b⟩, d⟩, e⟩, _⟩, _⟩ := this
  omega
 refine ⟨by simp only; omega, by simp only; omega, upL_of_steps fun j u v hu hw => ?_, fun v hm => (hv' v hm).2.2.1, fun v hm => (hv' v hm).2.2.2, fun v hm => (hv' v hm).1, fun v hm => (hv' v hm).2.1⟩
 have := hv (j + 1) v hw
 have hu' : vs[j + 1 - 1]? = some u := by simpa using hu
 simp only [varOk, hw, hu', Bool.and_eq_true, Bool.not_eq_true', Bool.or_eq_false_iff, decide_eq_false_iff_not] at this
 have h5 := this.1.2
 simp at h5
 omega
def plusL (l : Lv) (n : Int) : Lv × Int :=
 let c := if 0 < l.c ∨ l.vars = [] then l.c + n else 0
 if 100 < c then (⟨0, []⟩, 15)
 else if l.vars.all (fun x => decide (x.2 + n ≤ 100)) then (⟨c, plusV l.vars n⟩, 0) else (⟨0, []⟩, 15)
def joinL (a b : Lv) : Lv :=
 ⟨if mergeL a.vars b.vars ≠ [] ∧ max a.c b.c ≤ mostL (mergeL a.vars b.vars) then 0 else max a.c b.c, mergeL a.vars b.vars⟩
def hitL (vals : List Lv) (metas : Bool) (v : Int × Int) : Option Lv :=
 if decide (v.1 < 0) = metas then vals[(if metas then -1 - v.1 else v.1).toNat]? else none
def partL (vals : List Lv) (metas : Bool) (v : Int × Int) : Lv × Int :=
 match hitL vals metas v with
 | some x => plusL x v.2
 | none => (⟨0, [v]⟩, 0)
def replL (vals : List Lv) (metas : Bool) : List (Int × Int) → Lv → Lv × Int
 | [], out => (out, 0)
 | v :: vs, out => if (partL vals metas v).2 ≠ 0 then (⟨0, []⟩, (partL vals metas v).2) else replL vals metas vs (joinL out (partL vals metas v).1)
def stepP (vals : List Lv) (metas : Bool) (s : Int × List (Int × Int)) (v : Int × Int) : Int × List (Int × Int) :=
 match hitL vals metas v with
 | some x => (max s.1 (x.c + v.2), addM s.2 x.vars v.2)
 | none => (s.1, raiseM s.2 v.1 v.2)
def limL (l : Lv) : Lv × Int :=
 if l.vars.any (fun x => decide (100 < x.2)) then (⟨0, []⟩, 15) else if 100 < l.c then (⟨0, []⟩, 15) else (⟨if coverB l.c l.vars then 0 else l.c, l.vars⟩, 0)
def lvlP (s : Int × List (Int × Int)) : Lv × Int := limL ⟨s.1, sortM s.2⟩

structure InvL (o : Lv) (s : Int × List (Int × Int)) : Prop where
 up : upL o.vars
 nd : (s.2.map Prod.fst).Nodup
 lk : ∀ i, lkI o.vars i = lkI s.2 i
 v0 : ∀ x ∈ o.vars, 0 ≤ x.2
 v1 : ∀ x ∈ o.vars, x.2 ≤ 100
 c0 : 0 ≤ s.1
 c1 : s.1 ≤ 100
 ce : o.c = if o.vars ≠ [] ∧ s.1 ≤ mostL o.vars then 0 else s.1
def BadL (s : Int × List (Int × Int)) : Prop := 100 < s.1 ∨ ∃ i v, lkI s.2 i = some v ∧ 100 < v
theorem coverB_iff (c : Int) (vs : List (Int × Int)) : coverB c vs = true ↔ ∃ x ∈ vs, c ≤ x.2 := by
 have h1 : coverB c vs = false ↔ ∀ x ∈ vs, ¬ c ≤ x.2 := by
  unfold coverB
  rw [Bool.not_eq_false', allTo_iff]
  constructor
  ·intro h x hx
   obtain ⟨j, hj⟩ := List.getElem?_of_mem hx
   have := h j (List.getElem?_eq_some_iff.1 hj).1
   simpa [lowAt, hj] using this
  ·intro h j hj
   have hg : vs[j]? = some vs[j] := List.getElem?_eq_getElem hj
   simpa [lowAt, hg] using h _ (List.getElem_mem hj)
 constructor
 ·intro h
  by_cases q : ∃ x ∈ vs, c ≤ x.2
  ·exact q
  ·have := h1.2 fun x hx hc => q ⟨x, hx, hc⟩
   rw [h] at this; cases this
 ·rintro ⟨x, hx, hc⟩
  cases e : coverB c vs with
  | true => rfl
  | false => exact absurd hc (h1.1 e x hx)
theorem mostL_cover {c : Int} {vs : List (Int × Int)} (h0 : ∀ x ∈ vs, 0 ≤ x.2) : (coverB c vs = true) ↔ (vs ≠ [] ∧ c ≤ mostL vs) := by
 rw [coverB_iff]
 constructor
 ·rintro ⟨x, hx, h⟩
  exact ⟨List.ne_nil_of_mem hx, Int.le_trans h (mostL_ge hx)⟩
 ·rintro ⟨hn, h⟩
  rcases mostL_mem vs with e | ⟨x, hx, e⟩
  ·obtain ⟨x, hx⟩ := List.exists_mem_of_ne_nil _ hn
   exact ⟨x, hx, by have := h0 x hx; omega⟩
  ·exact ⟨x, hx, by omega⟩
theorem InvL.ends {o : Lv} {s : Int × List (Int × Int)} (h : InvL o s) : lvlP s = (o, 0) := by
 have e : sortM s.2 = o.vars := sortM_eq h.up h.nd h.lk
 unfold lvlP limL
 simp only [e]
 have h1 : o.vars.any (fun x => decide (100 < x.2)) = false := by
  rw [List.any_eq_false]
  intro x hx
  have := h.v1 x hx
  simp; omega
 have h2 := h.c1
 rw [h1, if_neg (by simp), if_neg (by omega)]
 have h3 := h.ce
 by_cases hc : coverB s.1 o.vars = true
 ·rw [if_pos hc]
  rw [if_pos ((mostL_cover h.v0).1 hc)] at h3
  obtain ⟨c, vs⟩ := o
  simp only at h3
  rw [h3]
 ·rw [if_neg hc]
  rw [if_neg fun x => hc ((mostL_cover h.v0).2 x)] at h3
  obtain ⟨c, vs⟩ := o
  simp only at h3
  rw [h3]
theorem BadL.ends {s : Int × List (Int × Int)} (h : BadL s) : lvlP s = (⟨0, []⟩, 15) := by
 unfold lvlP limL
 simp only
 rcases h with h | ⟨i, v, h, hv⟩
 ·split
  ·rfl
  ·first | rfl | rw [if_pos h]
 ·have : (sortM s.2).any (fun x => decide (100 < x.2)) = true := by
   rw [List.any_eq_true]
   exact ⟨(i, v), lkI_mem ((sortM_lk i).trans h), by simpa using hv⟩
  rw [if_pos this]
theorem BadL.step {vals : List Lv} {metas : Bool} (hv : ∀ x ∈ vals, Vd x) {s : Int × List (Int × Int)} (v : Int × Int) (h : BadL s) : BadL (stepP vals metas s v) := by
 unfold stepP
 split
 ·rename_i x hx
  have hx' : x ∈ vals := by
   unfold hitL at hx
   split at hx
   ·exact List.mem_of_getElem? hx
   ·cases hx
  rcases h with h | ⟨i, p, h, hp⟩
  ·exact .inl (by simp only; omega)
  ·right
   simp only
   have := addM_lk v.2 i x.vars s.2 (hv x hx').up
   rw [h] at this
   cases hq : lkI (plusV x.vars v.2) i with
   | none => rw [hq] at this; exact ⟨i, p, this, hp⟩
   | some q => rw [hq] at this; exact ⟨i, _, this, by omega⟩
 ·rcases h with h | ⟨i, p, h, hp⟩
  ·exact .inl h
  ·right
   have := raiseM_lk s.2 v.1 v.2 i
   rw [h] at this
   simp only [omax_some] at this
   by_cases c : v.1 = i
   ·rw [if_pos c] at this; exact ⟨i, _, this, by omega⟩
   ·rw [if_neg c] at this; exact ⟨i, _, this, hp⟩
theorem BadL.all {vals : List Lv} {metas : Bool} (hv : ∀ x ∈ vals, Vd x) : ∀ (vs : List (Int × Int)) {s : Int × List (Int × Int)}, BadL s → BadL (vs.foldl (stepP vals metas) s)
 | [], _, h => h
 | v :: vs, _, h => BadL.all hv vs (h.step hv v)
theorem InvL.join {o p : Lv} {s s' : Int × List (Int × Int)} {c' : Int} (h : InvL o s) (hu : upL p.vars) (h0 : ∀ x ∈ p.vars, 0 ≤ x.2) (h1 : ∀ x ∈ p.vars, x.2 ≤ 100)
  (hs : ∀ i, lkI s'.2 i = omax (lkI s.2 i) (lkI p.vars i)) (hn : (s'.2.map Prod.fst).Nodup) (hc : s'.1 = max s.1 c') (hc0 : 0 ≤ c') (hc1 : c' ≤ 100) (hp : p.c = c' ∨ (p.c = 0 ∧ p.vars ≠ [] ∧ c' ≤ mostL p.vars)) : InvL (joinL o p) s' := by
 have hb : ∀ x ∈ mergeL o.vars p.vars, 0 ≤ x.2 ∧ x.2 ≤ 100 := by
  intro x hx
  have hl := lkI_some (mergeL_up _ _ h.up hu).nodup (show (x.1, x.2) ∈ _ from hx)
  rw [mergeL_lk _ _ _ h.up hu] at hl
  cases e1 : lkI o.vars x.1 with
  | none =>
   rw [e1] at hl
   have hm := lkI_mem (show lkI p.vars x.1 = some x.2 by simpa using hl)
   exact ⟨h0 _ hm, h1 _ hm⟩
  | some y =>
   have hy := lkI_mem e1
   have a1 := h.v0 _ hy
   have a2 := h.v1 _ hy
   rw [e1] at hl
   cases e2 : lkI p.vars x.1 with
   | none => rw [e2] at hl; simp at hl; simp only at a1 a2; omega
   | some z =>
    have hz := lkI_mem e2
    have a3 := h0 _ hz
    have a4 := h1 _ hz
    rw [e2] at hl; simp at hl; simp only at a1 a2 a3 a4; omega
 refine ⟨mergeL_up _ _ h.up hu, hn, fun i => ?_, fun x hx => (hb x hx).1, fun x hx => (hb x hx).2, ?_, ?_, ?_⟩
 ·rw [hs, ← h.lk]; exact mergeL_lk _ _ _ h.up hu
 ·have := h.c0; omega
 ·have := h.c1; omega
 ·have he := h.ce
  have hm := mostL_merge o.vars p.vars
  have m1 := mostL_nn o.vars
  have m2 := mostL_nn p.vars
  have k0 := h.c0
  change (if mergeL o.vars p.vars ≠ [] ∧ max o.c p.c ≤ mostL (mergeL o.vars p.vars) then (0 : Int) else max o.c p.c) = if mergeL o.vars p.vars ≠ [] ∧ s'.1 ≤ mostL (mergeL o.vars p.vars) then 0 else s'.1
  by_cases hnil : mergeL o.vars p.vars = []
  ·obtain ⟨e1, e2⟩ := mergeL_eq_nil hnil
   simp only [hnil, ne_eq, not_true_eq_false, false_and, if_false]
   simp only [e1, ne_eq, not_true_eq_false, false_and, if_false] at he
   rcases hp with hp | ⟨_, hp, _⟩
   ·rw [hc, he, hp]
   ·exact absurd e2 hp
  ·by_cases hbig : s'.1 ≤ mostL (mergeL o.vars p.vars)
   ·have q1 : o.c ≤ s.1 := by rw [he]; split <;> omega
    have q2 : p.c ≤ c' := by rcases hp with hp | ⟨hp, _, _⟩ <;> omega
    have q4 : max o.c p.c ≤ mostL (mergeL o.vars p.vars) := by omega
    simp only [hnil, hbig, q4, ne_eq, not_false_eq_true, true_and, if_true]
   ·have q1 : o.c = s.1 ∨ (o.c = 0 ∧ s.1 ≤ mostL o.vars) := by
     rw [he]; split
     ·rename_i c; exact .inr ⟨rfl, c.2⟩
     ·exact .inl rfl
    have q3 : max o.c p.c = s'.1 := by
     rcases q1 with q1 | ⟨q1, q2⟩ <;> rcases hp with hp | ⟨hp, _, hp'⟩ <;> omega
    rw [q3]
theorem plusV_all {vs : List (Int × Int)} {n : Int} (h : vs.all (fun x => decide (x.2 + n ≤ 100)) = true) : ∀ x ∈ plusV vs n, x.2 ≤ 100 := by
 intro x hx
 obtain ⟨y, hy, rfl⟩ := List.mem_map.1 hx
 simpa using List.all_eq_true.1 h y hy
theorem repl_lvl {vals : List Lv} {metas : Bool} (hv : ∀ x ∈ vals, Vd x) : ∀ (vs : List (Int × Int)) (o : Lv) (s : Int × List (Int × Int)), (∀ v ∈ vs, 0 ≤ v.2 ∧ v.2 ≤ 100) → InvL o s →
  replL vals metas vs o = lvlP (vs.foldl (stepP vals metas) s)
 | [], o, s, _, h => by simp only [replL, List.foldl_nil]; exact h.ends.symm
 | v :: vs, o, s, hb, h => by
  have hb0 := hb v (by simp)
  have hbs := fun w hw => hb w (List.mem_cons_of_mem _ hw)
  simp only [replL, List.foldl_cons]
  cases hx : hitL vals metas v with
  | none =>
   have hp : partL vals metas v = (⟨0, [v]⟩, 0) := by unfold partL; rw [hx]
   have hs : stepP vals metas s v = (s.1, raiseM s.2 v.1 v.2) := by unfold stepP; rw [hx]
   rw [hp, hs, if_neg (by simp)]
   refine repl_lvl hv vs _ _ hbs (h.join (c' := 0) ⟨by simp, trivial⟩ (by simpa using hb0.1) (by simpa using hb0.2) (fun i => ?_) (raiseM_nodup _ _ h.nd) (by have := h.c0; simp only; omega) (by omega) (by omega) (.inl rfl))
   rw [raiseM_lk]
   simp only [lkI]
   by_cases c : v.1 = i
   ·rw [if_pos c, if_pos c]
   ·rw [if_neg c, if_neg c]; simp
  | some x =>
   have hx' : x ∈ vals := by
    unfold hitL at hx
    split at hx
    ·exact List.mem_of_getElem? hx
    ·cases hx
   have hV := hv x hx'
   have hp : partL vals metas v = plusL x v.2 := by unfold partL; rw [hx]
   have hs : stepP vals metas s v = (max s.1 (x.c + v.2), addM s.2 x.vars v.2) := by unfold stepP; rw [hx]
   rw [hp, hs]
   have hlk := fun i => addM_lk v.2 i x.vars s.2 hV.up
   by_cases hc : 100 < (if 0 < x.c ∨ x.vars = [] then x.c + v.2 else 0)
   ·have e : plusL x v.2 = (⟨0, []⟩, 15) := by unfold plusL; simp only; rw [if_pos hc]
    rw [e, if_pos (by simp)]
    refine (BadL.ends (BadL.all hv vs (.inl ?_))).symm
    simp only
    split at hc <;> omega
   ·by_cases hall : x.vars.all (fun y => decide (y.2 + v.2 ≤ 100)) = true
    ·have e : plusL x v.2 = (⟨if 0 < x.c ∨ x.vars = [] then x.c + v.2 else 0, plusV x.vars v.2⟩, 0) := by unfold plusL; simp only; rw [if_neg hc, if_pos hall]
     rw [e, if_neg (by simp)]
     have hc0 := hV.c0
     refine repl_lvl hv vs _ _ hbs (h.join (c' := x.c + v.2) (plusV_up hV.up) (fun y hy => ?_) (plusV_all hall) hlk (addM_nodup _ _ h.nd) rfl (by omega) ?_ ?_)
     ·obtain ⟨z, hz, rfl⟩ := List.mem_map.1 hy
      have := hV.v0 z hz
      simp only; omega
     ·split at hc <;> omega
     ·by_cases hd : 0 < x.c ∨ x.vars = []
      ·exact .inl (by simp only; rw [if_pos hd])
      ·right
       have hne : x.vars ≠ [] := fun c => hd (.inr c)
       have hz : x.c = 0 := by have : ¬ 0 < x.c := fun c => hd (.inl c); omega
       refine ⟨by simp only; rw [if_neg hd], fun c => hne (by simpa [plusV] using c), ?_⟩
       obtain ⟨y, hy⟩ := List.exists_mem_of_ne_nil _ hne
       have := hV.v0 y hy
       have h5 := mostL_ge (l := plusV x.vars v.2) (x := (y.1, y.2 + v.2)) (List.mem_map.2 ⟨y, hy, rfl⟩)
       simp only at h5
       show x.c + v.2 ≤ mostL (plusV x.vars v.2)
       omega
    ·have e : plusL x v.2 = (⟨0, []⟩, 15) := by unfold plusL; simp only; rw [if_neg hc, if_neg hall]
     rw [e, if_pos (by simp)]
     refine (BadL.ends (BadL.all hv vs (.inr ?_))).symm
     have : ∃ y ∈ x.vars, 100 < y.2 + v.2 := by
      simp at hall
      obtain ⟨a, b, h1, h2⟩ := hall
      exact ⟨(a, b), h1, h2⟩
     obtain ⟨y, hy, hy2⟩ := this
     have hq : lkI (plusV x.vars v.2) y.1 = some (y.2 + v.2) := lkI_some (plusV_up hV.up).nodup (List.mem_map.2 ⟨y, hy, rfl⟩)
     have := hlk y.1
     rw [hq] at this
     cases hr : lkI s.2 y.1 with
     | none => rw [hr] at this; exact ⟨_, _, this, hy2⟩
     | some r => rw [hr] at this; exact ⟨_, _, this, by omega⟩


open Go Go.AI
theorem drop_of_get {α : Type} {l : List α} {i : Nat} {x : α} (h : l[i]? = some x) : l.drop i = x :: l.drop (i + 1) := by
 have hj : i < l.length := (List.getElem?_eq_some_iff.1 h).1
 have hg : l[i] = x := (List.getElem?_eq_some_iff.1 h).2
 rw [← hg]; exact List.drop_eq_getElem_cons hj

end Go.Proofs.YtcfcolkbeelegaaGreat

namespace Go.AI

open Go
theorem buf_rep {E : Env} {w : World} {sz cap : Nat} {es : List (List PV)} {vs : List Value} (hes : ∀ e ∈ es, e.length = sz) (hn : es.length ≤ cap) (hl : vs.length = cap * sz)
  (hr : RepL E w (es.flatten.map .p) (vs.take (es.flatten.map AV.p).length)) : RepL E w (buf sz es (cap - es.length)) vs := by
 have hel : (es.flatten.map AV.p).length = es.length * sz := by rw [List.length_map, flat_length hes]
 rw [hel] at hr
 have hmul : es.length * sz + (cap - es.length) * sz = cap * sz := by rw [← Nat.add_mul]; congr 1; omega
 have hd : (vs.drop (es.length * sz)).length = (cap - es.length) * sz := by rw [List.length_drop]; omega
 have := hr.append (hd ▸ RepL.junks (E := E) (w := w) (vs.drop (es.length * sz)))
 rw [List.take_append_drop] at this
 exact this
theorem Rel.thaw {E : Env} {h : Heap} {w : World} (r : Rel E h.at w) (hf : Fresh E h.length) {id b cap sz : Nat} {es : List (List PV)} (hat : h.at id = some (.vec sz es)) (hL : E.t id = some ⟨some b, cap, es.length⟩) (hes : ∀ e ∈ es, e.length = sz) :
  let E' : Env := { E with g := fun i => if i = h.length then some b else E.g i }
  let h' : Heap := h.set id none ++ [some (.cells (buf sz es (cap - es.length)))]
  Rel E' h'.at w ∧ Fr E h.at w E' h'.at w ∧ Fresh E' (h.length + 1) ∧ es.length ≤ cap := by
 intro E' h'
 obtain ⟨blk, cap', ht, k1, k2, k3⟩ := r.toks id _ _ _ _ _ hat rfl
 rw [hL] at ht; cases ht
 obtain ⟨vs, hrow, hcl, hcr⟩ := k3 b rfl
 have hlt := lt_of_at hat
 have hx : Ext E w E' w := ⟨fun _ _ h => h, fun _ _ _ => rfl, fun i b' e => by
   show (if i = h.length then some b else E.g i) = some b'
   rw [if_neg (fun he => by rw [he, (hf _ (Nat.le_refl _)).1] at e; cases e)]; exact e, fun _ L h => ⟨L, h, Nat.le_refl _, fun _ => rfl⟩⟩
 have hnew : h'.at h.length = some (.cells (buf sz es (cap - es.length))) := by
  have := at_append (h.set id none) (some (.cells (buf sz es (cap - es.length)))) h.length
  rw [List.length_set, if_pos rfl] at this
  exact this
 have hold : ∀ i o, i ≠ h.length → h'.at i = some o → h.at i = some o ∧ i ≠ id := by
  intro i o hne e
  have := at_append (h.set id none) (some (.cells (buf sz es (cap - es.length)))) i
  rw [List.length_set, if_neg hne] at this
  have e' : Heap.at (h.set id none) i = some o := this ▸ e
  unfold Heap.at at e' ⊢
  by_cases c : id = i
  ·subst c
   rw [List.getElem?_set_self'] at e'
   cases hh : h[id]? <;> simp [hh] at e'
  ·rw [List.getElem?_set_ne c] at e'
   exact ⟨e', fun q => c q.symm⟩
 have hg' : ∀ i, i ≠ h.length → E'.g i = E.g i := fun i hne => if_neg hne
 have hgn : E'.g h.length = some b := if_pos rfl
 have hO : ∀ i b', Owns E' h'.at i b' → (i = h.length ∧ b' = b) ∨ (i ≠ h.length ∧ i ≠ id ∧ Owns E h.at i b') := by
  intro i b' ho
  by_cases e : i = h.length
  ·subst e
   left; refine ⟨rfl, ?_⟩
   rcases ho with ⟨o', h1, h3, h2⟩ | ⟨o', x, c, m, h1, hk, h2⟩
   ·rw [hgn] at h2; cases h2; rfl
   ·rw [hnew] at h1; cases h1; simp [AO.tk] at hk
  ·right
   rcases ho with ⟨o', h1, h3, h2⟩ | ⟨o', x, c, m, h1, hk, h2⟩
   ·obtain ⟨q1, q2⟩ := hold i o' e h1
    rw [hg' i e] at h2
    exact ⟨e, q2, .inl ⟨o', q1, h3, h2⟩⟩
   ·obtain ⟨q1, q2⟩ := hold i o' e h1
    exact ⟨e, q2, .inr ⟨o', x, c, m, q1, hk, h2⟩⟩
 have hown : Owns E h.at id b := .inr ⟨_, _, _, _, hat, rfl, hL⟩
 refine ⟨⟨fun i o hc hn => ?_, fun i o n s k cs hc hk => ?_, fun i i' b' h1 h2 => ?_, fun i o b' off hc hn hg hb => ?_, fun i o n s k cs b' c m off hc hk hg hl hb => ?_, r.lt⟩, ⟨fun _ _ _ => rfl, hx, fun _ _ h => .inl h, Nat.le_refl _, fun b' ⟨i, ho⟩ => ?_, Kp.refl w⟩, fun i hi => ?_, k1⟩
 ·by_cases e : i = h.length
  ·subst e; rw [hnew] at hc; cases hc
   exact ⟨b, hgn, vs, hrow, (buf_rep hes k1 hcl hcr).ext hx⟩
  ·obtain ⟨q1, _⟩ := hold i o e hc
   obtain ⟨b', hg, ho⟩ := r.objsO i o q1 hn
   exact ⟨b', by rw [hg' i e]; exact hg, ho.move hx rfl⟩
 ·have e : i ≠ h.length := fun e => by subst e; rw [hnew] at hc; cases hc; simp [AO.tk] at hk
  obtain ⟨q1, _⟩ := hold i o e hc
  obtain ⟨blk, cap2, ht, h1, h2, h3⟩ := r.toks i o n s k cs q1 hk
  refine ⟨blk, cap2, ht, h1, h2, fun b' hb => ?_⟩
  obtain ⟨us, hr, hl, hp⟩ := h3 b' hb
  exact ⟨us, hr, hl, hp.ext hx⟩
 ·rcases hO i b' h1 with ⟨e1, e2⟩ | ⟨e1, e2, o1⟩ <;> rcases hO i' b' h2 with ⟨e3, e4⟩ | ⟨e3, e4, o2⟩
  ·rw [e1, e3]
  ·subst e2; exact absurd (r.inj _ _ _ o2 hown) e4
  ·subst e4; exact absurd (r.inj _ _ _ o1 hown) e2
  ·exact r.inj i i' b' o1 o2
 ·by_cases e : i = h.length
  ·subst e
   rw [hgn] at hg; cases hg
   exact r.sepT id _ _ _ _ _ b cap _ off hat rfl hL (by omega) hb
  ·obtain ⟨q1, _⟩ := hold i o e hc
   rw [hg' i e] at hg; exact r.sepO i o b' off q1 hn hg hb
 ·have e : i ≠ h.length := fun e => by subst e; rw [hnew] at hc; cases hc; simp [AO.tk] at hk
  obtain ⟨q1, _⟩ := hold i o e hc
  exact r.sepT i o n s k cs b' c m off q1 hk hg hl hb
 ·rcases hO i b' ho with ⟨_, e2⟩ | ⟨_, _, o⟩
  ·subst e2; exact .inl ⟨id, hown⟩
  ·exact .inl ⟨i, o⟩
 ·have hid' : h.length + 1 ≤ i := hi
  exact ⟨by rw [hg' i (by omega)]; exact (hf i (by omega)).1, (hf i (by omega)).2⟩

section

variable {P : Program} {rd : Option Nat} {nb : Nat} {k : List It} {T : List AV} {h : Heap} {D : List AD} {Q : AX → List AV → Heap → List AD → Prop}
theorem Run.thawAt (cid off : Nat) {id n sz : Nat} {cs : List AV} {es : List (List PV)} (hcid : h.at cid = some (.cells cs)) (hs : cs[off]? = some (.vec id n)) (hat : h.at id = some (.vec sz es)) (hes : ∀ e ∈ es, e.length = sz) (hn : es.length = n) (hpos : 0 < n)
  (r : ∀ cap, n ≤ cap → Run P rd nb k T ((h.set cid (some (.cells (cs.set off (.sm h.length 0 n cap sz))))).set id none ++ [some (.cells (buf sz es (cap - n)))]) D Q) : Run P rd nb k T h D Q := by
 intro E w a s
 subst hn
 have hlt := lt_of_at hat
 have hltc := lt_of_at hcid
 have hne : cid ≠ id := fun e => by subst e; rw [hcid] at hat; cases hat
 obtain ⟨blk, cap, ht, k1, k2, k3⟩ := s.rel.toks id _ _ _ _ _ hat rfl
 obtain ⟨b, rfl⟩ : ∃ b, blk = some b := by
  cases blk with
  | none => have := k2 rfl; omega
  | some b => exact ⟨b, rfl⟩
 obtain ⟨t1, t2, t3, _⟩ := s.rel.thaw s.fresh hat ht hes
 have hl1 : (h.set id none ++ [some (AO.cells (buf sz es (cap - es.length)))]).length = h.length + 1 := by simp
 have s' := s.move t2 t1 (by rw [hl1]; exact t3)
 have hid' : Heap.at (h.set id none ++ [some (.cells (buf sz es (cap - es.length)))]) cid = some (.cells cs) := by
  rw [at_append, List.length_set, if_neg (by omega)]
  unfold Heap.at at hcid ⊢
  rw [List.getElem?_set_ne (fun q => hne q.symm)]; exact hcid
 obtain ⟨bc, vs, hg, hrow, hreps⟩ := s'.rel.objs cid cs hid'
 have hl := hreps.length
 have hoff : off < cs.length := (List.getElem?_eq_some_iff.1 hs).1
 obtain ⟨v, hv⟩ : ∃ v, vs[off]? = some v := ⟨_, List.getElem?_eq_getElem (by omega)⟩
 have hvr : Rep { E with g := fun i => if i = h.length then some b else E.g i } w (.vec id es.length) v := by
  have := hreps.get off
  simpa only [List.getD, hs, hv, Option.getD_some] using this
 simp only [Rep] at hvr
 obtain ⟨L, hL, _, ad, cap0, rfl, hcur⟩ := hvr
 rw [ht] at hL; cases hL
 obtain ⟨e1, e2⟩ := hcur rfl
 simp only [Option.map_some] at e1 e2
 subst e1
 have e3 := e2.symm
 subst e3
 have hx : Rep { E with g := fun i => if i = h.length then some b else E.g i } w (.sm h.length 0 es.length cap sz) (.slice (some ⟨b, 0, none⟩) es.length cap) := by
  simp only [Rep]
  exact ⟨b, by simp, rfl⟩
 have hsame : vs.set off (.slice (some ⟨b, 0, none⟩) es.length cap) = vs := by
  apply List.ext_getElem?
  intro j
  rw [List.getElem?_set]
  split
  ·rename_i e; subst e; simp [show off < vs.length by omega] at hv ⊢; exact hv.symm
  ·rfl
 have hset := hreps.set hx off
 rw [hsame] at hset
 obtain ⟨w1, w2⟩ := s'.rel.write hid' hg hrow (fun _ _ => rfl) rfl rfl rfl hset
 have e : List.set (h.set id none ++ [some (AO.cells (buf sz es (cap - es.length)))]) cid (some (.cells (cs.set off (.sm h.length 0 es.length cap sz)))) = (h.set cid (some (.cells (cs.set off (.sm h.length 0 es.length cap sz))))).set id none ++ [some (.cells (buf sz es (cap - es.length)))] := by
  rw [List.set_append_left _ _ (by rw [List.length_set]; exact hltc), List.set_comm _ _ (fun q => hne q.symm)]
 rw [e] at w1 w2
 have s2 := s'.move w2 w1 (by rw [List.length_append, List.length_set, List.length_set]; exact t3)
 exact K_mono (P := P) (rd := rd) (Post.of_fr (Q := Q) (t2.trans w2)) k _ _ _ (r cap k1 _ w a s2)

end


open Go

section

variable {P : Program} {rd : Option Nat} {nb : Nat} {k : List It} {T : List AV} {h : Heap} {D : List AD} {Q : AX → List AV → Heap → List AD → Prop}
theorem Run.freezeAt (cid off : Nat) {id n cap sz m : Nat} {cs : List AV} {es : List (List PV)} (hcid : h.at cid = some (.cells cs)) (hs : cs[off]? = some (.sm id 0 n cap sz)) (hat : h.at id = some (.cells (buf sz es m))) (hne : cid ≠ id) (hes : ∀ e ∈ es, e.length = sz) (hn : es.length = n) (hcap : n ≤ cap)
  (r : Run P rd nb k T ((h.set cid (some (.cells (cs.set off (.p (.sl sz es)))))).set id none) D Q) : Run P rd nb k T h D Q := by
 intro E w a s
 have hlt := lt_of_at hat
 have hltc := lt_of_at hcid
 obtain ⟨b, vals, hg, hrow, hreps⟩ := s.rel.objs id _ hat
 obtain ⟨f1, f2⟩ := s.rel.freeze hat hg
 have s' := s.move f2 f1 (fun i hi => s.fresh i (by simpa using hi))
 have hel : (es.flatten.map AV.p).length = es.length * sz := by rw [List.length_map, flat_length hes]
 have hx : Rep { E with ro := fun b' off => E.ro b' off ∨ b' = b } w (.p (.sl sz es)) (.slice (some ⟨b, 0, none⟩) n cap) := by
  simp only [Rep, RepP]
  refine ⟨_, cap, by rw [hn], by omega, .inr ⟨b, 0, rfl, ?_⟩⟩
  refine RepEs.of_row (vs := vals.take (es.length * sz)) hes (fun j v hj => ⟨.inr rfl, ?_⟩) ?_
  ·rw [hrow.cell, Nat.zero_add]
   rw [List.getElem?_take] at hj
   split at hj
   ·exact hj
   ·cases hj
  ·have := (hreps.ext f2.ext).take (es.length * sz)
   unfold buf at this
   rwa [List.take_append_of_le_length (by omega), List.take_of_length_le (by omega)] at this
 have hid' : Heap.at (h.set id none) cid = some (.cells cs) := by
  unfold Heap.at at hcid ⊢
  rw [List.getElem?_set_ne (fun q => hne q.symm)]; exact hcid
 obtain ⟨bc, vs, hgc, hrowc, hrepsc⟩ := s'.rel.objs cid cs hid'
 have hl := hrepsc.length
 have hoff : off < cs.length := (List.getElem?_eq_some_iff.1 hs).1
 obtain ⟨v, hv⟩ : ∃ v, vs[off]? = some v := ⟨_, List.getElem?_eq_getElem (by omega)⟩
 have hvr : Rep { E with ro := fun b' off => E.ro b' off ∨ b' = b } w (.sm id 0 n cap sz) v := by
  have := hrepsc.get off
  simpa only [List.getD, hs, hv, Option.getD_some] using this
 simp only [Rep] at hvr
 obtain ⟨b2, hb2, rfl⟩ := hvr
 have hb2 : E.g id = some b2 := hb2
 rw [hg] at hb2; cases hb2
 have hsame : vs.set off (.slice (some ⟨b, 0, none⟩) n cap) = vs := by
  apply List.ext_getElem?
  intro j
  rw [List.getElem?_set]
  split
  ·rename_i e; subst e; simp [show off < vs.length by omega] at hv ⊢; exact hv.symm
  ·rfl
 have hset := hrepsc.set hx off
 rw [hsame] at hset
 obtain ⟨w1, w2⟩ := s'.rel.write hid' hgc hrowc (fun _ _ => rfl) rfl rfl rfl hset
 have e : List.set (h.set id none) cid (some (.cells (cs.set off (.p (.sl sz es))))) = (h.set cid (some (.cells (cs.set off (.p (.sl sz es)))))).set id none := by
  rw [List.set_comm _ _ (fun q => hne q.symm)]
 rw [e] at w1 w2
 have s2 := s'.move w2 w1 (fun i hi => s'.fresh i (by simpa using hi))
 exact K_mono (P := P) (rd := rd) (Post.of_fr (Q := Q) (f2.trans w2)) k _ _ _ (r _ w a s2)

end

end Go.AI
