import Derived.Test.YtcfcolkbeelegaaGreatQC
import Derived.Test.YtcfcolkbeelegaaGreatQT3
import Derived.Test.YtcfcolkbeelegaaGreatQD
import Derived.Test.YtcfcolkbeelegaaGreatQE11

namespace Go.Proofs.YtcfcolkbeelegaaGreat

open Go Go.AI
def omax : Option Int → Option Int → Option Int
 | none, b => b
 | a, none => a
 | some x, some y => some (max x y)
@[simp] theorem omax_none_left (a : Option Int) : omax none a = a := rfl
@[simp] theorem omax_none_right (a : Option Int) : omax a none = a := by cases a <;> rfl
@[simp] theorem omax_some (x y : Int) : omax (some x) (some y) = some (max x y) := rfl
def upL : List (Int × Int) → Prop
 | [] => True
 | x :: l => (∀ y ∈ l, x.1 < y.1) ∧ upL l
theorem lkI_mem {l : List (Int × Int)} {i v : Int} (h : lkI l i = some v) : (i, v) ∈ l := by
 induction l with
 | nil => simp [lkI] at h
 | cons x l ih =>
  obtain ⟨a, b⟩ := x
  simp only [lkI] at h
  split at h
  ·rename_i e; subst e; cases h; simp
  ·exact List.mem_cons_of_mem _ (ih h)
theorem lkI_some {l : List (Int × Int)} (hn : (l.map Prod.fst).Nodup) {i v : Int} (h : (i, v) ∈ l) : lkI l i = some v := by
 induction l with
 | nil => simp at h
 | cons x l ih =>
  obtain ⟨a, b⟩ := x
  simp only [List.map_cons, List.nodup_cons] at hn
  simp only [lkI]
  rcases List.mem_cons.1 h with h | h
  ·cases h; simp
  ·have : a ≠ i := fun e => hn.1 (e ▸ List.mem_map.2 ⟨_, h, rfl⟩)
   rw [if_neg this]
   exact ih hn.2 h
theorem upL.nodup : ∀ {l : List (Int × Int)}, upL l → (l.map Prod.fst).Nodup
 | [], _ => by simp
 | x :: l, h => by
  simp only [List.map_cons, List.nodup_cons]
  refine ⟨fun hm => ?_, upL.nodup h.2⟩
  obtain ⟨y, hy, e⟩ := List.mem_map.1 hm
  have := h.1 y hy
  omega
theorem upL_ext : ∀ {a b : List (Int × Int)}, upL a → upL b → (∀ i, lkI a i = lkI b i) → a = b
 | [], [], _, _, _ => rfl
 | [], y :: b, _, _, h => by have := h y.1; simp [lkI] at this
 | x :: a, [], _, _, h => by have := h x.1; simp [lkI] at this
 | (i, p) :: a, (k, q) :: b, ha, hb, h => by
  have hlow : ∀ {l : List (Int × Int)} {z : Int}, (∀ y ∈ l, z < y.1) → lkI l z = none := fun hl => lkI_none fun y hy e => by have := hl y hy; omega
  have hik : i = k := by
   have h1 := h i
   have h2 := h k
   simp only [lkI, if_true] at h1 h2
   rcases Int.lt_trichotomy i k with c | c | c
   ·rw [if_neg (by omega)] at h1
    rw [hlow (fun y hy => by have := hb.1 y hy; simp only at this; omega)] at h1
    cases h1
   ·exact c
   ·rw [if_neg (by omega)] at h2
    rw [hlow (fun y hy => by have := ha.1 y hy; simp only at this; omega)] at h2
    cases h2
  subst hik
  have hpq : p = q := by
   have h1 := h i
   simpa [lkI] using h1
  subst hpq
  congr 1
  refine upL_ext ha.2 hb.2 fun j => ?_
  have hj := h j
  simp only [lkI] at hj
  by_cases e : i = j
  ·subst e
   rw [hlow ha.1, hlow hb.1]
  ·rwa [if_neg e, if_neg e] at hj
def mergeL : List (Int × Int) → List (Int × Int) → List (Int × Int)
 | [], b => b
 | a, [] => a
 | (i, p) :: a, (k, q) :: b => if i < k then (i, p) :: mergeL a ((k, q) :: b) else if k < i then (k, q) :: mergeL ((i, p) :: a) b else (i, max p q) :: mergeL a b
termination_by a b => a.length + b.length
@[simp] theorem mergeL_nil_right (a : List (Int × Int)) : mergeL a [] = a := by cases a <;> simp [mergeL]
@[simp] theorem mergeL_nil_left (a : List (Int × Int)) : mergeL [] a = a := by cases a <;> simp [mergeL]
theorem mergeL_low {z : Int} : ∀ (a b : List (Int × Int)), (∀ y ∈ a, z < y.1) → (∀ y ∈ b, z < y.1) → ∀ y ∈ mergeL a b, z < y.1
 | [], b, _, hb, y, hy => by rw [mergeL_nil_left] at hy; exact hb y hy
 | a, [], ha, _, y, hy => by rw [mergeL_nil_right] at hy; exact ha y hy
 | (i, p) :: a, (k, q) :: b, ha, hb, y, hy => by
  rw [mergeL] at hy
  have hi := ha (i, p) (by simp)
  have hk := hb (k, q) (by simp)
  split at hy
  ·rcases List.mem_cons.1 hy with rfl | hy
   ·exact hi
   ·exact mergeL_low a _ (fun y h => ha y (by simp [h])) hb y hy
  ·split at hy
   ·rcases List.mem_cons.1 hy with rfl | hy
    ·exact hk
    ·exact mergeL_low _ b ha (fun y h => hb y (by simp [h])) y hy
   ·rcases List.mem_cons.1 hy with rfl | hy
    ·exact hi
    ·exact mergeL_low a b (fun y h => ha y (by simp [h])) (fun y h => hb y (by simp [h])) y hy
termination_by a b => a.length + b.length
theorem mergeL_up : ∀ (a b : List (Int × Int)), upL a → upL b → upL (mergeL a b)
 | [], b, _, hb => by rwa [mergeL_nil_left]
 | a, [], ha, _ => by rwa [mergeL_nil_right]
 | (i, p) :: a, (k, q) :: b, ha, hb => by
  rw [mergeL]
  split
  ·rename_i h
   refine ⟨fun y hy => mergeL_low a _ ha.1 (fun y hy => ?_) y hy, mergeL_up a _ ha.2 hb⟩
   rcases List.mem_cons.1 hy with rfl | hy
   ·exact h
   ·have := hb.1 y hy; simp only at this ⊢; omega
  ·split
   ·rename_i h
    refine ⟨fun y hy => mergeL_low _ b (fun y hy => ?_) hb.1 y hy, mergeL_up _ b ha hb.2⟩
    rcases List.mem_cons.1 hy with rfl | hy
    ·exact h
    ·have := ha.1 y hy; simp only at this ⊢; omega
   ·have : i = k := by omega
    subst this
    exact ⟨fun y hy => mergeL_low a b ha.1 hb.1 y hy, mergeL_up a b ha.2 hb.2⟩
termination_by a b => a.length + b.length
theorem mergeL_lk (j : Int) : ∀ (a b : List (Int × Int)), upL a → upL b → lkI (mergeL a b) j = omax (lkI a j) (lkI b j)
 | [], b, _, hb => by simp [lkI]
 | a, [], ha, _ => by simp [lkI]
 | (i, p) :: a, (k, q) :: b, ha, hb => by
  have hlow : ∀ {l : List (Int × Int)} {z : Int}, (∀ y ∈ l, z < y.1) → lkI l z = none := fun hl => lkI_none fun y hy e => by have := hl y hy; omega
  rw [mergeL]
  split
  ·rename_i h
   simp only [lkI]
   have ih := mergeL_lk j a ((k, q) :: b) ha.2 hb
   simp only [lkI] at ih
   split
   ·rename_i e; subst e
    rw [if_neg (by omega), hlow (fun y hy => by have := hb.1 y hy; simp only at this; omega)]
    simp
   ·rw [ih]
  ·split
   ·rename_i h
    simp only [lkI]
    have ih := mergeL_lk j ((i, p) :: a) b ha hb.2
    simp only [lkI] at ih
    split
    ·rename_i e; subst e
     rw [if_neg (by omega), hlow (fun y hy => by have := ha.1 y hy; simp only at this; omega)]
     simp
    ·rw [ih]
   ·have : i = k := by omega
    subst this
    simp only [lkI]
    split
    ·simp
    ·exact mergeL_lk j a b ha.2 hb.2
termination_by a b => a.length + b.length
theorem mergeL_eq_nil {a b : List (Int × Int)} (h : mergeL a b = []) : a = [] ∧ b = [] := by
 match a, b with
 | [], b => simpa using h
 | a, [] => simpa using h
 | (i, p) :: a, (k, q) :: b =>
  rw [mergeL] at h
  split at h
  ·cases h
  ·split at h <;> cases h
def mostL : List (Int × Int) → Int
 | [] => 0
 | x :: l => max x.2 (mostL l)
theorem mostL_nn (l : List (Int × Int)) : 0 ≤ mostL l := by
 induction l with
 | nil => simp [mostL]
 | cons x l ih => simp only [mostL]; omega
theorem mostL_ge {l : List (Int × Int)} {x : Int × Int} (h : x ∈ l) : x.2 ≤ mostL l := by
 induction l with
 | nil => simp at h
 | cons y l ih =>
  simp only [mostL]
  rcases List.mem_cons.1 h with rfl | h
  ·omega
  ·have := ih h; omega
theorem mostL_mem (l : List (Int × Int)) : mostL l = 0 ∨ ∃ x ∈ l, x.2 = mostL l := by
 induction l with
 | nil => exact .inl rfl
 | cons y l ih =>
  simp only [mostL]
  rcases ih with h | ⟨x, hx, h⟩
  ·rw [h]
   by_cases c : 0 ≤ y.2
   ·exact .inr ⟨y, by simp, by omega⟩
   ·exact .inl (by omega)
  ·by_cases c : mostL l ≤ y.2
   ·exact .inr ⟨y, by simp, by omega⟩
   ·exact .inr ⟨x, by simp [hx], by omega⟩
theorem mostL_merge : ∀ (a b : List (Int × Int)), mostL (mergeL a b) = max (mostL a) (mostL b)
 | [], b => by have := mostL_nn b; rw [mergeL_nil_left]; simp only [mostL]; omega
 | a, [] => by have := mostL_nn a; rw [mergeL_nil_right]; simp only [mostL]; omega
 | (i, p) :: a, (k, q) :: b => by
  rw [mergeL]
  split
  ·have ih := mostL_merge a ((k, q) :: b)
   simp only [mostL] at ih ⊢; omega
  ·split
   ·have ih := mostL_merge ((i, p) :: a) b
    simp only [mostL] at ih ⊢; omega
   ·have ih := mostL_merge a b
    simp only [mostL] at ih ⊢; omega
termination_by a b => a.length + b.length
def raiseM : List (Int × Int) → Int → Int → List (Int × Int)
 | [], i, p => [(i, p)]
 | x :: m, i, p => if x.1 = i then (i, max x.2 p) :: m else x :: raiseM m i p
theorem raiseM_keys (m : List (Int × Int)) (i p : Int) : ∀ k ∈ (raiseM m i p).map Prod.fst, k ∈ m.map Prod.fst ∨ k = i := by
 induction m with
 | nil => simp [raiseM]
 | cons x m ih =>
  intro k hk
  simp only [raiseM] at hk
  split at hk
  ·rename_i e
   simp only [List.map_cons, List.mem_cons] at hk ⊢
   rcases hk with rfl | hk
   ·exact .inr rfl
   ·exact .inl (.inr hk)
  ·simp only [List.map_cons, List.mem_cons] at hk ⊢
   rcases hk with rfl | hk
   ·exact .inl (.inl rfl)
   ·rcases ih k hk with h | h
    ·exact .inl (.inr h)
    ·exact .inr h
theorem raiseM_nodup {m : List (Int × Int)} (i p : Int) (h : (m.map Prod.fst).Nodup) : ((raiseM m i p).map Prod.fst).Nodup := by
 induction m with
 | nil => simp [raiseM]
 | cons x m ih =>
  simp only [List.map_cons, List.nodup_cons] at h
  simp only [raiseM]
  split
  ·rename_i e; subst e
   simpa using h
  ·rename_i e
   simp only [List.map_cons, List.nodup_cons]
   refine ⟨fun hm => ?_, ih h.2⟩
   rcases raiseM_keys m i p _ hm with c | c
   ·exact h.1 c
   ·exact e c
theorem raiseM_lk (m : List (Int × Int)) (i p j : Int) : lkI (raiseM m i p) j = if i = j then omax (lkI m j) (some p) else lkI m j := by
 induction m with
 | nil => simp [raiseM, lkI]
 | cons x m ih =>
  simp only [raiseM]
  split
  ·rename_i e
   simp only [lkI, e]
   split <;> simp
  ·rename_i e
   simp only [lkI]
   by_cases c : i = j
   ·subst c
    rw [if_neg e, if_neg e, ih]
   ·rw [if_neg c] at ih ⊢
    rw [ih]
def addM (m : List (Int × Int)) (vs : List (Int × Int)) (n : Int) : List (Int × Int) := vs.foldl (fun m x => raiseM m x.1 (x.2 + n)) m
theorem addM_nodup {m : List (Int × Int)} (vs : List (Int × Int)) (n : Int) (h : (m.map Prod.fst).Nodup) : ((addM m vs n).map Prod.fst).Nodup := by
 induction vs generalizing m with
 | nil => exact h
 | cons x vs ih => exact ih (raiseM_nodup _ _ h)
def plusV (vs : List (Int × Int)) (n : Int) : List (Int × Int) := vs.map fun x => (x.1, x.2 + n)
theorem plusV_up {n : Int} : ∀ {vs : List (Int × Int)}, upL vs → upL (plusV vs n)
 | [], _ => trivial
 | x :: vs, h => by
  refine ⟨fun y hy => ?_, plusV_up h.2⟩
  obtain ⟨z, hz, rfl⟩ := List.mem_map.1 hy
  exact h.1 z hz
theorem addM_lk (n j : Int) : ∀ (vs m : List (Int × Int)), upL vs → lkI (addM m vs n) j = omax (lkI m j) (lkI (plusV vs n) j)
 | [], m, _ => by simp [addM, plusV, lkI]
 | x :: vs, m, h => by
  have ih := addM_lk n j vs (raiseM m x.1 (x.2 + n)) h.2
  have e : addM m (x :: vs) n = addM (raiseM m x.1 (x.2 + n)) vs n := rfl
  rw [e, ih, raiseM_lk]
  simp only [plusV, List.map_cons, lkI]
  split
  ·rename_i c; subst c
   have : lkI (List.map (fun x => (x.1, x.2 + n)) vs) x.1 = none := lkI_none fun y hy c => by
    obtain ⟨z, hz, rfl⟩ := List.mem_map.1 hy
    have := h.1 z hz
    simp only at c
    omega
   rw [this]
   simp
  ·rfl


open Go Go.AI
theorem upL_of_lt : ∀ {l : List (Int × Int)}, (l.map Prod.fst).Pairwise (· < ·) → upL l
 | [], _ => trivial
 | x :: l, h => by
  simp only [List.map_cons, List.pairwise_cons] at h
  exact ⟨fun y hy => h.1 _ (List.mem_map.2 ⟨y, hy, rfl⟩), upL_of_lt h.2⟩
def sortM (m : List (Int × Int)) : List (Int × Int) := ((m.map Prod.fst).mergeSort fun x y => decide (x ≤ y)).map fun i => (i, (lkI m i).getD 0)
theorem lkI_isSome {l : List (Int × Int)} {i : Int} (h : i ∈ l.map Prod.fst) : ∃ v, lkI l i = some v := by
 induction l with
 | nil => simp at h
 | cons x l ih =>
  simp only [lkI]
  by_cases c : x.1 = i
  ·exact ⟨_, if_pos c⟩
  ·rw [if_neg c]
   simp only [List.map_cons, List.mem_cons] at h
   exact ih (h.resolve_left fun e => c e.symm)
theorem sortM_up {m : List (Int × Int)} (h : (m.map Prod.fst).Nodup) : upL (sortM m) := by
 apply upL_of_lt
 have e : (sortM m).map Prod.fst = (m.map Prod.fst).mergeSort fun x y => decide (x ≤ y) := by
  simp [sortM, Function.comp_def]
 rw [e]
 have h1 : ((m.map Prod.fst).mergeSort fun x y => decide (x ≤ y)).Pairwise (fun a b => decide (a ≤ b) = true) :=
  List.pairwise_mergeSort (fun a b c hab hbc => by simp at *; omega) (fun a b => by simp; omega) _
 have h2 : ((m.map Prod.fst).mergeSort fun x y => decide (x ≤ y)).Nodup := (List.mergeSort_perm _ _).nodup_iff.2 h
 have h3 := List.Pairwise.and h1 h2
 exact h3.imp fun {a b} ⟨c, d⟩ => by simp at c; omega
theorem lkI_map {f : Int → Int} (ks : List Int) (i : Int) : lkI (ks.map fun i => (i, f i)) i = if i ∈ ks then some (f i) else none := by
 induction ks with
 | nil => simp [lkI]
 | cons k ks ih =>
  simp only [List.map_cons, lkI, ih, List.mem_cons]
  by_cases c : k = i
  ·subst c; simp
  ·have : ¬ i = k := fun e => c e.symm
   simp [c, this]
theorem sortM_lk {m : List (Int × Int)} (i : Int) : lkI (sortM m) i = lkI m i := by
 unfold sortM
 rw [lkI_map]
 split
 ·rename_i h
  have h' : i ∈ m.map Prod.fst := (List.mergeSort_perm _ _).mem_iff.1 h
  obtain ⟨v, hv⟩ := lkI_isSome h'
  rw [hv]; rfl
 ·rename_i h
  have h' : i ∉ m.map Prod.fst := fun c => h ((List.mergeSort_perm _ _).mem_iff.2 c)
  exact (lkI_none fun y hy e => h' (List.mem_map.2 ⟨y, hy, e⟩)).symm
theorem sortM_eq {m s : List (Int × Int)} (hs : upL s) (hm : (m.map Prod.fst).Nodup) (h : ∀ i, lkI s i = lkI m i) : sortM m = s :=
 upL_ext (sortM_up hm) hs fun i => by rw [sortM_lk, h]

structure Vd (l : Lv) : Prop where
 c0 : 0 ≤ l.c
 c1 : l.c ≤ 100
 up : upL l.vars
 v0 : ∀ v ∈ l.vars, 0 ≤ v.2
 v1 : ∀ v ∈ l.vars, v.2 ≤ 100
 i0 : ∀ v ∈ l.vars, -65536 ≤ v.1
 i1 : ∀ v ∈ l.vars, v.1 < 8
theorem upL_of_steps : ∀ {l : List (Int × Int)}, (∀ (j : Nat) u v, l[j]? = some u → l[j + 1]? = some v → u.1 < v.1) → upL l
 | [], _ => trivial
 | [x], _ => ⟨by simp, trivial⟩
 | x :: y :: l, h => by
  have ih : upL (y :: l) := upL_of_steps fun j u v hu hv => h (j + 1) u v (by simpa using hu) (by simpa using hv)
  have hxy : x.1 < y.1 := h 0 x y (by simp) (by simp)
  refine ⟨fun z hz => ?_, ih⟩
  rcases List.mem_cons.1 hz with rfl | hz
  ·exact hxy
  ·have := ih.1 z hz; omega
theorem Vd.of {l : Lv} (h : validB l = true) : Vd l := by
 obtain ⟨c, vs⟩ := l
 simp only [validB, Bool.and_eq_true, Bool.not_eq_true', Bool.or_eq_false_iff, decide_eq_false_iff_not] at h
 obtain ⟨⟨h1, h2⟩, h3⟩ := h
 have hv : ∀ (j : Nat) v, vs[j]? = some v → varOk c vs j = true := fun j v hj => allTo_at h3 (by have := (List.getElem?_eq_some_iff.1 hj).1; simpa using this)
 have hv' : ∀ v ∈ vs, -65536 ≤ v.1 ∧ v.1 < 8 ∧ 0 ≤ v.2 ∧ v.2 ≤ 100 := by
  intro v hm
  obtain ⟨j, hj⟩ := List.getElem?_of_mem hm
  have := hv j v hj
  simp only [varOk, hj, Bool.and_eq_true, Bool.not_eq_true', Bool.or_eq_false_iff, decide_eq_false_iff_not] at this
  obtain ⟨⟨⟨⟨⟨a, b⟩, d⟩, e⟩, _⟩, _⟩ := this
  omega
 refine ⟨by simp only; omega, by simp only; omega, upL_of_steps fun j u v hu hw => ?_, fun v hm => (hv' v hm).2.2.1, fun v hm => (hv' v hm).2.2.2, fun v hm => (hv' v hm).1, fun v hm => (hv' v hm).2.1⟩
 have := hv (j + 1) v hw
 have hu' : vs[j + 1 - 1]? = some u := by simpa using hu
 simp only [varOk, hw, hu', Bool.and_eq_true, Bool.not_eq_true', Bool.or_eq_false_iff, decide_eq_false_iff_not] at this
 have h5 := this.1.2
 simp at h5
 omega
def plusL (l : Lv) (n : Int) : Lv × Int :=
 let c := if 0 < l.c ∨ l.vars = [] then l.c + n else 0
 if 100 < c then (⟨0, []⟩, 15)
 else if l.vars.all (fun x => decide (x.2 + n ≤ 100)) then (⟨c, plusV l.vars n⟩, 0) else (⟨0, []⟩, 15)
def joinL (a b : Lv) : Lv :=
 ⟨if mergeL a.vars b.vars ≠ [] ∧ max a.c b.c ≤ mostL (mergeL a.vars b.vars) then 0 else max a.c b.c, mergeL a.vars b.vars⟩
def hitL (vals : List Lv) (metas : Bool) (v : Int × Int) : Option Lv :=
 if decide (v.1 < 0) = metas then vals[(if metas then -1 - v.1 else v.1).toNat]? else none
def partL (vals : List Lv) (metas : Bool) (v : Int × Int) : Lv × Int :=
 match hitL vals metas v with
 | some x => plusL x v.2
 | none => (⟨0, [v]⟩, 0)
def replL (vals : List Lv) (metas : Bool) : List (Int × Int) → Lv → Lv × Int
 | [], out => (out, 0)
 | v :: vs, out => if (partL vals metas v).2 ≠ 0 then (⟨0, []⟩, (partL vals metas v).2) else replL vals metas vs (joinL out (partL vals metas v).1)
def stepP (vals : List Lv) (metas : Bool) (s : Int × List (Int × Int)) (v : Int × Int) : Int × List (Int × Int) :=
 match hitL vals metas v with
 | some x => (max s.1 (x.c + v.2), addM s.2 x.vars v.2)
 | none => (s.1, raiseM s.2 v.1 v.2)
def limL (l : Lv) : Lv × Int :=
 if l.vars.any (fun x => decide (100 < x.2)) then (⟨0, []⟩, 15) else if 100 < l.c then (⟨0, []⟩, 15) else (⟨if coverB l.c l.vars then 0 else l.c, l.vars⟩, 0)
def lvlP (s : Int × List (Int × Int)) : Lv × Int := limL ⟨s.1, sortM s.2⟩

structure InvL (o : Lv) (s : Int × List (Int × Int)) : Prop where
 up : upL o.vars
 nd : (s.2.map Prod.fst).Nodup
 lk : ∀ i, lkI o.vars i = lkI s.2 i
 v0 : ∀ x ∈ o.vars, 0 ≤ x.2
 v1 : ∀ x ∈ o.vars, x.2 ≤ 100
 c0 : 0 ≤ s.1
 c1 : s.1 ≤ 100
 ce : o.c = if o.vars ≠ [] ∧ s.1 ≤ mostL o.vars then 0 else s.1
def BadL (s : Int × List (Int × Int)) : Prop := 100 < s.1 ∨ ∃ i v, lkI s.2 i = some v ∧ 100 < v
theorem coverB_iff (c : Int) (vs : List (Int × Int)) : coverB c vs = true ↔ ∃ x ∈ vs, c ≤ x.2 := by
 have h1 : coverB c vs = false ↔ ∀ x ∈ vs, ¬ c ≤ x.2 := by
  unfold coverB
  rw [Bool.not_eq_false', allTo_iff]
  constructor
  ·intro h x hx
   obtain ⟨j, hj⟩ := List.getElem?_of_mem hx
   have := h j (List.getElem?_eq_some_iff.1 hj).1
   simpa [lowAt, hj] using this
  ·intro h j hj
   have hg : vs[j]? = some vs[j] := List.getElem?_eq_getElem hj
   simpa [lowAt, hg] using h _ (List.getElem_mem hj)
 constructor
 ·intro h
  by_cases q : ∃ x ∈ vs, c ≤ x.2
  ·exact q
  ·have := h1.2 fun x hx hc => q ⟨x, hx, hc⟩
   rw [h] at this; cases this
 ·rintro ⟨x, hx, hc⟩
  cases e : coverB c vs with
  | true => rfl
  | false => exact absurd hc (h1.1 e x hx)
theorem mostL_cover {c : Int} {vs : List (Int × Int)} (h0 : ∀ x ∈ vs, 0 ≤ x.2) : (coverB c vs = true) ↔ (vs ≠ [] ∧ c ≤ mostL vs) := by
 rw [coverB_iff]
 constructor
 ·rintro ⟨x, hx, h⟩
  exact ⟨List.ne_nil_of_mem hx, Int.le_trans h (mostL_ge hx)⟩
 ·rintro ⟨hn, h⟩
  rcases mostL_mem vs with e | ⟨x, hx, e⟩
  ·obtain ⟨x, hx⟩ := List.exists_mem_of_ne_nil _ hn
   exact ⟨x, hx, by have := h0 x hx; omega⟩
  ·exact ⟨x, hx, by omega⟩
theorem InvL.ends {o : Lv} {s : Int × List (Int × Int)} (h : InvL o s) : lvlP s = (o, 0) := by
 have e : sortM s.2 = o.vars := sortM_eq h.up h.nd h.lk
 unfold lvlP limL
 simp only [e]
 have h1 : o.vars.any (fun x => decide (100 < x.2)) = false := by
  rw [List.any_eq_false]
  intro x hx
  have := h.v1 x hx
  simp; omega
 have h2 := h.c1
 rw [h1, if_neg (by simp), if_neg (by omega)]
 have h3 := h.ce
 by_cases hc : coverB s.1 o.vars = true
 ·rw [if_pos hc]
  rw [if_pos ((mostL_cover h.v0).1 hc)] at h3
  obtain ⟨c, vs⟩ := o
  simp only at h3
  rw [h3]
 ·rw [if_neg hc]
  rw [if_neg fun x => hc ((mostL_cover h.v0).2 x)] at h3
  obtain ⟨c, vs⟩ := o
  simp only at h3
  rw [h3]
theorem BadL.ends {s : Int × List (Int × Int)} (h : BadL s) : lvlP s = (⟨0, []⟩, 15) := by
 unfold lvlP limL
 simp only
 rcases h with h | ⟨i, v, h, hv⟩
 ·split
  ·rfl
  ·first | rfl | rw [if_pos h]
 ·have : (sortM s.2).any (fun x => decide (100 < x.2)) = true := by
   rw [List.any_eq_true]
   exact ⟨(i, v), lkI_mem ((sortM_lk i).trans h), by simpa using hv⟩
  rw [if_pos this]
theorem BadL.step {vals : List Lv} {metas : Bool} (hv : ∀ x ∈ vals, Vd x) {s : Int × List (Int × Int)} (v : Int × Int) (h : BadL s) : BadL (stepP vals metas s v) := by
 unfold stepP
 split
 ·rename_i x hx
  have hx' : x ∈ vals := by
   unfold hitL at hx
   split at hx
   ·exact List.mem_of_getElem? hx
   ·cases hx
  rcases h with h | ⟨i, p, h, hp⟩
  ·exact .inl (by simp only; omega)
  ·right
   simp only
   have := addM_lk v.2 i x.vars s.2 (hv x hx').up
   rw [h] at this
   cases hq : lkI (plusV x.vars v.2) i with
   | none => rw [hq] at this; exact ⟨i, p, this, hp⟩
   | some q => rw [hq] at this; exact ⟨i, _, this, by omega⟩
 ·rcases h with h | ⟨i, p, h, hp⟩
  ·exact .inl h
  ·right
   have := raiseM_lk s.2 v.1 v.2 i
   rw [h] at this
   simp only [omax_some] at this
   by_cases c : v.1 = i
   ·rw [if_pos c] at this; exact ⟨i, _, this, by omega⟩
   ·rw [if_neg c] at this; exact ⟨i, _, this, hp⟩
theorem BadL.all {vals : List Lv} {metas : Bool} (hv : ∀ x ∈ vals, Vd x) : ∀ (vs : List (Int × Int)) {s : Int × List (Int × Int)}, BadL s → BadL (vs.foldl (stepP vals metas) s)
 | [], _, h => h
 | v :: vs, _, h => BadL.all hv vs (h.step hv v)
theorem InvL.join {o p : Lv} {s s' : Int × List (Int × Int)} {c' : Int} (h : InvL o s) (hu : upL p.vars) (h0 : ∀ x ∈ p.vars, 0 ≤ x.2) (h1 : ∀ x ∈ p.vars, x.2 ≤ 100)
  (hs : ∀ i, lkI s'.2 i = omax (lkI s.2 i) (lkI p.vars i)) (hn : (s'.2.map Prod.fst).Nodup) (hc : s'.1 = max s.1 c') (hc0 : 0 ≤ c') (hc1 : c' ≤ 100) (hp : p.c = c' ∨ (p.c = 0 ∧ p.vars ≠ [] ∧ c' ≤ mostL p.vars)) : InvL (joinL o p) s' := by
 have hb : ∀ x ∈ mergeL o.vars p.vars, 0 ≤ x.2 ∧ x.2 ≤ 100 := by
  intro x hx
  have hl := lkI_some (mergeL_up _ _ h.up hu).nodup (show (x.1, x.2) ∈ _ from hx)
  rw [mergeL_lk _ _ _ h.up hu] at hl
  cases e1 : lkI o.vars x.1 with
  | none =>
   rw [e1] at hl
   have hm := lkI_mem (show lkI p.vars x.1 = some x.2 by simpa using hl)
   exact ⟨h0 _ hm, h1 _ hm⟩
  | some y =>
   have hy := lkI_mem e1
   have a1 := h.v0 _ hy
   have a2 := h.v1 _ hy
   rw [e1] at hl
   cases e2 : lkI p.vars x.1 with
   | none => rw [e2] at hl; simp at hl; simp only at a1 a2; omega
   | some z =>
    have hz := lkI_mem e2
    have a3 := h0 _ hz
    have a4 := h1 _ hz
    rw [e2] at hl; simp at hl; simp only at a1 a2 a3 a4; omega
 refine ⟨mergeL_up _ _ h.up hu, hn, fun i => ?_, fun x hx => (hb x hx).1, fun x hx => (hb x hx).2, ?_, ?_, ?_⟩
 ·rw [hs, ← h.lk]; exact mergeL_lk _ _ _ h.up hu
 ·have := h.c0; omega
 ·have := h.c1; omega
 ·have he := h.ce
  have hm := mostL_merge o.vars p.vars
  have m1 := mostL_nn o.vars
  have m2 := mostL_nn p.vars
  have k0 := h.c0
  change (if mergeL o.vars p.vars ≠ [] ∧ max o.c p.c ≤ mostL (mergeL o.vars p.vars) then (0 : Int) else max o.c p.c) = if mergeL o.vars p.vars ≠ [] ∧ s'.1 ≤ mostL (mergeL o.vars p.vars) then 0 else s'.1
  by_cases hnil : mergeL o.vars p.vars = []
  ·obtain ⟨e1, e2⟩ := mergeL_eq_nil hnil
   simp only [hnil, ne_eq, not_true_eq_false, false_and, if_false]
   simp only [e1, ne_eq, not_true_eq_false, false_and, if_false] at he
   rcases hp with hp | ⟨_, hp, _⟩
   ·rw [hc, he, hp]
   ·exact absurd e2 hp
  ·by_cases hbig : s'.1 ≤ mostL (mergeL o.vars p.vars)
   ·have q1 : o.c ≤ s.1 := by rw [he]; split <;> omega
    have q2 : p.c ≤ c' := by rcases hp with hp | ⟨hp, _, _⟩ <;> omega
    have q4 : max o.c p.c ≤ mostL (mergeL o.vars p.vars) := by omega
    simp only [hnil, hbig, q4, ne_eq, not_false_eq_true, true_and, if_true]
   ·have q1 : o.c = s.1 ∨ (o.c = 0 ∧ s.1 ≤ mostL o.vars) := by
     rw [he]; split
     ·rename_i c; exact .inr ⟨rfl, c.2⟩
     ·exact .inl rfl
    have q3 : max o.c p.c = s'.1 := by
     rcases q1 with q1 | ⟨q1, q2⟩ <;> rcases hp with hp | ⟨hp, _, hp'⟩ <;> omega
    rw [q3]
theorem plusV_all {vs : List (Int × Int)} {n : Int} (h : vs.all (fun x => decide (x.2 + n ≤ 100)) = true) : ∀ x ∈ plusV vs n, x.2 ≤ 100 := by
 intro x hx
 obtain ⟨y, hy, rfl⟩ := List.mem_map.1 hx
 simpa using List.all_eq_true.1 h y hy
theorem repl_lvl {vals : List Lv} {metas : Bool} (hv : ∀ x ∈ vals, Vd x) : ∀ (vs : List (Int × Int)) (o : Lv) (s : Int × List (Int × Int)), (∀ v ∈ vs, 0 ≤ v.2 ∧ v.2 ≤ 100) → InvL o s →
  replL vals metas vs o = lvlP (vs.foldl (stepP vals metas) s)
 | [], o, s, _, h => by simp only [replL, List.foldl_nil]; exact h.ends.symm
 | v :: vs, o, s, hb, h => by
  have hb0 := hb v (by simp)
  have hbs := fun w hw => hb w (List.mem_cons_of_mem _ hw)
  simp only [replL, List.foldl_cons]
  cases hx : hitL vals metas v with
  | none =>
   have hp : partL vals metas v = (⟨0, [v]⟩, 0) := by unfold partL; rw [hx]
   have hs : stepP vals metas s v = (s.1, raiseM s.2 v.1 v.2) := by unfold stepP; rw [hx]
   rw [hp, hs, if_neg (by simp)]
   refine repl_lvl hv vs _ _ hbs (h.join (c' := 0) ⟨by simp, trivial⟩ (by simpa using hb0.1) (by simpa using hb0.2) (fun i => ?_) (raiseM_nodup _ _ h.nd) (by have := h.c0; simp only; omega) (by omega) (by omega) (.inl rfl))
   rw [raiseM_lk]
   simp only [lkI]
   by_cases c : v.1 = i
   ·rw [if_pos c, if_pos c]
   ·rw [if_neg c, if_neg c]; simp
  | some x =>
   have hx' : x ∈ vals := by
    unfold hitL at hx
    split at hx
    ·exact List.mem_of_getElem? hx
    ·cases hx
   have hV := hv x hx'
   have hp : partL vals metas v = plusL x v.2 := by unfold partL; rw [hx]
   have hs : stepP vals metas s v = (max s.1 (x.c + v.2), addM s.2 x.vars v.2) := by unfold stepP; rw [hx]
   rw [hp, hs]
   have hlk := fun i => addM_lk v.2 i x.vars s.2 hV.up
   by_cases hc : 100 < (if 0 < x.c ∨ x.vars = [] then x.c + v.2 else 0)
   ·have e : plusL x v.2 = (⟨0, []⟩, 15) := by unfold plusL; simp only; rw [if_pos hc]
    rw [e, if_pos (by simp)]
    refine (BadL.ends (BadL.all hv vs (.inl ?_))).symm
    simp only
    split at hc <;> omega
   ·by_cases hall : x.vars.all (fun y => decide (y.2 + v.2 ≤ 100)) = true
    ·have e : plusL x v.2 = (⟨if 0 < x.c ∨ x.vars = [] then x.c + v.2 else 0, plusV x.vars v.2⟩, 0) := by unfold plusL; simp only; rw [if_neg hc, if_pos hall]
     rw [e, if_neg (by simp)]
     have hc0 := hV.c0
     refine repl_lvl hv vs _ _ hbs (h.join (c' := x.c + v.2) (plusV_up hV.up) (fun y hy => ?_) (plusV_all hall) hlk (addM_nodup _ _ h.nd) rfl (by omega) ?_ ?_)
     ·obtain ⟨z, hz, rfl⟩ := List.mem_map.1 hy
      have := hV.v0 z hz
      simp only; omega
     ·split at hc <;> omega
     ·by_cases hd : 0 < x.c ∨ x.vars = []
      ·exact .inl (by simp only; rw [if_pos hd])
      ·right
       have hne : x.vars ≠ [] := fun c => hd (.inr c)
       have hz : x.c = 0 := by have : ¬ 0 < x.c := fun c => hd (.inl c); omega
       refine ⟨by simp only; rw [if_neg hd], fun c => hne (by simpa [plusV] using c), ?_⟩
       obtain ⟨y, hy⟩ := List.exists_mem_of_ne_nil _ hne
       have := hV.v0 y hy
       have h5 := mostL_ge (l := plusV x.vars v.2) (x := (y.1, y.2 + v.2)) (List.mem_map.2 ⟨y, hy, rfl⟩)
       simp only at h5
       show x.c + v.2 ≤ mostL (plusV x.vars v.2)
       omega
    ·have e : plusL x v.2 = (⟨0, []⟩, 15) := by unfold plusL; simp only; rw [if_neg hc, if_neg hall]
     rw [e, if_pos (by simp)]
     refine (BadL.ends (BadL.all hv vs (.inr ?_))).symm
     have : ∃ y ∈ x.vars, 100 < y.2 + v.2 := by
      simp at hall
      obtain ⟨a, b, h1, h2⟩ := hall
      exact ⟨(a, b), h1, h2⟩
     obtain ⟨y, hy, hy2⟩ := this
     have hq : lkI (plusV x.vars v.2) y.1 = some (y.2 + v.2) := lkI_some (plusV_up hV.up).nodup (List.mem_map.2 ⟨y, hy, rfl⟩)
     have := hlk y.1
     rw [hq] at this
     cases hr : lkI s.2 y.1 with
     | none => rw [hr] at this; exact ⟨_, _, this, hy2⟩
     | some r => rw [hr] at this; exact ⟨_, _, this, by omega⟩


open Go Go.AI
theorem drop_of_get {α : Type} {l : List α} {i : Nat} {x : α} (h : l[i]? = some x) : l.drop i = x :: l.drop (i + 1) := by
 have hj : i < l.length := (List.getElem?_eq_some_iff.1 h).1
 have hg : l[i] = x := (List.getElem?_eq_some_iff.1 h).2
 rw [← hg]; exact List.drop_eq_getElem_cons hj

end Go.Proofs.YtcfcolkbeelegaaGreat
