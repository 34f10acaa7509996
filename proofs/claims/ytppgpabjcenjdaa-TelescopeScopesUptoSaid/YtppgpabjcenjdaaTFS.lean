/-
  slices.Sort at []int by the kit's contract, over a row that may be written.
-/
import Derived.Shelf.Sort.Plain
import Derived.Shelf.Slices.In.SortNone
import Derived.Test.YtppgpabjcenjdaaTFM
namespace Go.AI

open Go Go.Shelf Go.Sort Go.Proofs

/-- Elements that are integers. -/
def ints (l : List Int) : List (List PV) := l.map fun z => [.prim (.int .i64 z)]

theorem ints_length (l : List Int) : (ints l).length = l.length := by simp [ints]

theorem ints_flat (l : List Int) : (ints l).flatten.map AV.p = l.map fun z => .p (.prim (.int .i64 z)) := by
  induction l with
  | nil => rfl
  | cons z l ih => simp only [ints, List.map_cons, List.flatten_cons, List.cons_append, List.nil_append] at ih ⊢; rw [ih]

theorem repL_ints {E w} : ∀ {l : List Int} {vs : List Value}, RepL E w (l.map fun z => .p (.prim (.int .i64 z))) vs ↔ vs = l.map (Value.int .i64)
  | [], vs => by simp [RepL]
  | z :: l, vs => by
    simp only [List.map_cons, RepL, Rep, RepP]
    constructor
    · rintro ⟨v, us, rfl, ⟨rfl, _⟩, h⟩
      rw [(repL_ints (l := l)).1 h]
    · rintro rfl
      exact ⟨_, _, rfl, ⟨rfl, rfl⟩, (repL_ints (l := l)).2 rfl⟩

/-- New blocks that nobody names. -/
theorem Rel.more {E : Env} {h : Nat → Option AO} {w : World} (r : Rel E h w) (os : Array Obj) : Rel E h (Sort.grow w os) ∧ Fr E h w E h (Sort.grow w os) := by
  have old : ∀ b, b < w.heap.size → (Sort.grow w os).heap[b]? = w.heap[b]? := fun b hb => heap_grow_old w os hb
  have hx : Ext E w E (Sort.grow w os) := ⟨fun _ _ h => h, fun b off hb => cell_of_heap (old b (r.lt b off hb)) off, fun _ _ h => h, fun _ L h => ⟨L, h, Nat.le_refl _, fun _ => rfl⟩⟩
  refine ⟨⟨fun id o hc hn => ?_, fun id o n sz m cs hc hk => ?_, r.inj, r.sepO, r.sepT, fun b off hb => Nat.lt_of_lt_of_le (r.lt b off hb) (by simp)⟩, ⟨fun b hb _ => old b hb, hx, fun _ _ h => .inl h, by simp, fun _ h => .inl h, rfl, rfl⟩⟩
  · obtain ⟨b, hg, ho⟩ := r.objsO id o hc hn
    exact ⟨b, hg, ho.move hx (old b ho.lt)⟩
  · obtain ⟨blk, cap, ht, h1, h2, h3⟩ := r.toks id o n sz m cs hc hk
    refine ⟨blk, cap, ht, h1, h2, fun b hb => ?_⟩
    obtain ⟨vs, hr, hl, hp⟩ := h3 b hb
    exact ⟨vs, hr.same (old b hr.lt), hl, hp.ext hx⟩

theorem putCells_list (d : List Int) (c : Array Value) (hl : d.length ≤ c.size) : (putCells (Value.int .i64) 0 d.toArray c).toList = d.map (Value.int .i64) ++ c.toList.drop d.length := by
  apply List.ext_getElem?
  intro j
  rw [Array.getElem?_toList]
  simp only [putCells, Array.getElem?_mapIdx, List.size_toArray, Nat.zero_add, Nat.zero_le, true_and, Nat.sub_zero]
  by_cases hj : j < d.length
  · rw [List.getElem?_append_left (by simpa using hj)]
    simp [hj, show j < c.size by omega]
  · rw [List.getElem?_append_right (by simp; omega), List.getElem?_drop]
    simp only [hj, if_false, List.length_map, Array.getElem?_toList, show d.length + (j - d.length) = j by omega]
    cases c[j]? <;> rfl

end Go.AI
