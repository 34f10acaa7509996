/-
  Free variables, told plainly.
-/
import Derived.Test.YtppgpabjcenjdaaTK1
import Derived.Test.YtppgpabjcenjdaaTE4
namespace Go.Proofs.Ytppgpabjcenjdaa

open Go Go.AI

mutual
/-- The free variables below d binders, as they occur in preorder. -/
def frees (d : Int) : Tm → List Int
  | .mk k i _ _ ks => (if k = 0 ∧ d ≤ i then [i - d] else []) ++ freesL k d 0 ks
def freesL (k d : Int) (idx : Nat) : List Tm → List Int
  | [] => []
  | t :: ts => frees (d + belowZ k idx) t ++ freesL k d (idx + 1) ts
end

/-- One more, if it is not there. -/
def app1 {α : Type} [DecidableEq α] (l : List α) (x : α) : List α := if x ∈ l then l else l ++ [x]

/-- One more in its place, if it is not there. -/
def ins1 (n : Int) : List Int → List Int
  | [] => [n]
  | x :: l => if n < x then n :: x :: l else x :: ins1 n l

def add1 (l : List Int) (n : Int) : List Int := if n ∈ l then l else ins1 n l

theorem mem_app1 {α : Type} [DecidableEq α] (l : List α) (x y : α) : y ∈ app1 l x ↔ y ∈ l ∨ y = x := by
  unfold app1
  split
  · constructor
    · exact .inl
    · rintro (h | rfl) <;> assumption
  · simp

theorem nodup_app1 {α : Type} [DecidableEq α] {l : List α} (x : α) (h : l.Nodup) : (app1 l x).Nodup := by
  unfold app1
  split
  · exact h
  · rename_i hx
    exact List.nodup_append.2 ⟨h, by simp, fun a ha b hb => by simp only [List.mem_singleton] at hb; subst hb; exact fun e => hx (e ▸ ha)⟩

theorem mem_fold_app1 {α : Type} [DecidableEq α] (F : List α) : ∀ (l : List α) (y : α), y ∈ F.foldl app1 l ↔ y ∈ l ∨ y ∈ F := by
  induction F with
  | nil => simp
  | cons x F ih => intro l y; simp only [List.foldl_cons, ih, mem_app1, List.mem_cons, or_assoc]

theorem nodup_fold_app1 {α : Type} [DecidableEq α] (F : List α) : ∀ (l : List α), l.Nodup → (F.foldl app1 l).Nodup := by
  induction F with
  | nil => exact fun _ h => h
  | cons x F ih => exact fun l h => ih _ (nodup_app1 x h)

theorem mem_ins1 (n y : Int) : ∀ l : List Int, y ∈ ins1 n l ↔ y = n ∨ y ∈ l
  | [] => by simp [ins1]
  | x :: l => by
    simp only [ins1]
    split
    · simp
    · simp only [List.mem_cons, mem_ins1 n y l]
      constructor
      · rintro (h | h | h) <;> simp [h]
      · rintro (h | h | h) <;> simp [h]

theorem asc_ins1 (n : Int) : ∀ l : List Int, l.Pairwise (· < ·) → n ∉ l → (ins1 n l).Pairwise (· < ·)
  | [], _, _ => by simp [ins1]
  | x :: l, h, hn => by
    simp only [ins1]
    have hx := List.pairwise_cons.1 h
    split
    · rename_i hl
      refine List.pairwise_cons.2 ⟨fun y hy => ?_, h⟩
      rcases List.mem_cons.1 hy with rfl | hy
      · exact hl
      · exact Int.lt_trans hl (hx.1 y hy)
    · rename_i hl
      have hne : n ≠ x := fun e => hn (by simp [e])
      refine List.pairwise_cons.2 ⟨fun y hy => ?_, asc_ins1 n l hx.2 (fun h' => hn (by simp [h']))⟩
      rcases (mem_ins1 n y l).1 hy with rfl | hy
      · omega
      · exact hx.1 y hy

theorem mem_add1 (l : List Int) (n y : Int) : y ∈ add1 l n ↔ y ∈ l ∨ y = n := by
  unfold add1
  split
  · constructor
    · exact .inl
    · rintro (h | rfl) <;> assumption
  · rw [mem_ins1]; exact Or.comm

theorem asc_add1 {l : List Int} (n : Int) (h : l.Pairwise (· < ·)) : (add1 l n).Pairwise (· < ·) := by
  unfold add1
  split
  · exact h
  · exact asc_ins1 n l h (by assumption)

theorem mem_fold_add1 (F : List Int) : ∀ (l : List Int) (y : Int), y ∈ F.foldl add1 l ↔ y ∈ l ∨ y ∈ F := by
  induction F with
  | nil => simp
  | cons x F ih => intro l y; simp only [List.foldl_cons, ih, mem_add1, List.mem_cons, or_assoc]

theorem asc_fold_add1 (F : List Int) : ∀ (l : List Int), l.Pairwise (· < ·) → (F.foldl add1 l).Pairwise (· < ·) := by
  induction F with
  | nil => exact fun _ h => h
  | cons x F ih => exact fun l h => ih _ (asc_add1 x h)

/-- Two ascending lists of the same numbers are equal. -/
theorem asc_ext : ∀ {l m : List Int}, l.Pairwise (· < ·) → m.Pairwise (· < ·) → (∀ x, x ∈ l ↔ x ∈ m) → l = m
  | [], [], _, _, _ => rfl
  | [], y :: m, _, _, h => by have := (h y).2 (by simp); cases this
  | x :: l, [], _, _, h => by have := (h x).1 (by simp); cases this
  | x :: l, y :: m, hl, hm, h => by
    have hl' := List.pairwise_cons.1 hl
    have hm' := List.pairwise_cons.1 hm
    have e : x = y := by
      rcases List.mem_cons.1 ((h x).1 (by simp)) with e | e
      · exact e
      · rcases List.mem_cons.1 ((h y).2 (by simp)) with e' | e'
        · exact e'.symm
        · have := hm'.1 x e; have := hl'.1 y e'; omega
    subst e
    congr 1
    refine asc_ext hl'.2 hm'.2 fun z => ⟨fun hz => ?_, fun hz => ?_⟩
    · rcases List.mem_cons.1 ((h z).1 (by simp [hz])) with e | e
      · have := hl'.1 z hz; omega
      · exact e
    · rcases List.mem_cons.1 ((h z).2 (by simp [hz])) with e | e
      · have := hm'.1 z hz; omega
      · exact e

/-- What Free answers: ascending, each once. -/
def freeZ (t : Tm) : List Int := (frees 0 t).foldl add1 []

theorem mem_freeZ (t : Tm) (x : Int) : x ∈ freeZ t ↔ x ∈ frees 0 t := by rw [freeZ, mem_fold_add1]; simp

theorem sort_fold (F : List Int) : ((F.foldl app1 []).mergeSort fun x y => decide (x ≤ y)) = F.foldl add1 [] := by
  have hp := List.mergeSort_perm (F.foldl app1 []) (fun x y => decide (x ≤ y))
  have hn : (F.foldl app1 []).Nodup := nodup_fold_app1 F [] List.nodup_nil
  have hn' : ((F.foldl app1 []).mergeSort fun x y => decide (x ≤ y)).Nodup := hp.nodup_iff.2 hn
  have hs := List.pairwise_mergeSort (le := fun x y : Int => decide (x ≤ y)) (fun a b c h1 h2 => by simp at *; omega) (fun a b => by simp; omega) (F.foldl app1 [])
  refine asc_ext ?_ (asc_fold_add1 F [] List.Pairwise.nil) fun x => ?_
  · exact (List.Pairwise.and hs hn').imp fun ⟨h1, h2⟩ => by simp at h1; omega
  · rw [hp.mem_iff, mem_fold_app1, mem_fold_add1]

/-- What a visit notes. -/
def stFree (l : List Int) (d : Int) (u : Tm) : List Int × Bool :=
  (if (u.kind == 0 && decide (d ≤ u.index)) = true then app1 l (IntKind.i64.wrap (u.index - d)) else l, true)

mutual
theorem vis_free : ∀ (t : Tm) (l : List Int) (d : Int), t.fit → 0 ≤ d → vis stFree l d t = ((frees d t).foldl app1 l, true)
  | .mk k i n ls ks, l, d, h, h0 => by
    simp only [Tm.fit] at h
    simp only [vis, stFree, if_true, frees, List.foldl_append, Tm.kind, Tm.index]
    rw [visL_free ks _ k d 0 h.2.2.2.2 h0]
    by_cases hk : k = 0 ∧ d ≤ i
    · rw [wrap_id (n := i - d) (by omega) (by omega)]
      simp [hk]
    · simp only [hk, if_false, List.foldl_nil]
      show (List.foldl app1 (if (k == 0 && decide (d ≤ i)) = true then app1 l (IntKind.i64.wrap (i - d)) else l) (freesL k d 0 ks), true) = (List.foldl app1 l (freesL k d 0 ks), true)
      rw [show (k == 0 && decide (d ≤ i)) = false from by simpa using hk]
      rfl
theorem visL_free : ∀ (ks : List Tm) (l : List Int) (k d : Int) (idx : Nat), Tm.fits ks → 0 ≤ d → visL stFree l k d idx ks = ((freesL k d idx ks).foldl app1 l, true)
  | [], l, k, d, idx, _, _ => by simp [visL, freesL]
  | t :: ts, l, k, d, idx, h, h0 => by
    simp only [Tm.fits] at h
    have hb := belowZ_01' k idx
    simp only [visL, freesL, List.foldl_append]
    rw [vis_free t l (d + belowZ k idx) h.1 (by omega)]
    simp only [if_true]
    rw [visL_free ts _ k d (idx + 1) h.2 h0]
end

end Go.Proofs.Ytppgpabjcenjdaa
