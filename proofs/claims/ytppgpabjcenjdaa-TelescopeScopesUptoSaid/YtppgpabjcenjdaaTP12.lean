/-
  Free variables: the reference's insertion; Occurs.
-/
import Derived.Test.YtppgpabjcenjdaaTP11
namespace Go.Proofs.Ytppgpabjcenjdaa

open Go Go.AI

theorem ins1_len (n : Int) : ∀ m : List Int, (ins1 n m).length = m.length + 1
  | [] => rfl
  | y :: m => by
    simp only [ins1]
    split
    · simp
    · simp [ins1_len n m]

theorem add1_len (l : List Int) (n : Int) : (add1 l n).length ≤ l.length + 1 := by
  unfold add1
  split
  · omega
  · rw [ins1_len]; omega

theorem add1_fold_len (F : List Int) : ∀ l : List Int, (F.foldl add1 l).length ≤ l.length + F.length := by
  induction F with
  | nil => simp
  | cons x F ih =>
    intro l
    simp only [List.foldl_cons, List.length_cons]
    have := ih (add1 l x)
    have := add1_len l x
    omega

mutual
theorem frees_pos : ∀ (t : Tm) (d x : Int), x ∈ frees d t → 0 ≤ x
  | .mk k i _ _ ks, d, x, h => by
    simp only [frees, List.mem_append] at h
    rcases h with h | h
    · split at h
      · simp only [List.mem_singleton] at h; omega
      · cases h
    · exact freesL_pos ks k d 0 x h
theorem freesL_pos : ∀ (l : List Tm) (k d : Int) (idx : Nat) (x : Int), x ∈ freesL k d idx l → 0 ≤ x
  | [], _, _, _, _, h => by simp [freesL] at h
  | t :: ts, k, d, idx, x, h => by
    simp only [freesL, List.mem_append] at h
    rcases h with h | h
    · exact frees_pos t _ x h
    · exact freesL_pos ts k d (idx + 1) x h
end

end Go.Proofs.Ytppgpabjcenjdaa
