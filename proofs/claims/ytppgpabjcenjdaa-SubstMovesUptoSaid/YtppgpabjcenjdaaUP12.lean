/-
  Free variables: the reference's insertion; Occurs.
-/
import Derived.Test.YtppgpabjcenjdaaUP11
namespace Go.Proofs.Ytppgpabjcenjdaa

open Go Go.AI

theorem ins1_len (n : Int) : ∀ m : List Int, (ins1 n m).length = m.length + 1
  | [] => rfl
  | y :: m => by
    simp only [ins1]
    split
    · simp
    · simp [ins1_len n m]

theorem add1_len (l : List Int) (n : Int) : (add1 l n).length ≤ l.length + 1 := by
  unfold add1
  split
  · omega
  · rw [ins1_len]; omega

theorem add1_fold_len (F : List Int) : ∀ l : List Int, (F.foldl add1 l).length ≤ l.length + F.length := by
  induction F with
  | nil => simp
  | cons x F ih =>
    intro l
    simp only [List.foldl_cons, List.length_cons]
    have := ih (add1 l x)
    have := add1_len l x
    omega

end Go.Proofs.Ytppgpabjcenjdaa
