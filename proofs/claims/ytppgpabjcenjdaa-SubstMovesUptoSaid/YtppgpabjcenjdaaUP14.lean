/-
  What Check accepts: greater scopes, the least scope.
-/
import Derived.Test.YtppgpabjcenjdaaUP9
import Derived.Test.YtppgpabjcenjdaaUP12
import Derived.Test.YtppgpabjcenjdaaUG1
namespace Go.Proofs.Ytppgpabjcenjdaa

open Go Go.AI

/-- The last one, -1 if there is none. -/
def lastZ (l : List Int) : Int := l.getLast?.getD (-1)

theorem lastZ_snoc (l : List Int) (x : Int) : lastZ (l ++ [x]) = x := by simp [lastZ]

theorem lastZ_le {l : List Int} (h : l.Pairwise (· < ·)) : ∀ x ∈ l, x ≤ lastZ l := by
  intro x hx
  rcases List.eq_nil_or_concat l with rfl | ⟨m, y, rfl⟩
  · cases hx
  · rw [List.concat_eq_append] at *
    rw [lastZ_snoc]
    rcases List.mem_append.1 hx with hx | hx
    · have := (List.pairwise_append.1 h).2.2 x hx y (by simp)
      omega
    · simp at hx; omega

end Go.Proofs.Ytppgpabjcenjdaa
