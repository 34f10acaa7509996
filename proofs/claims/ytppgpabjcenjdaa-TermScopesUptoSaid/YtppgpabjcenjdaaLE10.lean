/-
  subst: Under, Subst.
-/
import Derived.Test.YtppgpabjcenjdaaLE8
import Derived.Test.YtppgpabjcenjdaaLE6
import Derived.Test.YtppgpabjcenjdaaLE7
namespace Go.Proofs.Ytppgpabjcenjdaa

open Go Go.AI

def DomU (t : Tm) (d : Int) : Prop := Dom 65536 t d ∧ d + t.size ≤ 2097152

theorem DomU.one : ∀ k i n ls ks d, DomU (.mk k i n ls ks) d → ks.length ≤ 1048576 ∧ 0 ≤ d ∧ d ≤ 1099511627776 := fun k i n ls ks d h => Dom.one k i n ls ks d h.1

theorem DomU.two : ∀ k i n ls ks d, DomU (.mk k i n ls ks) d → ∀ (j : Nat) (hj : j < ks.length), DomU ks[j] (d + belowZ k j) := fun k i n ls ks d h j hj => by
  refine ⟨Dom.two k i n ls ks d h.1 j hj, ?_⟩
  have h1 := h.2
  have h2 := kid_size hj
  have h3 := belowZ_01' k j
  simp only [Tm.size] at h1
  omega

end Go.Proofs.Ytppgpabjcenjdaa
