/-
  subst: what Under's closures do.
-/
import Derived.Test.YtppgpabjcenjdaaLC
import Derived.Test.YtppgpabjcenjdaaLD
namespace Go.AI

open Go

/-- What a piece of code leaves is told once for all its ways. -/
theorem Run.joinH {P : Program} {rd : Option Nat} {nb : Nat} {k : List It} {T : List AV} {h : Heap} {D : List AD} {Q : AX → List AV → Heap → List AD → Prop} {c : Code} (keep : List Nat) (sets : List (Nat × AV)) (h2 : Heap) (r : (∀ T', WeakL T' (setMany (keepT keep T) sets) → Run P rd nb k T' h2 D Q) → Run P rd nb (.code c :: k) T h D Q)
    (next : Run P rd nb k (setMany (keepT keep T) sets) h2 D Q) : Run P rd nb (.code c :: k) T h D Q := r fun _ hw => Run.weak hw next

end Go.AI

namespace Go.Proofs.Ytppgpabjcenjdaa

open Go Go.AI

end Go.Proofs.Ytppgpabjcenjdaa
