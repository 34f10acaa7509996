/-
  Rename: the program's and the reference's.
-/
import Derived.Test.YtppgpabjcenjdaaTE13
import Derived.Test.YtppgpabjcenjdaaTG1
import Derived.Test.YtppgpabjcenjdaaTP1
import Derived.Test.YtppgpabjcenjdaaTE12
namespace Go.Proofs.Ytppgpabjcenjdaa

open Go Go.AI

def intPs (l : List Int) : List (List PV) := l.map fun x => [iP x]

@[simp] theorem intPs_length (l : List Int) : (intPs l).length = l.length := by simp [intPs]

@[simp] theorem intPs_get (l : List Int) (i : Nat) : (intPs l)[i]? = (l[i]?).map fun x => [iP x] := by simp [intPs]

/-- What takes the place of a variable when a term is renamed. -/
def repRen (to : List Int) (s : Int) (t : Tm) (d : Int) : BO Tm :=
  if t.index - d < 0 then .ok t.bare s
  else match to[(t.index - d).toNat]? with
    | none => .bad 24 s
    | some x => if x < 0 ∨ 65535 - d < x then .bad 24 s else .ok (vr (x + d)) s

/- The program's. -/

end Go.Proofs.Ytppgpabjcenjdaa
