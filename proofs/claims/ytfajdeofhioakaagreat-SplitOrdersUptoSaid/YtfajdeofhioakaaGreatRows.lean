/-
  NARROWER THAN 'FOR EVERY INPUT', by the rows' own cells (each row's printed sentence says how): SplitStarts: loops · SplitOrders: loops · SplitCases: loops · SplitKeeps: loops · SplitRefuses: loops.
  DERIVED. THE GIVEN ROWS OF THIS SEAT. 5 by the template 'for every input the law returns true; each argument reads behind the call as it read before'; 0 by the template 'total and deterministic' (their statements: YtfajdeofhioakaaGreatTotals.lean).
  GIVEN WITH THE SEED: the statements are not yours to turn. If you find one false, say at which input.
  Laid BY PROGRAM, IN A SANDBOX (cutbox-rows.mjs): the forced cells as the released guide's own fill.sh prints them over the translation 1ce995085c5cad72… (all of the seat's roots in one cut). By AI agents, Wed Nov 11 2026. No macro, syntax, notation, axiom, sorry.
-/
import Derived.Test.YtfajdeofhioakaaGreatChecked
import GoSem.Claim
import GoSem.ClaimJoined
import GoSem.ClaimMapViews
import Derived.JoinedTies
import Derived.KernelRfl
namespace Go.Proofs.YtfajdeofhioakaaGreat
/- THE CELL 'sum', in the pinned program and in every row, IS THE sha256 OF THE DUMP (.gsa) THAT YtfajdeofhioakaaGreatProg.lean LOADS. Nothing in Lean hashes anything: it is a label: what it is worth is what the hold of that sum in a sandbox is worth. -/
noncomputable def Tryz.pinned : Pinned := { name := "ytfajdeofhioakaagreat", sum := "1ce995085c5cad722e933775f68e1853dc1b868de28f4a57f72c5b29797fc739", checked := Tryz.checked }
namespace Rows
def none {H : Type} : Left H := { results := [], args := [] }

/-- 'euclidlaw17.SplitStarts': WHATEVER THE INPUT: true; the input reads as it did. -/
def splitStartsSpec : ChangeSpec := { name := "splitStarts", fn := fun _ => fun
  | [d1, d2] => { results := [.lit (.bool true)], args := [d1, d2] }
  | _ => none }
def splitStartsRow : OpenClaim := { program := "ytfajdeofhioakaagreat", sum := "1ce995085c5cad722e933775f68e1853dc1b868de28f4a57f72c5b29797fc739", func := "euclid/euclidlaw17.SplitStarts", spec := "splitStarts", unfollowed := true, recurses := true, loops := true, apart := false }
def SplitStartsSaid : Prop := splitStartsRow.holds Tryz.pinned (OpenSpec.ofChange splitStartsSpec)

/-- ITS FALSE NEIGHBOUR: 'it returns false'. Refute it at one input. -/
def splitStartsWrong : ChangeSpec := { name := "splitStarts", fn := fun _ => fun
  | [d1, d2] => { results := [.lit (.bool false)], args := [d1, d2] }
  | _ => none }
def SplitStartsWrongFalsely : Prop := splitStartsRow.holds Tryz.pinned (OpenSpec.ofChange splitStartsWrong)

/-- 'euclidlaw17.SplitOrders': WHATEVER THE INPUT: true; the input reads as it did. -/
def splitOrdersSpec : ChangeSpec := { name := "splitOrders", fn := fun _ => fun
  | [d1, d2, d3] => { results := [.lit (.bool true)], args := [d1, d2, d3] }
  | _ => none }
def splitOrdersRow : OpenClaim := { program := "ytfajdeofhioakaagreat", sum := "1ce995085c5cad722e933775f68e1853dc1b868de28f4a57f72c5b29797fc739", func := "euclid/euclidlaw17.SplitOrders", spec := "splitOrders", unfollowed := true, recurses := true, loops := true, apart := false }
def SplitOrdersSaid : Prop := splitOrdersRow.holds Tryz.pinned (OpenSpec.ofChange splitOrdersSpec)

/-- ITS FALSE NEIGHBOUR: 'it returns false'. Refute it at one input. -/
def splitOrdersWrong : ChangeSpec := { name := "splitOrders", fn := fun _ => fun
  | [d1, d2, d3] => { results := [.lit (.bool false)], args := [d1, d2, d3] }
  | _ => none }
def SplitOrdersWrongFalsely : Prop := splitOrdersRow.holds Tryz.pinned (OpenSpec.ofChange splitOrdersWrong)

/-- 'euclidlaw17.SplitCases': WHATEVER THE INPUT: true; the input reads as it did. -/
def splitCasesSpec : ChangeSpec := { name := "splitCases", fn := fun _ => fun
  | [d1, d2, d3] => { results := [.lit (.bool true)], args := [d1, d2, d3] }
  | _ => none }
def splitCasesRow : OpenClaim := { program := "ytfajdeofhioakaagreat", sum := "1ce995085c5cad722e933775f68e1853dc1b868de28f4a57f72c5b29797fc739", func := "euclid/euclidlaw17.SplitCases", spec := "splitCases", unfollowed := true, recurses := true, loops := true, apart := false }
def SplitCasesSaid : Prop := splitCasesRow.holds Tryz.pinned (OpenSpec.ofChange splitCasesSpec)

/-- ITS FALSE NEIGHBOUR: 'it returns false'. Refute it at one input. -/
def splitCasesWrong : ChangeSpec := { name := "splitCases", fn := fun _ => fun
  | [d1, d2, d3] => { results := [.lit (.bool false)], args := [d1, d2, d3] }
  | _ => none }
def SplitCasesWrongFalsely : Prop := splitCasesRow.holds Tryz.pinned (OpenSpec.ofChange splitCasesWrong)

/-- 'euclidlaw17.SplitKeeps': WHATEVER THE INPUT: true; the input reads as it did. -/
def splitKeepsSpec : ChangeSpec := { name := "splitKeeps", fn := fun _ => fun
  | [d1, d2, d3] => { results := [.lit (.bool true)], args := [d1, d2, d3] }
  | _ => none }
def splitKeepsRow : OpenClaim := { program := "ytfajdeofhioakaagreat", sum := "1ce995085c5cad722e933775f68e1853dc1b868de28f4a57f72c5b29797fc739", func := "euclid/euclidlaw17.SplitKeeps", spec := "splitKeeps", unfollowed := true, recurses := true, loops := true, apart := false }
def SplitKeepsSaid : Prop := splitKeepsRow.holds Tryz.pinned (OpenSpec.ofChange splitKeepsSpec)

/-- ITS FALSE NEIGHBOUR: 'it returns false'. Refute it at one input. -/
def splitKeepsWrong : ChangeSpec := { name := "splitKeeps", fn := fun _ => fun
  | [d1, d2, d3] => { results := [.lit (.bool false)], args := [d1, d2, d3] }
  | _ => none }
def SplitKeepsWrongFalsely : Prop := splitKeepsRow.holds Tryz.pinned (OpenSpec.ofChange splitKeepsWrong)

/-- 'euclidlaw17.SplitRefuses': WHATEVER THE INPUT: true; the input reads as it did. -/
def splitRefusesSpec : ChangeSpec := { name := "splitRefuses", fn := fun _ => fun
  | [d1, d2] => { results := [.lit (.bool true)], args := [d1, d2] }
  | _ => none }
def splitRefusesRow : OpenClaim := { program := "ytfajdeofhioakaagreat", sum := "1ce995085c5cad722e933775f68e1853dc1b868de28f4a57f72c5b29797fc739", func := "euclid/euclidlaw17.SplitRefuses", spec := "splitRefuses", unfollowed := true, recurses := true, loops := true, apart := false }
def SplitRefusesSaid : Prop := splitRefusesRow.holds Tryz.pinned (OpenSpec.ofChange splitRefusesSpec)

/-- ITS FALSE NEIGHBOUR: 'it returns false'. Refute it at one input. -/
def splitRefusesWrong : ChangeSpec := { name := "splitRefuses", fn := fun _ => fun
  | [d1, d2] => { results := [.lit (.bool false)], args := [d1, d2] }
  | _ => none }
def SplitRefusesWrongFalsely : Prop := splitRefusesRow.holds Tryz.pinned (OpenSpec.ofChange splitRefusesWrong)

/- THE SECOND FORM. 'bulk': how many values and letters a reading holds, each counted each time it is reached (what is shared counts as often as it is met; a slice's spare places count too). A statement '..UptoSaid' is the law's where the arguments, and the package variables that the reading takes, are together of bulk at most 1048576: NARROWER than '..Said'. Prove '..Said' where nothing that the law and all that it calls make is longer than what came in: it says more and counts as full. Else prove '..UptoSaid'. A law counts once. -/
mutual
def uptoBulk {H : Type} : DataW H → Nat
  | .lit (.string bytes) => bytes.length + 1
  | .lit _ => 1
  | .nil => 1
  | .ptr d => uptoBulk d + 1
  | .slice elems spare => uptoBulkAll elems + uptoBulkAll spare + 1
  | .agg parts => uptoBulkAll parts + 1
  | .iface _ d => uptoBulk d + 1
  | .map entries => uptoBulkEntries entries + 1
  | .held _ => 1
def uptoBulkAll {H : Type} : List (DataW H) → Nat
  | [] => 0
  | d :: r => uptoBulk d + uptoBulkAll r
def uptoBulkEntries {H : Type} : List (Lit × DataW H) → Nat
  | [] => 0
  | x :: r => uptoBulkEntry x + uptoBulkEntries r
def uptoBulkEntry {H : Type} : Lit × DataW H → Nat
  | (.string bytes, d) => bytes.length + uptoBulk d + 1
  | (_, d) => uptoBulk d + 1
 end
def uptoSmall : (H : Type) → List (DataW H) → Bool := fun _ ds => decide (uptoBulkAll ds ≤ 1048576)
def OpenSpec.upto (s : _root_.Go.ChangeSpec) : _root_.Go.OpenSpec := { _root_.Go.OpenSpec.ofChange s with cond := some uptoSmall }

/-- 'euclidlaw17.SplitStarts', WHERE WHAT IT READS IS OF BULK AT MOST 1048576: true; the input reads as it did. -/
def splitStartsUptoRow : OpenClaim := { program := "ytfajdeofhioakaagreat", sum := "1ce995085c5cad722e933775f68e1853dc1b868de28f4a57f72c5b29797fc739", func := "euclid/euclidlaw17.SplitStarts", spec := "splitStarts", unfollowed := true, recurses := true, loops := true, apart := false, narrowed := true }
def SplitStartsUptoSaid : Prop := splitStartsUptoRow.holds Tryz.pinned (OpenSpec.upto splitStartsSpec)

/-- 'euclidlaw17.SplitOrders', WHERE WHAT IT READS IS OF BULK AT MOST 1048576: true; the input reads as it did. -/
def splitOrdersUptoRow : OpenClaim := { program := "ytfajdeofhioakaagreat", sum := "1ce995085c5cad722e933775f68e1853dc1b868de28f4a57f72c5b29797fc739", func := "euclid/euclidlaw17.SplitOrders", spec := "splitOrders", unfollowed := true, recurses := true, loops := true, apart := false, narrowed := true }
def SplitOrdersUptoSaid : Prop := splitOrdersUptoRow.holds Tryz.pinned (OpenSpec.upto splitOrdersSpec)

/-- 'euclidlaw17.SplitCases', WHERE WHAT IT READS IS OF BULK AT MOST 1048576: true; the input reads as it did. -/
def splitCasesUptoRow : OpenClaim := { program := "ytfajdeofhioakaagreat", sum := "1ce995085c5cad722e933775f68e1853dc1b868de28f4a57f72c5b29797fc739", func := "euclid/euclidlaw17.SplitCases", spec := "splitCases", unfollowed := true, recurses := true, loops := true, apart := false, narrowed := true }
def SplitCasesUptoSaid : Prop := splitCasesUptoRow.holds Tryz.pinned (OpenSpec.upto splitCasesSpec)

/-- 'euclidlaw17.SplitKeeps', WHERE WHAT IT READS IS OF BULK AT MOST 1048576: true; the input reads as it did. -/
def splitKeepsUptoRow : OpenClaim := { program := "ytfajdeofhioakaagreat", sum := "1ce995085c5cad722e933775f68e1853dc1b868de28f4a57f72c5b29797fc739", func := "euclid/euclidlaw17.SplitKeeps", spec := "splitKeeps", unfollowed := true, recurses := true, loops := true, apart := false, narrowed := true }
def SplitKeepsUptoSaid : Prop := splitKeepsUptoRow.holds Tryz.pinned (OpenSpec.upto splitKeepsSpec)

/-- 'euclidlaw17.SplitRefuses', WHERE WHAT IT READS IS OF BULK AT MOST 1048576: true; the input reads as it did. -/
def splitRefusesUptoRow : OpenClaim := { program := "ytfajdeofhioakaagreat", sum := "1ce995085c5cad722e933775f68e1853dc1b868de28f4a57f72c5b29797fc739", func := "euclid/euclidlaw17.SplitRefuses", spec := "splitRefuses", unfollowed := true, recurses := true, loops := true, apart := false, narrowed := true }
def SplitRefusesUptoSaid : Prop := splitRefusesUptoRow.holds Tryz.pinned (OpenSpec.upto splitRefusesSpec)

end Rows
end Go.Proofs.YtfajdeofhioakaaGreat
