/-
  NARROWER THAN 'FOR EVERY INPUT', by the rows' own cells (each row's printed sentence says how): CasetreeCompiles: loops · CasetreeLeaves: loops · CasetreeCatches: loops · CasetreeFirst: loops · CasetreeCovers: loops · CasetreeMatches: loops.
  DERIVED. THE GIVEN ROWS OF THIS SEAT. 6 by the template 'for every input the law returns true; each argument reads behind the call as it read before'; 0 by the template 'total and deterministic' (their statements: YtplomildbmcmfaaGreatTotals.lean).
  GIVEN WITH THE SEED: the statements are not yours to turn. If you find one false, say at which input.
  Laid BY PROGRAM, IN A SANDBOX (cutbox-rows.mjs): the forced cells as the released guide's own fill.sh prints them over the translation e8f812def761a557… (all of the seat's roots in one cut). By AI agents, Wed Nov 11 2026. No macro, syntax, notation, axiom, sorry.
-/
import Derived.Test.YtplomildbmcmfaaGreatChecked
import GoSem.Claim
import GoSem.ClaimJoined
import GoSem.ClaimMapViews
import Derived.JoinedTies
import Derived.KernelRfl
namespace Go.Proofs.YtplomildbmcmfaaGreat
/- THE CELL 'sum', in the pinned program and in every row, IS THE sha256 OF THE DUMP (.gsa) THAT YtplomildbmcmfaaGreatProg.lean LOADS. Nothing in Lean hashes anything: it is a label: what it is worth is what the hold of that sum in a sandbox is worth. -/
noncomputable def Tryz.pinned : Pinned := { name := "ytplomildbmcmfaagreat", sum := "e8f812def761a557121fc409161b8db25deb92f5e548ffe0d82920e20755467b", checked := Tryz.checked }
namespace Rows
def none {H : Type} : Left H := { results := [], args := [] }

/-- 'euclidlaw19.CasetreeCompiles': WHATEVER THE INPUT: true; the input reads as it did. -/
def casetreeCompilesSpec : ChangeSpec := { name := "casetreeCompiles", fn := fun _ => fun
  | [d1, d2, d3] => { results := [.lit (.bool true)], args := [d1, d2, d3] }
  | _ => none }
def casetreeCompilesRow : OpenClaim := { program := "ytplomildbmcmfaagreat", sum := "e8f812def761a557121fc409161b8db25deb92f5e548ffe0d82920e20755467b", func := "euclid/euclidlaw19.CasetreeCompiles", spec := "casetreeCompiles", unfollowed := true, recurses := true, loops := true, apart := false }
def CasetreeCompilesSaid : Prop := casetreeCompilesRow.holds Tryz.pinned (OpenSpec.ofChange casetreeCompilesSpec)

/-- ITS FALSE NEIGHBOUR: 'it returns false'. Refute it at one input. -/
def casetreeCompilesWrong : ChangeSpec := { name := "casetreeCompiles", fn := fun _ => fun
  | [d1, d2, d3] => { results := [.lit (.bool false)], args := [d1, d2, d3] }
  | _ => none }
def CasetreeCompilesWrongFalsely : Prop := casetreeCompilesRow.holds Tryz.pinned (OpenSpec.ofChange casetreeCompilesWrong)

/-- 'euclidlaw19.CasetreeLeaves': WHATEVER THE INPUT: true; the input reads as it did. -/
def casetreeLeavesSpec : ChangeSpec := { name := "casetreeLeaves", fn := fun _ => fun
  | [d] => { results := [.lit (.bool true)], args := [d] }
  | _ => none }
def casetreeLeavesRow : OpenClaim := { program := "ytplomildbmcmfaagreat", sum := "e8f812def761a557121fc409161b8db25deb92f5e548ffe0d82920e20755467b", func := "euclid/euclidlaw19.CasetreeLeaves", spec := "casetreeLeaves", unfollowed := true, recurses := true, loops := true, apart := false }
def CasetreeLeavesSaid : Prop := casetreeLeavesRow.holds Tryz.pinned (OpenSpec.ofChange casetreeLeavesSpec)

/-- ITS FALSE NEIGHBOUR: 'it returns false'. Refute it at one input. -/
def casetreeLeavesWrong : ChangeSpec := { name := "casetreeLeaves", fn := fun _ => fun
  | [d] => { results := [.lit (.bool false)], args := [d] }
  | _ => none }
def CasetreeLeavesWrongFalsely : Prop := casetreeLeavesRow.holds Tryz.pinned (OpenSpec.ofChange casetreeLeavesWrong)

/-- 'euclidlaw19.CasetreeCatches': WHATEVER THE INPUT: true; the input reads as it did. -/
def casetreeCatchesSpec : ChangeSpec := { name := "casetreeCatches", fn := fun _ => fun
  | [d1, d2, d3] => { results := [.lit (.bool true)], args := [d1, d2, d3] }
  | _ => none }
def casetreeCatchesRow : OpenClaim := { program := "ytplomildbmcmfaagreat", sum := "e8f812def761a557121fc409161b8db25deb92f5e548ffe0d82920e20755467b", func := "euclid/euclidlaw19.CasetreeCatches", spec := "casetreeCatches", unfollowed := true, recurses := true, loops := true, apart := false }
def CasetreeCatchesSaid : Prop := casetreeCatchesRow.holds Tryz.pinned (OpenSpec.ofChange casetreeCatchesSpec)

/-- ITS FALSE NEIGHBOUR: 'it returns false'. Refute it at one input. -/
def casetreeCatchesWrong : ChangeSpec := { name := "casetreeCatches", fn := fun _ => fun
  | [d1, d2, d3] => { results := [.lit (.bool false)], args := [d1, d2, d3] }
  | _ => none }
def CasetreeCatchesWrongFalsely : Prop := casetreeCatchesRow.holds Tryz.pinned (OpenSpec.ofChange casetreeCatchesWrong)

/-- 'euclidlaw19.CasetreeFirst': WHATEVER THE INPUT: true; the input reads as it did. -/
def casetreeFirstSpec : ChangeSpec := { name := "casetreeFirst", fn := fun _ => fun
  | [d1, d2, d3] => { results := [.lit (.bool true)], args := [d1, d2, d3] }
  | _ => none }
def casetreeFirstRow : OpenClaim := { program := "ytplomildbmcmfaagreat", sum := "e8f812def761a557121fc409161b8db25deb92f5e548ffe0d82920e20755467b", func := "euclid/euclidlaw19.CasetreeFirst", spec := "casetreeFirst", unfollowed := true, recurses := true, loops := true, apart := false }
def CasetreeFirstSaid : Prop := casetreeFirstRow.holds Tryz.pinned (OpenSpec.ofChange casetreeFirstSpec)

/-- ITS FALSE NEIGHBOUR: 'it returns false'. Refute it at one input. -/
def casetreeFirstWrong : ChangeSpec := { name := "casetreeFirst", fn := fun _ => fun
  | [d1, d2, d3] => { results := [.lit (.bool false)], args := [d1, d2, d3] }
  | _ => none }
def CasetreeFirstWrongFalsely : Prop := casetreeFirstRow.holds Tryz.pinned (OpenSpec.ofChange casetreeFirstWrong)

/-- 'euclidlaw19.CasetreeCovers': WHATEVER THE INPUT: true; the input reads as it did. -/
def casetreeCoversSpec : ChangeSpec := { name := "casetreeCovers", fn := fun _ => fun
  | [d1, d2, d3] => { results := [.lit (.bool true)], args := [d1, d2, d3] }
  | _ => none }
def casetreeCoversRow : OpenClaim := { program := "ytplomildbmcmfaagreat", sum := "e8f812def761a557121fc409161b8db25deb92f5e548ffe0d82920e20755467b", func := "euclid/euclidlaw19.CasetreeCovers", spec := "casetreeCovers", unfollowed := true, recurses := true, loops := true, apart := false }
def CasetreeCoversSaid : Prop := casetreeCoversRow.holds Tryz.pinned (OpenSpec.ofChange casetreeCoversSpec)

/-- ITS FALSE NEIGHBOUR: 'it returns false'. Refute it at one input. -/
def casetreeCoversWrong : ChangeSpec := { name := "casetreeCovers", fn := fun _ => fun
  | [d1, d2, d3] => { results := [.lit (.bool false)], args := [d1, d2, d3] }
  | _ => none }
def CasetreeCoversWrongFalsely : Prop := casetreeCoversRow.holds Tryz.pinned (OpenSpec.ofChange casetreeCoversWrong)

/-- 'euclidlaw19.CasetreeMatches': WHATEVER THE INPUT: true; the input reads as it did. -/
def casetreeMatchesSpec : ChangeSpec := { name := "casetreeMatches", fn := fun _ => fun
  | [d1, d2, d3] => { results := [.lit (.bool true)], args := [d1, d2, d3] }
  | _ => none }
def casetreeMatchesRow : OpenClaim := { program := "ytplomildbmcmfaagreat", sum := "e8f812def761a557121fc409161b8db25deb92f5e548ffe0d82920e20755467b", func := "euclid/euclidlaw19.CasetreeMatches", spec := "casetreeMatches", unfollowed := true, recurses := true, loops := true, apart := false }
def CasetreeMatchesSaid : Prop := casetreeMatchesRow.holds Tryz.pinned (OpenSpec.ofChange casetreeMatchesSpec)

/-- ITS FALSE NEIGHBOUR: 'it returns false'. Refute it at one input. -/
def casetreeMatchesWrong : ChangeSpec := { name := "casetreeMatches", fn := fun _ => fun
  | [d1, d2, d3] => { results := [.lit (.bool false)], args := [d1, d2, d3] }
  | _ => none }
def CasetreeMatchesWrongFalsely : Prop := casetreeMatchesRow.holds Tryz.pinned (OpenSpec.ofChange casetreeMatchesWrong)

/- THE SECOND FORM. 'bulk': how many values and letters a reading holds, each counted each time it is reached (what is shared counts as often as it is met; a slice's spare places count too). A statement '..UptoSaid' is the law's where the arguments, and the package variables that the reading takes, are together of bulk at most 1048576: NARROWER than '..Said'. Prove '..Said' where nothing that the law and all that it calls make is longer than what came in: it says more and counts as full. Else prove '..UptoSaid'. A law counts once. -/
mutual
def uptoBulk {H : Type} : DataW H → Nat
  | .lit (.string bytes) => bytes.length + 1
  | .lit _ => 1
  | .nil => 1
  | .ptr d => uptoBulk d + 1
  | .slice elems spare => uptoBulkAll elems + uptoBulkAll spare + 1
  | .agg parts => uptoBulkAll parts + 1
  | .iface _ d => uptoBulk d + 1
  | .map entries => uptoBulkEntries entries + 1
  | .held _ => 1
def uptoBulkAll {H : Type} : List (DataW H) → Nat
  | [] => 0
  | d :: r => uptoBulk d + uptoBulkAll r
def uptoBulkEntries {H : Type} : List (Lit × DataW H) → Nat
  | [] => 0
  | x :: r => uptoBulkEntry x + uptoBulkEntries r
def uptoBulkEntry {H : Type} : Lit × DataW H → Nat
  | (.string bytes, d) => bytes.length + uptoBulk d + 1
  | (_, d) => uptoBulk d + 1
 end
def uptoSmall : (H : Type) → List (DataW H) → Bool := fun _ ds => decide (uptoBulkAll ds ≤ 1048576)
def OpenSpec.upto (s : _root_.Go.ChangeSpec) : _root_.Go.OpenSpec := { _root_.Go.OpenSpec.ofChange s with cond := some uptoSmall }

/-- 'euclidlaw19.CasetreeCompiles', WHERE WHAT IT READS IS OF BULK AT MOST 1048576: true; the input reads as it did. -/
def casetreeCompilesUptoRow : OpenClaim := { program := "ytplomildbmcmfaagreat", sum := "e8f812def761a557121fc409161b8db25deb92f5e548ffe0d82920e20755467b", func := "euclid/euclidlaw19.CasetreeCompiles", spec := "casetreeCompiles", unfollowed := true, recurses := true, loops := true, apart := false, narrowed := true }
def CasetreeCompilesUptoSaid : Prop := casetreeCompilesUptoRow.holds Tryz.pinned (OpenSpec.upto casetreeCompilesSpec)

/-- 'euclidlaw19.CasetreeLeaves', WHERE WHAT IT READS IS OF BULK AT MOST 1048576: true; the input reads as it did. -/
def casetreeLeavesUptoRow : OpenClaim := { program := "ytplomildbmcmfaagreat", sum := "e8f812def761a557121fc409161b8db25deb92f5e548ffe0d82920e20755467b", func := "euclid/euclidlaw19.CasetreeLeaves", spec := "casetreeLeaves", unfollowed := true, recurses := true, loops := true, apart := false, narrowed := true }
def CasetreeLeavesUptoSaid : Prop := casetreeLeavesUptoRow.holds Tryz.pinned (OpenSpec.upto casetreeLeavesSpec)

/-- 'euclidlaw19.CasetreeCatches', WHERE WHAT IT READS IS OF BULK AT MOST 1048576: true; the input reads as it did. -/
def casetreeCatchesUptoRow : OpenClaim := { program := "ytplomildbmcmfaagreat", sum := "e8f812def761a557121fc409161b8db25deb92f5e548ffe0d82920e20755467b", func := "euclid/euclidlaw19.CasetreeCatches", spec := "casetreeCatches", unfollowed := true, recurses := true, loops := true, apart := false, narrowed := true }
def CasetreeCatchesUptoSaid : Prop := casetreeCatchesUptoRow.holds Tryz.pinned (OpenSpec.upto casetreeCatchesSpec)

/-- 'euclidlaw19.CasetreeFirst', WHERE WHAT IT READS IS OF BULK AT MOST 1048576: true; the input reads as it did. -/
def casetreeFirstUptoRow : OpenClaim := { program := "ytplomildbmcmfaagreat", sum := "e8f812def761a557121fc409161b8db25deb92f5e548ffe0d82920e20755467b", func := "euclid/euclidlaw19.CasetreeFirst", spec := "casetreeFirst", unfollowed := true, recurses := true, loops := true, apart := false, narrowed := true }
def CasetreeFirstUptoSaid : Prop := casetreeFirstUptoRow.holds Tryz.pinned (OpenSpec.upto casetreeFirstSpec)

/-- 'euclidlaw19.CasetreeCovers', WHERE WHAT IT READS IS OF BULK AT MOST 1048576: true; the input reads as it did. -/
def casetreeCoversUptoRow : OpenClaim := { program := "ytplomildbmcmfaagreat", sum := "e8f812def761a557121fc409161b8db25deb92f5e548ffe0d82920e20755467b", func := "euclid/euclidlaw19.CasetreeCovers", spec := "casetreeCovers", unfollowed := true, recurses := true, loops := true, apart := false, narrowed := true }
def CasetreeCoversUptoSaid : Prop := casetreeCoversUptoRow.holds Tryz.pinned (OpenSpec.upto casetreeCoversSpec)

/-- 'euclidlaw19.CasetreeMatches', WHERE WHAT IT READS IS OF BULK AT MOST 1048576: true; the input reads as it did. -/
def casetreeMatchesUptoRow : OpenClaim := { program := "ytplomildbmcmfaagreat", sum := "e8f812def761a557121fc409161b8db25deb92f5e548ffe0d82920e20755467b", func := "euclid/euclidlaw19.CasetreeMatches", spec := "casetreeMatches", unfollowed := true, recurses := true, loops := true, apart := false, narrowed := true }
def CasetreeMatchesUptoSaid : Prop := casetreeMatchesUptoRow.holds Tryz.pinned (OpenSpec.upto casetreeMatchesSpec)

end Rows
end Go.Proofs.YtplomildbmcmfaaGreat
