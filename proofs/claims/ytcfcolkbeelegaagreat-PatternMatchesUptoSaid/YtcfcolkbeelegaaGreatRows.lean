/-
  NARROWER THAN 'FOR EVERY INPUT', by the rows' own cells (each row's printed sentence says how): SubstLevels: loops · PatternMatches: loops · PatternCovers: loops · PatternFirst: loops · PatternInstances: loops · PatternRebuilds: loops · PatternGrows: loops · PatternChecks: loops.
  DERIVED. THE GIVEN ROWS OF THIS SEAT. 8 by the template 'for every input the law returns true; each argument reads behind the call as it read before'; 0 by the template 'total and deterministic' (their statements: YtcfcolkbeelegaaGreatTotals.lean).
  GIVEN WITH THE SEED: the statements are not yours to turn. If you find one false, say at which input.
  Laid BY PROGRAM, IN A SANDBOX (cutbox-rows.mjs): the forced cells as the released guide's own fill.sh prints them over the translation d981688bfefef980… (all of the seat's roots in one cut). By AI agents, Wed Nov 11 2026. No macro, syntax, notation, axiom, sorry.
-/
import Derived.Test.YtcfcolkbeelegaaGreatChecked
import GoSem.Claim
import GoSem.ClaimJoined
import GoSem.ClaimMapViews
import Derived.JoinedTies
import Derived.KernelRfl
namespace Go.Proofs.YtcfcolkbeelegaaGreat
/- THE CELL 'sum', in the pinned program and in every row, IS THE sha256 OF THE DUMP (.gsa) THAT YtcfcolkbeelegaaGreatProg.lean LOADS. Nothing in Lean hashes anything: it is a label: what it is worth is what the hold of that sum in a sandbox is worth. -/
noncomputable def Tryz.pinned : Pinned := { name := "ytcfcolkbeelegaagreat", sum := "d981688bfefef9803a9f54bba580b10de96392791351f4f72ddc2eb75e78caae", checked := Tryz.checked }
namespace Rows
def none {H : Type} : Left H := { results := [], args := [] }

/-- 'euclidlaw04.SubstLevels': WHATEVER THE INPUT: true; the input reads as it did. -/
def substLevelsSpec : ChangeSpec := { name := "substLevels", fn := fun _ => fun
  | [d1, d2] => { results := [.lit (.bool true)], args := [d1, d2] }
  | _ => none }
def substLevelsRow : OpenClaim := { program := "ytcfcolkbeelegaagreat", sum := "d981688bfefef9803a9f54bba580b10de96392791351f4f72ddc2eb75e78caae", func := "euclid/euclidlaw04.SubstLevels", spec := "substLevels", unfollowed := true, recurses := true, loops := true, apart := false }
def SubstLevelsSaid : Prop := substLevelsRow.holds Tryz.pinned (OpenSpec.ofChange substLevelsSpec)

/-- ITS FALSE NEIGHBOUR: 'it returns false'. Refute it at one input. -/
def substLevelsWrong : ChangeSpec := { name := "substLevels", fn := fun _ => fun
  | [d1, d2] => { results := [.lit (.bool false)], args := [d1, d2] }
  | _ => none }
def SubstLevelsWrongFalsely : Prop := substLevelsRow.holds Tryz.pinned (OpenSpec.ofChange substLevelsWrong)

/-- 'euclidlaw18.PatternMatches': WHATEVER THE INPUT: true; the input reads as it did. -/
def patternMatchesSpec : ChangeSpec := { name := "patternMatches", fn := fun _ => fun
  | [d1, d2, d3] => { results := [.lit (.bool true)], args := [d1, d2, d3] }
  | _ => none }
def patternMatchesRow : OpenClaim := { program := "ytcfcolkbeelegaagreat", sum := "d981688bfefef9803a9f54bba580b10de96392791351f4f72ddc2eb75e78caae", func := "euclid/euclidlaw18.PatternMatches", spec := "patternMatches", inPlace := ["internal/abi.NoEscape", "internal/bytealg.MakeNoZero"], unfollowed := true, recurses := true, loops := true, apart := false }
def PatternMatchesSaid : Prop := patternMatchesRow.holds Tryz.pinned (OpenSpec.ofChange patternMatchesSpec)

/-- ITS FALSE NEIGHBOUR: 'it returns false'. Refute it at one input. -/
def patternMatchesWrong : ChangeSpec := { name := "patternMatches", fn := fun _ => fun
  | [d1, d2, d3] => { results := [.lit (.bool false)], args := [d1, d2, d3] }
  | _ => none }
def PatternMatchesWrongFalsely : Prop := patternMatchesRow.holds Tryz.pinned (OpenSpec.ofChange patternMatchesWrong)

/-- 'euclidlaw18.PatternCovers': WHATEVER THE INPUT: true; the input reads as it did. -/
def patternCoversSpec : ChangeSpec := { name := "patternCovers", fn := fun _ => fun
  | [d1, d2, d3] => { results := [.lit (.bool true)], args := [d1, d2, d3] }
  | _ => none }
def patternCoversRow : OpenClaim := { program := "ytcfcolkbeelegaagreat", sum := "d981688bfefef9803a9f54bba580b10de96392791351f4f72ddc2eb75e78caae", func := "euclid/euclidlaw18.PatternCovers", spec := "patternCovers", inPlace := ["internal/abi.NoEscape", "internal/bytealg.MakeNoZero"], unfollowed := true, recurses := true, loops := true, apart := false }
def PatternCoversSaid : Prop := patternCoversRow.holds Tryz.pinned (OpenSpec.ofChange patternCoversSpec)

/-- ITS FALSE NEIGHBOUR: 'it returns false'. Refute it at one input. -/
def patternCoversWrong : ChangeSpec := { name := "patternCovers", fn := fun _ => fun
  | [d1, d2, d3] => { results := [.lit (.bool false)], args := [d1, d2, d3] }
  | _ => none }
def PatternCoversWrongFalsely : Prop := patternCoversRow.holds Tryz.pinned (OpenSpec.ofChange patternCoversWrong)

/-- 'euclidlaw18.PatternFirst': WHATEVER THE INPUT: true; the input reads as it did. -/
def patternFirstSpec : ChangeSpec := { name := "patternFirst", fn := fun _ => fun
  | [d1, d2, d3] => { results := [.lit (.bool true)], args := [d1, d2, d3] }
  | _ => none }
def patternFirstRow : OpenClaim := { program := "ytcfcolkbeelegaagreat", sum := "d981688bfefef9803a9f54bba580b10de96392791351f4f72ddc2eb75e78caae", func := "euclid/euclidlaw18.PatternFirst", spec := "patternFirst", inPlace := ["internal/abi.NoEscape", "internal/bytealg.MakeNoZero"], unfollowed := true, recurses := true, loops := true, apart := false }
def PatternFirstSaid : Prop := patternFirstRow.holds Tryz.pinned (OpenSpec.ofChange patternFirstSpec)

/-- ITS FALSE NEIGHBOUR: 'it returns false'. Refute it at one input. -/
def patternFirstWrong : ChangeSpec := { name := "patternFirst", fn := fun _ => fun
  | [d1, d2, d3] => { results := [.lit (.bool false)], args := [d1, d2, d3] }
  | _ => none }
def PatternFirstWrongFalsely : Prop := patternFirstRow.holds Tryz.pinned (OpenSpec.ofChange patternFirstWrong)

/-- 'euclidlaw18.PatternInstances': WHATEVER THE INPUT: true; the input reads as it did. -/
def patternInstancesSpec : ChangeSpec := { name := "patternInstances", fn := fun _ => fun
  | [d1, d2, d3] => { results := [.lit (.bool true)], args := [d1, d2, d3] }
  | _ => none }
def patternInstancesRow : OpenClaim := { program := "ytcfcolkbeelegaagreat", sum := "d981688bfefef9803a9f54bba580b10de96392791351f4f72ddc2eb75e78caae", func := "euclid/euclidlaw18.PatternInstances", spec := "patternInstances", inPlace := ["internal/abi.NoEscape", "internal/bytealg.MakeNoZero"], unfollowed := true, recurses := true, loops := true, apart := false }
def PatternInstancesSaid : Prop := patternInstancesRow.holds Tryz.pinned (OpenSpec.ofChange patternInstancesSpec)

/-- ITS FALSE NEIGHBOUR: 'it returns false'. Refute it at one input. -/
def patternInstancesWrong : ChangeSpec := { name := "patternInstances", fn := fun _ => fun
  | [d1, d2, d3] => { results := [.lit (.bool false)], args := [d1, d2, d3] }
  | _ => none }
def PatternInstancesWrongFalsely : Prop := patternInstancesRow.holds Tryz.pinned (OpenSpec.ofChange patternInstancesWrong)

/-- 'euclidlaw18.PatternRebuilds': WHATEVER THE INPUT: true; the input reads as it did. -/
def patternRebuildsSpec : ChangeSpec := { name := "patternRebuilds", fn := fun _ => fun
  | [d1, d2, d3] => { results := [.lit (.bool true)], args := [d1, d2, d3] }
  | _ => none }
def patternRebuildsRow : OpenClaim := { program := "ytcfcolkbeelegaagreat", sum := "d981688bfefef9803a9f54bba580b10de96392791351f4f72ddc2eb75e78caae", func := "euclid/euclidlaw18.PatternRebuilds", spec := "patternRebuilds", inPlace := ["internal/abi.NoEscape", "internal/bytealg.MakeNoZero"], unfollowed := true, recurses := true, loops := true, apart := false }
def PatternRebuildsSaid : Prop := patternRebuildsRow.holds Tryz.pinned (OpenSpec.ofChange patternRebuildsSpec)

/-- ITS FALSE NEIGHBOUR: 'it returns false'. Refute it at one input. -/
def patternRebuildsWrong : ChangeSpec := { name := "patternRebuilds", fn := fun _ => fun
  | [d1, d2, d3] => { results := [.lit (.bool false)], args := [d1, d2, d3] }
  | _ => none }
def PatternRebuildsWrongFalsely : Prop := patternRebuildsRow.holds Tryz.pinned (OpenSpec.ofChange patternRebuildsWrong)

/-- 'euclidlaw18.PatternGrows': WHATEVER THE INPUT: true; the input reads as it did. -/
def patternGrowsSpec : ChangeSpec := { name := "patternGrows", fn := fun _ => fun
  | [d1, d2, d3] => { results := [.lit (.bool true)], args := [d1, d2, d3] }
  | _ => none }
def patternGrowsRow : OpenClaim := { program := "ytcfcolkbeelegaagreat", sum := "d981688bfefef9803a9f54bba580b10de96392791351f4f72ddc2eb75e78caae", func := "euclid/euclidlaw18.PatternGrows", spec := "patternGrows", inPlace := ["internal/abi.NoEscape", "internal/bytealg.MakeNoZero"], unfollowed := true, recurses := true, loops := true, apart := false }
def PatternGrowsSaid : Prop := patternGrowsRow.holds Tryz.pinned (OpenSpec.ofChange patternGrowsSpec)

/-- ITS FALSE NEIGHBOUR: 'it returns false'. Refute it at one input. -/
def patternGrowsWrong : ChangeSpec := { name := "patternGrows", fn := fun _ => fun
  | [d1, d2, d3] => { results := [.lit (.bool false)], args := [d1, d2, d3] }
  | _ => none }
def PatternGrowsWrongFalsely : Prop := patternGrowsRow.holds Tryz.pinned (OpenSpec.ofChange patternGrowsWrong)

/-- 'euclidlaw18.PatternChecks': WHATEVER THE INPUT: true; the input reads as it did. -/
def patternChecksSpec : ChangeSpec := { name := "patternChecks", fn := fun _ => fun
  | [d1, d2, d3] => { results := [.lit (.bool true)], args := [d1, d2, d3] }
  | _ => none }
def patternChecksRow : OpenClaim := { program := "ytcfcolkbeelegaagreat", sum := "d981688bfefef9803a9f54bba580b10de96392791351f4f72ddc2eb75e78caae", func := "euclid/euclidlaw18.PatternChecks", spec := "patternChecks", inPlace := ["internal/abi.NoEscape", "internal/bytealg.MakeNoZero"], unfollowed := true, recurses := true, loops := true, apart := false }
def PatternChecksSaid : Prop := patternChecksRow.holds Tryz.pinned (OpenSpec.ofChange patternChecksSpec)

/-- ITS FALSE NEIGHBOUR: 'it returns false'. Refute it at one input. -/
def patternChecksWrong : ChangeSpec := { name := "patternChecks", fn := fun _ => fun
  | [d1, d2, d3] => { results := [.lit (.bool false)], args := [d1, d2, d3] }
  | _ => none }
def PatternChecksWrongFalsely : Prop := patternChecksRow.holds Tryz.pinned (OpenSpec.ofChange patternChecksWrong)

/- THE SECOND FORM. 'bulk': how many values and letters a reading holds, each counted each time it is reached (what is shared counts as often as it is met; a slice's spare places count too). A statement '..UptoSaid' is the law's where the arguments, and the package variables that the reading takes, are together of bulk at most 1048576: NARROWER than '..Said'. Prove '..Said' where nothing that the law and all that it calls make is longer than what came in: it says more and counts as full. Else prove '..UptoSaid'. A law counts once. -/
mutual
def uptoBulk {H : Type} : DataW H → Nat
  | .lit (.string bytes) => bytes.length + 1
  | .lit _ => 1
  | .nil => 1
  | .ptr d => uptoBulk d + 1
  | .slice elems spare => uptoBulkAll elems + uptoBulkAll spare + 1
  | .agg parts => uptoBulkAll parts + 1
  | .iface _ d => uptoBulk d + 1
  | .map entries => uptoBulkEntries entries + 1
  | .held _ => 1
def uptoBulkAll {H : Type} : List (DataW H) → Nat
  | [] => 0
  | d :: r => uptoBulk d + uptoBulkAll r
def uptoBulkEntries {H : Type} : List (Lit × DataW H) → Nat
  | [] => 0
  | x :: r => uptoBulkEntry x + uptoBulkEntries r
def uptoBulkEntry {H : Type} : Lit × DataW H → Nat
  | (.string bytes, d) => bytes.length + uptoBulk d + 1
  | (_, d) => uptoBulk d + 1
 end
def uptoSmall : (H : Type) → List (DataW H) → Bool := fun _ ds => decide (uptoBulkAll ds ≤ 1048576)
def OpenSpec.upto (s : _root_.Go.ChangeSpec) : _root_.Go.OpenSpec := { _root_.Go.OpenSpec.ofChange s with cond := some uptoSmall }

/-- 'euclidlaw04.SubstLevels', WHERE WHAT IT READS IS OF BULK AT MOST 1048576: true; the input reads as it did. -/
def substLevelsUptoRow : OpenClaim := { program := "ytcfcolkbeelegaagreat", sum := "d981688bfefef9803a9f54bba580b10de96392791351f4f72ddc2eb75e78caae", func := "euclid/euclidlaw04.SubstLevels", spec := "substLevels", unfollowed := true, recurses := true, loops := true, apart := false, narrowed := true }
def SubstLevelsUptoSaid : Prop := substLevelsUptoRow.holds Tryz.pinned (OpenSpec.upto substLevelsSpec)

/-- 'euclidlaw18.PatternMatches', WHERE WHAT IT READS IS OF BULK AT MOST 1048576: true; the input reads as it did. -/
def patternMatchesUptoRow : OpenClaim := { program := "ytcfcolkbeelegaagreat", sum := "d981688bfefef9803a9f54bba580b10de96392791351f4f72ddc2eb75e78caae", func := "euclid/euclidlaw18.PatternMatches", spec := "patternMatches", inPlace := ["internal/abi.NoEscape", "internal/bytealg.MakeNoZero"], unfollowed := true, recurses := true, loops := true, apart := false, narrowed := true }
def PatternMatchesUptoSaid : Prop := patternMatchesUptoRow.holds Tryz.pinned (OpenSpec.upto patternMatchesSpec)

/-- 'euclidlaw18.PatternCovers', WHERE WHAT IT READS IS OF BULK AT MOST 1048576: true; the input reads as it did. -/
def patternCoversUptoRow : OpenClaim := { program := "ytcfcolkbeelegaagreat", sum := "d981688bfefef9803a9f54bba580b10de96392791351f4f72ddc2eb75e78caae", func := "euclid/euclidlaw18.PatternCovers", spec := "patternCovers", inPlace := ["internal/abi.NoEscape", "internal/bytealg.MakeNoZero"], unfollowed := true, recurses := true, loops := true, apart := false, narrowed := true }
def PatternCoversUptoSaid : Prop := patternCoversUptoRow.holds Tryz.pinned (OpenSpec.upto patternCoversSpec)

/-- 'euclidlaw18.PatternFirst', WHERE WHAT IT READS IS OF BULK AT MOST 1048576: true; the input reads as it did. -/
def patternFirstUptoRow : OpenClaim := { program := "ytcfcolkbeelegaagreat", sum := "d981688bfefef9803a9f54bba580b10de96392791351f4f72ddc2eb75e78caae", func := "euclid/euclidlaw18.PatternFirst", spec := "patternFirst", inPlace := ["internal/abi.NoEscape", "internal/bytealg.MakeNoZero"], unfollowed := true, recurses := true, loops := true, apart := false, narrowed := true }
def PatternFirstUptoSaid : Prop := patternFirstUptoRow.holds Tryz.pinned (OpenSpec.upto patternFirstSpec)

/-- 'euclidlaw18.PatternInstances', WHERE WHAT IT READS IS OF BULK AT MOST 1048576: true; the input reads as it did. -/
def patternInstancesUptoRow : OpenClaim := { program := "ytcfcolkbeelegaagreat", sum := "d981688bfefef9803a9f54bba580b10de96392791351f4f72ddc2eb75e78caae", func := "euclid/euclidlaw18.PatternInstances", spec := "patternInstances", inPlace := ["internal/abi.NoEscape", "internal/bytealg.MakeNoZero"], unfollowed := true, recurses := true, loops := true, apart := false, narrowed := true }
def PatternInstancesUptoSaid : Prop := patternInstancesUptoRow.holds Tryz.pinned (OpenSpec.upto patternInstancesSpec)

/-- 'euclidlaw18.PatternRebuilds', WHERE WHAT IT READS IS OF BULK AT MOST 1048576: true; the input reads as it did. -/
def patternRebuildsUptoRow : OpenClaim := { program := "ytcfcolkbeelegaagreat", sum := "d981688bfefef9803a9f54bba580b10de96392791351f4f72ddc2eb75e78caae", func := "euclid/euclidlaw18.PatternRebuilds", spec := "patternRebuilds", inPlace := ["internal/abi.NoEscape", "internal/bytealg.MakeNoZero"], unfollowed := true, recurses := true, loops := true, apart := false, narrowed := true }
def PatternRebuildsUptoSaid : Prop := patternRebuildsUptoRow.holds Tryz.pinned (OpenSpec.upto patternRebuildsSpec)

/-- 'euclidlaw18.PatternGrows', WHERE WHAT IT READS IS OF BULK AT MOST 1048576: true; the input reads as it did. -/
def patternGrowsUptoRow : OpenClaim := { program := "ytcfcolkbeelegaagreat", sum := "d981688bfefef9803a9f54bba580b10de96392791351f4f72ddc2eb75e78caae", func := "euclid/euclidlaw18.PatternGrows", spec := "patternGrows", inPlace := ["internal/abi.NoEscape", "internal/bytealg.MakeNoZero"], unfollowed := true, recurses := true, loops := true, apart := false, narrowed := true }
def PatternGrowsUptoSaid : Prop := patternGrowsUptoRow.holds Tryz.pinned (OpenSpec.upto patternGrowsSpec)

/-- 'euclidlaw18.PatternChecks', WHERE WHAT IT READS IS OF BULK AT MOST 1048576: true; the input reads as it did. -/
def patternChecksUptoRow : OpenClaim := { program := "ytcfcolkbeelegaagreat", sum := "d981688bfefef9803a9f54bba580b10de96392791351f4f72ddc2eb75e78caae", func := "euclid/euclidlaw18.PatternChecks", spec := "patternChecks", inPlace := ["internal/abi.NoEscape", "internal/bytealg.MakeNoZero"], unfollowed := true, recurses := true, loops := true, apart := false, narrowed := true }
def PatternChecksUptoSaid : Prop := patternChecksUptoRow.holds Tryz.pinned (OpenSpec.upto patternChecksSpec)

end Rows
end Go.Proofs.YtcfcolkbeelegaaGreat
