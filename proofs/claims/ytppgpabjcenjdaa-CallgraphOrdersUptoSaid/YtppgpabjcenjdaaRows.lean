/-
  NARROWER THAN 'FOR EVERY INPUT', by the rows' own cells (each row's printed sentence says how): SubstShifts: loops · SubstReplaces: loops · SubstAbstracts: loops · SubstTwice: loops · CallgraphRelates: loops · CallgraphOrders: loops · CallgraphParts: loops · SubstBack: loops · TelescopeLooks: loops · TelescopeInstantiates: loops · SubstRenames: loops · TelescopeBinds: loops · TelescopeOpens: loops · TelescopeApplies: loops · TelescopeSteps: loops · TelescopeInverts: loops · TermChecks: loops · TermMeasures: loops · TermParts: loops · TermFree: loops · TermScopes: loops · TermEquals: loops · TermConstants: loops · TelescopeScopes: loops · SubstMoves: loops.
  DERIVED. THE GIVEN ROWS OF THIS SEAT. 26 by the template 'for every input the law returns true; each argument reads behind the call as it read before'; 0 by the template 'total and deterministic' (their statements: YtppgpabjcenjdaaTotals.lean).
  GIVEN WITH THE SEED: the statements are not yours to turn. If you find one false, say at which input.
  Laid BY PROGRAM, IN A SANDBOX (cutbox-rows.mjs): the forced cells as the released guide's own fill.sh prints them over the translation 45531f6ee40de0b7… (all of the seat's roots in one cut). By AI agents, Wed Nov 11 2026. No macro, syntax, notation, axiom, sorry.
-/
import Derived.Test.YtppgpabjcenjdaaChecked
import GoSem.Claim
import GoSem.ClaimJoined
import GoSem.ClaimMapViews
import Derived.JoinedTies
import Derived.KernelRfl
namespace Go.Proofs.Ytppgpabjcenjdaa
/- THE CELL 'sum', in the pinned program and in every row, IS THE sha256 OF THE DUMP (.gsa) THAT YtppgpabjcenjdaaProg.lean LOADS. Nothing in Lean hashes anything: it is a label: what it is worth is what the hold of that sum in a sandbox is worth. -/
noncomputable def Try.pinned : Pinned := { name := "ytppgpabjcenjdaa", sum := "45531f6ee40de0b752e8a3e885ce5b446776f52feb3ae5f94d615a9b63ac9f49", checked := Try.checked }
namespace Rows
def none {H : Type} : Left H := { results := [], args := [] }

/-- 'euclidlaw04.SubstShifts': WHATEVER THE INPUT: true; the input reads as it did. -/
def substShiftsSpec : ChangeSpec := { name := "substShifts", fn := fun _ => fun
  | [d1, d2, d3] => { results := [.lit (.bool true)], args := [d1, d2, d3] }
  | _ => none }
def substShiftsRow : OpenClaim := { program := "ytppgpabjcenjdaa", sum := "45531f6ee40de0b752e8a3e885ce5b446776f52feb3ae5f94d615a9b63ac9f49", func := "euclid/euclidlaw04.SubstShifts", spec := "substShifts", unfollowed := true, recurses := true, loops := true, apart := false }
def SubstShiftsSaid : Prop := substShiftsRow.holds Try.pinned (OpenSpec.ofChange substShiftsSpec)

/-- ITS FALSE NEIGHBOUR: 'it returns false'. Refute it at one input. -/
def substShiftsWrong : ChangeSpec := { name := "substShifts", fn := fun _ => fun
  | [d1, d2, d3] => { results := [.lit (.bool false)], args := [d1, d2, d3] }
  | _ => none }
def SubstShiftsWrongFalsely : Prop := substShiftsRow.holds Try.pinned (OpenSpec.ofChange substShiftsWrong)

/-- 'euclidlaw04.SubstReplaces': WHATEVER THE INPUT: true; the input reads as it did. -/
def substReplacesSpec : ChangeSpec := { name := "substReplaces", fn := fun _ => fun
  | [d1, d2, d3] => { results := [.lit (.bool true)], args := [d1, d2, d3] }
  | _ => none }
def substReplacesRow : OpenClaim := { program := "ytppgpabjcenjdaa", sum := "45531f6ee40de0b752e8a3e885ce5b446776f52feb3ae5f94d615a9b63ac9f49", func := "euclid/euclidlaw04.SubstReplaces", spec := "substReplaces", unfollowed := true, recurses := true, loops := true, apart := false }
def SubstReplacesSaid : Prop := substReplacesRow.holds Try.pinned (OpenSpec.ofChange substReplacesSpec)

/-- ITS FALSE NEIGHBOUR: 'it returns false'. Refute it at one input. -/
def substReplacesWrong : ChangeSpec := { name := "substReplaces", fn := fun _ => fun
  | [d1, d2, d3] => { results := [.lit (.bool false)], args := [d1, d2, d3] }
  | _ => none }
def SubstReplacesWrongFalsely : Prop := substReplacesRow.holds Try.pinned (OpenSpec.ofChange substReplacesWrong)

/-- 'euclidlaw04.SubstAbstracts': WHATEVER THE INPUT: true; the input reads as it did. -/
def substAbstractsSpec : ChangeSpec := { name := "substAbstracts", fn := fun _ => fun
  | [d1, d2] => { results := [.lit (.bool true)], args := [d1, d2] }
  | _ => none }
def substAbstractsRow : OpenClaim := { program := "ytppgpabjcenjdaa", sum := "45531f6ee40de0b752e8a3e885ce5b446776f52feb3ae5f94d615a9b63ac9f49", func := "euclid/euclidlaw04.SubstAbstracts", spec := "substAbstracts", unfollowed := true, recurses := true, loops := true, apart := false }
def SubstAbstractsSaid : Prop := substAbstractsRow.holds Try.pinned (OpenSpec.ofChange substAbstractsSpec)

/-- ITS FALSE NEIGHBOUR: 'it returns false'. Refute it at one input. -/
def substAbstractsWrong : ChangeSpec := { name := "substAbstracts", fn := fun _ => fun
  | [d1, d2] => { results := [.lit (.bool false)], args := [d1, d2] }
  | _ => none }
def SubstAbstractsWrongFalsely : Prop := substAbstractsRow.holds Try.pinned (OpenSpec.ofChange substAbstractsWrong)

/-- 'euclidlaw04.SubstTwice': WHATEVER THE INPUT: true; the input reads as it did. -/
def substTwiceSpec : ChangeSpec := { name := "substTwice", fn := fun _ => fun
  | [d1, d2, d3] => { results := [.lit (.bool true)], args := [d1, d2, d3] }
  | _ => none }
def substTwiceRow : OpenClaim := { program := "ytppgpabjcenjdaa", sum := "45531f6ee40de0b752e8a3e885ce5b446776f52feb3ae5f94d615a9b63ac9f49", func := "euclid/euclidlaw04.SubstTwice", spec := "substTwice", unfollowed := true, recurses := true, loops := true, apart := false }
def SubstTwiceSaid : Prop := substTwiceRow.holds Try.pinned (OpenSpec.ofChange substTwiceSpec)

/-- ITS FALSE NEIGHBOUR: 'it returns false'. Refute it at one input. -/
def substTwiceWrong : ChangeSpec := { name := "substTwice", fn := fun _ => fun
  | [d1, d2, d3] => { results := [.lit (.bool false)], args := [d1, d2, d3] }
  | _ => none }
def SubstTwiceWrongFalsely : Prop := substTwiceRow.holds Try.pinned (OpenSpec.ofChange substTwiceWrong)

/-- 'euclidlaw21.CallgraphRelates': WHATEVER THE INPUT: true; the input reads as it did. -/
def callgraphRelatesSpec : ChangeSpec := { name := "callgraphRelates", fn := fun _ => fun
  | [d1, d2, d3] => { results := [.lit (.bool true)], args := [d1, d2, d3] }
  | _ => none }
def callgraphRelatesRow : OpenClaim := { program := "ytppgpabjcenjdaa", sum := "45531f6ee40de0b752e8a3e885ce5b446776f52feb3ae5f94d615a9b63ac9f49", func := "euclid/euclidlaw21.CallgraphRelates", spec := "callgraphRelates", unfollowed := true, recurses := true, loops := true, apart := false }
def CallgraphRelatesSaid : Prop := callgraphRelatesRow.holds Try.pinned (OpenSpec.ofChange callgraphRelatesSpec)

/-- ITS FALSE NEIGHBOUR: 'it returns false'. Refute it at one input. -/
def callgraphRelatesWrong : ChangeSpec := { name := "callgraphRelates", fn := fun _ => fun
  | [d1, d2, d3] => { results := [.lit (.bool false)], args := [d1, d2, d3] }
  | _ => none }
def CallgraphRelatesWrongFalsely : Prop := callgraphRelatesRow.holds Try.pinned (OpenSpec.ofChange callgraphRelatesWrong)

/-- 'euclidlaw21.CallgraphOrders': WHATEVER THE INPUT: true; the input reads as it did. -/
def callgraphOrdersSpec : ChangeSpec := { name := "callgraphOrders", fn := fun _ => fun
  | [d1, d2] => { results := [.lit (.bool true)], args := [d1, d2] }
  | _ => none }
def callgraphOrdersRow : OpenClaim := { program := "ytppgpabjcenjdaa", sum := "45531f6ee40de0b752e8a3e885ce5b446776f52feb3ae5f94d615a9b63ac9f49", func := "euclid/euclidlaw21.CallgraphOrders", spec := "callgraphOrders", unfollowed := true, recurses := true, loops := true, apart := false }
def CallgraphOrdersSaid : Prop := callgraphOrdersRow.holds Try.pinned (OpenSpec.ofChange callgraphOrdersSpec)

/-- ITS FALSE NEIGHBOUR: 'it returns false'. Refute it at one input. -/
def callgraphOrdersWrong : ChangeSpec := { name := "callgraphOrders", fn := fun _ => fun
  | [d1, d2] => { results := [.lit (.bool false)], args := [d1, d2] }
  | _ => none }
def CallgraphOrdersWrongFalsely : Prop := callgraphOrdersRow.holds Try.pinned (OpenSpec.ofChange callgraphOrdersWrong)

/-- 'euclidlaw21.CallgraphParts': WHATEVER THE INPUT: true; the input reads as it did. -/
def callgraphPartsSpec : ChangeSpec := { name := "callgraphParts", fn := fun _ => fun
  | [d1, d2, d3] => { results := [.lit (.bool true)], args := [d1, d2, d3] }
  | _ => none }
def callgraphPartsRow : OpenClaim := { program := "ytppgpabjcenjdaa", sum := "45531f6ee40de0b752e8a3e885ce5b446776f52feb3ae5f94d615a9b63ac9f49", func := "euclid/euclidlaw21.CallgraphParts", spec := "callgraphParts", unfollowed := true, recurses := true, loops := true, apart := false }
def CallgraphPartsSaid : Prop := callgraphPartsRow.holds Try.pinned (OpenSpec.ofChange callgraphPartsSpec)

/-- ITS FALSE NEIGHBOUR: 'it returns false'. Refute it at one input. -/
def callgraphPartsWrong : ChangeSpec := { name := "callgraphParts", fn := fun _ => fun
  | [d1, d2, d3] => { results := [.lit (.bool false)], args := [d1, d2, d3] }
  | _ => none }
def CallgraphPartsWrongFalsely : Prop := callgraphPartsRow.holds Try.pinned (OpenSpec.ofChange callgraphPartsWrong)

/-- 'euclidlaw04.SubstBack': WHATEVER THE INPUT: true; the input reads as it did. -/
def substBackSpec : ChangeSpec := { name := "substBack", fn := fun _ => fun
  | [d1, d2, d3] => { results := [.lit (.bool true)], args := [d1, d2, d3] }
  | _ => none }
def substBackRow : OpenClaim := { program := "ytppgpabjcenjdaa", sum := "45531f6ee40de0b752e8a3e885ce5b446776f52feb3ae5f94d615a9b63ac9f49", func := "euclid/euclidlaw04.SubstBack", spec := "substBack", unfollowed := true, recurses := true, loops := true, apart := false }
def SubstBackSaid : Prop := substBackRow.holds Try.pinned (OpenSpec.ofChange substBackSpec)

/-- ITS FALSE NEIGHBOUR: 'it returns false'. Refute it at one input. -/
def substBackWrong : ChangeSpec := { name := "substBack", fn := fun _ => fun
  | [d1, d2, d3] => { results := [.lit (.bool false)], args := [d1, d2, d3] }
  | _ => none }
def SubstBackWrongFalsely : Prop := substBackRow.holds Try.pinned (OpenSpec.ofChange substBackWrong)

/-- 'euclidlaw05.TelescopeLooks': WHATEVER THE INPUT: true; the input reads as it did. -/
def telescopeLooksSpec : ChangeSpec := { name := "telescopeLooks", fn := fun _ => fun
  | [d1, d2, d3] => { results := [.lit (.bool true)], args := [d1, d2, d3] }
  | _ => none }
def telescopeLooksRow : OpenClaim := { program := "ytppgpabjcenjdaa", sum := "45531f6ee40de0b752e8a3e885ce5b446776f52feb3ae5f94d615a9b63ac9f49", func := "euclid/euclidlaw05.TelescopeLooks", spec := "telescopeLooks", unfollowed := true, recurses := true, loops := true, apart := false }
def TelescopeLooksSaid : Prop := telescopeLooksRow.holds Try.pinned (OpenSpec.ofChange telescopeLooksSpec)

/-- ITS FALSE NEIGHBOUR: 'it returns false'. Refute it at one input. -/
def telescopeLooksWrong : ChangeSpec := { name := "telescopeLooks", fn := fun _ => fun
  | [d1, d2, d3] => { results := [.lit (.bool false)], args := [d1, d2, d3] }
  | _ => none }
def TelescopeLooksWrongFalsely : Prop := telescopeLooksRow.holds Try.pinned (OpenSpec.ofChange telescopeLooksWrong)

/-- 'euclidlaw05.TelescopeInstantiates': WHATEVER THE INPUT: true; the input reads as it did. -/
def telescopeInstantiatesSpec : ChangeSpec := { name := "telescopeInstantiates", fn := fun _ => fun
  | [d1, d2, d3] => { results := [.lit (.bool true)], args := [d1, d2, d3] }
  | _ => none }
def telescopeInstantiatesRow : OpenClaim := { program := "ytppgpabjcenjdaa", sum := "45531f6ee40de0b752e8a3e885ce5b446776f52feb3ae5f94d615a9b63ac9f49", func := "euclid/euclidlaw05.TelescopeInstantiates", spec := "telescopeInstantiates", unfollowed := true, recurses := true, loops := true, apart := false }
def TelescopeInstantiatesSaid : Prop := telescopeInstantiatesRow.holds Try.pinned (OpenSpec.ofChange telescopeInstantiatesSpec)

/-- ITS FALSE NEIGHBOUR: 'it returns false'. Refute it at one input. -/
def telescopeInstantiatesWrong : ChangeSpec := { name := "telescopeInstantiates", fn := fun _ => fun
  | [d1, d2, d3] => { results := [.lit (.bool false)], args := [d1, d2, d3] }
  | _ => none }
def TelescopeInstantiatesWrongFalsely : Prop := telescopeInstantiatesRow.holds Try.pinned (OpenSpec.ofChange telescopeInstantiatesWrong)

/-- 'euclidlaw04.SubstRenames': WHATEVER THE INPUT: true; the input reads as it did. -/
def substRenamesSpec : ChangeSpec := { name := "substRenames", fn := fun _ => fun
  | [d1, d2] => { results := [.lit (.bool true)], args := [d1, d2] }
  | _ => none }
def substRenamesRow : OpenClaim := { program := "ytppgpabjcenjdaa", sum := "45531f6ee40de0b752e8a3e885ce5b446776f52feb3ae5f94d615a9b63ac9f49", func := "euclid/euclidlaw04.SubstRenames", spec := "substRenames", unfollowed := true, recurses := true, loops := true, apart := false }
def SubstRenamesSaid : Prop := substRenamesRow.holds Try.pinned (OpenSpec.ofChange substRenamesSpec)

/-- ITS FALSE NEIGHBOUR: 'it returns false'. Refute it at one input. -/
def substRenamesWrong : ChangeSpec := { name := "substRenames", fn := fun _ => fun
  | [d1, d2] => { results := [.lit (.bool false)], args := [d1, d2] }
  | _ => none }
def SubstRenamesWrongFalsely : Prop := substRenamesRow.holds Try.pinned (OpenSpec.ofChange substRenamesWrong)

/-- 'euclidlaw05.TelescopeBinds': WHATEVER THE INPUT: true; the input reads as it did. -/
def telescopeBindsSpec : ChangeSpec := { name := "telescopeBinds", fn := fun _ => fun
  | [d1, d2] => { results := [.lit (.bool true)], args := [d1, d2] }
  | _ => none }
def telescopeBindsRow : OpenClaim := { program := "ytppgpabjcenjdaa", sum := "45531f6ee40de0b752e8a3e885ce5b446776f52feb3ae5f94d615a9b63ac9f49", func := "euclid/euclidlaw05.TelescopeBinds", spec := "telescopeBinds", unfollowed := true, recurses := true, loops := true, apart := false }
def TelescopeBindsSaid : Prop := telescopeBindsRow.holds Try.pinned (OpenSpec.ofChange telescopeBindsSpec)

/-- ITS FALSE NEIGHBOUR: 'it returns false'. Refute it at one input. -/
def telescopeBindsWrong : ChangeSpec := { name := "telescopeBinds", fn := fun _ => fun
  | [d1, d2] => { results := [.lit (.bool false)], args := [d1, d2] }
  | _ => none }
def TelescopeBindsWrongFalsely : Prop := telescopeBindsRow.holds Try.pinned (OpenSpec.ofChange telescopeBindsWrong)

/-- 'euclidlaw05.TelescopeOpens': WHATEVER THE INPUT: true; the input reads as it did. -/
def telescopeOpensSpec : ChangeSpec := { name := "telescopeOpens", fn := fun _ => fun
  | [d1, d2] => { results := [.lit (.bool true)], args := [d1, d2] }
  | _ => none }
def telescopeOpensRow : OpenClaim := { program := "ytppgpabjcenjdaa", sum := "45531f6ee40de0b752e8a3e885ce5b446776f52feb3ae5f94d615a9b63ac9f49", func := "euclid/euclidlaw05.TelescopeOpens", spec := "telescopeOpens", unfollowed := true, recurses := true, loops := true, apart := false }
def TelescopeOpensSaid : Prop := telescopeOpensRow.holds Try.pinned (OpenSpec.ofChange telescopeOpensSpec)

/-- ITS FALSE NEIGHBOUR: 'it returns false'. Refute it at one input. -/
def telescopeOpensWrong : ChangeSpec := { name := "telescopeOpens", fn := fun _ => fun
  | [d1, d2] => { results := [.lit (.bool false)], args := [d1, d2] }
  | _ => none }
def TelescopeOpensWrongFalsely : Prop := telescopeOpensRow.holds Try.pinned (OpenSpec.ofChange telescopeOpensWrong)

/-- 'euclidlaw05.TelescopeApplies': WHATEVER THE INPUT: true; the input reads as it did. -/
def telescopeAppliesSpec : ChangeSpec := { name := "telescopeApplies", fn := fun _ => fun
  | [d1, d2] => { results := [.lit (.bool true)], args := [d1, d2] }
  | _ => none }
def telescopeAppliesRow : OpenClaim := { program := "ytppgpabjcenjdaa", sum := "45531f6ee40de0b752e8a3e885ce5b446776f52feb3ae5f94d615a9b63ac9f49", func := "euclid/euclidlaw05.TelescopeApplies", spec := "telescopeApplies", unfollowed := true, recurses := true, loops := true, apart := false }
def TelescopeAppliesSaid : Prop := telescopeAppliesRow.holds Try.pinned (OpenSpec.ofChange telescopeAppliesSpec)

/-- ITS FALSE NEIGHBOUR: 'it returns false'. Refute it at one input. -/
def telescopeAppliesWrong : ChangeSpec := { name := "telescopeApplies", fn := fun _ => fun
  | [d1, d2] => { results := [.lit (.bool false)], args := [d1, d2] }
  | _ => none }
def TelescopeAppliesWrongFalsely : Prop := telescopeAppliesRow.holds Try.pinned (OpenSpec.ofChange telescopeAppliesWrong)

/-- 'euclidlaw05.TelescopeSteps': WHATEVER THE INPUT: true; the input reads as it did. -/
def telescopeStepsSpec : ChangeSpec := { name := "telescopeSteps", fn := fun _ => fun
  | [d1, d2, d3] => { results := [.lit (.bool true)], args := [d1, d2, d3] }
  | _ => none }
def telescopeStepsRow : OpenClaim := { program := "ytppgpabjcenjdaa", sum := "45531f6ee40de0b752e8a3e885ce5b446776f52feb3ae5f94d615a9b63ac9f49", func := "euclid/euclidlaw05.TelescopeSteps", spec := "telescopeSteps", unfollowed := true, recurses := true, loops := true, apart := false }
def TelescopeStepsSaid : Prop := telescopeStepsRow.holds Try.pinned (OpenSpec.ofChange telescopeStepsSpec)

/-- ITS FALSE NEIGHBOUR: 'it returns false'. Refute it at one input. -/
def telescopeStepsWrong : ChangeSpec := { name := "telescopeSteps", fn := fun _ => fun
  | [d1, d2, d3] => { results := [.lit (.bool false)], args := [d1, d2, d3] }
  | _ => none }
def TelescopeStepsWrongFalsely : Prop := telescopeStepsRow.holds Try.pinned (OpenSpec.ofChange telescopeStepsWrong)

/-- 'euclidlaw05.TelescopeInverts': WHATEVER THE INPUT: true; the input reads as it did. -/
def telescopeInvertsSpec : ChangeSpec := { name := "telescopeInverts", fn := fun _ => fun
  | [d1, d2] => { results := [.lit (.bool true)], args := [d1, d2] }
  | _ => none }
def telescopeInvertsRow : OpenClaim := { program := "ytppgpabjcenjdaa", sum := "45531f6ee40de0b752e8a3e885ce5b446776f52feb3ae5f94d615a9b63ac9f49", func := "euclid/euclidlaw05.TelescopeInverts", spec := "telescopeInverts", unfollowed := true, recurses := true, loops := true, apart := false }
def TelescopeInvertsSaid : Prop := telescopeInvertsRow.holds Try.pinned (OpenSpec.ofChange telescopeInvertsSpec)

/-- ITS FALSE NEIGHBOUR: 'it returns false'. Refute it at one input. -/
def telescopeInvertsWrong : ChangeSpec := { name := "telescopeInverts", fn := fun _ => fun
  | [d1, d2] => { results := [.lit (.bool false)], args := [d1, d2] }
  | _ => none }
def TelescopeInvertsWrongFalsely : Prop := telescopeInvertsRow.holds Try.pinned (OpenSpec.ofChange telescopeInvertsWrong)

/-- 'euclidlaw03.TermNames': WHATEVER THE INPUT: true; the input reads as it did. -/
def termNamesSpec : ChangeSpec := { name := "termNames", fn := fun _ => fun
  | [d] => { results := [.lit (.bool true)], args := [d] }
  | _ => none }
def termNamesRow : OpenClaim := { program := "ytppgpabjcenjdaa", sum := "45531f6ee40de0b752e8a3e885ce5b446776f52feb3ae5f94d615a9b63ac9f49", func := "euclid/euclidlaw03.TermNames", spec := "termNames", unfollowed := true, recurses := true, apart := false }
def TermNamesSaid : Prop := termNamesRow.holds Try.pinned (OpenSpec.ofChange termNamesSpec)

/-- ITS FALSE NEIGHBOUR: 'it returns false'. Refute it at one input. -/
def termNamesWrong : ChangeSpec := { name := "termNames", fn := fun _ => fun
  | [d] => { results := [.lit (.bool false)], args := [d] }
  | _ => none }
def TermNamesWrongFalsely : Prop := termNamesRow.holds Try.pinned (OpenSpec.ofChange termNamesWrong)

/-- 'euclidlaw03.TermChecks': WHATEVER THE INPUT: true; the input reads as it did. -/
def termChecksSpec : ChangeSpec := { name := "termChecks", fn := fun _ => fun
  | [d1, d2] => { results := [.lit (.bool true)], args := [d1, d2] }
  | _ => none }
def termChecksRow : OpenClaim := { program := "ytppgpabjcenjdaa", sum := "45531f6ee40de0b752e8a3e885ce5b446776f52feb3ae5f94d615a9b63ac9f49", func := "euclid/euclidlaw03.TermChecks", spec := "termChecks", unfollowed := true, recurses := true, loops := true, apart := false }
def TermChecksSaid : Prop := termChecksRow.holds Try.pinned (OpenSpec.ofChange termChecksSpec)

/-- ITS FALSE NEIGHBOUR: 'it returns false'. Refute it at one input. -/
def termChecksWrong : ChangeSpec := { name := "termChecks", fn := fun _ => fun
  | [d1, d2] => { results := [.lit (.bool false)], args := [d1, d2] }
  | _ => none }
def TermChecksWrongFalsely : Prop := termChecksRow.holds Try.pinned (OpenSpec.ofChange termChecksWrong)

/-- 'euclidlaw03.TermMeasures': WHATEVER THE INPUT: true; the input reads as it did. -/
def termMeasuresSpec : ChangeSpec := { name := "termMeasures", fn := fun _ => fun
  | [d] => { results := [.lit (.bool true)], args := [d] }
  | _ => none }
def termMeasuresRow : OpenClaim := { program := "ytppgpabjcenjdaa", sum := "45531f6ee40de0b752e8a3e885ce5b446776f52feb3ae5f94d615a9b63ac9f49", func := "euclid/euclidlaw03.TermMeasures", spec := "termMeasures", unfollowed := true, recurses := true, loops := true, apart := false }
def TermMeasuresSaid : Prop := termMeasuresRow.holds Try.pinned (OpenSpec.ofChange termMeasuresSpec)

/-- ITS FALSE NEIGHBOUR: 'it returns false'. Refute it at one input. -/
def termMeasuresWrong : ChangeSpec := { name := "termMeasures", fn := fun _ => fun
  | [d] => { results := [.lit (.bool false)], args := [d] }
  | _ => none }
def TermMeasuresWrongFalsely : Prop := termMeasuresRow.holds Try.pinned (OpenSpec.ofChange termMeasuresWrong)

/-- 'euclidlaw03.TermParts': WHATEVER THE INPUT: true; the input reads as it did. -/
def termPartsSpec : ChangeSpec := { name := "termParts", fn := fun _ => fun
  | [d1, d2] => { results := [.lit (.bool true)], args := [d1, d2] }
  | _ => none }
def termPartsRow : OpenClaim := { program := "ytppgpabjcenjdaa", sum := "45531f6ee40de0b752e8a3e885ce5b446776f52feb3ae5f94d615a9b63ac9f49", func := "euclid/euclidlaw03.TermParts", spec := "termParts", unfollowed := true, recurses := true, loops := true, apart := false }
def TermPartsSaid : Prop := termPartsRow.holds Try.pinned (OpenSpec.ofChange termPartsSpec)

/-- ITS FALSE NEIGHBOUR: 'it returns false'. Refute it at one input. -/
def termPartsWrong : ChangeSpec := { name := "termParts", fn := fun _ => fun
  | [d1, d2] => { results := [.lit (.bool false)], args := [d1, d2] }
  | _ => none }
def TermPartsWrongFalsely : Prop := termPartsRow.holds Try.pinned (OpenSpec.ofChange termPartsWrong)

/-- 'euclidlaw03.TermFree': WHATEVER THE INPUT: true; the input reads as it did. -/
def termFreeSpec : ChangeSpec := { name := "termFree", fn := fun _ => fun
  | [d1, d2] => { results := [.lit (.bool true)], args := [d1, d2] }
  | _ => none }
def termFreeRow : OpenClaim := { program := "ytppgpabjcenjdaa", sum := "45531f6ee40de0b752e8a3e885ce5b446776f52feb3ae5f94d615a9b63ac9f49", func := "euclid/euclidlaw03.TermFree", spec := "termFree", unfollowed := true, recurses := true, loops := true, apart := false }
def TermFreeSaid : Prop := termFreeRow.holds Try.pinned (OpenSpec.ofChange termFreeSpec)

/-- ITS FALSE NEIGHBOUR: 'it returns false'. Refute it at one input. -/
def termFreeWrong : ChangeSpec := { name := "termFree", fn := fun _ => fun
  | [d1, d2] => { results := [.lit (.bool false)], args := [d1, d2] }
  | _ => none }
def TermFreeWrongFalsely : Prop := termFreeRow.holds Try.pinned (OpenSpec.ofChange termFreeWrong)

/-- 'euclidlaw03.TermScopes': WHATEVER THE INPUT: true; the input reads as it did. -/
def termScopesSpec : ChangeSpec := { name := "termScopes", fn := fun _ => fun
  | [d1, d2, d3] => { results := [.lit (.bool true)], args := [d1, d2, d3] }
  | _ => none }
def termScopesRow : OpenClaim := { program := "ytppgpabjcenjdaa", sum := "45531f6ee40de0b752e8a3e885ce5b446776f52feb3ae5f94d615a9b63ac9f49", func := "euclid/euclidlaw03.TermScopes", spec := "termScopes", unfollowed := true, recurses := true, loops := true, apart := false }
def TermScopesSaid : Prop := termScopesRow.holds Try.pinned (OpenSpec.ofChange termScopesSpec)

/-- ITS FALSE NEIGHBOUR: 'it returns false'. Refute it at one input. -/
def termScopesWrong : ChangeSpec := { name := "termScopes", fn := fun _ => fun
  | [d1, d2, d3] => { results := [.lit (.bool false)], args := [d1, d2, d3] }
  | _ => none }
def TermScopesWrongFalsely : Prop := termScopesRow.holds Try.pinned (OpenSpec.ofChange termScopesWrong)

/-- 'euclidlaw03.TermEquals': WHATEVER THE INPUT: true; the input reads as it did. -/
def termEqualsSpec : ChangeSpec := { name := "termEquals", fn := fun _ => fun
  | [d1, d2] => { results := [.lit (.bool true)], args := [d1, d2] }
  | _ => none }
def termEqualsRow : OpenClaim := { program := "ytppgpabjcenjdaa", sum := "45531f6ee40de0b752e8a3e885ce5b446776f52feb3ae5f94d615a9b63ac9f49", func := "euclid/euclidlaw03.TermEquals", spec := "termEquals", unfollowed := true, recurses := true, loops := true, apart := false }
def TermEqualsSaid : Prop := termEqualsRow.holds Try.pinned (OpenSpec.ofChange termEqualsSpec)

/-- ITS FALSE NEIGHBOUR: 'it returns false'. Refute it at one input. -/
def termEqualsWrong : ChangeSpec := { name := "termEquals", fn := fun _ => fun
  | [d1, d2] => { results := [.lit (.bool false)], args := [d1, d2] }
  | _ => none }
def TermEqualsWrongFalsely : Prop := termEqualsRow.holds Try.pinned (OpenSpec.ofChange termEqualsWrong)

/-- 'euclidlaw03.TermConstants': WHATEVER THE INPUT: true; the input reads as it did. -/
def termConstantsSpec : ChangeSpec := { name := "termConstants", fn := fun _ => fun
  | [d] => { results := [.lit (.bool true)], args := [d] }
  | _ => none }
def termConstantsRow : OpenClaim := { program := "ytppgpabjcenjdaa", sum := "45531f6ee40de0b752e8a3e885ce5b446776f52feb3ae5f94d615a9b63ac9f49", func := "euclid/euclidlaw03.TermConstants", spec := "termConstants", unfollowed := true, recurses := true, loops := true, apart := false }
def TermConstantsSaid : Prop := termConstantsRow.holds Try.pinned (OpenSpec.ofChange termConstantsSpec)

/-- ITS FALSE NEIGHBOUR: 'it returns false'. Refute it at one input. -/
def termConstantsWrong : ChangeSpec := { name := "termConstants", fn := fun _ => fun
  | [d] => { results := [.lit (.bool false)], args := [d] }
  | _ => none }
def TermConstantsWrongFalsely : Prop := termConstantsRow.holds Try.pinned (OpenSpec.ofChange termConstantsWrong)

/-- 'euclidlaw05.TelescopeScopes': WHATEVER THE INPUT: true; the input reads as it did. -/
def telescopeScopesSpec : ChangeSpec := { name := "telescopeScopes", fn := fun _ => fun
  | [d] => { results := [.lit (.bool true)], args := [d] }
  | _ => none }
def telescopeScopesRow : OpenClaim := { program := "ytppgpabjcenjdaa", sum := "45531f6ee40de0b752e8a3e885ce5b446776f52feb3ae5f94d615a9b63ac9f49", func := "euclid/euclidlaw05.TelescopeScopes", spec := "telescopeScopes", unfollowed := true, recurses := true, loops := true, apart := false }
def TelescopeScopesSaid : Prop := telescopeScopesRow.holds Try.pinned (OpenSpec.ofChange telescopeScopesSpec)

/-- ITS FALSE NEIGHBOUR: 'it returns false'. Refute it at one input. -/
def telescopeScopesWrong : ChangeSpec := { name := "telescopeScopes", fn := fun _ => fun
  | [d] => { results := [.lit (.bool false)], args := [d] }
  | _ => none }
def TelescopeScopesWrongFalsely : Prop := telescopeScopesRow.holds Try.pinned (OpenSpec.ofChange telescopeScopesWrong)

/-- 'euclidlaw04.SubstMoves': WHATEVER THE INPUT: true; the input reads as it did. -/
def substMovesSpec : ChangeSpec := { name := "substMoves", fn := fun _ => fun
  | [d1, d2, d3] => { results := [.lit (.bool true)], args := [d1, d2, d3] }
  | _ => none }
def substMovesRow : OpenClaim := { program := "ytppgpabjcenjdaa", sum := "45531f6ee40de0b752e8a3e885ce5b446776f52feb3ae5f94d615a9b63ac9f49", func := "euclid/euclidlaw04.SubstMoves", spec := "substMoves", unfollowed := true, recurses := true, loops := true, apart := false }
def SubstMovesSaid : Prop := substMovesRow.holds Try.pinned (OpenSpec.ofChange substMovesSpec)

/-- ITS FALSE NEIGHBOUR: 'it returns false'. Refute it at one input. -/
def substMovesWrong : ChangeSpec := { name := "substMoves", fn := fun _ => fun
  | [d1, d2, d3] => { results := [.lit (.bool false)], args := [d1, d2, d3] }
  | _ => none }
def SubstMovesWrongFalsely : Prop := substMovesRow.holds Try.pinned (OpenSpec.ofChange substMovesWrong)

/- THE SECOND FORM. 'bulk': how many values and letters a reading holds, each counted each time it is reached (what is shared counts as often as it is met; a slice's spare places count too). A statement '..UptoSaid' is the law's where the arguments, and the package variables that the reading takes, are together of bulk at most 1048576: NARROWER than '..Said'. Prove '..Said' where nothing that the law and all that it calls make is longer than what came in: it says more and counts as full. Else prove '..UptoSaid'. A law counts once. -/
mutual
def uptoBulk {H : Type} : DataW H → Nat
  | .lit (.string bytes) => bytes.length + 1
  | .lit _ => 1
  | .nil => 1
  | .ptr d => uptoBulk d + 1
  | .slice elems spare => uptoBulkAll elems + uptoBulkAll spare + 1
  | .agg parts => uptoBulkAll parts + 1
  | .iface _ d => uptoBulk d + 1
  | .map entries => uptoBulkEntries entries + 1
  | .held _ => 1
def uptoBulkAll {H : Type} : List (DataW H) → Nat
  | [] => 0
  | d :: r => uptoBulk d + uptoBulkAll r
def uptoBulkEntries {H : Type} : List (Lit × DataW H) → Nat
  | [] => 0
  | x :: r => uptoBulkEntry x + uptoBulkEntries r
def uptoBulkEntry {H : Type} : Lit × DataW H → Nat
  | (.string bytes, d) => bytes.length + uptoBulk d + 1
  | (_, d) => uptoBulk d + 1
 end
def uptoSmall : (H : Type) → List (DataW H) → Bool := fun _ ds => decide (uptoBulkAll ds ≤ 1048576)
def OpenSpec.upto (s : _root_.Go.ChangeSpec) : _root_.Go.OpenSpec := { _root_.Go.OpenSpec.ofChange s with cond := some uptoSmall }

/-- 'euclidlaw04.SubstShifts', WHERE WHAT IT READS IS OF BULK AT MOST 1048576: true; the input reads as it did. -/
def substShiftsUptoRow : OpenClaim := { program := "ytppgpabjcenjdaa", sum := "45531f6ee40de0b752e8a3e885ce5b446776f52feb3ae5f94d615a9b63ac9f49", func := "euclid/euclidlaw04.SubstShifts", spec := "substShifts", unfollowed := true, recurses := true, loops := true, apart := false, narrowed := true }
def SubstShiftsUptoSaid : Prop := substShiftsUptoRow.holds Try.pinned (OpenSpec.upto substShiftsSpec)

/-- 'euclidlaw04.SubstReplaces', WHERE WHAT IT READS IS OF BULK AT MOST 1048576: true; the input reads as it did. -/
def substReplacesUptoRow : OpenClaim := { program := "ytppgpabjcenjdaa", sum := "45531f6ee40de0b752e8a3e885ce5b446776f52feb3ae5f94d615a9b63ac9f49", func := "euclid/euclidlaw04.SubstReplaces", spec := "substReplaces", unfollowed := true, recurses := true, loops := true, apart := false, narrowed := true }
def SubstReplacesUptoSaid : Prop := substReplacesUptoRow.holds Try.pinned (OpenSpec.upto substReplacesSpec)

/-- 'euclidlaw04.SubstAbstracts', WHERE WHAT IT READS IS OF BULK AT MOST 1048576: true; the input reads as it did. -/
def substAbstractsUptoRow : OpenClaim := { program := "ytppgpabjcenjdaa", sum := "45531f6ee40de0b752e8a3e885ce5b446776f52feb3ae5f94d615a9b63ac9f49", func := "euclid/euclidlaw04.SubstAbstracts", spec := "substAbstracts", unfollowed := true, recurses := true, loops := true, apart := false, narrowed := true }
def SubstAbstractsUptoSaid : Prop := substAbstractsUptoRow.holds Try.pinned (OpenSpec.upto substAbstractsSpec)

/-- 'euclidlaw04.SubstTwice', WHERE WHAT IT READS IS OF BULK AT MOST 1048576: true; the input reads as it did. -/
def substTwiceUptoRow : OpenClaim := { program := "ytppgpabjcenjdaa", sum := "45531f6ee40de0b752e8a3e885ce5b446776f52feb3ae5f94d615a9b63ac9f49", func := "euclid/euclidlaw04.SubstTwice", spec := "substTwice", unfollowed := true, recurses := true, loops := true, apart := false, narrowed := true }
def SubstTwiceUptoSaid : Prop := substTwiceUptoRow.holds Try.pinned (OpenSpec.upto substTwiceSpec)

/-- 'euclidlaw21.CallgraphRelates', WHERE WHAT IT READS IS OF BULK AT MOST 1048576: true; the input reads as it did. -/
def callgraphRelatesUptoRow : OpenClaim := { program := "ytppgpabjcenjdaa", sum := "45531f6ee40de0b752e8a3e885ce5b446776f52feb3ae5f94d615a9b63ac9f49", func := "euclid/euclidlaw21.CallgraphRelates", spec := "callgraphRelates", unfollowed := true, recurses := true, loops := true, apart := false, narrowed := true }
def CallgraphRelatesUptoSaid : Prop := callgraphRelatesUptoRow.holds Try.pinned (OpenSpec.upto callgraphRelatesSpec)

/-- 'euclidlaw21.CallgraphOrders', WHERE WHAT IT READS IS OF BULK AT MOST 1048576: true; the input reads as it did. -/
def callgraphOrdersUptoRow : OpenClaim := { program := "ytppgpabjcenjdaa", sum := "45531f6ee40de0b752e8a3e885ce5b446776f52feb3ae5f94d615a9b63ac9f49", func := "euclid/euclidlaw21.CallgraphOrders", spec := "callgraphOrders", unfollowed := true, recurses := true, loops := true, apart := false, narrowed := true }
def CallgraphOrdersUptoSaid : Prop := callgraphOrdersUptoRow.holds Try.pinned (OpenSpec.upto callgraphOrdersSpec)

/-- 'euclidlaw21.CallgraphParts', WHERE WHAT IT READS IS OF BULK AT MOST 1048576: true; the input reads as it did. -/
def callgraphPartsUptoRow : OpenClaim := { program := "ytppgpabjcenjdaa", sum := "45531f6ee40de0b752e8a3e885ce5b446776f52feb3ae5f94d615a9b63ac9f49", func := "euclid/euclidlaw21.CallgraphParts", spec := "callgraphParts", unfollowed := true, recurses := true, loops := true, apart := false, narrowed := true }
def CallgraphPartsUptoSaid : Prop := callgraphPartsUptoRow.holds Try.pinned (OpenSpec.upto callgraphPartsSpec)

/-- 'euclidlaw04.SubstBack', WHERE WHAT IT READS IS OF BULK AT MOST 1048576: true; the input reads as it did. -/
def substBackUptoRow : OpenClaim := { program := "ytppgpabjcenjdaa", sum := "45531f6ee40de0b752e8a3e885ce5b446776f52feb3ae5f94d615a9b63ac9f49", func := "euclid/euclidlaw04.SubstBack", spec := "substBack", unfollowed := true, recurses := true, loops := true, apart := false, narrowed := true }
def SubstBackUptoSaid : Prop := substBackUptoRow.holds Try.pinned (OpenSpec.upto substBackSpec)

/-- 'euclidlaw05.TelescopeLooks', WHERE WHAT IT READS IS OF BULK AT MOST 1048576: true; the input reads as it did. -/
def telescopeLooksUptoRow : OpenClaim := { program := "ytppgpabjcenjdaa", sum := "45531f6ee40de0b752e8a3e885ce5b446776f52feb3ae5f94d615a9b63ac9f49", func := "euclid/euclidlaw05.TelescopeLooks", spec := "telescopeLooks", unfollowed := true, recurses := true, loops := true, apart := false, narrowed := true }
def TelescopeLooksUptoSaid : Prop := telescopeLooksUptoRow.holds Try.pinned (OpenSpec.upto telescopeLooksSpec)

/-- 'euclidlaw05.TelescopeInstantiates', WHERE WHAT IT READS IS OF BULK AT MOST 1048576: true; the input reads as it did. -/
def telescopeInstantiatesUptoRow : OpenClaim := { program := "ytppgpabjcenjdaa", sum := "45531f6ee40de0b752e8a3e885ce5b446776f52feb3ae5f94d615a9b63ac9f49", func := "euclid/euclidlaw05.TelescopeInstantiates", spec := "telescopeInstantiates", unfollowed := true, recurses := true, loops := true, apart := false, narrowed := true }
def TelescopeInstantiatesUptoSaid : Prop := telescopeInstantiatesUptoRow.holds Try.pinned (OpenSpec.upto telescopeInstantiatesSpec)

/-- 'euclidlaw04.SubstRenames', WHERE WHAT IT READS IS OF BULK AT MOST 1048576: true; the input reads as it did. -/
def substRenamesUptoRow : OpenClaim := { program := "ytppgpabjcenjdaa", sum := "45531f6ee40de0b752e8a3e885ce5b446776f52feb3ae5f94d615a9b63ac9f49", func := "euclid/euclidlaw04.SubstRenames", spec := "substRenames", unfollowed := true, recurses := true, loops := true, apart := false, narrowed := true }
def SubstRenamesUptoSaid : Prop := substRenamesUptoRow.holds Try.pinned (OpenSpec.upto substRenamesSpec)

/-- 'euclidlaw05.TelescopeBinds', WHERE WHAT IT READS IS OF BULK AT MOST 1048576: true; the input reads as it did. -/
def telescopeBindsUptoRow : OpenClaim := { program := "ytppgpabjcenjdaa", sum := "45531f6ee40de0b752e8a3e885ce5b446776f52feb3ae5f94d615a9b63ac9f49", func := "euclid/euclidlaw05.TelescopeBinds", spec := "telescopeBinds", unfollowed := true, recurses := true, loops := true, apart := false, narrowed := true }
def TelescopeBindsUptoSaid : Prop := telescopeBindsUptoRow.holds Try.pinned (OpenSpec.upto telescopeBindsSpec)

/-- 'euclidlaw05.TelescopeOpens', WHERE WHAT IT READS IS OF BULK AT MOST 1048576: true; the input reads as it did. -/
def telescopeOpensUptoRow : OpenClaim := { program := "ytppgpabjcenjdaa", sum := "45531f6ee40de0b752e8a3e885ce5b446776f52feb3ae5f94d615a9b63ac9f49", func := "euclid/euclidlaw05.TelescopeOpens", spec := "telescopeOpens", unfollowed := true, recurses := true, loops := true, apart := false, narrowed := true }
def TelescopeOpensUptoSaid : Prop := telescopeOpensUptoRow.holds Try.pinned (OpenSpec.upto telescopeOpensSpec)

/-- 'euclidlaw05.TelescopeApplies', WHERE WHAT IT READS IS OF BULK AT MOST 1048576: true; the input reads as it did. -/
def telescopeAppliesUptoRow : OpenClaim := { program := "ytppgpabjcenjdaa", sum := "45531f6ee40de0b752e8a3e885ce5b446776f52feb3ae5f94d615a9b63ac9f49", func := "euclid/euclidlaw05.TelescopeApplies", spec := "telescopeApplies", unfollowed := true, recurses := true, loops := true, apart := false, narrowed := true }
def TelescopeAppliesUptoSaid : Prop := telescopeAppliesUptoRow.holds Try.pinned (OpenSpec.upto telescopeAppliesSpec)

/-- 'euclidlaw05.TelescopeSteps', WHERE WHAT IT READS IS OF BULK AT MOST 1048576: true; the input reads as it did. -/
def telescopeStepsUptoRow : OpenClaim := { program := "ytppgpabjcenjdaa", sum := "45531f6ee40de0b752e8a3e885ce5b446776f52feb3ae5f94d615a9b63ac9f49", func := "euclid/euclidlaw05.TelescopeSteps", spec := "telescopeSteps", unfollowed := true, recurses := true, loops := true, apart := false, narrowed := true }
def TelescopeStepsUptoSaid : Prop := telescopeStepsUptoRow.holds Try.pinned (OpenSpec.upto telescopeStepsSpec)

/-- 'euclidlaw05.TelescopeInverts', WHERE WHAT IT READS IS OF BULK AT MOST 1048576: true; the input reads as it did. -/
def telescopeInvertsUptoRow : OpenClaim := { program := "ytppgpabjcenjdaa", sum := "45531f6ee40de0b752e8a3e885ce5b446776f52feb3ae5f94d615a9b63ac9f49", func := "euclid/euclidlaw05.TelescopeInverts", spec := "telescopeInverts", unfollowed := true, recurses := true, loops := true, apart := false, narrowed := true }
def TelescopeInvertsUptoSaid : Prop := telescopeInvertsUptoRow.holds Try.pinned (OpenSpec.upto telescopeInvertsSpec)

/-- 'euclidlaw03.TermNames', WHERE WHAT IT READS IS OF BULK AT MOST 1048576: true; the input reads as it did. -/
def termNamesUptoRow : OpenClaim := { program := "ytppgpabjcenjdaa", sum := "45531f6ee40de0b752e8a3e885ce5b446776f52feb3ae5f94d615a9b63ac9f49", func := "euclid/euclidlaw03.TermNames", spec := "termNames", unfollowed := true, recurses := true, apart := false, narrowed := true }
def TermNamesUptoSaid : Prop := termNamesUptoRow.holds Try.pinned (OpenSpec.upto termNamesSpec)

/-- 'euclidlaw03.TermChecks', WHERE WHAT IT READS IS OF BULK AT MOST 1048576: true; the input reads as it did. -/
def termChecksUptoRow : OpenClaim := { program := "ytppgpabjcenjdaa", sum := "45531f6ee40de0b752e8a3e885ce5b446776f52feb3ae5f94d615a9b63ac9f49", func := "euclid/euclidlaw03.TermChecks", spec := "termChecks", unfollowed := true, recurses := true, loops := true, apart := false, narrowed := true }
def TermChecksUptoSaid : Prop := termChecksUptoRow.holds Try.pinned (OpenSpec.upto termChecksSpec)

/-- 'euclidlaw03.TermMeasures', WHERE WHAT IT READS IS OF BULK AT MOST 1048576: true; the input reads as it did. -/
def termMeasuresUptoRow : OpenClaim := { program := "ytppgpabjcenjdaa", sum := "45531f6ee40de0b752e8a3e885ce5b446776f52feb3ae5f94d615a9b63ac9f49", func := "euclid/euclidlaw03.TermMeasures", spec := "termMeasures", unfollowed := true, recurses := true, loops := true, apart := false, narrowed := true }
def TermMeasuresUptoSaid : Prop := termMeasuresUptoRow.holds Try.pinned (OpenSpec.upto termMeasuresSpec)

/-- 'euclidlaw03.TermParts', WHERE WHAT IT READS IS OF BULK AT MOST 1048576: true; the input reads as it did. -/
def termPartsUptoRow : OpenClaim := { program := "ytppgpabjcenjdaa", sum := "45531f6ee40de0b752e8a3e885ce5b446776f52feb3ae5f94d615a9b63ac9f49", func := "euclid/euclidlaw03.TermParts", spec := "termParts", unfollowed := true, recurses := true, loops := true, apart := false, narrowed := true }
def TermPartsUptoSaid : Prop := termPartsUptoRow.holds Try.pinned (OpenSpec.upto termPartsSpec)

/-- 'euclidlaw03.TermFree', WHERE WHAT IT READS IS OF BULK AT MOST 1048576: true; the input reads as it did. -/
def termFreeUptoRow : OpenClaim := { program := "ytppgpabjcenjdaa", sum := "45531f6ee40de0b752e8a3e885ce5b446776f52feb3ae5f94d615a9b63ac9f49", func := "euclid/euclidlaw03.TermFree", spec := "termFree", unfollowed := true, recurses := true, loops := true, apart := false, narrowed := true }
def TermFreeUptoSaid : Prop := termFreeUptoRow.holds Try.pinned (OpenSpec.upto termFreeSpec)

/-- 'euclidlaw03.TermScopes', WHERE WHAT IT READS IS OF BULK AT MOST 1048576: true; the input reads as it did. -/
def termScopesUptoRow : OpenClaim := { program := "ytppgpabjcenjdaa", sum := "45531f6ee40de0b752e8a3e885ce5b446776f52feb3ae5f94d615a9b63ac9f49", func := "euclid/euclidlaw03.TermScopes", spec := "termScopes", unfollowed := true, recurses := true, loops := true, apart := false, narrowed := true }
def TermScopesUptoSaid : Prop := termScopesUptoRow.holds Try.pinned (OpenSpec.upto termScopesSpec)

/-- 'euclidlaw03.TermEquals', WHERE WHAT IT READS IS OF BULK AT MOST 1048576: true; the input reads as it did. -/
def termEqualsUptoRow : OpenClaim := { program := "ytppgpabjcenjdaa", sum := "45531f6ee40de0b752e8a3e885ce5b446776f52feb3ae5f94d615a9b63ac9f49", func := "euclid/euclidlaw03.TermEquals", spec := "termEquals", unfollowed := true, recurses := true, loops := true, apart := false, narrowed := true }
def TermEqualsUptoSaid : Prop := termEqualsUptoRow.holds Try.pinned (OpenSpec.upto termEqualsSpec)

/-- 'euclidlaw03.TermConstants', WHERE WHAT IT READS IS OF BULK AT MOST 1048576: true; the input reads as it did. -/
def termConstantsUptoRow : OpenClaim := { program := "ytppgpabjcenjdaa", sum := "45531f6ee40de0b752e8a3e885ce5b446776f52feb3ae5f94d615a9b63ac9f49", func := "euclid/euclidlaw03.TermConstants", spec := "termConstants", unfollowed := true, recurses := true, loops := true, apart := false, narrowed := true }
def TermConstantsUptoSaid : Prop := termConstantsUptoRow.holds Try.pinned (OpenSpec.upto termConstantsSpec)

/-- 'euclidlaw05.TelescopeScopes', WHERE WHAT IT READS IS OF BULK AT MOST 1048576: true; the input reads as it did. -/
def telescopeScopesUptoRow : OpenClaim := { program := "ytppgpabjcenjdaa", sum := "45531f6ee40de0b752e8a3e885ce5b446776f52feb3ae5f94d615a9b63ac9f49", func := "euclid/euclidlaw05.TelescopeScopes", spec := "telescopeScopes", unfollowed := true, recurses := true, loops := true, apart := false, narrowed := true }
def TelescopeScopesUptoSaid : Prop := telescopeScopesUptoRow.holds Try.pinned (OpenSpec.upto telescopeScopesSpec)

/-- 'euclidlaw04.SubstMoves', WHERE WHAT IT READS IS OF BULK AT MOST 1048576: true; the input reads as it did. -/
def substMovesUptoRow : OpenClaim := { program := "ytppgpabjcenjdaa", sum := "45531f6ee40de0b752e8a3e885ce5b446776f52feb3ae5f94d615a9b63ac9f49", func := "euclid/euclidlaw04.SubstMoves", spec := "substMoves", unfollowed := true, recurses := true, loops := true, apart := false, narrowed := true }
def SubstMovesUptoSaid : Prop := substMovesUptoRow.holds Try.pinned (OpenSpec.upto substMovesSpec)

end Rows
end Go.Proofs.Ytppgpabjcenjdaa
