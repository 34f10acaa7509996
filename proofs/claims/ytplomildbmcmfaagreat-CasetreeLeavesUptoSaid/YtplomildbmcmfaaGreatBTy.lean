/-
  The program's types: sizes, fields, zero values. Printed by a program.
-/
import Derived.Test.YtplomildbmcmfaaGreatProg
import Derived.KernelRfl
import Derived.Test.YtplomildbmcmfaaGreatBFA

namespace Go.Proofs.YtplomildbmcmfaaGreat

open Go.AI
theorem sz1 : szT Tryz.prog 1 = some 1 := by kernel_rfl
theorem by1 : byT Tryz.prog 1 = some 8 := by kernel_rfl
theorem ag1 : aggT Tryz.prog 1 = some false := by kernel_rfl
theorem ze1 : zeroT Tryz.prog 1 = some [.nilFunc] := by kernel_rfl
theorem sz3 : szT Tryz.prog 3 = some 1 := by kernel_rfl
theorem by3 : byT Tryz.prog 3 = some 8 := by kernel_rfl
theorem ag3 : aggT Tryz.prog 3 = some false := by kernel_rfl
theorem ze3 : zeroT Tryz.prog 3 = some [.int .i64 0] := by kernel_rfl
theorem sz4 : szT Tryz.prog 4 = some 1 := by kernel_rfl
theorem by4 : byT Tryz.prog 4 = some 1 := by kernel_rfl
theorem ag4 : aggT Tryz.prog 4 = some false := by kernel_rfl
theorem ze4 : zeroT Tryz.prog 4 = some [.bool false] := by kernel_rfl
theorem sz5 : szT Tryz.prog 5 = some 1 := by kernel_rfl
theorem by5 : byT Tryz.prog 5 = some 1 := by kernel_rfl
theorem ag5 : aggT Tryz.prog 5 = some false := by kernel_rfl
theorem ze5 : zeroT Tryz.prog 5 = some [.int .u8 0] := by kernel_rfl
theorem sz9 : szT Tryz.prog 9 = some 1 := by kernel_rfl
theorem by9 : byT Tryz.prog 9 = some 16 := by kernel_rfl
theorem ag9 : aggT Tryz.prog 9 = some false := by kernel_rfl
theorem ze9 : zeroT Tryz.prog 9 = some [.string ⟨#[]⟩] := by kernel_rfl
theorem sz20 : szT Tryz.prog 20 = some 1 := by kernel_rfl
theorem by20 : byT Tryz.prog 20 = some 16 := by kernel_rfl
theorem ag20 : aggT Tryz.prog 20 = some false := by kernel_rfl
theorem ze20 : zeroT Tryz.prog 20 = some [.nilIface] := by kernel_rfl
theorem sz22 : szT Tryz.prog 22 = some 1 := by kernel_rfl
theorem by22 : byT Tryz.prog 22 = some 24 := by kernel_rfl
theorem ag22 : aggT Tryz.prog 22 = some false := by kernel_rfl
theorem el22 : elT Tryz.prog 22 = some 131 := by kernel_rfl
theorem ze22 : zeroT Tryz.prog 22 = some [.slice none 0 0] := by kernel_rfl
theorem sz23 : szT Tryz.prog 23 = some 1 := by kernel_rfl
theorem by23 : byT Tryz.prog 23 = some 24 := by kernel_rfl
theorem ag23 : aggT Tryz.prog 23 = some false := by kernel_rfl
theorem el23 : elT Tryz.prog 23 = some 122 := by kernel_rfl
theorem ze23 : zeroT Tryz.prog 23 = some [.slice none 0 0] := by kernel_rfl
theorem sz24 : szT Tryz.prog 24 = some 1 := by kernel_rfl
theorem by24 : byT Tryz.prog 24 = some 24 := by kernel_rfl
theorem ag24 : aggT Tryz.prog 24 = some false := by kernel_rfl
theorem el24 : elT Tryz.prog 24 = some 26 := by kernel_rfl
theorem ze24 : zeroT Tryz.prog 24 = some [.slice none 0 0] := by kernel_rfl
theorem sz26 : szT Tryz.prog 26 = some 5 := by kernel_rfl
theorem by26 : byT Tryz.prog 26 = some 80 := by kernel_rfl
theorem ag26 : aggT Tryz.prog 26 = some true := by kernel_rfl
theorem fl26_0 : fldT Tryz.prog 26 0 = some (0, 1, false) := by kernel_rfl
theorem fl26_1 : fldT Tryz.prog 26 1 = some (1, 1, false) := by kernel_rfl
theorem fl26_2 : fldT Tryz.prog 26 2 = some (2, 1, false) := by kernel_rfl
theorem fl26_3 : fldT Tryz.prog 26 3 = some (3, 1, false) := by kernel_rfl
theorem fl26_4 : fldT Tryz.prog 26 4 = some (4, 1, false) := by kernel_rfl
theorem st26 : stT Tryz.prog 26 = some [(0, 1), (1, 1), (2, 1), (3, 1), (4, 1)] := by kernel_rfl
theorem ze26 : zeroT Tryz.prog 26 = some [.int .i64 0, .int .i64 0, .string ⟨#[]⟩, .slice none 0 0, .slice none 0 0] := by kernel_rfl
theorem sz28 : szT Tryz.prog 28 = some 6 := by kernel_rfl
theorem by28 : byT Tryz.prog 28 = some 88 := by kernel_rfl
theorem ag28 : aggT Tryz.prog 28 = some true := by kernel_rfl
theorem fl28_0 : fldT Tryz.prog 28 0 = some (0, 5, true) := by kernel_rfl
theorem fl28_1 : fldT Tryz.prog 28 1 = some (5, 1, false) := by kernel_rfl
theorem st28 : stT Tryz.prog 28 = some [(0, 5), (5, 1)] := by kernel_rfl
theorem ze28 : zeroT Tryz.prog 28 = some [.int .i64 0, .int .i64 0, .string ⟨#[]⟩, .slice none 0 0, .slice none 0 0, .int .i64 0] := by kernel_rfl
theorem sz29 : szT Tryz.prog 29 = some 1 := by kernel_rfl
theorem by29 : byT Tryz.prog 29 = some 24 := by kernel_rfl
theorem ag29 : aggT Tryz.prog 29 = some false := by kernel_rfl
theorem el29 : elT Tryz.prog 29 = some 54 := by kernel_rfl
theorem ze29 : zeroT Tryz.prog 29 = some [.slice none 0 0] := by kernel_rfl
theorem sz32 : szT Tryz.prog 32 = some 1 := by kernel_rfl
theorem by32 : byT Tryz.prog 32 = some 8 := by kernel_rfl
theorem ag32 : aggT Tryz.prog 32 = some false := by kernel_rfl
theorem ze32 : zeroT Tryz.prog 32 = some [.pointer none] := by kernel_rfl
theorem sz34 : szT Tryz.prog 34 = some 1 := by kernel_rfl
theorem by34 : byT Tryz.prog 34 = some 24 := by kernel_rfl
theorem ag34 : aggT Tryz.prog 34 = some false := by kernel_rfl
theorem el34 : elT Tryz.prog 34 = some 91 := by kernel_rfl
theorem ze34 : zeroT Tryz.prog 34 = some [.slice none 0 0] := by kernel_rfl
theorem sz36 : szT Tryz.prog 36 = some 8 := by kernel_rfl
theorem by36 : byT Tryz.prog 36 = some 120 := by kernel_rfl
theorem ag36 : aggT Tryz.prog 36 = some true := by kernel_rfl
theorem fl36_0 : fldT Tryz.prog 36 0 = some (0, 1, false) := by kernel_rfl
theorem fl36_1 : fldT Tryz.prog 36 1 = some (1, 5, true) := by kernel_rfl
theorem fl36_2 : fldT Tryz.prog 36 2 = some (6, 1, false) := by kernel_rfl
theorem fl36_3 : fldT Tryz.prog 36 3 = some (7, 1, false) := by kernel_rfl
theorem st36 : stT Tryz.prog 36 = some [(0, 1), (1, 5), (6, 1), (7, 1)] := by kernel_rfl
theorem ze36 : zeroT Tryz.prog 36 = some [.int .i64 0, .int .i64 0, .int .i64 0, .string ⟨#[]⟩, .slice none 0 0, .slice none 0 0, .int .i64 0, .slice none 0 0] := by kernel_rfl
theorem sz37 : szT Tryz.prog 37 = some 1 := by kernel_rfl
theorem by37 : byT Tryz.prog 37 = some 24 := by kernel_rfl
theorem ag37 : aggT Tryz.prog 37 = some false := by kernel_rfl
theorem el37 : elT Tryz.prog 37 = some 3 := by kernel_rfl
theorem ze37 : zeroT Tryz.prog 37 = some [.slice none 0 0] := by kernel_rfl
theorem sz38 : szT Tryz.prog 38 = some 1 := by kernel_rfl
theorem by38 : byT Tryz.prog 38 = some 24 := by kernel_rfl
theorem ag38 : aggT Tryz.prog 38 = some false := by kernel_rfl
theorem el38 : elT Tryz.prog 38 = some 86 := by kernel_rfl
theorem ze38 : zeroT Tryz.prog 38 = some [.slice none 0 0] := by kernel_rfl
theorem sz41 : szT Tryz.prog 41 = some 1 := by kernel_rfl
theorem by41 : byT Tryz.prog 41 = some 8 := by kernel_rfl
theorem ag41 : aggT Tryz.prog 41 = some false := by kernel_rfl
theorem ze41 : zeroT Tryz.prog 41 = some [.int .i64 0] := by kernel_rfl
theorem sz45 : szT Tryz.prog 45 = some 5 := by kernel_rfl
theorem by45 : byT Tryz.prog 45 = some 40 := by kernel_rfl
theorem ag45 : aggT Tryz.prog 45 = some true := by kernel_rfl
theorem fl45_0 : fldT Tryz.prog 45 0 = some (0, 1, false) := by kernel_rfl
theorem fl45_1 : fldT Tryz.prog 45 1 = some (1, 1, false) := by kernel_rfl
theorem fl45_2 : fldT Tryz.prog 45 2 = some (2, 1, false) := by kernel_rfl
theorem fl45_3 : fldT Tryz.prog 45 3 = some (3, 1, false) := by kernel_rfl
theorem fl45_4 : fldT Tryz.prog 45 4 = some (4, 1, false) := by kernel_rfl
theorem st45 : stT Tryz.prog 45 = some [(0, 1), (1, 1), (2, 1), (3, 1), (4, 1)] := by kernel_rfl
theorem ze45 : zeroT Tryz.prog 45 = some [.int .i64 0, .int .i64 0, .int .i64 0, .int .i64 0, .bool false] := by kernel_rfl
theorem sz54 : szT Tryz.prog 54 = some 6 := by kernel_rfl
theorem by54 : byT Tryz.prog 54 = some 104 := by kernel_rfl
theorem ag54 : aggT Tryz.prog 54 = some true := by kernel_rfl
theorem fl54_0 : fldT Tryz.prog 54 0 = some (0, 1, false) := by kernel_rfl
theorem fl54_1 : fldT Tryz.prog 54 1 = some (1, 5, true) := by kernel_rfl
theorem st54 : stT Tryz.prog 54 = some [(0, 1), (1, 5)] := by kernel_rfl
theorem ze54 : zeroT Tryz.prog 54 = some [.slice none 0 0, .int .i64 0, .int .i64 0, .string ⟨#[]⟩, .slice none 0 0, .slice none 0 0] := by kernel_rfl
theorem sz58 : szT Tryz.prog 58 = some 1 := by kernel_rfl
theorem by58 : byT Tryz.prog 58 = some 8 := by kernel_rfl
theorem ag58 : aggT Tryz.prog 58 = some false := by kernel_rfl
theorem ze58 : zeroT Tryz.prog 58 = some [.nilFunc] := by kernel_rfl
theorem sz82 : szT Tryz.prog 82 = some 1 := by kernel_rfl
theorem by82 : byT Tryz.prog 82 = some 8 := by kernel_rfl
theorem ag82 : aggT Tryz.prog 82 = some false := by kernel_rfl
theorem ze82 : zeroT Tryz.prog 82 = some [.nilFunc] := by kernel_rfl
theorem sz86 : szT Tryz.prog 86 = some 3 := by kernel_rfl
theorem by86 : byT Tryz.prog 86 = some 48 := by kernel_rfl
theorem ag86 : aggT Tryz.prog 86 = some true := by kernel_rfl
theorem fl86_0 : fldT Tryz.prog 86 0 = some (0, 1, false) := by kernel_rfl
theorem fl86_1 : fldT Tryz.prog 86 1 = some (1, 1, false) := by kernel_rfl
theorem fl86_2 : fldT Tryz.prog 86 2 = some (2, 1, false) := by kernel_rfl
theorem st86 : stT Tryz.prog 86 = some [(0, 1), (1, 1), (2, 1)] := by kernel_rfl
theorem ze86 : zeroT Tryz.prog 86 = some [.int .i64 0, .string ⟨#[]⟩, .slice none 0 0] := by kernel_rfl
theorem sz91 : szT Tryz.prog 91 = some 10 := by kernel_rfl
theorem by91 : byT Tryz.prog 91 = some 144 := by kernel_rfl
theorem ag91 : aggT Tryz.prog 91 = some true := by kernel_rfl
theorem fl91_0 : fldT Tryz.prog 91 0 = some (0, 1, false) := by kernel_rfl
theorem fl91_1 : fldT Tryz.prog 91 1 = some (1, 1, false) := by kernel_rfl
theorem fl91_2 : fldT Tryz.prog 91 2 = some (2, 8, true) := by kernel_rfl
theorem st91 : stT Tryz.prog 91 = some [(0, 1), (1, 1), (2, 8)] := by kernel_rfl
theorem ze91 : zeroT Tryz.prog 91 = some [.string ⟨#[]⟩, .bool false, .int .i64 0, .int .i64 0, .int .i64 0, .string ⟨#[]⟩, .slice none 0 0, .slice none 0 0, .int .i64 0, .slice none 0 0] := by kernel_rfl
theorem sz92 : szT Tryz.prog 92 = some 1 := by kernel_rfl
theorem by92 : byT Tryz.prog 92 = some 24 := by kernel_rfl
theorem ag92 : aggT Tryz.prog 92 = some false := by kernel_rfl
theorem el92 : elT Tryz.prog 92 = some 4 := by kernel_rfl
theorem ze92 : zeroT Tryz.prog 92 = some [.slice none 0 0] := by kernel_rfl
theorem sz94 : szT Tryz.prog 94 = some 8 := by kernel_rfl
theorem by94 : byT Tryz.prog 94 = some 152 := by kernel_rfl
theorem ag94 : aggT Tryz.prog 94 = some true := by kernel_rfl
theorem fl94_0 : fldT Tryz.prog 94 0 = some (0, 1, false) := by kernel_rfl
theorem fl94_1 : fldT Tryz.prog 94 1 = some (1, 1, false) := by kernel_rfl
theorem fl94_2 : fldT Tryz.prog 94 2 = some (2, 1, false) := by kernel_rfl
theorem fl94_3 : fldT Tryz.prog 94 3 = some (3, 5, true) := by kernel_rfl
theorem st94 : stT Tryz.prog 94 = some [(0, 1), (1, 1), (2, 1), (3, 5)] := by kernel_rfl
theorem ze94 : zeroT Tryz.prog 94 = some [.slice none 0 0, .slice none 0 0, .slice none 0 0, .int .i64 0, .int .i64 0, .string ⟨#[]⟩, .slice none 0 0, .slice none 0 0] := by kernel_rfl
theorem sz97 : szT Tryz.prog 97 = some 1 := by kernel_rfl
theorem by97 : byT Tryz.prog 97 = some 8 := by kernel_rfl
theorem ag97 : aggT Tryz.prog 97 = some false := by kernel_rfl
theorem ze97 : zeroT Tryz.prog 97 = some [.pointer none] := by kernel_rfl
theorem sz99 : szT Tryz.prog 99 = some 8 := by kernel_rfl
theorem by99 : byT Tryz.prog 99 = some 128 := by kernel_rfl
theorem ag99 : aggT Tryz.prog 99 = some true := by kernel_rfl
theorem fl99_0 : fldT Tryz.prog 99 0 = some (0, 1, false) := by kernel_rfl
theorem fl99_1 : fldT Tryz.prog 99 1 = some (1, 1, false) := by kernel_rfl
theorem fl99_2 : fldT Tryz.prog 99 2 = some (2, 1, false) := by kernel_rfl
theorem fl99_3 : fldT Tryz.prog 99 3 = some (3, 1, false) := by kernel_rfl
theorem fl99_4 : fldT Tryz.prog 99 4 = some (4, 1, false) := by kernel_rfl
theorem fl99_5 : fldT Tryz.prog 99 5 = some (5, 1, false) := by kernel_rfl
theorem fl99_6 : fldT Tryz.prog 99 6 = some (6, 1, false) := by kernel_rfl
theorem fl99_7 : fldT Tryz.prog 99 7 = some (7, 1, false) := by kernel_rfl
theorem st99 : stT Tryz.prog 99 = some [(0, 1), (1, 1), (2, 1), (3, 1), (4, 1), (5, 1), (6, 1), (7, 1)] := by kernel_rfl
theorem ze99 : zeroT Tryz.prog 99 = some [.slice none 0 0, .slice none 0 0, .int .i64 0, .pointer none, .int .i64 0, .slice none 0 0, .slice none 0 0, .int .i64 0] := by kernel_rfl
theorem sz100 : szT Tryz.prog 100 = some 1 := by kernel_rfl
theorem by100 : byT Tryz.prog 100 = some 24 := by kernel_rfl
theorem ag100 : aggT Tryz.prog 100 = some false := by kernel_rfl
theorem el100 : elT Tryz.prog 100 = some 103 := by kernel_rfl
theorem ze100 : zeroT Tryz.prog 100 = some [.slice none 0 0] := by kernel_rfl
theorem sz103 : szT Tryz.prog 103 = some 3 := by kernel_rfl
theorem by103 : byT Tryz.prog 103 = some 56 := by kernel_rfl
theorem ag103 : aggT Tryz.prog 103 = some true := by kernel_rfl
theorem fl103_0 : fldT Tryz.prog 103 0 = some (0, 1, false) := by kernel_rfl
theorem fl103_1 : fldT Tryz.prog 103 1 = some (1, 1, false) := by kernel_rfl
theorem fl103_2 : fldT Tryz.prog 103 2 = some (2, 1, false) := by kernel_rfl
theorem st103 : stT Tryz.prog 103 = some [(0, 1), (1, 1), (2, 1)] := by kernel_rfl
theorem ze103 : zeroT Tryz.prog 103 = some [.int .i64 0, .slice none 0 0, .slice none 0 0] := by kernel_rfl
theorem sz105 : szT Tryz.prog 105 = some 1 := by kernel_rfl
theorem by105 : byT Tryz.prog 105 = some 8 := by kernel_rfl
theorem ag105 : aggT Tryz.prog 105 = some false := by kernel_rfl
theorem ze105 : zeroT Tryz.prog 105 = some [.pointer none] := by kernel_rfl
theorem sz107 : szT Tryz.prog 107 = some 7 := by kernel_rfl
theorem by107 : byT Tryz.prog 107 = some 120 := by kernel_rfl
theorem ag107 : aggT Tryz.prog 107 = some true := by kernel_rfl
theorem fl107_0 : fldT Tryz.prog 107 0 = some (0, 1, false) := by kernel_rfl
theorem fl107_1 : fldT Tryz.prog 107 1 = some (1, 1, false) := by kernel_rfl
theorem fl107_2 : fldT Tryz.prog 107 2 = some (2, 1, false) := by kernel_rfl
theorem fl107_3 : fldT Tryz.prog 107 3 = some (3, 1, false) := by kernel_rfl
theorem fl107_4 : fldT Tryz.prog 107 4 = some (4, 1, false) := by kernel_rfl
theorem fl107_5 : fldT Tryz.prog 107 5 = some (5, 1, false) := by kernel_rfl
theorem fl107_6 : fldT Tryz.prog 107 6 = some (6, 1, false) := by kernel_rfl
theorem st107 : stT Tryz.prog 107 = some [(0, 1), (1, 1), (2, 1), (3, 1), (4, 1), (5, 1), (6, 1)] := by kernel_rfl
theorem ze107 : zeroT Tryz.prog 107 = some [.slice none 0 0, .slice none 0 0, .int .i64 0, .int .i64 0, .slice none 0 0, .slice none 0 0, .int .i64 0] := by kernel_rfl
theorem sz117 : szT Tryz.prog 117 = some 1 := by kernel_rfl
theorem by117 : byT Tryz.prog 117 = some 8 := by kernel_rfl
theorem ag117 : aggT Tryz.prog 117 = some false := by kernel_rfl
theorem ze117 : zeroT Tryz.prog 117 = some [.nilFunc] := by kernel_rfl
theorem sz120 : szT Tryz.prog 120 = some 1 := by kernel_rfl
theorem by120 : byT Tryz.prog 120 = some 24 := by kernel_rfl
theorem ag120 : aggT Tryz.prog 120 = some false := by kernel_rfl
theorem el120 : elT Tryz.prog 120 = some 124 := by kernel_rfl
theorem ze120 : zeroT Tryz.prog 120 = some [.slice none 0 0] := by kernel_rfl
theorem sz122 : szT Tryz.prog 122 = some 2 := by kernel_rfl
theorem by122 : byT Tryz.prog 122 = some 32 := by kernel_rfl
theorem ag122 : aggT Tryz.prog 122 = some true := by kernel_rfl
theorem fl122_0 : fldT Tryz.prog 122 0 = some (0, 1, false) := by kernel_rfl
theorem fl122_1 : fldT Tryz.prog 122 1 = some (1, 1, false) := by kernel_rfl
theorem st122 : stT Tryz.prog 122 = some [(0, 1), (1, 1)] := by kernel_rfl
theorem ze122 : zeroT Tryz.prog 122 = some [.int .i64 0, .slice none 0 0] := by kernel_rfl
theorem sz124 : szT Tryz.prog 124 = some 2 := by kernel_rfl
theorem by124 : byT Tryz.prog 124 = some 16 := by kernel_rfl
theorem ag124 : aggT Tryz.prog 124 = some true := by kernel_rfl
theorem fl124_0 : fldT Tryz.prog 124 0 = some (0, 1, false) := by kernel_rfl
theorem fl124_1 : fldT Tryz.prog 124 1 = some (1, 1, false) := by kernel_rfl
theorem st124 : stT Tryz.prog 124 = some [(0, 1), (1, 1)] := by kernel_rfl
theorem ze124 : zeroT Tryz.prog 124 = some [.int .i64 0, .int .i64 0] := by kernel_rfl
theorem sz125 : szT Tryz.prog 125 = some 1 := by kernel_rfl
theorem by125 : byT Tryz.prog 125 = some 8 := by kernel_rfl
theorem ag125 : aggT Tryz.prog 125 = some false := by kernel_rfl
theorem ze125 : zeroT Tryz.prog 125 = some [.nilFunc] := by kernel_rfl
theorem sz126 : szT Tryz.prog 126 = some 1 := by kernel_rfl
theorem by126 : byT Tryz.prog 126 = some 24 := by kernel_rfl
theorem ag126 : aggT Tryz.prog 126 = some false := by kernel_rfl
theorem el126 : elT Tryz.prog 126 = some 134 := by kernel_rfl
theorem ze126 : zeroT Tryz.prog 126 = some [.slice none 0 0] := by kernel_rfl
theorem sz128 : szT Tryz.prog 128 = some 7 := by kernel_rfl
theorem by128 : byT Tryz.prog 128 = some 112 := by kernel_rfl
theorem ag128 : aggT Tryz.prog 128 = some true := by kernel_rfl
theorem fl128_0 : fldT Tryz.prog 128 0 = some (0, 1, false) := by kernel_rfl
theorem fl128_1 : fldT Tryz.prog 128 1 = some (1, 5, true) := by kernel_rfl
theorem fl128_2 : fldT Tryz.prog 128 2 = some (6, 1, false) := by kernel_rfl
theorem st128 : stT Tryz.prog 128 = some [(0, 1), (1, 5), (6, 1)] := by kernel_rfl
theorem ze128 : zeroT Tryz.prog 128 = some [.int .i64 0, .int .i64 0, .int .i64 0, .string ⟨#[]⟩, .slice none 0 0, .slice none 0 0, .slice none 0 0] := by kernel_rfl
theorem sz129 : szT Tryz.prog 129 = some 1 := by kernel_rfl
theorem by129 : byT Tryz.prog 129 = some 24 := by kernel_rfl
theorem ag129 : aggT Tryz.prog 129 = some false := by kernel_rfl
theorem el129 : elT Tryz.prog 129 = some 285 := by kernel_rfl
theorem ze129 : zeroT Tryz.prog 129 = some [.slice none 0 0] := by kernel_rfl
theorem sz131 : szT Tryz.prog 131 = some 23 := by kernel_rfl
theorem by131 : byT Tryz.prog 131 = some 360 := by kernel_rfl
theorem ag131 : aggT Tryz.prog 131 = some true := by kernel_rfl
theorem fl131_0 : fldT Tryz.prog 131 0 = some (0, 1, false) := by kernel_rfl
theorem fl131_1 : fldT Tryz.prog 131 1 = some (1, 1, false) := by kernel_rfl
theorem fl131_2 : fldT Tryz.prog 131 2 = some (2, 1, false) := by kernel_rfl
theorem fl131_3 : fldT Tryz.prog 131 3 = some (3, 5, true) := by kernel_rfl
theorem fl131_4 : fldT Tryz.prog 131 4 = some (8, 5, true) := by kernel_rfl
theorem fl131_5 : fldT Tryz.prog 131 5 = some (13, 1, false) := by kernel_rfl
theorem fl131_6 : fldT Tryz.prog 131 6 = some (14, 1, false) := by kernel_rfl
theorem fl131_7 : fldT Tryz.prog 131 7 = some (15, 7, true) := by kernel_rfl
theorem fl131_8 : fldT Tryz.prog 131 8 = some (22, 1, false) := by kernel_rfl
theorem st131 : stT Tryz.prog 131 = some [(0, 1), (1, 1), (2, 1), (3, 5), (8, 5), (13, 1), (14, 1), (15, 7), (22, 1)] := by kernel_rfl
theorem ze131 : zeroT Tryz.prog 131 = some [.int .i64 0, .string ⟨#[]⟩, .int .i64 0, .int .i64 0, .int .i64 0, .string ⟨#[]⟩, .slice none 0 0, .slice none 0 0, .int .i64 0, .int .i64 0, .string ⟨#[]⟩, .slice none 0 0, .slice none 0 0, .int .i64 0, .slice none 0 0, .int .i64 0, .int .i64 0, .int .i64 0, .string ⟨#[]⟩, .slice none 0 0, .slice none 0 0, .slice none 0 0, .slice none 0 0] := by kernel_rfl
theorem sz134 : szT Tryz.prog 134 = some 6 := by kernel_rfl
theorem by134 : byT Tryz.prog 134 = some 96 := by kernel_rfl
theorem ag134 : aggT Tryz.prog 134 = some true := by kernel_rfl
theorem fl134_0 : fldT Tryz.prog 134 0 = some (0, 1, false) := by kernel_rfl
theorem fl134_1 : fldT Tryz.prog 134 1 = some (1, 5, true) := by kernel_rfl
theorem st134 : stT Tryz.prog 134 = some [(0, 1), (1, 5)] := by kernel_rfl
theorem ze134 : zeroT Tryz.prog 134 = some [.string ⟨#[]⟩, .int .i64 0, .int .i64 0, .string ⟨#[]⟩, .slice none 0 0, .slice none 0 0] := by kernel_rfl
theorem sz141 : szT Tryz.prog 141 = some 1 := by kernel_rfl
theorem by141 : byT Tryz.prog 141 = some 16 := by kernel_rfl
theorem ag141 : aggT Tryz.prog 141 = some false := by kernel_rfl
theorem ze141 : zeroT Tryz.prog 141 = some [.nilIface] := by kernel_rfl
theorem sz144 : szT Tryz.prog 144 = some 1 := by kernel_rfl
theorem by144 : byT Tryz.prog 144 = some 24 := by kernel_rfl
theorem ag144 : aggT Tryz.prog 144 = some true := by kernel_rfl
theorem fl144_0 : fldT Tryz.prog 144 0 = some (0, 1, false) := by kernel_rfl
theorem st144 : stT Tryz.prog 144 = some [(0, 1)] := by kernel_rfl
theorem ze144 : zeroT Tryz.prog 144 = some [.slice none 0 0] := by kernel_rfl
theorem sz146 : szT Tryz.prog 146 = some 0 := by kernel_rfl
theorem by146 : byT Tryz.prog 146 = some 0 := by kernel_rfl
theorem ag146 : aggT Tryz.prog 146 = some true := by kernel_rfl
theorem sz148 : szT Tryz.prog 148 = some 1 := by kernel_rfl
theorem by148 : byT Tryz.prog 148 = some 8 := by kernel_rfl
theorem ag148 : aggT Tryz.prog 148 = some true := by kernel_rfl
theorem fl148_0 : fldT Tryz.prog 148 0 = some (0, 1, false) := by kernel_rfl
theorem st148 : stT Tryz.prog 148 = some [(0, 1)] := by kernel_rfl
theorem ze148 : zeroT Tryz.prog 148 = some [.int .i64 0] := by kernel_rfl
theorem sz153 : szT Tryz.prog 153 = some 1 := by kernel_rfl
theorem by153 : byT Tryz.prog 153 = some 8 := by kernel_rfl
theorem ag153 : aggT Tryz.prog 153 = some false := by kernel_rfl
theorem ze153 : zeroT Tryz.prog 153 = some [.pointer none] := by kernel_rfl
theorem sz156 : szT Tryz.prog 156 = some 1 := by kernel_rfl
theorem by156 : byT Tryz.prog 156 = some 8 := by kernel_rfl
theorem ag156 : aggT Tryz.prog 156 = some false := by kernel_rfl
theorem ze156 : zeroT Tryz.prog 156 = some [.nilFunc] := by kernel_rfl
theorem sz157 : szT Tryz.prog 157 = some 1 := by kernel_rfl
theorem by157 : byT Tryz.prog 157 = some 8 := by kernel_rfl
theorem ag157 : aggT Tryz.prog 157 = some false := by kernel_rfl
theorem ze157 : zeroT Tryz.prog 157 = some [.pointer none] := by kernel_rfl
theorem sz159 : szT Tryz.prog 159 = some 2 := by kernel_rfl
theorem by159 : byT Tryz.prog 159 = some 32 := by kernel_rfl
theorem ag159 : aggT Tryz.prog 159 = some true := by kernel_rfl
theorem fl159_0 : fldT Tryz.prog 159 0 = some (0, 1, false) := by kernel_rfl
theorem fl159_1 : fldT Tryz.prog 159 1 = some (1, 1, false) := by kernel_rfl
theorem st159 : stT Tryz.prog 159 = some [(0, 1), (1, 1)] := by kernel_rfl
theorem ze159 : zeroT Tryz.prog 159 = some [.slice none 0 0, .int .i64 0] := by kernel_rfl
theorem sz169 : szT Tryz.prog 169 = some 1 := by kernel_rfl
theorem by169 : byT Tryz.prog 169 = some 24 := by kernel_rfl
theorem ag169 : aggT Tryz.prog 169 = some false := by kernel_rfl
theorem el169 : elT Tryz.prog 169 = some 173 := by kernel_rfl
theorem ze169 : zeroT Tryz.prog 169 = some [.slice none 0 0] := by kernel_rfl
theorem sz173 : szT Tryz.prog 173 = some 11 := by kernel_rfl
theorem by173 : byT Tryz.prog 173 = some 184 := by kernel_rfl
theorem ag173 : aggT Tryz.prog 173 = some true := by kernel_rfl
theorem fl173_0 : fldT Tryz.prog 173 0 = some (0, 1, false) := by kernel_rfl
theorem fl173_1 : fldT Tryz.prog 173 1 = some (1, 1, false) := by kernel_rfl
theorem fl173_2 : fldT Tryz.prog 173 2 = some (2, 1, false) := by kernel_rfl
theorem fl173_3 : fldT Tryz.prog 173 3 = some (3, 8, true) := by kernel_rfl
theorem st173 : stT Tryz.prog 173 = some [(0, 1), (1, 1), (2, 1), (3, 8)] := by kernel_rfl
theorem ze173 : zeroT Tryz.prog 173 = some [.string ⟨#[]⟩, .bool false, .int .i64 0, .slice none 0 0, .slice none 0 0, .slice none 0 0, .int .i64 0, .int .i64 0, .string ⟨#[]⟩, .slice none 0 0, .slice none 0 0] := by kernel_rfl
theorem sz176 : szT Tryz.prog 176 = some 1 := by kernel_rfl
theorem by176 : byT Tryz.prog 176 = some 8 := by kernel_rfl
theorem ag176 : aggT Tryz.prog 176 = some false := by kernel_rfl
theorem ze176 : zeroT Tryz.prog 176 = some [.int .i64 0] := by kernel_rfl
theorem sz182 : szT Tryz.prog 182 = some 1 := by kernel_rfl
theorem by182 : byT Tryz.prog 182 = some 24 := by kernel_rfl
theorem ag182 : aggT Tryz.prog 182 = some false := by kernel_rfl
theorem el182 : elT Tryz.prog 182 = some 185 := by kernel_rfl
theorem ze182 : zeroT Tryz.prog 182 = some [.slice none 0 0] := by kernel_rfl
theorem sz183 : szT Tryz.prog 183 = some 1 := by kernel_rfl
theorem by183 : byT Tryz.prog 183 = some 24 := by kernel_rfl
theorem ag183 : aggT Tryz.prog 183 = some false := by kernel_rfl
theorem el183 : elT Tryz.prog 183 = some 187 := by kernel_rfl
theorem ze183 : zeroT Tryz.prog 183 = some [.slice none 0 0] := by kernel_rfl
theorem sz185 : szT Tryz.prog 185 = some 2 := by kernel_rfl
theorem by185 : byT Tryz.prog 185 = some 32 := by kernel_rfl
theorem ag185 : aggT Tryz.prog 185 = some true := by kernel_rfl
theorem fl185_0 : fldT Tryz.prog 185 0 = some (0, 1, false) := by kernel_rfl
theorem fl185_1 : fldT Tryz.prog 185 1 = some (1, 1, false) := by kernel_rfl
theorem st185 : stT Tryz.prog 185 = some [(0, 1), (1, 1)] := by kernel_rfl
theorem ze185 : zeroT Tryz.prog 185 = some [.int .i64 0, .slice none 0 0] := by kernel_rfl
theorem sz187 : szT Tryz.prog 187 = some 8 := by kernel_rfl
theorem by187 : byT Tryz.prog 187 = some 128 := by kernel_rfl
theorem ag187 : aggT Tryz.prog 187 = some true := by kernel_rfl
theorem fl187_0 : fldT Tryz.prog 187 0 = some (0, 3, true) := by kernel_rfl
theorem fl187_1 : fldT Tryz.prog 187 1 = some (3, 5, true) := by kernel_rfl
theorem st187 : stT Tryz.prog 187 = some [(0, 3), (3, 5)] := by kernel_rfl
theorem ze187 : zeroT Tryz.prog 187 = some [.int .i64 0, .string ⟨#[]⟩, .slice none 0 0, .int .i64 0, .int .i64 0, .string ⟨#[]⟩, .slice none 0 0, .slice none 0 0] := by kernel_rfl
theorem sz190 : szT Tryz.prog 190 = some 1 := by kernel_rfl
theorem by190 : byT Tryz.prog 190 = some 8 := by kernel_rfl
theorem ag190 : aggT Tryz.prog 190 = some false := by kernel_rfl
theorem ze190 : zeroT Tryz.prog 190 = some [.nilFunc] := by kernel_rfl
theorem sz191 : szT Tryz.prog 191 = some 1 := by kernel_rfl
theorem by191 : byT Tryz.prog 191 = some 8 := by kernel_rfl
theorem ag191 : aggT Tryz.prog 191 = some false := by kernel_rfl
theorem ze191 : zeroT Tryz.prog 191 = some [.nilFunc] := by kernel_rfl
theorem sz195 : szT Tryz.prog 195 = some 1 := by kernel_rfl
theorem by195 : byT Tryz.prog 195 = some 8 := by kernel_rfl
theorem ag195 : aggT Tryz.prog 195 = some false := by kernel_rfl
theorem ze195 : zeroT Tryz.prog 195 = some [.nilFunc] := by kernel_rfl
theorem sz197 : szT Tryz.prog 197 = some 1 := by kernel_rfl
theorem by197 : byT Tryz.prog 197 = some 8 := by kernel_rfl
theorem ag197 : aggT Tryz.prog 197 = some false := by kernel_rfl
theorem ze197 : zeroT Tryz.prog 197 = some [.int .i64 0] := by kernel_rfl
theorem sz209 : szT Tryz.prog 209 = some 1 := by kernel_rfl
theorem by209 : byT Tryz.prog 209 = some 8 := by kernel_rfl
theorem ag209 : aggT Tryz.prog 209 = some false := by kernel_rfl
theorem ze209 : zeroT Tryz.prog 209 = some [.nilFunc] := by kernel_rfl
theorem sz214 : szT Tryz.prog 214 = some 1 := by kernel_rfl
theorem by214 : byT Tryz.prog 214 = some 8 := by kernel_rfl
theorem ag214 : aggT Tryz.prog 214 = some false := by kernel_rfl
theorem ze214 : zeroT Tryz.prog 214 = some [.pointer none] := by kernel_rfl
theorem sz216 : szT Tryz.prog 216 = some 2 := by kernel_rfl
theorem by216 : byT Tryz.prog 216 = some 16 := by kernel_rfl
theorem ag216 : aggT Tryz.prog 216 = some true := by kernel_rfl
theorem fl216_0 : fldT Tryz.prog 216 0 = some (0, 1, false) := by kernel_rfl
theorem fl216_1 : fldT Tryz.prog 216 1 = some (1, 1, false) := by kernel_rfl
theorem st216 : stT Tryz.prog 216 = some [(0, 1), (1, 1)] := by kernel_rfl
theorem ze216 : zeroT Tryz.prog 216 = some [.int .i64 0, .int .i64 0] := by kernel_rfl
theorem sz218 : szT Tryz.prog 218 = some 1 := by kernel_rfl
theorem by218 : byT Tryz.prog 218 = some 8 := by kernel_rfl
theorem ag218 : aggT Tryz.prog 218 = some false := by kernel_rfl
theorem ze218 : zeroT Tryz.prog 218 = some [.nilFunc] := by kernel_rfl
theorem sz222 : szT Tryz.prog 222 = some 0 := by kernel_rfl
theorem by222 : byT Tryz.prog 222 = some 0 := by kernel_rfl
theorem ag222 : aggT Tryz.prog 222 = some true := by kernel_rfl
theorem sz225 : szT Tryz.prog 225 = some 2 := by kernel_rfl
theorem by225 : byT Tryz.prog 225 = some 32 := by kernel_rfl
theorem ag225 : aggT Tryz.prog 225 = some true := by kernel_rfl
theorem fl225_0 : fldT Tryz.prog 225 0 = some (0, 1, false) := by kernel_rfl
theorem fl225_1 : fldT Tryz.prog 225 1 = some (1, 1, false) := by kernel_rfl
theorem st225 : stT Tryz.prog 225 = some [(0, 1), (1, 1)] := by kernel_rfl
theorem ze225 : zeroT Tryz.prog 225 = some [.slice none 0 0, .int .i64 0] := by kernel_rfl
theorem sz236 : szT Tryz.prog 236 = some 1 := by kernel_rfl
theorem by236 : byT Tryz.prog 236 = some 8 := by kernel_rfl
theorem ag236 : aggT Tryz.prog 236 = some false := by kernel_rfl
theorem ze236 : zeroT Tryz.prog 236 = some [.nilFunc] := by kernel_rfl
theorem sz244 : szT Tryz.prog 244 = some 1 := by kernel_rfl
theorem by244 : byT Tryz.prog 244 = some 24 := by kernel_rfl
theorem ag244 : aggT Tryz.prog 244 = some false := by kernel_rfl
theorem el244 : elT Tryz.prog 244 = some 304 := by kernel_rfl
theorem ze244 : zeroT Tryz.prog 244 = some [.slice none 0 0] := by kernel_rfl
theorem sz246 : szT Tryz.prog 246 = some 10 := by kernel_rfl
theorem by246 : byT Tryz.prog 246 = some 176 := by kernel_rfl
theorem ag246 : aggT Tryz.prog 246 = some true := by kernel_rfl
theorem fl246_0 : fldT Tryz.prog 246 0 = some (0, 1, false) := by kernel_rfl
theorem fl246_1 : fldT Tryz.prog 246 1 = some (1, 1, false) := by kernel_rfl
theorem fl246_2 : fldT Tryz.prog 246 2 = some (2, 1, false) := by kernel_rfl
theorem fl246_3 : fldT Tryz.prog 246 3 = some (3, 1, false) := by kernel_rfl
theorem fl246_4 : fldT Tryz.prog 246 4 = some (4, 5, true) := by kernel_rfl
theorem fl246_5 : fldT Tryz.prog 246 5 = some (9, 1, false) := by kernel_rfl
theorem st246 : stT Tryz.prog 246 = some [(0, 1), (1, 1), (2, 1), (3, 1), (4, 5), (9, 1)] := by kernel_rfl
theorem ze246 : zeroT Tryz.prog 246 = some [.string ⟨#[]⟩, .int .i64 0, .slice none 0 0, .slice none 0 0, .int .i64 0, .int .i64 0, .string ⟨#[]⟩, .slice none 0 0, .slice none 0 0, .slice none 0 0] := by kernel_rfl
theorem sz260 : szT Tryz.prog 260 = some 1 := by kernel_rfl
theorem by260 : byT Tryz.prog 260 = some 8 := by kernel_rfl
theorem ag260 : aggT Tryz.prog 260 = some false := by kernel_rfl
theorem ze260 : zeroT Tryz.prog 260 = some [.nilFunc] := by kernel_rfl
theorem sz262 : szT Tryz.prog 262 = some 1 := by kernel_rfl
theorem by262 : byT Tryz.prog 262 = some 8 := by kernel_rfl
theorem ag262 : aggT Tryz.prog 262 = some false := by kernel_rfl
theorem ze262 : zeroT Tryz.prog 262 = some [.nilFunc] := by kernel_rfl
theorem sz270 : szT Tryz.prog 270 = some 1 := by kernel_rfl
theorem by270 : byT Tryz.prog 270 = some 8 := by kernel_rfl
theorem ag270 : aggT Tryz.prog 270 = some false := by kernel_rfl
theorem ze270 : zeroT Tryz.prog 270 = some [.nilFunc] := by kernel_rfl
theorem sz272 : szT Tryz.prog 272 = some 1 := by kernel_rfl
theorem by272 : byT Tryz.prog 272 = some 8 := by kernel_rfl
theorem ag272 : aggT Tryz.prog 272 = some false := by kernel_rfl
theorem ze272 : zeroT Tryz.prog 272 = some [.nilFunc] := by kernel_rfl
theorem sz274 : szT Tryz.prog 274 = some 9 := by kernel_rfl
theorem by274 : byT Tryz.prog 274 = some 112 := by kernel_rfl
theorem ag274 : aggT Tryz.prog 274 = some true := by kernel_rfl
theorem fl274_0 : fldT Tryz.prog 274 0 = some (0, 1, false) := by kernel_rfl
theorem fl274_1 : fldT Tryz.prog 274 1 = some (1, 1, false) := by kernel_rfl
theorem fl274_2 : fldT Tryz.prog 274 2 = some (2, 1, false) := by kernel_rfl
theorem fl274_3 : fldT Tryz.prog 274 3 = some (3, 1, false) := by kernel_rfl
theorem fl274_4 : fldT Tryz.prog 274 4 = some (4, 5, true) := by kernel_rfl
theorem st274 : stT Tryz.prog 274 = some [(0, 1), (1, 1), (2, 1), (3, 1), (4, 5)] := by kernel_rfl
theorem ze274 : zeroT Tryz.prog 274 = some [.int .i64 0, .int .i64 0, .int .i64 0, .int .i64 0, .int .i64 0, .int .i64 0, .string ⟨#[]⟩, .slice none 0 0, .slice none 0 0] := by kernel_rfl
theorem sz285 : szT Tryz.prog 285 = some 15 := by kernel_rfl
theorem by285 : byT Tryz.prog 285 = some 224 := by kernel_rfl
theorem ag285 : aggT Tryz.prog 285 = some true := by kernel_rfl
theorem fl285_0 : fldT Tryz.prog 285 0 = some (0, 1, false) := by kernel_rfl
theorem fl285_1 : fldT Tryz.prog 285 1 = some (1, 5, true) := by kernel_rfl
theorem fl285_2 : fldT Tryz.prog 285 2 = some (6, 1, false) := by kernel_rfl
theorem fl285_3 : fldT Tryz.prog 285 3 = some (7, 8, true) := by kernel_rfl
theorem st285 : stT Tryz.prog 285 = some [(0, 1), (1, 5), (6, 1), (7, 8)] := by kernel_rfl
theorem ze285 : zeroT Tryz.prog 285 = some [.string ⟨#[]⟩, .int .i64 0, .int .i64 0, .string ⟨#[]⟩, .slice none 0 0, .slice none 0 0, .int .i64 0, .int .i64 0, .int .i64 0, .int .i64 0, .string ⟨#[]⟩, .slice none 0 0, .slice none 0 0, .int .i64 0, .slice none 0 0] := by kernel_rfl
theorem sz287 : szT Tryz.prog 287 = some 0 := by kernel_rfl
theorem by287 : byT Tryz.prog 287 = some 0 := by kernel_rfl
theorem ag287 : aggT Tryz.prog 287 = some true := by kernel_rfl
theorem sz292 : szT Tryz.prog 292 = some 1 := by kernel_rfl
theorem by292 : byT Tryz.prog 292 = some 8 := by kernel_rfl
theorem ag292 : aggT Tryz.prog 292 = some false := by kernel_rfl
theorem ze292 : zeroT Tryz.prog 292 = some [.nilFunc] := by kernel_rfl
theorem sz302 : szT Tryz.prog 302 = some 1 := by kernel_rfl
theorem by302 : byT Tryz.prog 302 = some 24 := by kernel_rfl
theorem ag302 : aggT Tryz.prog 302 = some false := by kernel_rfl
theorem el302 : elT Tryz.prog 302 = some 371 := by kernel_rfl
theorem ze302 : zeroT Tryz.prog 302 = some [.slice none 0 0] := by kernel_rfl
theorem sz304 : szT Tryz.prog 304 = some 4 := by kernel_rfl
theorem by304 : byT Tryz.prog 304 = some 88 := by kernel_rfl
theorem ag304 : aggT Tryz.prog 304 = some true := by kernel_rfl
theorem fl304_0 : fldT Tryz.prog 304 0 = some (0, 1, false) := by kernel_rfl
theorem fl304_1 : fldT Tryz.prog 304 1 = some (1, 1, false) := by kernel_rfl
theorem fl304_2 : fldT Tryz.prog 304 2 = some (2, 1, false) := by kernel_rfl
theorem fl304_3 : fldT Tryz.prog 304 3 = some (3, 1, false) := by kernel_rfl
theorem st304 : stT Tryz.prog 304 = some [(0, 1), (1, 1), (2, 1), (3, 1)] := by kernel_rfl
theorem ze304 : zeroT Tryz.prog 304 = some [.string ⟨#[]⟩, .slice none 0 0, .slice none 0 0, .slice none 0 0] := by kernel_rfl
theorem sz314 : szT Tryz.prog 314 = some 4 := by kernel_rfl
theorem by314 : byT Tryz.prog 314 = some 32 := by kernel_rfl
theorem ag314 : aggT Tryz.prog 314 = some true := by kernel_rfl
theorem fl314_0 : fldT Tryz.prog 314 0 = some (0, 1, false) := by kernel_rfl
theorem fl314_1 : fldT Tryz.prog 314 1 = some (1, 1, false) := by kernel_rfl
theorem fl314_2 : fldT Tryz.prog 314 2 = some (2, 1, false) := by kernel_rfl
theorem fl314_3 : fldT Tryz.prog 314 3 = some (3, 1, false) := by kernel_rfl
theorem st314 : stT Tryz.prog 314 = some [(0, 1), (1, 1), (2, 1), (3, 1)] := by kernel_rfl
theorem ze314 : zeroT Tryz.prog 314 = some [.int .i64 0, .int .i64 0, .int .i64 0, .int .i64 0] := by kernel_rfl
theorem sz320 : szT Tryz.prog 320 = some 1 := by kernel_rfl
theorem by320 : byT Tryz.prog 320 = some 8 := by kernel_rfl
theorem ag320 : aggT Tryz.prog 320 = some true := by kernel_rfl
theorem fl320_0 : fldT Tryz.prog 320 0 = some (0, 1, false) := by kernel_rfl
theorem st320 : stT Tryz.prog 320 = some [(0, 1)] := by kernel_rfl
theorem ze320 : zeroT Tryz.prog 320 = some [.int .i64 0] := by kernel_rfl
theorem sz332 : szT Tryz.prog 332 = some 1 := by kernel_rfl
theorem by332 : byT Tryz.prog 332 = some 8 := by kernel_rfl
theorem ag332 : aggT Tryz.prog 332 = some false := by kernel_rfl
theorem ze332 : zeroT Tryz.prog 332 = some [.nilFunc] := by kernel_rfl
theorem sz336 : szT Tryz.prog 336 = some 1 := by kernel_rfl
theorem by336 : byT Tryz.prog 336 = some 24 := by kernel_rfl
theorem ag336 : aggT Tryz.prog 336 = some false := by kernel_rfl
theorem el336 : elT Tryz.prog 336 = some 9 := by kernel_rfl
theorem ze336 : zeroT Tryz.prog 336 = some [.slice none 0 0] := by kernel_rfl
theorem sz343 : szT Tryz.prog 343 = some 1 := by kernel_rfl
theorem by343 : byT Tryz.prog 343 = some 8 := by kernel_rfl
theorem ag343 : aggT Tryz.prog 343 = some false := by kernel_rfl
theorem ze343 : zeroT Tryz.prog 343 = some [.nilFunc] := by kernel_rfl
theorem sz344 : szT Tryz.prog 344 = some 7 := by kernel_rfl
theorem by344 : byT Tryz.prog 344 = some 56 := by kernel_rfl
theorem ag344 : aggT Tryz.prog 344 = some true := by kernel_rfl
theorem el344 : elT Tryz.prog 344 = none := by kernel_rfl
theorem ar344 : arT Tryz.prog 344 = some (7, 343) := by kernel_rfl
theorem ze344 : zeroT Tryz.prog 344 = some [.nilFunc, .nilFunc, .nilFunc, .nilFunc, .nilFunc, .nilFunc, .nilFunc] := by kernel_rfl
theorem sz347 : szT Tryz.prog 347 = some 0 := by kernel_rfl
theorem by347 : byT Tryz.prog 347 = some 0 := by kernel_rfl
theorem ag347 : aggT Tryz.prog 347 = some true := by kernel_rfl
theorem sz349 : szT Tryz.prog 349 = some 1 := by kernel_rfl
theorem by349 : byT Tryz.prog 349 = some 8 := by kernel_rfl
theorem ag349 : aggT Tryz.prog 349 = some false := by kernel_rfl
theorem ze349 : zeroT Tryz.prog 349 = some [.pointer none] := by kernel_rfl
theorem sz351 : szT Tryz.prog 351 = some 3 := by kernel_rfl
theorem by351 : byT Tryz.prog 351 = some 40 := by kernel_rfl
theorem ag351 : aggT Tryz.prog 351 = some true := by kernel_rfl
theorem fl351_0 : fldT Tryz.prog 351 0 = some (0, 1, false) := by kernel_rfl
theorem fl351_1 : fldT Tryz.prog 351 1 = some (1, 1, false) := by kernel_rfl
theorem fl351_2 : fldT Tryz.prog 351 2 = some (2, 1, false) := by kernel_rfl
theorem st351 : stT Tryz.prog 351 = some [(0, 1), (1, 1), (2, 1)] := by kernel_rfl
theorem ze351 : zeroT Tryz.prog 351 = some [.slice none 0 0, .int .i64 0, .int .i64 0] := by kernel_rfl
theorem sz353 : szT Tryz.prog 353 = some 1 := by kernel_rfl
theorem by353 : byT Tryz.prog 353 = some 16 := by kernel_rfl
theorem ag353 : aggT Tryz.prog 353 = some false := by kernel_rfl
theorem ze353 : zeroT Tryz.prog 353 = some [.nilIface] := by kernel_rfl
theorem sz359 : szT Tryz.prog 359 = some 25 := by kernel_rfl
theorem by359 : byT Tryz.prog 359 = some 408 := by kernel_rfl
theorem ag359 : aggT Tryz.prog 359 = some true := by kernel_rfl
theorem fl359_0 : fldT Tryz.prog 359 0 = some (0, 1, false) := by kernel_rfl
theorem fl359_1 : fldT Tryz.prog 359 1 = some (1, 1, false) := by kernel_rfl
theorem fl359_2 : fldT Tryz.prog 359 2 = some (2, 23, true) := by kernel_rfl
theorem st359 : stT Tryz.prog 359 = some [(0, 1), (1, 1), (2, 23)] := by kernel_rfl
theorem ze359 : zeroT Tryz.prog 359 = some [.slice none 0 0, .slice none 0 0, .int .i64 0, .string ⟨#[]⟩, .int .i64 0, .int .i64 0, .int .i64 0, .string ⟨#[]⟩, .slice none 0 0, .slice none 0 0, .int .i64 0, .int .i64 0, .string ⟨#[]⟩, .slice none 0 0, .slice none 0 0, .int .i64 0, .slice none 0 0, .int .i64 0, .int .i64 0, .int .i64 0, .string ⟨#[]⟩, .slice none 0 0, .slice none 0 0, .slice none 0 0, .slice none 0 0] := by kernel_rfl
theorem sz371 : szT Tryz.prog 371 = some 3 := by kernel_rfl
theorem by371 : byT Tryz.prog 371 = some 56 := by kernel_rfl
theorem ag371 : aggT Tryz.prog 371 = some true := by kernel_rfl
theorem fl371_0 : fldT Tryz.prog 371 0 = some (0, 1, false) := by kernel_rfl
theorem fl371_1 : fldT Tryz.prog 371 1 = some (1, 1, false) := by kernel_rfl
theorem fl371_2 : fldT Tryz.prog 371 2 = some (2, 1, false) := by kernel_rfl
theorem st371 : stT Tryz.prog 371 = some [(0, 1), (1, 1), (2, 1)] := by kernel_rfl
theorem ze371 : zeroT Tryz.prog 371 = some [.int .i64 0, .slice none 0 0, .slice none 0 0] := by kernel_rfl
theorem sz375 : szT Tryz.prog 375 = some 1 := by kernel_rfl
theorem by375 : byT Tryz.prog 375 = some 8 := by kernel_rfl
theorem ag375 : aggT Tryz.prog 375 = some false := by kernel_rfl
theorem ze375 : zeroT Tryz.prog 375 = some [.nilFunc] := by kernel_rfl
theorem sz377 : szT Tryz.prog 377 = some 5 := by kernel_rfl
theorem by377 : byT Tryz.prog 377 = some 32 := by kernel_rfl
theorem ag377 : aggT Tryz.prog 377 = some true := by kernel_rfl
theorem fl377_0 : fldT Tryz.prog 377 0 = some (0, 1, false) := by kernel_rfl
theorem fl377_1 : fldT Tryz.prog 377 1 = some (1, 1, false) := by kernel_rfl
theorem fl377_2 : fldT Tryz.prog 377 2 = some (2, 1, false) := by kernel_rfl
theorem fl377_3 : fldT Tryz.prog 377 3 = some (3, 1, false) := by kernel_rfl
theorem fl377_4 : fldT Tryz.prog 377 4 = some (4, 1, false) := by kernel_rfl
theorem st377 : stT Tryz.prog 377 = some [(0, 1), (1, 1), (2, 1), (3, 1), (4, 1)] := by kernel_rfl
theorem ze377 : zeroT Tryz.prog 377 = some [.bool false, .bool false, .int .i64 0, .int .i64 0, .int .i64 0] := by kernel_rfl
theorem sz378 : szT Tryz.prog 378 = some 65 := by kernel_rfl
theorem by378 : byT Tryz.prog 378 = some 416 := by kernel_rfl
theorem ag378 : aggT Tryz.prog 378 = some true := by kernel_rfl
theorem el378 : elT Tryz.prog 378 = none := by kernel_rfl
theorem ar378 : arT Tryz.prog 378 = some (13, 377) := by kernel_rfl
theorem ze378 : zeroT Tryz.prog 378 = some [.bool false, .bool false, .int .i64 0, .int .i64 0, .int .i64 0, .bool false, .bool false, .int .i64 0, .int .i64 0, .int .i64 0, .bool false, .bool false, .int .i64 0, .int .i64 0, .int .i64 0, .bool false, .bool false, .int .i64 0, .int .i64 0, .int .i64 0, .bool false, .bool false, .int .i64 0, .int .i64 0, .int .i64 0, .bool false, .bool false, .int .i64 0, .int .i64 0, .int .i64 0, .bool false, .bool false, .int .i64 0, .int .i64 0, .int .i64 0, .bool false, .bool false, .int .i64 0, .int .i64 0, .int .i64 0, .bool false, .bool false, .int .i64 0, .int .i64 0, .int .i64 0, .bool false, .bool false, .int .i64 0, .int .i64 0, .int .i64 0, .bool false, .bool false, .int .i64 0, .int .i64 0, .int .i64 0, .bool false, .bool false, .int .i64 0, .int .i64 0, .int .i64 0, .bool false, .bool false, .int .i64 0, .int .i64 0, .int .i64 0] := by kernel_rfl
theorem sz381 : szT Tryz.prog 381 = some 1 := by kernel_rfl
theorem by381 : byT Tryz.prog 381 = some 8 := by kernel_rfl
theorem ag381 : aggT Tryz.prog 381 = some false := by kernel_rfl
theorem ze381 : zeroT Tryz.prog 381 = some [.int .i64 0] := by kernel_rfl
theorem sz383 : szT Tryz.prog 383 = some 1 := by kernel_rfl
theorem by383 : byT Tryz.prog 383 = some 8 := by kernel_rfl
theorem ag383 : aggT Tryz.prog 383 = some false := by kernel_rfl
theorem ze383 : zeroT Tryz.prog 383 = some [.nilFunc] := by kernel_rfl
theorem sz385 : szT Tryz.prog 385 = some 1 := by kernel_rfl
theorem by385 : byT Tryz.prog 385 = some 8 := by kernel_rfl
theorem ag385 : aggT Tryz.prog 385 = some true := by kernel_rfl
theorem fl385_0 : fldT Tryz.prog 385 0 = some (0, 1, false) := by kernel_rfl
theorem st385 : stT Tryz.prog 385 = some [(0, 1)] := by kernel_rfl
theorem ze385 : zeroT Tryz.prog 385 = some [.nilFunc] := by kernel_rfl
theorem sz390 : szT Tryz.prog 390 = some 1 := by kernel_rfl
theorem by390 : byT Tryz.prog 390 = some 8 := by kernel_rfl
theorem ag390 : aggT Tryz.prog 390 = some false := by kernel_rfl
theorem ze390 : zeroT Tryz.prog 390 = some [.nilFunc] := by kernel_rfl
theorem sz393 : szT Tryz.prog 393 = some 1 := by kernel_rfl
theorem by393 : byT Tryz.prog 393 = some 8 := by kernel_rfl
theorem ag393 : aggT Tryz.prog 393 = some false := by kernel_rfl
theorem ze393 : zeroT Tryz.prog 393 = some [.pointer none] := by kernel_rfl
theorem sz395 : szT Tryz.prog 395 = some 13 := by kernel_rfl
theorem by395 : byT Tryz.prog 395 = some 256 := by kernel_rfl
theorem ag395 : aggT Tryz.prog 395 = some true := by kernel_rfl
theorem fl395_0 : fldT Tryz.prog 395 0 = some (0, 1, false) := by kernel_rfl
theorem fl395_1 : fldT Tryz.prog 395 1 = some (1, 8, true) := by kernel_rfl
theorem fl395_2 : fldT Tryz.prog 395 2 = some (9, 1, false) := by kernel_rfl
theorem fl395_3 : fldT Tryz.prog 395 3 = some (10, 1, false) := by kernel_rfl
theorem fl395_4 : fldT Tryz.prog 395 4 = some (11, 1, false) := by kernel_rfl
theorem fl395_5 : fldT Tryz.prog 395 5 = some (12, 1, false) := by kernel_rfl
theorem st395 : stT Tryz.prog 395 = some [(0, 1), (1, 8), (9, 1), (10, 1), (11, 1), (12, 1)] := by kernel_rfl
theorem ze395 : zeroT Tryz.prog 395 = some [.slice none 0 0, .slice none 0 0, .slice none 0 0, .slice none 0 0, .int .i64 0, .int .i64 0, .string ⟨#[]⟩, .slice none 0 0, .slice none 0 0, .int .i64 0, .slice none 0 0, .slice none 0 0, .slice none 0 0] := by kernel_rfl
theorem sz402 : szT Tryz.prog 402 = some 1 := by kernel_rfl
theorem by402 : byT Tryz.prog 402 = some 8 := by kernel_rfl
theorem ag402 : aggT Tryz.prog 402 = some false := by kernel_rfl
theorem ze402 : zeroT Tryz.prog 402 = some [.nilFunc] := by kernel_rfl
theorem sz409 : szT Tryz.prog 409 = some 1 := by kernel_rfl
theorem by409 : byT Tryz.prog 409 = some 8 := by kernel_rfl
theorem ag409 : aggT Tryz.prog 409 = some false := by kernel_rfl
theorem ze409 : zeroT Tryz.prog 409 = some [.nilFunc] := by kernel_rfl
theorem sz410 : szT Tryz.prog 410 = some 1 := by kernel_rfl
theorem by410 : byT Tryz.prog 410 = some 8 := by kernel_rfl
theorem ag410 : aggT Tryz.prog 410 = some false := by kernel_rfl
theorem ze410 : zeroT Tryz.prog 410 = some [.pointer none] := by kernel_rfl
theorem sz412 : szT Tryz.prog 412 = some 1 := by kernel_rfl
theorem by412 : byT Tryz.prog 412 = some 8 := by kernel_rfl
theorem ag412 : aggT Tryz.prog 412 = some true := by kernel_rfl
theorem fl412_0 : fldT Tryz.prog 412 0 = some (0, 1, false) := by kernel_rfl
theorem st412 : stT Tryz.prog 412 = some [(0, 1)] := by kernel_rfl
theorem ze412 : zeroT Tryz.prog 412 = some [.int .i64 0] := by kernel_rfl
theorem sz414 : szT Tryz.prog 414 = some 1 := by kernel_rfl
theorem by414 : byT Tryz.prog 414 = some 8 := by kernel_rfl
theorem ag414 : aggT Tryz.prog 414 = some false := by kernel_rfl
theorem ze414 : zeroT Tryz.prog 414 = some [.pointer none] := by kernel_rfl
theorem sz417 : szT Tryz.prog 417 = some 1 := by kernel_rfl
theorem by417 : byT Tryz.prog 417 = some 8 := by kernel_rfl
theorem ag417 : aggT Tryz.prog 417 = some false := by kernel_rfl
theorem ze417 : zeroT Tryz.prog 417 = some [.pointer none] := by kernel_rfl
theorem sz419 : szT Tryz.prog 419 = some 1 := by kernel_rfl
theorem by419 : byT Tryz.prog 419 = some 8 := by kernel_rfl
theorem ag419 : aggT Tryz.prog 419 = some false := by kernel_rfl
theorem ze419 : zeroT Tryz.prog 419 = some [.pointer none] := by kernel_rfl
theorem sz420 : szT Tryz.prog 420 = some 1 := by kernel_rfl
theorem by420 : byT Tryz.prog 420 = some 8 := by kernel_rfl
theorem ag420 : aggT Tryz.prog 420 = some false := by kernel_rfl
theorem ze420 : zeroT Tryz.prog 420 = some [.nilFunc] := by kernel_rfl
theorem sz423 : szT Tryz.prog 423 = some 2 := by kernel_rfl
theorem by423 : byT Tryz.prog 423 = some 16 := by kernel_rfl
theorem ag423 : aggT Tryz.prog 423 = some true := by kernel_rfl
theorem fl423_0 : fldT Tryz.prog 423 0 = some (0, 1, false) := by kernel_rfl
theorem fl423_1 : fldT Tryz.prog 423 1 = some (1, 1, false) := by kernel_rfl
theorem st423 : stT Tryz.prog 423 = some [(0, 1), (1, 1)] := by kernel_rfl
theorem ze423 : zeroT Tryz.prog 423 = some [.pointer none, .nilFunc] := by kernel_rfl
theorem sz425 : szT Tryz.prog 425 = some 2 := by kernel_rfl
theorem by425 : byT Tryz.prog 425 = some 16 := by kernel_rfl
theorem ag425 : aggT Tryz.prog 425 = some true := by kernel_rfl
theorem fl425_0 : fldT Tryz.prog 425 0 = some (0, 1, false) := by kernel_rfl
theorem fl425_1 : fldT Tryz.prog 425 1 = some (1, 1, false) := by kernel_rfl
theorem st425 : stT Tryz.prog 425 = some [(0, 1), (1, 1)] := by kernel_rfl
theorem ze425 : zeroT Tryz.prog 425 = some [.pointer none, .pointer none] := by kernel_rfl
theorem sz426 : szT Tryz.prog 426 = some 1 := by kernel_rfl
theorem by426 : byT Tryz.prog 426 = some 8 := by kernel_rfl
theorem ag426 : aggT Tryz.prog 426 = some false := by kernel_rfl
theorem ze426 : zeroT Tryz.prog 426 = some [.pointer none] := by kernel_rfl
theorem sz428 : szT Tryz.prog 428 = some 3 := by kernel_rfl
theorem by428 : byT Tryz.prog 428 = some 24 := by kernel_rfl
theorem ag428 : aggT Tryz.prog 428 = some true := by kernel_rfl
theorem fl428_0 : fldT Tryz.prog 428 0 = some (0, 1, false) := by kernel_rfl
theorem fl428_1 : fldT Tryz.prog 428 1 = some (1, 1, false) := by kernel_rfl
theorem fl428_2 : fldT Tryz.prog 428 2 = some (2, 1, false) := by kernel_rfl
theorem st428 : stT Tryz.prog 428 = some [(0, 1), (1, 1), (2, 1)] := by kernel_rfl
theorem ze428 : zeroT Tryz.prog 428 = some [.pointer none, .pointer none, .pointer none] := by kernel_rfl
theorem sz430 : szT Tryz.prog 430 = some 1 := by kernel_rfl
theorem by430 : byT Tryz.prog 430 = some 8 := by kernel_rfl
theorem ag430 : aggT Tryz.prog 430 = some false := by kernel_rfl
theorem ze430 : zeroT Tryz.prog 430 = some [.pointer none] := by kernel_rfl
theorem sz431 : szT Tryz.prog 431 = some 1 := by kernel_rfl
theorem by431 : byT Tryz.prog 431 = some 24 := by kernel_rfl
theorem ag431 : aggT Tryz.prog 431 = some false := by kernel_rfl
theorem el431 : elT Tryz.prog 431 = some 417 := by kernel_rfl
theorem ze431 : zeroT Tryz.prog 431 = some [.slice none 0 0] := by kernel_rfl
theorem sz433 : szT Tryz.prog 433 = some 9 := by kernel_rfl
theorem by433 : byT Tryz.prog 433 = some 128 := by kernel_rfl
theorem ag433 : aggT Tryz.prog 433 = some true := by kernel_rfl
theorem fl433_0 : fldT Tryz.prog 433 0 = some (0, 1, false) := by kernel_rfl
theorem fl433_1 : fldT Tryz.prog 433 1 = some (1, 1, false) := by kernel_rfl
theorem fl433_2 : fldT Tryz.prog 433 2 = some (2, 5, true) := by kernel_rfl
theorem fl433_3 : fldT Tryz.prog 433 3 = some (7, 1, false) := by kernel_rfl
theorem fl433_4 : fldT Tryz.prog 433 4 = some (8, 1, false) := by kernel_rfl
theorem st433 : stT Tryz.prog 433 = some [(0, 1), (1, 1), (2, 5), (7, 1), (8, 1)] := by kernel_rfl
theorem ze433 : zeroT Tryz.prog 433 = some [.int .i64 0, .int .i64 0, .int .i64 0, .int .i64 0, .string ⟨#[]⟩, .slice none 0 0, .slice none 0 0, .slice none 0 0, .nilFunc] := by kernel_rfl
theorem sz435 : szT Tryz.prog 435 = some 10 := by kernel_rfl
theorem by435 : byT Tryz.prog 435 = some 152 := by kernel_rfl
theorem ag435 : aggT Tryz.prog 435 = some true := by kernel_rfl
theorem fl435_0 : fldT Tryz.prog 435 0 = some (0, 9, true) := by kernel_rfl
theorem fl435_1 : fldT Tryz.prog 435 1 = some (9, 1, false) := by kernel_rfl
theorem st435 : stT Tryz.prog 435 = some [(0, 9), (9, 1)] := by kernel_rfl
theorem ze435 : zeroT Tryz.prog 435 = some [.int .i64 0, .int .i64 0, .int .i64 0, .int .i64 0, .string ⟨#[]⟩, .slice none 0 0, .slice none 0 0, .slice none 0 0, .nilFunc, .slice none 0 0] := by kernel_rfl
theorem sz447 : szT Tryz.prog 447 = some 7 := by kernel_rfl
theorem by447 : byT Tryz.prog 447 = some 112 := by kernel_rfl
theorem ag447 : aggT Tryz.prog 447 = some true := by kernel_rfl
theorem fl447_0 : fldT Tryz.prog 447 0 = some (0, 5, true) := by kernel_rfl
theorem fl447_1 : fldT Tryz.prog 447 1 = some (5, 1, false) := by kernel_rfl
theorem fl447_2 : fldT Tryz.prog 447 2 = some (6, 1, false) := by kernel_rfl
theorem st447 : stT Tryz.prog 447 = some [(0, 5), (5, 1), (6, 1)] := by kernel_rfl
theorem ze447 : zeroT Tryz.prog 447 = some [.int .i64 0, .int .i64 0, .string ⟨#[]⟩, .slice none 0 0, .slice none 0 0, .slice none 0 0, .int .i64 0] := by kernel_rfl
theorem sz463 : szT Tryz.prog 463 = some 1 := by kernel_rfl
theorem by463 : byT Tryz.prog 463 = some 8 := by kernel_rfl
theorem ag463 : aggT Tryz.prog 463 = some false := by kernel_rfl
theorem ze463 : zeroT Tryz.prog 463 = some [.nilFunc] := by kernel_rfl
theorem sz468 : szT Tryz.prog 468 = some 7 := by kernel_rfl
theorem by468 : byT Tryz.prog 468 = some 104 := by kernel_rfl
theorem ag468 : aggT Tryz.prog 468 = some true := by kernel_rfl
theorem fl468_0 : fldT Tryz.prog 468 0 = some (0, 5, true) := by kernel_rfl
theorem fl468_1 : fldT Tryz.prog 468 1 = some (5, 1, false) := by kernel_rfl
theorem fl468_2 : fldT Tryz.prog 468 2 = some (6, 1, false) := by kernel_rfl
theorem st468 : stT Tryz.prog 468 = some [(0, 5), (5, 1), (6, 1)] := by kernel_rfl
theorem ze468 : zeroT Tryz.prog 468 = some [.int .i64 0, .int .i64 0, .string ⟨#[]⟩, .slice none 0 0, .slice none 0 0, .pointer none, .nilIface] := by kernel_rfl
theorem sz475 : szT Tryz.prog 475 = some 1 := by kernel_rfl
theorem by475 : byT Tryz.prog 475 = some 8 := by kernel_rfl
theorem ag475 : aggT Tryz.prog 475 = some false := by kernel_rfl
theorem ze475 : zeroT Tryz.prog 475 = some [.nilFunc] := by kernel_rfl
theorem sz479 : szT Tryz.prog 479 = some 1 := by kernel_rfl
theorem by479 : byT Tryz.prog 479 = some 24 := by kernel_rfl
theorem ag479 : aggT Tryz.prog 479 = some true := by kernel_rfl
theorem fl479_0 : fldT Tryz.prog 479 0 = some (0, 1, false) := by kernel_rfl
theorem st479 : stT Tryz.prog 479 = some [(0, 1)] := by kernel_rfl
theorem ze479 : zeroT Tryz.prog 479 = some [.slice none 0 0] := by kernel_rfl
theorem sz482 : szT Tryz.prog 482 = some 1 := by kernel_rfl
theorem by482 : byT Tryz.prog 482 = some 8 := by kernel_rfl
theorem ag482 : aggT Tryz.prog 482 = some false := by kernel_rfl
theorem ze482 : zeroT Tryz.prog 482 = some [.pointer none] := by kernel_rfl
theorem sz483 : szT Tryz.prog 483 = some 1 := by kernel_rfl
theorem by483 : byT Tryz.prog 483 = some 8 := by kernel_rfl
theorem ag483 : aggT Tryz.prog 483 = some false := by kernel_rfl
theorem ze483 : zeroT Tryz.prog 483 = some [.pointer none] := by kernel_rfl
theorem sz484 : szT Tryz.prog 484 = some 1 := by kernel_rfl
theorem by484 : byT Tryz.prog 484 = some 24 := by kernel_rfl
theorem ag484 : aggT Tryz.prog 484 = some false := by kernel_rfl
theorem el484 : elT Tryz.prog 484 = some 489 := by kernel_rfl
theorem ze484 : zeroT Tryz.prog 484 = some [.slice none 0 0] := by kernel_rfl
theorem sz485 : szT Tryz.prog 485 = some 1 := by kernel_rfl
theorem by485 : byT Tryz.prog 485 = some 24 := by kernel_rfl
theorem ag485 : aggT Tryz.prog 485 = some false := by kernel_rfl
theorem el485 : elT Tryz.prog 485 = some 489 := by kernel_rfl
theorem ze485 : zeroT Tryz.prog 485 = some [.slice none 0 0] := by kernel_rfl
theorem sz487 : szT Tryz.prog 487 = some 4 := by kernel_rfl
theorem by487 : byT Tryz.prog 487 = some 80 := by kernel_rfl
theorem ag487 : aggT Tryz.prog 487 = some true := by kernel_rfl
theorem fl487_0 : fldT Tryz.prog 487 0 = some (0, 1, false) := by kernel_rfl
theorem fl487_1 : fldT Tryz.prog 487 1 = some (1, 1, false) := by kernel_rfl
theorem fl487_2 : fldT Tryz.prog 487 2 = some (2, 1, false) := by kernel_rfl
theorem fl487_3 : fldT Tryz.prog 487 3 = some (3, 1, false) := by kernel_rfl
theorem st487 : stT Tryz.prog 487 = some [(0, 1), (1, 1), (2, 1), (3, 1)] := by kernel_rfl
theorem ze487 : zeroT Tryz.prog 487 = some [.pointer none, .slice none 0 0, .slice none 0 0, .slice none 0 0] := by kernel_rfl
theorem sz489 : szT Tryz.prog 489 = some 10 := by kernel_rfl
theorem by489 : byT Tryz.prog 489 = some 160 := by kernel_rfl
theorem ag489 : aggT Tryz.prog 489 = some true := by kernel_rfl
theorem fl489_0 : fldT Tryz.prog 489 0 = some (0, 5, true) := by kernel_rfl
theorem fl489_1 : fldT Tryz.prog 489 1 = some (5, 5, true) := by kernel_rfl
theorem st489 : stT Tryz.prog 489 = some [(0, 5), (5, 5)] := by kernel_rfl
theorem ze489 : zeroT Tryz.prog 489 = some [.int .i64 0, .int .i64 0, .string ⟨#[]⟩, .slice none 0 0, .slice none 0 0, .int .i64 0, .int .i64 0, .string ⟨#[]⟩, .slice none 0 0, .slice none 0 0] := by kernel_rfl
theorem sz495 : szT Tryz.prog 495 = some 1 := by kernel_rfl
theorem by495 : byT Tryz.prog 495 = some 8 := by kernel_rfl
theorem ag495 : aggT Tryz.prog 495 = some false := by kernel_rfl
theorem ze495 : zeroT Tryz.prog 495 = some [.pointer none] := by kernel_rfl
theorem sz498 : szT Tryz.prog 498 = some 1 := by kernel_rfl
theorem by498 : byT Tryz.prog 498 = some 8 := by kernel_rfl
theorem ag498 : aggT Tryz.prog 498 = some false := by kernel_rfl
theorem ze498 : zeroT Tryz.prog 498 = some [.map none] := by kernel_rfl
theorem sz500 : szT Tryz.prog 500 = some 2 := by kernel_rfl
theorem by500 : byT Tryz.prog 500 = some 16 := by kernel_rfl
theorem ag500 : aggT Tryz.prog 500 = some true := by kernel_rfl
theorem fl500_0 : fldT Tryz.prog 500 0 = some (0, 1, false) := by kernel_rfl
theorem fl500_1 : fldT Tryz.prog 500 1 = some (1, 1, false) := by kernel_rfl
theorem st500 : stT Tryz.prog 500 = some [(0, 1), (1, 1)] := by kernel_rfl
theorem ze500 : zeroT Tryz.prog 500 = some [.map none, .int .i64 0] := by kernel_rfl
theorem sz508 : szT Tryz.prog 508 = some 1 := by kernel_rfl
theorem by508 : byT Tryz.prog 508 = some 8 := by kernel_rfl
theorem ag508 : aggT Tryz.prog 508 = some false := by kernel_rfl
theorem ze508 : zeroT Tryz.prog 508 = some [.nilFunc] := by kernel_rfl
theorem sz509 : szT Tryz.prog 509 = some 1 := by kernel_rfl
theorem by509 : byT Tryz.prog 509 = some 8 := by kernel_rfl
theorem ag509 : aggT Tryz.prog 509 = some false := by kernel_rfl
theorem ze509 : zeroT Tryz.prog 509 = some [.map none] := by kernel_rfl
theorem sz512 : szT Tryz.prog 512 = some 1 := by kernel_rfl
theorem by512 : byT Tryz.prog 512 = some 8 := by kernel_rfl
theorem ag512 : aggT Tryz.prog 512 = some false := by kernel_rfl
theorem ze512 : zeroT Tryz.prog 512 = some [.int .i64 0] := by kernel_rfl
theorem sz519 : szT Tryz.prog 519 = some 4 := by kernel_rfl
theorem by519 : byT Tryz.prog 519 = some 80 := by kernel_rfl
theorem ag519 : aggT Tryz.prog 519 = some true := by kernel_rfl
theorem fl519_0 : fldT Tryz.prog 519 0 = some (0, 1, false) := by kernel_rfl
theorem fl519_1 : fldT Tryz.prog 519 1 = some (1, 1, false) := by kernel_rfl
theorem fl519_2 : fldT Tryz.prog 519 2 = some (2, 1, false) := by kernel_rfl
theorem fl519_3 : fldT Tryz.prog 519 3 = some (3, 1, false) := by kernel_rfl
theorem st519 : stT Tryz.prog 519 = some [(0, 1), (1, 1), (2, 1), (3, 1)] := by kernel_rfl
theorem ze519 : zeroT Tryz.prog 519 = some [.string ⟨#[]⟩, .string ⟨#[]⟩, .slice none 0 0, .slice none 0 0] := by kernel_rfl
theorem sz525 : szT Tryz.prog 525 = some 1 := by kernel_rfl
theorem by525 : byT Tryz.prog 525 = some 8 := by kernel_rfl
theorem ag525 : aggT Tryz.prog 525 = some false := by kernel_rfl
theorem ze525 : zeroT Tryz.prog 525 = some [.nilFunc] := by kernel_rfl
theorem sz530 : szT Tryz.prog 530 = some 1 := by kernel_rfl
theorem by530 : byT Tryz.prog 530 = some 8 := by kernel_rfl
theorem ag530 : aggT Tryz.prog 530 = some false := by kernel_rfl
theorem ze530 : zeroT Tryz.prog 530 = some [.int .u64 0] := by kernel_rfl
theorem sz534 : szT Tryz.prog 534 = some 1 := by kernel_rfl
theorem by534 : byT Tryz.prog 534 = some 8 := by kernel_rfl
theorem ag534 : aggT Tryz.prog 534 = some false := by kernel_rfl
theorem ze534 : zeroT Tryz.prog 534 = some [.nilFunc] := by kernel_rfl
theorem sz535 : szT Tryz.prog 535 = some 13 := by kernel_rfl
theorem by535 : byT Tryz.prog 535 = some 104 := by kernel_rfl
theorem ag535 : aggT Tryz.prog 535 = some true := by kernel_rfl
theorem el535 : elT Tryz.prog 535 = none := by kernel_rfl
theorem ar535 : arT Tryz.prog 535 = some (13, 534) := by kernel_rfl
theorem ze535 : zeroT Tryz.prog 535 = some [.nilFunc, .nilFunc, .nilFunc, .nilFunc, .nilFunc, .nilFunc, .nilFunc, .nilFunc, .nilFunc, .nilFunc, .nilFunc, .nilFunc, .nilFunc] := by kernel_rfl
theorem sz542 : szT Tryz.prog 542 = some 1 := by kernel_rfl
theorem by542 : byT Tryz.prog 542 = some 8 := by kernel_rfl
theorem ag542 : aggT Tryz.prog 542 = some false := by kernel_rfl
theorem ze542 : zeroT Tryz.prog 542 = some [.int .i64 0] := by kernel_rfl
theorem sz550 : szT Tryz.prog 550 = some 1 := by kernel_rfl
theorem by550 : byT Tryz.prog 550 = some 4 := by kernel_rfl
theorem ag550 : aggT Tryz.prog 550 = some false := by kernel_rfl
theorem ze550 : zeroT Tryz.prog 550 = some [.int .u32 0] := by kernel_rfl
theorem sz552 : szT Tryz.prog 552 = some 1 := by kernel_rfl
theorem by552 : byT Tryz.prog 552 = some 8 := by kernel_rfl
theorem ag552 : aggT Tryz.prog 552 = some false := by kernel_rfl
theorem ze552 : zeroT Tryz.prog 552 = some [.int .u64 0] := by kernel_rfl
theorem sz557 : szT Tryz.prog 557 = some 1 := by kernel_rfl
theorem by557 : byT Tryz.prog 557 = some 8 := by kernel_rfl
theorem ag557 : aggT Tryz.prog 557 = some false := by kernel_rfl
theorem ze557 : zeroT Tryz.prog 557 = some [.nilFunc] := by kernel_rfl
theorem sz561 : szT Tryz.prog 561 = some 1 := by kernel_rfl
theorem by561 : byT Tryz.prog 561 = some 8 := by kernel_rfl
theorem ag561 : aggT Tryz.prog 561 = some false := by kernel_rfl
theorem ze561 : zeroT Tryz.prog 561 = some [.int .u64 0] := by kernel_rfl
theorem sz565 : szT Tryz.prog 565 = some 1 := by kernel_rfl
theorem by565 : byT Tryz.prog 565 = some 8 := by kernel_rfl
theorem ag565 : aggT Tryz.prog 565 = some false := by kernel_rfl
theorem ze565 : zeroT Tryz.prog 565 = some [.pointer none] := by kernel_rfl
theorem sz574 : szT Tryz.prog 574 = some 1 := by kernel_rfl
theorem by574 : byT Tryz.prog 574 = some 8 := by kernel_rfl
theorem ag574 : aggT Tryz.prog 574 = some false := by kernel_rfl
theorem ze574 : zeroT Tryz.prog 574 = some [.nilFunc] := by kernel_rfl
theorem sz575 : szT Tryz.prog 575 = some 1 := by kernel_rfl
theorem by575 : byT Tryz.prog 575 = some 8 := by kernel_rfl
theorem ag575 : aggT Tryz.prog 575 = some false := by kernel_rfl
theorem ze575 : zeroT Tryz.prog 575 = some [.nilFunc] := by kernel_rfl
theorem sz581 : szT Tryz.prog 581 = some 1 := by kernel_rfl
theorem by581 : byT Tryz.prog 581 = some 8 := by kernel_rfl
theorem ag581 : aggT Tryz.prog 581 = some false := by kernel_rfl
theorem ze581 : zeroT Tryz.prog 581 = some [.pointer none] := by kernel_rfl
theorem sz586 : szT Tryz.prog 586 = some 1 := by kernel_rfl
theorem by586 : byT Tryz.prog 586 = some 24 := by kernel_rfl
theorem ag586 : aggT Tryz.prog 586 = some false := by kernel_rfl
theorem el586 : elT Tryz.prog 586 = some 24 := by kernel_rfl
theorem ze586 : zeroT Tryz.prog 586 = some [.slice none 0 0] := by kernel_rfl
theorem sz588 : szT Tryz.prog 588 = some 13 := by kernel_rfl
theorem by588 : byT Tryz.prog 588 = some 104 := by kernel_rfl
theorem ag588 : aggT Tryz.prog 588 = some true := by kernel_rfl
theorem el588 : elT Tryz.prog 588 = none := by kernel_rfl
theorem ar588 : arT Tryz.prog 588 = some (13, 58) := by kernel_rfl
theorem ze588 : zeroT Tryz.prog 588 = some [.nilFunc, .nilFunc, .nilFunc, .nilFunc, .nilFunc, .nilFunc, .nilFunc, .nilFunc, .nilFunc, .nilFunc, .nilFunc, .nilFunc, .nilFunc] := by kernel_rfl
theorem sz590 : szT Tryz.prog 590 = some 13 := by kernel_rfl
theorem by590 : byT Tryz.prog 590 = some 104 := by kernel_rfl
theorem ag590 : aggT Tryz.prog 590 = some true := by kernel_rfl
theorem fl590_0 : fldT Tryz.prog 590 0 = some (0, 13, true) := by kernel_rfl
theorem st590 : stT Tryz.prog 590 = some [(0, 13)] := by kernel_rfl
theorem ze590 : zeroT Tryz.prog 590 = some [.nilFunc, .nilFunc, .nilFunc, .nilFunc, .nilFunc, .nilFunc, .nilFunc, .nilFunc, .nilFunc, .nilFunc, .nilFunc, .nilFunc, .nilFunc] := by kernel_rfl
theorem sz615 : szT Tryz.prog 615 = some 1 := by kernel_rfl
theorem by615 : byT Tryz.prog 615 = some 24 := by kernel_rfl
theorem ag615 : aggT Tryz.prog 615 = some false := by kernel_rfl
theorem el615 : elT Tryz.prog 615 = some 431 := by kernel_rfl
theorem ze615 : zeroT Tryz.prog 615 = some [.slice none 0 0] := by kernel_rfl
theorem is1 : strT Tryz.prog 1 = false := by kernel_rfl
theorem ib1 : boolT Tryz.prog 1 = false := by kernel_rfl
theorem is3 : strT Tryz.prog 3 = false := by kernel_rfl
theorem ib3 : boolT Tryz.prog 3 = false := by kernel_rfl
theorem is4 : strT Tryz.prog 4 = false := by kernel_rfl
theorem ib4 : boolT Tryz.prog 4 = true := by kernel_rfl
theorem is5 : strT Tryz.prog 5 = false := by kernel_rfl
theorem ib5 : boolT Tryz.prog 5 = false := by kernel_rfl
theorem is9 : strT Tryz.prog 9 = true := by kernel_rfl
theorem ib9 : boolT Tryz.prog 9 = false := by kernel_rfl
theorem is20 : strT Tryz.prog 20 = false := by kernel_rfl
theorem ib20 : boolT Tryz.prog 20 = false := by kernel_rfl
theorem is22 : strT Tryz.prog 22 = false := by kernel_rfl
theorem ib22 : boolT Tryz.prog 22 = false := by kernel_rfl
theorem is23 : strT Tryz.prog 23 = false := by kernel_rfl
theorem ib23 : boolT Tryz.prog 23 = false := by kernel_rfl
theorem is24 : strT Tryz.prog 24 = false := by kernel_rfl
theorem ib24 : boolT Tryz.prog 24 = false := by kernel_rfl
theorem is26 : strT Tryz.prog 26 = false := by kernel_rfl
theorem ib26 : boolT Tryz.prog 26 = false := by kernel_rfl
theorem is28 : strT Tryz.prog 28 = false := by kernel_rfl
theorem ib28 : boolT Tryz.prog 28 = false := by kernel_rfl
theorem is29 : strT Tryz.prog 29 = false := by kernel_rfl
theorem ib29 : boolT Tryz.prog 29 = false := by kernel_rfl
theorem is32 : strT Tryz.prog 32 = false := by kernel_rfl
theorem ib32 : boolT Tryz.prog 32 = false := by kernel_rfl
theorem is34 : strT Tryz.prog 34 = false := by kernel_rfl
theorem ib34 : boolT Tryz.prog 34 = false := by kernel_rfl
theorem is36 : strT Tryz.prog 36 = false := by kernel_rfl
theorem ib36 : boolT Tryz.prog 36 = false := by kernel_rfl
theorem is37 : strT Tryz.prog 37 = false := by kernel_rfl
theorem ib37 : boolT Tryz.prog 37 = false := by kernel_rfl
theorem is38 : strT Tryz.prog 38 = false := by kernel_rfl
theorem ib38 : boolT Tryz.prog 38 = false := by kernel_rfl
theorem is41 : strT Tryz.prog 41 = false := by kernel_rfl
theorem ib41 : boolT Tryz.prog 41 = false := by kernel_rfl
theorem is45 : strT Tryz.prog 45 = false := by kernel_rfl
theorem ib45 : boolT Tryz.prog 45 = false := by kernel_rfl
theorem is54 : strT Tryz.prog 54 = false := by kernel_rfl
theorem ib54 : boolT Tryz.prog 54 = false := by kernel_rfl
theorem is58 : strT Tryz.prog 58 = false := by kernel_rfl
theorem ib58 : boolT Tryz.prog 58 = false := by kernel_rfl
theorem is82 : strT Tryz.prog 82 = false := by kernel_rfl
theorem ib82 : boolT Tryz.prog 82 = false := by kernel_rfl
theorem is86 : strT Tryz.prog 86 = false := by kernel_rfl
theorem ib86 : boolT Tryz.prog 86 = false := by kernel_rfl
theorem is91 : strT Tryz.prog 91 = false := by kernel_rfl
theorem ib91 : boolT Tryz.prog 91 = false := by kernel_rfl
theorem is92 : strT Tryz.prog 92 = false := by kernel_rfl
theorem ib92 : boolT Tryz.prog 92 = false := by kernel_rfl
theorem is94 : strT Tryz.prog 94 = false := by kernel_rfl
theorem ib94 : boolT Tryz.prog 94 = false := by kernel_rfl
theorem is97 : strT Tryz.prog 97 = false := by kernel_rfl
theorem ib97 : boolT Tryz.prog 97 = false := by kernel_rfl
theorem is99 : strT Tryz.prog 99 = false := by kernel_rfl
theorem ib99 : boolT Tryz.prog 99 = false := by kernel_rfl
theorem is100 : strT Tryz.prog 100 = false := by kernel_rfl
theorem ib100 : boolT Tryz.prog 100 = false := by kernel_rfl
theorem is103 : strT Tryz.prog 103 = false := by kernel_rfl
theorem ib103 : boolT Tryz.prog 103 = false := by kernel_rfl
theorem is105 : strT Tryz.prog 105 = false := by kernel_rfl
theorem ib105 : boolT Tryz.prog 105 = false := by kernel_rfl
theorem is107 : strT Tryz.prog 107 = false := by kernel_rfl
theorem ib107 : boolT Tryz.prog 107 = false := by kernel_rfl
theorem is117 : strT Tryz.prog 117 = false := by kernel_rfl
theorem ib117 : boolT Tryz.prog 117 = false := by kernel_rfl
theorem is120 : strT Tryz.prog 120 = false := by kernel_rfl
theorem ib120 : boolT Tryz.prog 120 = false := by kernel_rfl
theorem is122 : strT Tryz.prog 122 = false := by kernel_rfl
theorem ib122 : boolT Tryz.prog 122 = false := by kernel_rfl
theorem is124 : strT Tryz.prog 124 = false := by kernel_rfl
theorem ib124 : boolT Tryz.prog 124 = false := by kernel_rfl
theorem is125 : strT Tryz.prog 125 = false := by kernel_rfl
theorem ib125 : boolT Tryz.prog 125 = false := by kernel_rfl
theorem is126 : strT Tryz.prog 126 = false := by kernel_rfl
theorem ib126 : boolT Tryz.prog 126 = false := by kernel_rfl
theorem is128 : strT Tryz.prog 128 = false := by kernel_rfl
theorem ib128 : boolT Tryz.prog 128 = false := by kernel_rfl
theorem is129 : strT Tryz.prog 129 = false := by kernel_rfl
theorem ib129 : boolT Tryz.prog 129 = false := by kernel_rfl
theorem is131 : strT Tryz.prog 131 = false := by kernel_rfl
theorem ib131 : boolT Tryz.prog 131 = false := by kernel_rfl
theorem is134 : strT Tryz.prog 134 = false := by kernel_rfl
theorem ib134 : boolT Tryz.prog 134 = false := by kernel_rfl
theorem is141 : strT Tryz.prog 141 = false := by kernel_rfl
theorem ib141 : boolT Tryz.prog 141 = false := by kernel_rfl
theorem is144 : strT Tryz.prog 144 = false := by kernel_rfl
theorem ib144 : boolT Tryz.prog 144 = false := by kernel_rfl
theorem is146 : strT Tryz.prog 146 = false := by kernel_rfl
theorem ib146 : boolT Tryz.prog 146 = false := by kernel_rfl
theorem is148 : strT Tryz.prog 148 = false := by kernel_rfl
theorem ib148 : boolT Tryz.prog 148 = false := by kernel_rfl
theorem is153 : strT Tryz.prog 153 = false := by kernel_rfl
theorem ib153 : boolT Tryz.prog 153 = false := by kernel_rfl
theorem is156 : strT Tryz.prog 156 = false := by kernel_rfl
theorem ib156 : boolT Tryz.prog 156 = false := by kernel_rfl
theorem is157 : strT Tryz.prog 157 = false := by kernel_rfl
theorem ib157 : boolT Tryz.prog 157 = false := by kernel_rfl
theorem is159 : strT Tryz.prog 159 = false := by kernel_rfl
theorem ib159 : boolT Tryz.prog 159 = false := by kernel_rfl
theorem is169 : strT Tryz.prog 169 = false := by kernel_rfl
theorem ib169 : boolT Tryz.prog 169 = false := by kernel_rfl
theorem is173 : strT Tryz.prog 173 = false := by kernel_rfl
theorem ib173 : boolT Tryz.prog 173 = false := by kernel_rfl
theorem is176 : strT Tryz.prog 176 = false := by kernel_rfl
theorem ib176 : boolT Tryz.prog 176 = false := by kernel_rfl
theorem is182 : strT Tryz.prog 182 = false := by kernel_rfl
theorem ib182 : boolT Tryz.prog 182 = false := by kernel_rfl
theorem is183 : strT Tryz.prog 183 = false := by kernel_rfl
theorem ib183 : boolT Tryz.prog 183 = false := by kernel_rfl
theorem is185 : strT Tryz.prog 185 = false := by kernel_rfl
theorem ib185 : boolT Tryz.prog 185 = false := by kernel_rfl
theorem is187 : strT Tryz.prog 187 = false := by kernel_rfl
theorem ib187 : boolT Tryz.prog 187 = false := by kernel_rfl
theorem is190 : strT Tryz.prog 190 = false := by kernel_rfl
theorem ib190 : boolT Tryz.prog 190 = false := by kernel_rfl
theorem is191 : strT Tryz.prog 191 = false := by kernel_rfl
theorem ib191 : boolT Tryz.prog 191 = false := by kernel_rfl
theorem is195 : strT Tryz.prog 195 = false := by kernel_rfl
theorem ib195 : boolT Tryz.prog 195 = false := by kernel_rfl
theorem is197 : strT Tryz.prog 197 = false := by kernel_rfl
theorem ib197 : boolT Tryz.prog 197 = false := by kernel_rfl
theorem is209 : strT Tryz.prog 209 = false := by kernel_rfl
theorem ib209 : boolT Tryz.prog 209 = false := by kernel_rfl
theorem is214 : strT Tryz.prog 214 = false := by kernel_rfl
theorem ib214 : boolT Tryz.prog 214 = false := by kernel_rfl
theorem is216 : strT Tryz.prog 216 = false := by kernel_rfl
theorem ib216 : boolT Tryz.prog 216 = false := by kernel_rfl
theorem is218 : strT Tryz.prog 218 = false := by kernel_rfl
theorem ib218 : boolT Tryz.prog 218 = false := by kernel_rfl
theorem is222 : strT Tryz.prog 222 = false := by kernel_rfl
theorem ib222 : boolT Tryz.prog 222 = false := by kernel_rfl
theorem is225 : strT Tryz.prog 225 = false := by kernel_rfl
theorem ib225 : boolT Tryz.prog 225 = false := by kernel_rfl
theorem is236 : strT Tryz.prog 236 = false := by kernel_rfl
theorem ib236 : boolT Tryz.prog 236 = false := by kernel_rfl
theorem is244 : strT Tryz.prog 244 = false := by kernel_rfl
theorem ib244 : boolT Tryz.prog 244 = false := by kernel_rfl
theorem is246 : strT Tryz.prog 246 = false := by kernel_rfl
theorem ib246 : boolT Tryz.prog 246 = false := by kernel_rfl
theorem is260 : strT Tryz.prog 260 = false := by kernel_rfl
theorem ib260 : boolT Tryz.prog 260 = false := by kernel_rfl
theorem is262 : strT Tryz.prog 262 = false := by kernel_rfl
theorem ib262 : boolT Tryz.prog 262 = false := by kernel_rfl
theorem is270 : strT Tryz.prog 270 = false := by kernel_rfl
theorem ib270 : boolT Tryz.prog 270 = false := by kernel_rfl
theorem is272 : strT Tryz.prog 272 = false := by kernel_rfl
theorem ib272 : boolT Tryz.prog 272 = false := by kernel_rfl
theorem is274 : strT Tryz.prog 274 = false := by kernel_rfl
theorem ib274 : boolT Tryz.prog 274 = false := by kernel_rfl
theorem is285 : strT Tryz.prog 285 = false := by kernel_rfl
theorem ib285 : boolT Tryz.prog 285 = false := by kernel_rfl
theorem is287 : strT Tryz.prog 287 = false := by kernel_rfl
theorem ib287 : boolT Tryz.prog 287 = false := by kernel_rfl
theorem is292 : strT Tryz.prog 292 = false := by kernel_rfl
theorem ib292 : boolT Tryz.prog 292 = false := by kernel_rfl
theorem is302 : strT Tryz.prog 302 = false := by kernel_rfl
theorem ib302 : boolT Tryz.prog 302 = false := by kernel_rfl
theorem is304 : strT Tryz.prog 304 = false := by kernel_rfl
theorem ib304 : boolT Tryz.prog 304 = false := by kernel_rfl
theorem is314 : strT Tryz.prog 314 = false := by kernel_rfl
theorem ib314 : boolT Tryz.prog 314 = false := by kernel_rfl
theorem is320 : strT Tryz.prog 320 = false := by kernel_rfl
theorem ib320 : boolT Tryz.prog 320 = false := by kernel_rfl
theorem is332 : strT Tryz.prog 332 = false := by kernel_rfl
theorem ib332 : boolT Tryz.prog 332 = false := by kernel_rfl
theorem is336 : strT Tryz.prog 336 = false := by kernel_rfl
theorem ib336 : boolT Tryz.prog 336 = false := by kernel_rfl
theorem is343 : strT Tryz.prog 343 = false := by kernel_rfl
theorem ib343 : boolT Tryz.prog 343 = false := by kernel_rfl
theorem is344 : strT Tryz.prog 344 = false := by kernel_rfl
theorem ib344 : boolT Tryz.prog 344 = false := by kernel_rfl
theorem is347 : strT Tryz.prog 347 = false := by kernel_rfl
theorem ib347 : boolT Tryz.prog 347 = false := by kernel_rfl
theorem is349 : strT Tryz.prog 349 = false := by kernel_rfl
theorem ib349 : boolT Tryz.prog 349 = false := by kernel_rfl
theorem is351 : strT Tryz.prog 351 = false := by kernel_rfl
theorem ib351 : boolT Tryz.prog 351 = false := by kernel_rfl
theorem is353 : strT Tryz.prog 353 = false := by kernel_rfl
theorem ib353 : boolT Tryz.prog 353 = false := by kernel_rfl
theorem is359 : strT Tryz.prog 359 = false := by kernel_rfl
theorem ib359 : boolT Tryz.prog 359 = false := by kernel_rfl
theorem is371 : strT Tryz.prog 371 = false := by kernel_rfl
theorem ib371 : boolT Tryz.prog 371 = false := by kernel_rfl
theorem is375 : strT Tryz.prog 375 = false := by kernel_rfl
theorem ib375 : boolT Tryz.prog 375 = false := by kernel_rfl
theorem is377 : strT Tryz.prog 377 = false := by kernel_rfl
theorem ib377 : boolT Tryz.prog 377 = false := by kernel_rfl
theorem is378 : strT Tryz.prog 378 = false := by kernel_rfl
theorem ib378 : boolT Tryz.prog 378 = false := by kernel_rfl
theorem is381 : strT Tryz.prog 381 = false := by kernel_rfl
theorem ib381 : boolT Tryz.prog 381 = false := by kernel_rfl
theorem is383 : strT Tryz.prog 383 = false := by kernel_rfl
theorem ib383 : boolT Tryz.prog 383 = false := by kernel_rfl
theorem is385 : strT Tryz.prog 385 = false := by kernel_rfl
theorem ib385 : boolT Tryz.prog 385 = false := by kernel_rfl
theorem is390 : strT Tryz.prog 390 = false := by kernel_rfl
theorem ib390 : boolT Tryz.prog 390 = false := by kernel_rfl
theorem is393 : strT Tryz.prog 393 = false := by kernel_rfl
theorem ib393 : boolT Tryz.prog 393 = false := by kernel_rfl
theorem is395 : strT Tryz.prog 395 = false := by kernel_rfl
theorem ib395 : boolT Tryz.prog 395 = false := by kernel_rfl
theorem is402 : strT Tryz.prog 402 = false := by kernel_rfl
theorem ib402 : boolT Tryz.prog 402 = false := by kernel_rfl
theorem is409 : strT Tryz.prog 409 = false := by kernel_rfl
theorem ib409 : boolT Tryz.prog 409 = false := by kernel_rfl
theorem is410 : strT Tryz.prog 410 = false := by kernel_rfl
theorem ib410 : boolT Tryz.prog 410 = false := by kernel_rfl
theorem is412 : strT Tryz.prog 412 = false := by kernel_rfl
theorem ib412 : boolT Tryz.prog 412 = false := by kernel_rfl
theorem is414 : strT Tryz.prog 414 = false := by kernel_rfl
theorem ib414 : boolT Tryz.prog 414 = false := by kernel_rfl
theorem is417 : strT Tryz.prog 417 = false := by kernel_rfl
theorem ib417 : boolT Tryz.prog 417 = false := by kernel_rfl
theorem is419 : strT Tryz.prog 419 = false := by kernel_rfl
theorem ib419 : boolT Tryz.prog 419 = false := by kernel_rfl
theorem is420 : strT Tryz.prog 420 = false := by kernel_rfl
theorem ib420 : boolT Tryz.prog 420 = false := by kernel_rfl
theorem is423 : strT Tryz.prog 423 = false := by kernel_rfl
theorem ib423 : boolT Tryz.prog 423 = false := by kernel_rfl
theorem is425 : strT Tryz.prog 425 = false := by kernel_rfl
theorem ib425 : boolT Tryz.prog 425 = false := by kernel_rfl
theorem is426 : strT Tryz.prog 426 = false := by kernel_rfl
theorem ib426 : boolT Tryz.prog 426 = false := by kernel_rfl
theorem is428 : strT Tryz.prog 428 = false := by kernel_rfl
theorem ib428 : boolT Tryz.prog 428 = false := by kernel_rfl
theorem is430 : strT Tryz.prog 430 = false := by kernel_rfl
theorem ib430 : boolT Tryz.prog 430 = false := by kernel_rfl
theorem is431 : strT Tryz.prog 431 = false := by kernel_rfl
theorem ib431 : boolT Tryz.prog 431 = false := by kernel_rfl
theorem is433 : strT Tryz.prog 433 = false := by kernel_rfl
theorem ib433 : boolT Tryz.prog 433 = false := by kernel_rfl
theorem is435 : strT Tryz.prog 435 = false := by kernel_rfl
theorem ib435 : boolT Tryz.prog 435 = false := by kernel_rfl
theorem is447 : strT Tryz.prog 447 = false := by kernel_rfl
theorem ib447 : boolT Tryz.prog 447 = false := by kernel_rfl
theorem is463 : strT Tryz.prog 463 = false := by kernel_rfl
theorem ib463 : boolT Tryz.prog 463 = false := by kernel_rfl
theorem is468 : strT Tryz.prog 468 = false := by kernel_rfl
theorem ib468 : boolT Tryz.prog 468 = false := by kernel_rfl
theorem is475 : strT Tryz.prog 475 = false := by kernel_rfl
theorem ib475 : boolT Tryz.prog 475 = false := by kernel_rfl
theorem is479 : strT Tryz.prog 479 = false := by kernel_rfl
theorem ib479 : boolT Tryz.prog 479 = false := by kernel_rfl
theorem is482 : strT Tryz.prog 482 = false := by kernel_rfl
theorem ib482 : boolT Tryz.prog 482 = false := by kernel_rfl
theorem is483 : strT Tryz.prog 483 = false := by kernel_rfl
theorem ib483 : boolT Tryz.prog 483 = false := by kernel_rfl
theorem is484 : strT Tryz.prog 484 = false := by kernel_rfl
theorem ib484 : boolT Tryz.prog 484 = false := by kernel_rfl
theorem is485 : strT Tryz.prog 485 = false := by kernel_rfl
theorem ib485 : boolT Tryz.prog 485 = false := by kernel_rfl
theorem is487 : strT Tryz.prog 487 = false := by kernel_rfl
theorem ib487 : boolT Tryz.prog 487 = false := by kernel_rfl
theorem is489 : strT Tryz.prog 489 = false := by kernel_rfl
theorem ib489 : boolT Tryz.prog 489 = false := by kernel_rfl
theorem is495 : strT Tryz.prog 495 = false := by kernel_rfl
theorem ib495 : boolT Tryz.prog 495 = false := by kernel_rfl
theorem is498 : strT Tryz.prog 498 = false := by kernel_rfl
theorem ib498 : boolT Tryz.prog 498 = false := by kernel_rfl
theorem is500 : strT Tryz.prog 500 = false := by kernel_rfl
theorem ib500 : boolT Tryz.prog 500 = false := by kernel_rfl
theorem is508 : strT Tryz.prog 508 = false := by kernel_rfl
theorem ib508 : boolT Tryz.prog 508 = false := by kernel_rfl
theorem is509 : strT Tryz.prog 509 = false := by kernel_rfl
theorem ib509 : boolT Tryz.prog 509 = false := by kernel_rfl
theorem is512 : strT Tryz.prog 512 = false := by kernel_rfl
theorem ib512 : boolT Tryz.prog 512 = false := by kernel_rfl
theorem is519 : strT Tryz.prog 519 = false := by kernel_rfl
theorem ib519 : boolT Tryz.prog 519 = false := by kernel_rfl
theorem is525 : strT Tryz.prog 525 = false := by kernel_rfl
theorem ib525 : boolT Tryz.prog 525 = false := by kernel_rfl
theorem is530 : strT Tryz.prog 530 = false := by kernel_rfl
theorem ib530 : boolT Tryz.prog 530 = false := by kernel_rfl
theorem is534 : strT Tryz.prog 534 = false := by kernel_rfl
theorem ib534 : boolT Tryz.prog 534 = false := by kernel_rfl
theorem is535 : strT Tryz.prog 535 = false := by kernel_rfl
theorem ib535 : boolT Tryz.prog 535 = false := by kernel_rfl
theorem is542 : strT Tryz.prog 542 = false := by kernel_rfl
theorem ib542 : boolT Tryz.prog 542 = false := by kernel_rfl
theorem is550 : strT Tryz.prog 550 = false := by kernel_rfl
theorem ib550 : boolT Tryz.prog 550 = false := by kernel_rfl
theorem is552 : strT Tryz.prog 552 = false := by kernel_rfl
theorem ib552 : boolT Tryz.prog 552 = false := by kernel_rfl
theorem is557 : strT Tryz.prog 557 = false := by kernel_rfl
theorem ib557 : boolT Tryz.prog 557 = false := by kernel_rfl
theorem is561 : strT Tryz.prog 561 = false := by kernel_rfl
theorem ib561 : boolT Tryz.prog 561 = false := by kernel_rfl
theorem is565 : strT Tryz.prog 565 = false := by kernel_rfl
theorem ib565 : boolT Tryz.prog 565 = false := by kernel_rfl
theorem is574 : strT Tryz.prog 574 = false := by kernel_rfl
theorem ib574 : boolT Tryz.prog 574 = false := by kernel_rfl
theorem is575 : strT Tryz.prog 575 = false := by kernel_rfl
theorem ib575 : boolT Tryz.prog 575 = false := by kernel_rfl
theorem is581 : strT Tryz.prog 581 = false := by kernel_rfl
theorem ib581 : boolT Tryz.prog 581 = false := by kernel_rfl
theorem is586 : strT Tryz.prog 586 = false := by kernel_rfl
theorem ib586 : boolT Tryz.prog 586 = false := by kernel_rfl
theorem is588 : strT Tryz.prog 588 = false := by kernel_rfl
theorem ib588 : boolT Tryz.prog 588 = false := by kernel_rfl
theorem is590 : strT Tryz.prog 590 = false := by kernel_rfl
theorem ib590 : boolT Tryz.prog 590 = false := by kernel_rfl
theorem is615 : strT Tryz.prog 615 = false := by kernel_rfl
theorem ib615 : boolT Tryz.prog 615 = false := by kernel_rfl

attribute [simp] sz1 by1 ag1 ze1 sz3 by3 ag3 ze3 sz4 by4 ag4 ze4 sz5 by5 ag5 ze5 sz9 by9 ag9 ze9 sz20 by20 ag20 ze20 sz22 by22 ag22 el22 ze22 sz23 by23 ag23 el23 ze23 sz24 by24 ag24 el24 ze24 sz26 by26 ag26 fl26_0 fl26_1 fl26_2 fl26_3 fl26_4 st26 ze26 sz28 by28 ag28 fl28_0 fl28_1 st28 ze28 sz29 by29 ag29 el29 ze29 sz32 by32 ag32 ze32 sz34 by34 ag34 el34 ze34 sz36 by36 ag36 fl36_0 fl36_1 fl36_2 fl36_3 st36 ze36 sz37 by37 ag37 el37 ze37 sz38 by38 ag38 el38 ze38 sz41 by41 ag41 ze41 sz45 by45 ag45 fl45_0 fl45_1 fl45_2 fl45_3 fl45_4 st45 ze45 sz54 by54 ag54 fl54_0 fl54_1 st54 ze54 sz58 by58 ag58 ze58 sz82 by82 ag82 ze82 sz86 by86 ag86 fl86_0 fl86_1 fl86_2 st86 ze86 sz91 by91 ag91 fl91_0 fl91_1 fl91_2 st91 ze91 sz92 by92 ag92 el92 ze92 sz94 by94 ag94 fl94_0 fl94_1 fl94_2 fl94_3 st94 ze94 sz97 by97 ag97 ze97 sz99 by99 ag99 fl99_0 fl99_1 fl99_2 fl99_3 fl99_4 fl99_5 fl99_6 fl99_7 st99 ze99 sz100 by100 ag100 el100 ze100 sz103 by103 ag103 fl103_0 fl103_1 fl103_2 st103 ze103 sz105 by105 ag105 ze105 sz107 by107 ag107 fl107_0 fl107_1 fl107_2 fl107_3 fl107_4 fl107_5 fl107_6 st107 ze107 sz117 by117 ag117 ze117 sz120 by120 ag120 el120 ze120 sz122 by122 ag122 fl122_0 fl122_1 st122 ze122 sz124 by124 ag124 fl124_0 fl124_1 st124 ze124 sz125 by125 ag125 ze125 sz126 by126 ag126 el126 ze126 sz128 by128 ag128 fl128_0 fl128_1 fl128_2 st128 ze128 sz129 by129 ag129 el129 ze129 sz131 by131 ag131 fl131_0 fl131_1 fl131_2 fl131_3 fl131_4 fl131_5 fl131_6 fl131_7 fl131_8 st131 ze131 sz134 by134 ag134 fl134_0 fl134_1 st134 ze134 sz141 by141 ag141 ze141 sz144 by144 ag144 fl144_0 st144 ze144 sz146 by146 ag146 sz148 by148 ag148 fl148_0 st148 ze148 sz153 by153 ag153 ze153 sz156 by156 ag156 ze156 sz157 by157 ag157 ze157 sz159 by159 ag159 fl159_0 fl159_1 st159 ze159 sz169 by169 ag169 el169 ze169 sz173 by173 ag173 fl173_0 fl173_1 fl173_2 fl173_3 st173 ze173 sz176 by176 ag176 ze176 sz182 by182 ag182 el182 ze182 sz183 by183 ag183 el183 ze183 sz185 by185 ag185 fl185_0 fl185_1 st185 ze185 sz187 by187 ag187 fl187_0 fl187_1 st187 ze187 sz190 by190 ag190 ze190 sz191 by191 ag191 ze191 sz195 by195 ag195 ze195 sz197 by197 ag197 ze197 sz209 by209 ag209 ze209 sz214 by214 ag214 ze214 sz216 by216 ag216 fl216_0 fl216_1 st216 ze216 sz218 by218 ag218 ze218 sz222 by222 ag222 sz225 by225 ag225 fl225_0 fl225_1 st225 ze225 sz236 by236 ag236 ze236 sz244 by244 ag244 el244 ze244 sz246 by246 ag246 fl246_0 fl246_1 fl246_2 fl246_3 fl246_4 fl246_5 st246 ze246 sz260 by260 ag260 ze260 sz262 by262 ag262 ze262 sz270 by270 ag270 ze270 sz272 by272 ag272 ze272 sz274 by274 ag274 fl274_0 fl274_1 fl274_2 fl274_3 fl274_4 st274 ze274 sz285 by285 ag285 fl285_0 fl285_1 fl285_2 fl285_3 st285 ze285 sz287 by287 ag287 sz292 by292 ag292 ze292 sz302 by302 ag302 el302 ze302 sz304 by304 ag304 fl304_0 fl304_1 fl304_2 fl304_3 st304 ze304 sz314 by314 ag314 fl314_0 fl314_1 fl314_2 fl314_3 st314 ze314 sz320 by320 ag320 fl320_0 st320 ze320 sz332 by332 ag332 ze332 sz336 by336 ag336 el336 ze336 sz343 by343 ag343 ze343 sz344 by344 ag344 el344 ar344 ze344 sz347 by347 ag347 sz349 by349 ag349 ze349 sz351 by351 ag351 fl351_0 fl351_1 fl351_2 st351 ze351 sz353 by353 ag353 ze353 sz359 by359 ag359 fl359_0 fl359_1 fl359_2 st359 ze359 sz371 by371 ag371 fl371_0 fl371_1 fl371_2 st371 ze371 sz375 by375 ag375 ze375 sz377 by377 ag377 fl377_0 fl377_1 fl377_2 fl377_3 fl377_4 st377 ze377 sz378 by378 ag378 el378 ar378 ze378 sz381 by381 ag381 ze381 sz383 by383 ag383 ze383 sz385 by385 ag385 fl385_0 st385 ze385 sz390 by390 ag390 ze390 sz393 by393 ag393 ze393 sz395 by395 ag395 fl395_0 fl395_1 fl395_2 fl395_3 fl395_4 fl395_5 st395 ze395 sz402 by402 ag402 ze402 sz409 by409 ag409 ze409 sz410 by410 ag410 ze410 sz412 by412 ag412 fl412_0 st412 ze412 sz414 by414 ag414 ze414 sz417 by417 ag417 ze417 sz419 by419 ag419 ze419 sz420 by420 ag420 ze420 sz423 by423 ag423 fl423_0 fl423_1 st423 ze423 sz425 by425 ag425 fl425_0 fl425_1 st425 ze425 sz426 by426 ag426 ze426 sz428 by428 ag428 fl428_0 fl428_1 fl428_2 st428 ze428 sz430 by430 ag430 ze430 sz431 by431 ag431 el431 ze431 sz433 by433 ag433 fl433_0 fl433_1 fl433_2 fl433_3 fl433_4 st433 ze433 sz435 by435 ag435 fl435_0 fl435_1 st435 ze435 sz447 by447 ag447 fl447_0 fl447_1 fl447_2 st447 ze447 sz463 by463 ag463 ze463 sz468 by468 ag468 fl468_0 fl468_1 fl468_2 st468 ze468 sz475 by475 ag475 ze475 sz479 by479 ag479 fl479_0 st479 ze479 sz482 by482 ag482 ze482 sz483 by483 ag483 ze483 sz484 by484 ag484 el484 ze484 sz485 by485 ag485 el485 ze485 sz487 by487 ag487 fl487_0 fl487_1 fl487_2 fl487_3 st487 ze487 sz489 by489 ag489 fl489_0 fl489_1 st489 ze489 sz495 by495 ag495 ze495 sz498 by498 ag498 ze498 sz500 by500 ag500 fl500_0 fl500_1 st500 ze500 sz508 by508 ag508 ze508 sz509 by509 ag509 ze509 sz512 by512 ag512 ze512 sz519 by519 ag519 fl519_0 fl519_1 fl519_2 fl519_3 st519 ze519 sz525 by525 ag525 ze525 sz530 by530 ag530 ze530 sz534 by534 ag534 ze534 sz535 by535 ag535 el535 ar535 ze535 sz542 by542 ag542 ze542 sz550 by550 ag550 ze550 sz552 by552 ag552 ze552 sz557 by557 ag557 ze557 sz561 by561 ag561 ze561 sz565 by565 ag565 ze565 sz574 by574 ag574 ze574 sz575 by575 ag575 ze575 sz581 by581 ag581 ze581 sz586 by586 ag586 el586 ze586 sz588 by588 ag588 el588 ar588 ze588 sz590 by590 ag590 fl590_0 st590 ze590 sz615 by615 ag615 el615 ze615 is1 ib1 is3 ib3 is4 ib4 is5 ib5 is9 ib9 is20 ib20 is22 ib22 is23 ib23 is24 ib24 is26 ib26 is28 ib28 is29 ib29 is32 ib32 is34 ib34 is36 ib36 is37 ib37 is38 ib38 is41 ib41 is45 ib45 is54 ib54 is58 ib58 is82 ib82 is86 ib86 is91 ib91 is92 ib92 is94 ib94 is97 ib97 is99 ib99 is100 ib100 is103 ib103 is105 ib105 is107 ib107 is117 ib117 is120 ib120 is122 ib122 is124 ib124 is125 ib125 is126 ib126 is128 ib128 is129 ib129 is131 ib131 is134 ib134 is141 ib141 is144 ib144 is146 ib146 is148 ib148 is153 ib153 is156 ib156 is157 ib157 is159 ib159 is169 ib169 is173 ib173 is176 ib176 is182 ib182 is183 ib183 is185 ib185 is187 ib187 is190 ib190 is191 ib191 is195 ib195 is197 ib197 is209 ib209 is214 ib214 is216 ib216 is218 ib218 is222 ib222 is225 ib225 is236 ib236 is244 ib244 is246 ib246 is260 ib260 is262 ib262 is270 ib270 is272 ib272 is274 ib274 is285 ib285 is287 ib287 is292 ib292 is302 ib302 is304 ib304 is314 ib314 is320 ib320 is332 ib332 is336 ib336 is343 ib343 is344 ib344 is347 ib347 is349 ib349 is351 ib351 is353 ib353 is359 ib359 is371 ib371 is375 ib375 is377 ib377 is378 ib378 is381 ib381 is383 ib383 is385 ib385 is390 ib390 is393 ib393 is395 ib395 is402 ib402 is409 ib409 is410 ib410 is412 ib412 is414 ib414 is417 ib417 is419 ib419 is420 ib420 is423 ib423 is425 ib425 is426 ib426 is428 ib428 is430 ib430 is431 ib431 is433 ib433 is435 ib435 is447 ib447 is463 ib463 is468 ib468 is475 ib475 is479 ib479 is482 ib482 is483 ib483 is484 ib484 is485 ib485 is487 ib487 is489 ib489 is495 ib495 is498 ib498 is500 ib500 is508 ib508 is509 ib509 is512 ib512 is519 ib519 is525 ib525 is530 ib530 is534 ib534 is535 ib535 is542 ib542 is550 ib550 is552 ib552 is557 ib557 is561 ib561 is565 ib565 is574 ib574 is575 ib575 is581 ib581 is586 ib586 is588 ib588 is590 ib590 is615 ib615

end Go.Proofs.YtplomildbmcmfaaGreat
