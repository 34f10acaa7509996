import Derived.Test.YtfajdeofhioakaaGreatProg
import Derived.KernelRfl
import Derived.Test.YtfajdeofhioakaaGreatAFA

namespace Go.Proofs.YtfajdeofhioakaaGreat

open Go.AI
theorem sz1 : szT Tryz.prog 1 = some 1 := by kernel_rfl
theorem by1 : byT Tryz.prog 1 = some 8 := by kernel_rfl
theorem ag1 : aggT Tryz.prog 1 = some false := by kernel_rfl
theorem ze1 : zeroT Tryz.prog 1 = some [.nilFunc] := by kernel_rfl
theorem sz3 : szT Tryz.prog 3 = some 1 := by kernel_rfl
theorem by3 : byT Tryz.prog 3 = some 8 := by kernel_rfl
theorem ag3 : aggT Tryz.prog 3 = some false := by kernel_rfl
theorem ze3 : zeroT Tryz.prog 3 = some [.int .i64 0] := by kernel_rfl
theorem sz4 : szT Tryz.prog 4 = some 1 := by kernel_rfl
theorem by4 : byT Tryz.prog 4 = some 1 := by kernel_rfl
theorem ag4 : aggT Tryz.prog 4 = some false := by kernel_rfl
theorem ze4 : zeroT Tryz.prog 4 = some [.bool false] := by kernel_rfl
theorem sz5 : szT Tryz.prog 5 = some 1 := by kernel_rfl
theorem by5 : byT Tryz.prog 5 = some 1 := by kernel_rfl
theorem ag5 : aggT Tryz.prog 5 = some false := by kernel_rfl
theorem ze5 : zeroT Tryz.prog 5 = some [.int .u8 0] := by kernel_rfl
theorem sz9 : szT Tryz.prog 9 = some 1 := by kernel_rfl
theorem by9 : byT Tryz.prog 9 = some 16 := by kernel_rfl
theorem ag9 : aggT Tryz.prog 9 = some false := by kernel_rfl
theorem ze9 : zeroT Tryz.prog 9 = some [.string ⟨#[]⟩] := by kernel_rfl
theorem sz20 : szT Tryz.prog 20 = some 1 := by kernel_rfl
theorem by20 : byT Tryz.prog 20 = some 16 := by kernel_rfl
theorem ag20 : aggT Tryz.prog 20 = some false := by kernel_rfl
theorem ze20 : zeroT Tryz.prog 20 = some [.nilIface] := by kernel_rfl
theorem sz22 : szT Tryz.prog 22 = some 1 := by kernel_rfl
theorem by22 : byT Tryz.prog 22 = some 24 := by kernel_rfl
theorem ag22 : aggT Tryz.prog 22 = some false := by kernel_rfl
theorem el22 : elT Tryz.prog 22 = some 77 := by kernel_rfl
theorem ze22 : zeroT Tryz.prog 22 = some [.slice none 0 0] := by kernel_rfl
theorem sz23 : szT Tryz.prog 23 = some 1 := by kernel_rfl
theorem by23 : byT Tryz.prog 23 = some 24 := by kernel_rfl
theorem ag23 : aggT Tryz.prog 23 = some false := by kernel_rfl
theorem el23 : elT Tryz.prog 23 = some 25 := by kernel_rfl
theorem ze23 : zeroT Tryz.prog 23 = some [.slice none 0 0] := by kernel_rfl
theorem sz25 : szT Tryz.prog 25 = some 5 := by kernel_rfl
theorem by25 : byT Tryz.prog 25 = some 80 := by kernel_rfl
theorem ag25 : aggT Tryz.prog 25 = some true := by kernel_rfl
theorem fl25_0 : fldT Tryz.prog 25 0 = some (0, 1, false) := by kernel_rfl
theorem fl25_1 : fldT Tryz.prog 25 1 = some (1, 1, false) := by kernel_rfl
theorem fl25_2 : fldT Tryz.prog 25 2 = some (2, 1, false) := by kernel_rfl
theorem fl25_3 : fldT Tryz.prog 25 3 = some (3, 1, false) := by kernel_rfl
theorem fl25_4 : fldT Tryz.prog 25 4 = some (4, 1, false) := by kernel_rfl
theorem st25 : stT Tryz.prog 25 = some [(0, 1), (1, 1), (2, 1), (3, 1), (4, 1)] := by kernel_rfl
theorem ze25 : zeroT Tryz.prog 25 = some [.int .i64 0, .int .i64 0, .string ⟨#[]⟩, .slice none 0 0, .slice none 0 0] := by kernel_rfl
theorem sz26 : szT Tryz.prog 26 = some 1 := by kernel_rfl
theorem by26 : byT Tryz.prog 26 = some 8 := by kernel_rfl
theorem ag26 : aggT Tryz.prog 26 = some false := by kernel_rfl
theorem ze26 : zeroT Tryz.prog 26 = some [.nilFunc] := by kernel_rfl
theorem sz28 : szT Tryz.prog 28 = some 1 := by kernel_rfl
theorem by28 : byT Tryz.prog 28 = some 24 := by kernel_rfl
theorem ag28 : aggT Tryz.prog 28 = some false := by kernel_rfl
theorem el28 : elT Tryz.prog 28 = some 4 := by kernel_rfl
theorem ze28 : zeroT Tryz.prog 28 = some [.slice none 0 0] := by kernel_rfl
theorem sz30 : szT Tryz.prog 30 = some 8 := by kernel_rfl
theorem by30 : byT Tryz.prog 30 = some 152 := by kernel_rfl
theorem ag30 : aggT Tryz.prog 30 = some true := by kernel_rfl
theorem fl30_0 : fldT Tryz.prog 30 0 = some (0, 1, false) := by kernel_rfl
theorem fl30_1 : fldT Tryz.prog 30 1 = some (1, 1, false) := by kernel_rfl
theorem fl30_2 : fldT Tryz.prog 30 2 = some (2, 1, false) := by kernel_rfl
theorem fl30_3 : fldT Tryz.prog 30 3 = some (3, 5, true) := by kernel_rfl
theorem st30 : stT Tryz.prog 30 = some [(0, 1), (1, 1), (2, 1), (3, 5)] := by kernel_rfl
theorem ze30 : zeroT Tryz.prog 30 = some [.slice none 0 0, .slice none 0 0, .slice none 0 0, .int .i64 0, .int .i64 0, .string ⟨#[]⟩, .slice none 0 0, .slice none 0 0] := by kernel_rfl
theorem sz31 : szT Tryz.prog 31 = some 1 := by kernel_rfl
theorem by31 : byT Tryz.prog 31 = some 8 := by kernel_rfl
theorem ag31 : aggT Tryz.prog 31 = some false := by kernel_rfl
theorem ze31 : zeroT Tryz.prog 31 = some [.int .i64 0] := by kernel_rfl
theorem sz37 : szT Tryz.prog 37 = some 1 := by kernel_rfl
theorem by37 : byT Tryz.prog 37 = some 24 := by kernel_rfl
theorem ag37 : aggT Tryz.prog 37 = some false := by kernel_rfl
theorem el37 : elT Tryz.prog 37 = some 3 := by kernel_rfl
theorem ze37 : zeroT Tryz.prog 37 = some [.slice none 0 0] := by kernel_rfl
theorem sz49 : szT Tryz.prog 49 = some 1 := by kernel_rfl
theorem by49 : byT Tryz.prog 49 = some 8 := by kernel_rfl
theorem ag49 : aggT Tryz.prog 49 = some false := by kernel_rfl
theorem ze49 : zeroT Tryz.prog 49 = some [.nilFunc] := by kernel_rfl
theorem sz51 : szT Tryz.prog 51 = some 1 := by kernel_rfl
theorem by51 : byT Tryz.prog 51 = some 24 := by kernel_rfl
theorem ag51 : aggT Tryz.prog 51 = some false := by kernel_rfl
theorem el51 : elT Tryz.prog 51 = some 61 := by kernel_rfl
theorem ze51 : zeroT Tryz.prog 51 = some [.slice none 0 0] := by kernel_rfl
theorem sz53 : szT Tryz.prog 53 = some 1 := by kernel_rfl
theorem by53 : byT Tryz.prog 53 = some 24 := by kernel_rfl
theorem ag53 : aggT Tryz.prog 53 = some false := by kernel_rfl
theorem el53 : elT Tryz.prog 53 = some 65 := by kernel_rfl
theorem ze53 : zeroT Tryz.prog 53 = some [.slice none 0 0] := by kernel_rfl
theorem sz56 : szT Tryz.prog 56 = some 1 := by kernel_rfl
theorem by56 : byT Tryz.prog 56 = some 24 := by kernel_rfl
theorem ag56 : aggT Tryz.prog 56 = some false := by kernel_rfl
theorem el56 : elT Tryz.prog 56 = some 135 := by kernel_rfl
theorem ze56 : zeroT Tryz.prog 56 = some [.slice none 0 0] := by kernel_rfl
theorem sz58 : szT Tryz.prog 58 = some 7 := by kernel_rfl
theorem by58 : byT Tryz.prog 58 = some 112 := by kernel_rfl
theorem ag58 : aggT Tryz.prog 58 = some true := by kernel_rfl
theorem fl58_0 : fldT Tryz.prog 58 0 = some (0, 1, false) := by kernel_rfl
theorem fl58_1 : fldT Tryz.prog 58 1 = some (1, 5, true) := by kernel_rfl
theorem fl58_2 : fldT Tryz.prog 58 2 = some (6, 1, false) := by kernel_rfl
theorem st58 : stT Tryz.prog 58 = some [(0, 1), (1, 5), (6, 1)] := by kernel_rfl
theorem ze58 : zeroT Tryz.prog 58 = some [.int .i64 0, .int .i64 0, .int .i64 0, .string ⟨#[]⟩, .slice none 0 0, .slice none 0 0, .slice none 0 0] := by kernel_rfl
theorem sz59 : szT Tryz.prog 59 = some 1 := by kernel_rfl
theorem by59 : byT Tryz.prog 59 = some 24 := by kernel_rfl
theorem ag59 : aggT Tryz.prog 59 = some false := by kernel_rfl
theorem el59 : elT Tryz.prog 59 = some 222 := by kernel_rfl
theorem ze59 : zeroT Tryz.prog 59 = some [.slice none 0 0] := by kernel_rfl
theorem sz61 : szT Tryz.prog 61 = some 23 := by kernel_rfl
theorem by61 : byT Tryz.prog 61 = some 360 := by kernel_rfl
theorem ag61 : aggT Tryz.prog 61 = some true := by kernel_rfl
theorem fl61_0 : fldT Tryz.prog 61 0 = some (0, 1, false) := by kernel_rfl
theorem fl61_1 : fldT Tryz.prog 61 1 = some (1, 1, false) := by kernel_rfl
theorem fl61_2 : fldT Tryz.prog 61 2 = some (2, 1, false) := by kernel_rfl
theorem fl61_3 : fldT Tryz.prog 61 3 = some (3, 5, true) := by kernel_rfl
theorem fl61_4 : fldT Tryz.prog 61 4 = some (8, 5, true) := by kernel_rfl
theorem fl61_5 : fldT Tryz.prog 61 5 = some (13, 1, false) := by kernel_rfl
theorem fl61_6 : fldT Tryz.prog 61 6 = some (14, 1, false) := by kernel_rfl
theorem fl61_7 : fldT Tryz.prog 61 7 = some (15, 7, true) := by kernel_rfl
theorem fl61_8 : fldT Tryz.prog 61 8 = some (22, 1, false) := by kernel_rfl
theorem st61 : stT Tryz.prog 61 = some [(0, 1), (1, 1), (2, 1), (3, 5), (8, 5), (13, 1), (14, 1), (15, 7), (22, 1)] := by kernel_rfl
theorem ze61 : zeroT Tryz.prog 61 = some [.int .i64 0, .string ⟨#[]⟩, .int .i64 0, .int .i64 0, .int .i64 0, .string ⟨#[]⟩, .slice none 0 0, .slice none 0 0, .int .i64 0, .int .i64 0, .string ⟨#[]⟩, .slice none 0 0, .slice none 0 0, .int .i64 0, .slice none 0 0, .int .i64 0, .int .i64 0, .int .i64 0, .string ⟨#[]⟩, .slice none 0 0, .slice none 0 0, .slice none 0 0, .slice none 0 0] := by kernel_rfl
theorem sz65 : szT Tryz.prog 65 = some 11 := by kernel_rfl
theorem by65 : byT Tryz.prog 65 = some 184 := by kernel_rfl
theorem ag65 : aggT Tryz.prog 65 = some true := by kernel_rfl
theorem fl65_0 : fldT Tryz.prog 65 0 = some (0, 1, false) := by kernel_rfl
theorem fl65_1 : fldT Tryz.prog 65 1 = some (1, 1, false) := by kernel_rfl
theorem fl65_2 : fldT Tryz.prog 65 2 = some (2, 1, false) := by kernel_rfl
theorem fl65_3 : fldT Tryz.prog 65 3 = some (3, 8, true) := by kernel_rfl
theorem st65 : stT Tryz.prog 65 = some [(0, 1), (1, 1), (2, 1), (3, 8)] := by kernel_rfl
theorem ze65 : zeroT Tryz.prog 65 = some [.string ⟨#[]⟩, .bool false, .int .i64 0, .slice none 0 0, .slice none 0 0, .slice none 0 0, .int .i64 0, .int .i64 0, .string ⟨#[]⟩, .slice none 0 0, .slice none 0 0] := by kernel_rfl
theorem sz75 : szT Tryz.prog 75 = some 1 := by kernel_rfl
theorem by75 : byT Tryz.prog 75 = some 24 := by kernel_rfl
theorem ag75 : aggT Tryz.prog 75 = some false := by kernel_rfl
theorem el75 : elT Tryz.prog 75 = some 146 := by kernel_rfl
theorem ze75 : zeroT Tryz.prog 75 = some [.slice none 0 0] := by kernel_rfl
theorem sz77 : szT Tryz.prog 77 = some 2 := by kernel_rfl
theorem by77 : byT Tryz.prog 77 = some 32 := by kernel_rfl
theorem ag77 : aggT Tryz.prog 77 = some true := by kernel_rfl
theorem fl77_0 : fldT Tryz.prog 77 0 = some (0, 1, false) := by kernel_rfl
theorem fl77_1 : fldT Tryz.prog 77 1 = some (1, 1, false) := by kernel_rfl
theorem st77 : stT Tryz.prog 77 = some [(0, 1), (1, 1)] := by kernel_rfl
theorem ze77 : zeroT Tryz.prog 77 = some [.int .i64 0, .slice none 0 0] := by kernel_rfl
theorem sz83 : szT Tryz.prog 83 = some 1 := by kernel_rfl
theorem by83 : byT Tryz.prog 83 = some 8 := by kernel_rfl
theorem ag83 : aggT Tryz.prog 83 = some false := by kernel_rfl
theorem ze83 : zeroT Tryz.prog 83 = some [.nilFunc] := by kernel_rfl
theorem sz97 : szT Tryz.prog 97 = some 1 := by kernel_rfl
theorem by97 : byT Tryz.prog 97 = some 8 := by kernel_rfl
theorem ag97 : aggT Tryz.prog 97 = some false := by kernel_rfl
theorem ze97 : zeroT Tryz.prog 97 = some [.nilFunc] := by kernel_rfl
theorem sz104 : szT Tryz.prog 104 = some 1 := by kernel_rfl
theorem by104 : byT Tryz.prog 104 = some 8 := by kernel_rfl
theorem ag104 : aggT Tryz.prog 104 = some false := by kernel_rfl
theorem ze104 : zeroT Tryz.prog 104 = some [.pointer none] := by kernel_rfl
theorem sz108 : szT Tryz.prog 108 = some 5 := by kernel_rfl
theorem by108 : byT Tryz.prog 108 = some 40 := by kernel_rfl
theorem ag108 : aggT Tryz.prog 108 = some true := by kernel_rfl
theorem fl108_0 : fldT Tryz.prog 108 0 = some (0, 1, false) := by kernel_rfl
theorem fl108_1 : fldT Tryz.prog 108 1 = some (1, 1, false) := by kernel_rfl
theorem fl108_2 : fldT Tryz.prog 108 2 = some (2, 1, false) := by kernel_rfl
theorem fl108_3 : fldT Tryz.prog 108 3 = some (3, 1, false) := by kernel_rfl
theorem fl108_4 : fldT Tryz.prog 108 4 = some (4, 1, false) := by kernel_rfl
theorem st108 : stT Tryz.prog 108 = some [(0, 1), (1, 1), (2, 1), (3, 1), (4, 1)] := by kernel_rfl
theorem ze108 : zeroT Tryz.prog 108 = some [.int .i64 0, .int .i64 0, .int .i64 0, .int .i64 0, .bool false] := by kernel_rfl
theorem sz117 : szT Tryz.prog 117 = some 1 := by kernel_rfl
theorem by117 : byT Tryz.prog 117 = some 8 := by kernel_rfl
theorem ag117 : aggT Tryz.prog 117 = some false := by kernel_rfl
theorem ze117 : zeroT Tryz.prog 117 = some [.pointer none] := by kernel_rfl
theorem sz119 : szT Tryz.prog 119 = some 13 := by kernel_rfl
theorem by119 : byT Tryz.prog 119 = some 256 := by kernel_rfl
theorem ag119 : aggT Tryz.prog 119 = some true := by kernel_rfl
theorem fl119_0 : fldT Tryz.prog 119 0 = some (0, 1, false) := by kernel_rfl
theorem fl119_1 : fldT Tryz.prog 119 1 = some (1, 8, true) := by kernel_rfl
theorem fl119_2 : fldT Tryz.prog 119 2 = some (9, 1, false) := by kernel_rfl
theorem fl119_3 : fldT Tryz.prog 119 3 = some (10, 1, false) := by kernel_rfl
theorem fl119_4 : fldT Tryz.prog 119 4 = some (11, 1, false) := by kernel_rfl
theorem fl119_5 : fldT Tryz.prog 119 5 = some (12, 1, false) := by kernel_rfl
theorem st119 : stT Tryz.prog 119 = some [(0, 1), (1, 8), (9, 1), (10, 1), (11, 1), (12, 1)] := by kernel_rfl
theorem ze119 : zeroT Tryz.prog 119 = some [.slice none 0 0, .slice none 0 0, .slice none 0 0, .slice none 0 0, .int .i64 0, .int .i64 0, .string ⟨#[]⟩, .slice none 0 0, .slice none 0 0, .int .i64 0, .slice none 0 0, .slice none 0 0, .slice none 0 0] := by kernel_rfl
theorem sz120 : szT Tryz.prog 120 = some 1 := by kernel_rfl
theorem by120 : byT Tryz.prog 120 = some 24 := by kernel_rfl
theorem ag120 : aggT Tryz.prog 120 = some false := by kernel_rfl
theorem el120 : elT Tryz.prog 120 = some 128 := by kernel_rfl
theorem ze120 : zeroT Tryz.prog 120 = some [.slice none 0 0] := by kernel_rfl
theorem sz122 : szT Tryz.prog 122 = some 10 := by kernel_rfl
theorem by122 : byT Tryz.prog 122 = some 176 := by kernel_rfl
theorem ag122 : aggT Tryz.prog 122 = some true := by kernel_rfl
theorem fl122_0 : fldT Tryz.prog 122 0 = some (0, 1, false) := by kernel_rfl
theorem fl122_1 : fldT Tryz.prog 122 1 = some (1, 1, false) := by kernel_rfl
theorem fl122_2 : fldT Tryz.prog 122 2 = some (2, 1, false) := by kernel_rfl
theorem fl122_3 : fldT Tryz.prog 122 3 = some (3, 1, false) := by kernel_rfl
theorem fl122_4 : fldT Tryz.prog 122 4 = some (4, 5, true) := by kernel_rfl
theorem fl122_5 : fldT Tryz.prog 122 5 = some (9, 1, false) := by kernel_rfl
theorem st122 : stT Tryz.prog 122 = some [(0, 1), (1, 1), (2, 1), (3, 1), (4, 5), (9, 1)] := by kernel_rfl
theorem ze122 : zeroT Tryz.prog 122 = some [.string ⟨#[]⟩, .int .i64 0, .slice none 0 0, .slice none 0 0, .int .i64 0, .int .i64 0, .string ⟨#[]⟩, .slice none 0 0, .slice none 0 0, .slice none 0 0] := by kernel_rfl
theorem sz126 : szT Tryz.prog 126 = some 1 := by kernel_rfl
theorem by126 : byT Tryz.prog 126 = some 24 := by kernel_rfl
theorem ag126 : aggT Tryz.prog 126 = some false := by kernel_rfl
theorem el126 : elT Tryz.prog 126 = some 288 := by kernel_rfl
theorem ze126 : zeroT Tryz.prog 126 = some [.slice none 0 0] := by kernel_rfl
theorem sz128 : szT Tryz.prog 128 = some 4 := by kernel_rfl
theorem by128 : byT Tryz.prog 128 = some 88 := by kernel_rfl
theorem ag128 : aggT Tryz.prog 128 = some true := by kernel_rfl
theorem fl128_0 : fldT Tryz.prog 128 0 = some (0, 1, false) := by kernel_rfl
theorem fl128_1 : fldT Tryz.prog 128 1 = some (1, 1, false) := by kernel_rfl
theorem fl128_2 : fldT Tryz.prog 128 2 = some (2, 1, false) := by kernel_rfl
theorem fl128_3 : fldT Tryz.prog 128 3 = some (3, 1, false) := by kernel_rfl
theorem st128 : stT Tryz.prog 128 = some [(0, 1), (1, 1), (2, 1), (3, 1)] := by kernel_rfl
theorem ze128 : zeroT Tryz.prog 128 = some [.string ⟨#[]⟩, .slice none 0 0, .slice none 0 0, .slice none 0 0] := by kernel_rfl
theorem sz131 : szT Tryz.prog 131 = some 9 := by kernel_rfl
theorem by131 : byT Tryz.prog 131 = some 112 := by kernel_rfl
theorem ag131 : aggT Tryz.prog 131 = some true := by kernel_rfl
theorem fl131_0 : fldT Tryz.prog 131 0 = some (0, 1, false) := by kernel_rfl
theorem fl131_1 : fldT Tryz.prog 131 1 = some (1, 1, false) := by kernel_rfl
theorem fl131_2 : fldT Tryz.prog 131 2 = some (2, 1, false) := by kernel_rfl
theorem fl131_3 : fldT Tryz.prog 131 3 = some (3, 1, false) := by kernel_rfl
theorem fl131_4 : fldT Tryz.prog 131 4 = some (4, 5, true) := by kernel_rfl
theorem st131 : stT Tryz.prog 131 = some [(0, 1), (1, 1), (2, 1), (3, 1), (4, 5)] := by kernel_rfl
theorem ze131 : zeroT Tryz.prog 131 = some [.int .i64 0, .int .i64 0, .int .i64 0, .int .i64 0, .int .i64 0, .int .i64 0, .string ⟨#[]⟩, .slice none 0 0, .slice none 0 0] := by kernel_rfl
theorem sz135 : szT Tryz.prog 135 = some 6 := by kernel_rfl
theorem by135 : byT Tryz.prog 135 = some 96 := by kernel_rfl
theorem ag135 : aggT Tryz.prog 135 = some true := by kernel_rfl
theorem fl135_0 : fldT Tryz.prog 135 0 = some (0, 1, false) := by kernel_rfl
theorem fl135_1 : fldT Tryz.prog 135 1 = some (1, 5, true) := by kernel_rfl
theorem st135 : stT Tryz.prog 135 = some [(0, 1), (1, 5)] := by kernel_rfl
theorem ze135 : zeroT Tryz.prog 135 = some [.string ⟨#[]⟩, .int .i64 0, .int .i64 0, .string ⟨#[]⟩, .slice none 0 0, .slice none 0 0] := by kernel_rfl
theorem sz138 : szT Tryz.prog 138 = some 1 := by kernel_rfl
theorem by138 : byT Tryz.prog 138 = some 8 := by kernel_rfl
theorem ag138 : aggT Tryz.prog 138 = some false := by kernel_rfl
theorem ze138 : zeroT Tryz.prog 138 = some [.nilFunc] := by kernel_rfl
theorem sz140 : szT Tryz.prog 140 = some 1 := by kernel_rfl
theorem by140 : byT Tryz.prog 140 = some 8 := by kernel_rfl
theorem ag140 : aggT Tryz.prog 140 = some false := by kernel_rfl
theorem ze140 : zeroT Tryz.prog 140 = some [.map none] := by kernel_rfl
theorem sz146 : szT Tryz.prog 146 = some 2 := by kernel_rfl
theorem by146 : byT Tryz.prog 146 = some 16 := by kernel_rfl
theorem ag146 : aggT Tryz.prog 146 = some true := by kernel_rfl
theorem fl146_0 : fldT Tryz.prog 146 0 = some (0, 1, false) := by kernel_rfl
theorem fl146_1 : fldT Tryz.prog 146 1 = some (1, 1, false) := by kernel_rfl
theorem st146 : stT Tryz.prog 146 = some [(0, 1), (1, 1)] := by kernel_rfl
theorem ze146 : zeroT Tryz.prog 146 = some [.int .i64 0, .int .i64 0] := by kernel_rfl
theorem sz152 : szT Tryz.prog 152 = some 1 := by kernel_rfl
theorem by152 : byT Tryz.prog 152 = some 8 := by kernel_rfl
theorem ag152 : aggT Tryz.prog 152 = some true := by kernel_rfl
theorem fl152_0 : fldT Tryz.prog 152 0 = some (0, 1, false) := by kernel_rfl
theorem st152 : stT Tryz.prog 152 = some [(0, 1)] := by kernel_rfl
theorem ze152 : zeroT Tryz.prog 152 = some [.int .i64 0] := by kernel_rfl
theorem sz156 : szT Tryz.prog 156 = some 1 := by kernel_rfl
theorem by156 : byT Tryz.prog 156 = some 8 := by kernel_rfl
theorem ag156 : aggT Tryz.prog 156 = some false := by kernel_rfl
theorem ze156 : zeroT Tryz.prog 156 = some [.pointer none] := by kernel_rfl
theorem sz158 : szT Tryz.prog 158 = some 2 := by kernel_rfl
theorem by158 : byT Tryz.prog 158 = some 16 := by kernel_rfl
theorem ag158 : aggT Tryz.prog 158 = some true := by kernel_rfl
theorem fl158_0 : fldT Tryz.prog 158 0 = some (0, 1, false) := by kernel_rfl
theorem fl158_1 : fldT Tryz.prog 158 1 = some (1, 1, false) := by kernel_rfl
theorem st158 : stT Tryz.prog 158 = some [(0, 1), (1, 1)] := by kernel_rfl
theorem ze158 : zeroT Tryz.prog 158 = some [.int .i64 0, .int .i64 0] := by kernel_rfl
theorem sz161 : szT Tryz.prog 161 = some 1 := by kernel_rfl
theorem by161 : byT Tryz.prog 161 = some 8 := by kernel_rfl
theorem ag161 : aggT Tryz.prog 161 = some false := by kernel_rfl
theorem ze161 : zeroT Tryz.prog 161 = some [.nilFunc] := by kernel_rfl
theorem sz163 : szT Tryz.prog 163 = some 1 := by kernel_rfl
theorem by163 : byT Tryz.prog 163 = some 8 := by kernel_rfl
theorem ag163 : aggT Tryz.prog 163 = some true := by kernel_rfl
theorem fl163_0 : fldT Tryz.prog 163 0 = some (0, 1, false) := by kernel_rfl
theorem st163 : stT Tryz.prog 163 = some [(0, 1)] := by kernel_rfl
theorem ze163 : zeroT Tryz.prog 163 = some [.nilFunc] := by kernel_rfl
theorem sz166 : szT Tryz.prog 166 = some 1 := by kernel_rfl
theorem by166 : byT Tryz.prog 166 = some 8 := by kernel_rfl
theorem ag166 : aggT Tryz.prog 166 = some false := by kernel_rfl
theorem ze166 : zeroT Tryz.prog 166 = some [.nilFunc] := by kernel_rfl
theorem sz173 : szT Tryz.prog 173 = some 1 := by kernel_rfl
theorem by173 : byT Tryz.prog 173 = some 8 := by kernel_rfl
theorem ag173 : aggT Tryz.prog 173 = some false := by kernel_rfl
theorem ze173 : zeroT Tryz.prog 173 = some [.nilFunc] := by kernel_rfl
theorem sz179 : szT Tryz.prog 179 = some 1 := by kernel_rfl
theorem by179 : byT Tryz.prog 179 = some 8 := by kernel_rfl
theorem ag179 : aggT Tryz.prog 179 = some false := by kernel_rfl
theorem ze179 : zeroT Tryz.prog 179 = some [.pointer none] := by kernel_rfl
theorem sz180 : szT Tryz.prog 180 = some 1 := by kernel_rfl
theorem by180 : byT Tryz.prog 180 = some 8 := by kernel_rfl
theorem ag180 : aggT Tryz.prog 180 = some false := by kernel_rfl
theorem ze180 : zeroT Tryz.prog 180 = some [.nilFunc] := by kernel_rfl
theorem sz184 : szT Tryz.prog 184 = some 7 := by kernel_rfl
theorem by184 : byT Tryz.prog 184 = some 112 := by kernel_rfl
theorem ag184 : aggT Tryz.prog 184 = some true := by kernel_rfl
theorem fl184_0 : fldT Tryz.prog 184 0 = some (0, 5, true) := by kernel_rfl
theorem fl184_1 : fldT Tryz.prog 184 1 = some (5, 1, false) := by kernel_rfl
theorem fl184_2 : fldT Tryz.prog 184 2 = some (6, 1, false) := by kernel_rfl
theorem st184 : stT Tryz.prog 184 = some [(0, 5), (5, 1), (6, 1)] := by kernel_rfl
theorem ze184 : zeroT Tryz.prog 184 = some [.int .i64 0, .int .i64 0, .string ⟨#[]⟩, .slice none 0 0, .slice none 0 0, .slice none 0 0, .int .i64 0] := by kernel_rfl
theorem sz193 : szT Tryz.prog 193 = some 1 := by kernel_rfl
theorem by193 : byT Tryz.prog 193 = some 24 := by kernel_rfl
theorem ag193 : aggT Tryz.prog 193 = some false := by kernel_rfl
theorem el193 : elT Tryz.prog 193 = some 9 := by kernel_rfl
theorem ze193 : zeroT Tryz.prog 193 = some [.slice none 0 0] := by kernel_rfl
theorem sz197 : szT Tryz.prog 197 = some 1 := by kernel_rfl
theorem by197 : byT Tryz.prog 197 = some 8 := by kernel_rfl
theorem ag197 : aggT Tryz.prog 197 = some false := by kernel_rfl
theorem ze197 : zeroT Tryz.prog 197 = some [.nilFunc] := by kernel_rfl
theorem sz199 : szT Tryz.prog 199 = some 5 := by kernel_rfl
theorem by199 : byT Tryz.prog 199 = some 32 := by kernel_rfl
theorem ag199 : aggT Tryz.prog 199 = some true := by kernel_rfl
theorem fl199_0 : fldT Tryz.prog 199 0 = some (0, 1, false) := by kernel_rfl
theorem fl199_1 : fldT Tryz.prog 199 1 = some (1, 1, false) := by kernel_rfl
theorem fl199_2 : fldT Tryz.prog 199 2 = some (2, 1, false) := by kernel_rfl
theorem fl199_3 : fldT Tryz.prog 199 3 = some (3, 1, false) := by kernel_rfl
theorem fl199_4 : fldT Tryz.prog 199 4 = some (4, 1, false) := by kernel_rfl
theorem st199 : stT Tryz.prog 199 = some [(0, 1), (1, 1), (2, 1), (3, 1), (4, 1)] := by kernel_rfl
theorem ze199 : zeroT Tryz.prog 199 = some [.bool false, .bool false, .int .i64 0, .int .i64 0, .int .i64 0] := by kernel_rfl
theorem sz200 : szT Tryz.prog 200 = some 65 := by kernel_rfl
theorem by200 : byT Tryz.prog 200 = some 416 := by kernel_rfl
theorem ag200 : aggT Tryz.prog 200 = some true := by kernel_rfl
theorem el200 : elT Tryz.prog 200 = none := by kernel_rfl
theorem ar200 : arT Tryz.prog 200 = some (13, 199) := by kernel_rfl
theorem ze200 : zeroT Tryz.prog 200 = some [.bool false, .bool false, .int .i64 0, .int .i64 0, .int .i64 0, .bool false, .bool false, .int .i64 0, .int .i64 0, .int .i64 0, .bool false, .bool false, .int .i64 0, .int .i64 0, .int .i64 0, .bool false, .bool false, .int .i64 0, .int .i64 0, .int .i64 0, .bool false, .bool false, .int .i64 0, .int .i64 0, .int .i64 0, .bool false, .bool false, .int .i64 0, .int .i64 0, .int .i64 0, .bool false, .bool false, .int .i64 0, .int .i64 0, .int .i64 0, .bool false, .bool false, .int .i64 0, .int .i64 0, .int .i64 0, .bool false, .bool false, .int .i64 0, .int .i64 0, .int .i64 0, .bool false, .bool false, .int .i64 0, .int .i64 0, .int .i64 0, .bool false, .bool false, .int .i64 0, .int .i64 0, .int .i64 0, .bool false, .bool false, .int .i64 0, .int .i64 0, .int .i64 0, .bool false, .bool false, .int .i64 0, .int .i64 0, .int .i64 0] := by kernel_rfl
theorem sz204 : szT Tryz.prog 204 = some 1 := by kernel_rfl
theorem by204 : byT Tryz.prog 204 = some 8 := by kernel_rfl
theorem ag204 : aggT Tryz.prog 204 = some false := by kernel_rfl
theorem ze204 : zeroT Tryz.prog 204 = some [.int .u64 0] := by kernel_rfl
theorem sz206 : szT Tryz.prog 206 = some 1 := by kernel_rfl
theorem by206 : byT Tryz.prog 206 = some 8 := by kernel_rfl
theorem ag206 : aggT Tryz.prog 206 = some false := by kernel_rfl
theorem ze206 : zeroT Tryz.prog 206 = some [.nilFunc] := by kernel_rfl
theorem sz210 : szT Tryz.prog 210 = some 1 := by kernel_rfl
theorem by210 : byT Tryz.prog 210 = some 8 := by kernel_rfl
theorem ag210 : aggT Tryz.prog 210 = some false := by kernel_rfl
theorem ze210 : zeroT Tryz.prog 210 = some [.int .i64 0] := by kernel_rfl
theorem sz218 : szT Tryz.prog 218 = some 1 := by kernel_rfl
theorem by218 : byT Tryz.prog 218 = some 24 := by kernel_rfl
theorem ag218 : aggT Tryz.prog 218 = some false := by kernel_rfl
theorem el218 : elT Tryz.prog 218 = some 275 := by kernel_rfl
theorem ze218 : zeroT Tryz.prog 218 = some [.slice none 0 0] := by kernel_rfl
theorem sz220 : szT Tryz.prog 220 = some 8 := by kernel_rfl
theorem by220 : byT Tryz.prog 220 = some 120 := by kernel_rfl
theorem ag220 : aggT Tryz.prog 220 = some true := by kernel_rfl
theorem fl220_0 : fldT Tryz.prog 220 0 = some (0, 1, false) := by kernel_rfl
theorem fl220_1 : fldT Tryz.prog 220 1 = some (1, 5, true) := by kernel_rfl
theorem fl220_2 : fldT Tryz.prog 220 2 = some (6, 1, false) := by kernel_rfl
theorem fl220_3 : fldT Tryz.prog 220 3 = some (7, 1, false) := by kernel_rfl
theorem st220 : stT Tryz.prog 220 = some [(0, 1), (1, 5), (6, 1), (7, 1)] := by kernel_rfl
theorem ze220 : zeroT Tryz.prog 220 = some [.int .i64 0, .int .i64 0, .int .i64 0, .string ⟨#[]⟩, .slice none 0 0, .slice none 0 0, .int .i64 0, .slice none 0 0] := by kernel_rfl
theorem sz222 : szT Tryz.prog 222 = some 15 := by kernel_rfl
theorem by222 : byT Tryz.prog 222 = some 224 := by kernel_rfl
theorem ag222 : aggT Tryz.prog 222 = some true := by kernel_rfl
theorem fl222_0 : fldT Tryz.prog 222 0 = some (0, 1, false) := by kernel_rfl
theorem fl222_1 : fldT Tryz.prog 222 1 = some (1, 5, true) := by kernel_rfl
theorem fl222_2 : fldT Tryz.prog 222 2 = some (6, 1, false) := by kernel_rfl
theorem fl222_3 : fldT Tryz.prog 222 3 = some (7, 8, true) := by kernel_rfl
theorem st222 : stT Tryz.prog 222 = some [(0, 1), (1, 5), (6, 1), (7, 8)] := by kernel_rfl
theorem ze222 : zeroT Tryz.prog 222 = some [.string ⟨#[]⟩, .int .i64 0, .int .i64 0, .string ⟨#[]⟩, .slice none 0 0, .slice none 0 0, .int .i64 0, .int .i64 0, .int .i64 0, .int .i64 0, .string ⟨#[]⟩, .slice none 0 0, .slice none 0 0, .int .i64 0, .slice none 0 0] := by kernel_rfl
theorem sz228 : szT Tryz.prog 228 = some 0 := by kernel_rfl
theorem by228 : byT Tryz.prog 228 = some 0 := by kernel_rfl
theorem ag228 : aggT Tryz.prog 228 = some true := by kernel_rfl
theorem sz231 : szT Tryz.prog 231 = some 2 := by kernel_rfl
theorem by231 : byT Tryz.prog 231 = some 32 := by kernel_rfl
theorem ag231 : aggT Tryz.prog 231 = some true := by kernel_rfl
theorem fl231_0 : fldT Tryz.prog 231 0 = some (0, 1, false) := by kernel_rfl
theorem fl231_1 : fldT Tryz.prog 231 1 = some (1, 1, false) := by kernel_rfl
theorem st231 : stT Tryz.prog 231 = some [(0, 1), (1, 1)] := by kernel_rfl
theorem ze231 : zeroT Tryz.prog 231 = some [.slice none 0 0, .int .i64 0] := by kernel_rfl
theorem sz235 : szT Tryz.prog 235 = some 1 := by kernel_rfl
theorem by235 : byT Tryz.prog 235 = some 24 := by kernel_rfl
theorem ag235 : aggT Tryz.prog 235 = some true := by kernel_rfl
theorem fl235_0 : fldT Tryz.prog 235 0 = some (0, 1, false) := by kernel_rfl
theorem st235 : stT Tryz.prog 235 = some [(0, 1)] := by kernel_rfl
theorem ze235 : zeroT Tryz.prog 235 = some [.slice none 0 0] := by kernel_rfl
theorem sz242 : szT Tryz.prog 242 = some 1 := by kernel_rfl
theorem by242 : byT Tryz.prog 242 = some 8 := by kernel_rfl
theorem ag242 : aggT Tryz.prog 242 = some false := by kernel_rfl
theorem ze242 : zeroT Tryz.prog 242 = some [.pointer none] := by kernel_rfl
theorem sz243 : szT Tryz.prog 243 = some 1 := by kernel_rfl
theorem by243 : byT Tryz.prog 243 = some 8 := by kernel_rfl
theorem ag243 : aggT Tryz.prog 243 = some false := by kernel_rfl
theorem ze243 : zeroT Tryz.prog 243 = some [.pointer none] := by kernel_rfl
theorem sz244 : szT Tryz.prog 244 = some 1 := by kernel_rfl
theorem by244 : byT Tryz.prog 244 = some 24 := by kernel_rfl
theorem ag244 : aggT Tryz.prog 244 = some false := by kernel_rfl
theorem el244 : elT Tryz.prog 244 = some 249 := by kernel_rfl
theorem ze244 : zeroT Tryz.prog 244 = some [.slice none 0 0] := by kernel_rfl
theorem sz245 : szT Tryz.prog 245 = some 1 := by kernel_rfl
theorem by245 : byT Tryz.prog 245 = some 24 := by kernel_rfl
theorem ag245 : aggT Tryz.prog 245 = some false := by kernel_rfl
theorem el245 : elT Tryz.prog 245 = some 249 := by kernel_rfl
theorem ze245 : zeroT Tryz.prog 245 = some [.slice none 0 0] := by kernel_rfl
theorem sz247 : szT Tryz.prog 247 = some 4 := by kernel_rfl
theorem by247 : byT Tryz.prog 247 = some 80 := by kernel_rfl
theorem ag247 : aggT Tryz.prog 247 = some true := by kernel_rfl
theorem fl247_0 : fldT Tryz.prog 247 0 = some (0, 1, false) := by kernel_rfl
theorem fl247_1 : fldT Tryz.prog 247 1 = some (1, 1, false) := by kernel_rfl
theorem fl247_2 : fldT Tryz.prog 247 2 = some (2, 1, false) := by kernel_rfl
theorem fl247_3 : fldT Tryz.prog 247 3 = some (3, 1, false) := by kernel_rfl
theorem st247 : stT Tryz.prog 247 = some [(0, 1), (1, 1), (2, 1), (3, 1)] := by kernel_rfl
theorem ze247 : zeroT Tryz.prog 247 = some [.pointer none, .slice none 0 0, .slice none 0 0, .slice none 0 0] := by kernel_rfl
theorem sz249 : szT Tryz.prog 249 = some 10 := by kernel_rfl
theorem by249 : byT Tryz.prog 249 = some 160 := by kernel_rfl
theorem ag249 : aggT Tryz.prog 249 = some true := by kernel_rfl
theorem fl249_0 : fldT Tryz.prog 249 0 = some (0, 5, true) := by kernel_rfl
theorem fl249_1 : fldT Tryz.prog 249 1 = some (5, 5, true) := by kernel_rfl
theorem st249 : stT Tryz.prog 249 = some [(0, 5), (5, 5)] := by kernel_rfl
theorem ze249 : zeroT Tryz.prog 249 = some [.int .i64 0, .int .i64 0, .string ⟨#[]⟩, .slice none 0 0, .slice none 0 0, .int .i64 0, .int .i64 0, .string ⟨#[]⟩, .slice none 0 0, .slice none 0 0] := by kernel_rfl
theorem sz254 : szT Tryz.prog 254 = some 1 := by kernel_rfl
theorem by254 : byT Tryz.prog 254 = some 8 := by kernel_rfl
theorem ag254 : aggT Tryz.prog 254 = some false := by kernel_rfl
theorem ze254 : zeroT Tryz.prog 254 = some [.int .i64 0] := by kernel_rfl
theorem sz263 : szT Tryz.prog 263 = some 1 := by kernel_rfl
theorem by263 : byT Tryz.prog 263 = some 4 := by kernel_rfl
theorem ag263 : aggT Tryz.prog 263 = some false := by kernel_rfl
theorem ze263 : zeroT Tryz.prog 263 = some [.int .u32 0] := by kernel_rfl
theorem sz265 : szT Tryz.prog 265 = some 1 := by kernel_rfl
theorem by265 : byT Tryz.prog 265 = some 8 := by kernel_rfl
theorem ag265 : aggT Tryz.prog 265 = some false := by kernel_rfl
theorem ze265 : zeroT Tryz.prog 265 = some [.int .u64 0] := by kernel_rfl
theorem sz268 : szT Tryz.prog 268 = some 1 := by kernel_rfl
theorem by268 : byT Tryz.prog 268 = some 8 := by kernel_rfl
theorem ag268 : aggT Tryz.prog 268 = some false := by kernel_rfl
theorem ze268 : zeroT Tryz.prog 268 = some [.nilFunc] := by kernel_rfl
theorem sz275 : szT Tryz.prog 275 = some 10 := by kernel_rfl
theorem by275 : byT Tryz.prog 275 = some 144 := by kernel_rfl
theorem ag275 : aggT Tryz.prog 275 = some true := by kernel_rfl
theorem fl275_0 : fldT Tryz.prog 275 0 = some (0, 1, false) := by kernel_rfl
theorem fl275_1 : fldT Tryz.prog 275 1 = some (1, 1, false) := by kernel_rfl
theorem fl275_2 : fldT Tryz.prog 275 2 = some (2, 8, true) := by kernel_rfl
theorem st275 : stT Tryz.prog 275 = some [(0, 1), (1, 1), (2, 8)] := by kernel_rfl
theorem ze275 : zeroT Tryz.prog 275 = some [.string ⟨#[]⟩, .bool false, .int .i64 0, .int .i64 0, .int .i64 0, .string ⟨#[]⟩, .slice none 0 0, .slice none 0 0, .int .i64 0, .slice none 0 0] := by kernel_rfl
theorem sz277 : szT Tryz.prog 277 = some 25 := by kernel_rfl
theorem by277 : byT Tryz.prog 277 = some 408 := by kernel_rfl
theorem ag277 : aggT Tryz.prog 277 = some true := by kernel_rfl
theorem fl277_0 : fldT Tryz.prog 277 0 = some (0, 1, false) := by kernel_rfl
theorem fl277_1 : fldT Tryz.prog 277 1 = some (1, 1, false) := by kernel_rfl
theorem fl277_2 : fldT Tryz.prog 277 2 = some (2, 23, true) := by kernel_rfl
theorem st277 : stT Tryz.prog 277 = some [(0, 1), (1, 1), (2, 23)] := by kernel_rfl
theorem ze277 : zeroT Tryz.prog 277 = some [.slice none 0 0, .slice none 0 0, .int .i64 0, .string ⟨#[]⟩, .int .i64 0, .int .i64 0, .int .i64 0, .string ⟨#[]⟩, .slice none 0 0, .slice none 0 0, .int .i64 0, .int .i64 0, .string ⟨#[]⟩, .slice none 0 0, .slice none 0 0, .int .i64 0, .slice none 0 0, .int .i64 0, .int .i64 0, .int .i64 0, .string ⟨#[]⟩, .slice none 0 0, .slice none 0 0, .slice none 0 0, .slice none 0 0] := by kernel_rfl
theorem sz283 : szT Tryz.prog 283 = some 1 := by kernel_rfl
theorem by283 : byT Tryz.prog 283 = some 8 := by kernel_rfl
theorem ag283 : aggT Tryz.prog 283 = some false := by kernel_rfl
theorem ze283 : zeroT Tryz.prog 283 = some [.nilFunc] := by kernel_rfl
theorem sz284 : szT Tryz.prog 284 = some 7 := by kernel_rfl
theorem by284 : byT Tryz.prog 284 = some 56 := by kernel_rfl
theorem ag284 : aggT Tryz.prog 284 = some true := by kernel_rfl
theorem el284 : elT Tryz.prog 284 = none := by kernel_rfl
theorem ar284 : arT Tryz.prog 284 = some (7, 283) := by kernel_rfl
theorem ze284 : zeroT Tryz.prog 284 = some [.nilFunc, .nilFunc, .nilFunc, .nilFunc, .nilFunc, .nilFunc, .nilFunc] := by kernel_rfl
theorem sz285 : szT Tryz.prog 285 = some 1 := by kernel_rfl
theorem by285 : byT Tryz.prog 285 = some 8 := by kernel_rfl
theorem ag285 : aggT Tryz.prog 285 = some false := by kernel_rfl
theorem ze285 : zeroT Tryz.prog 285 = some [.int .i64 0] := by kernel_rfl
theorem sz288 : szT Tryz.prog 288 = some 3 := by kernel_rfl
theorem by288 : byT Tryz.prog 288 = some 56 := by kernel_rfl
theorem ag288 : aggT Tryz.prog 288 = some true := by kernel_rfl
theorem fl288_0 : fldT Tryz.prog 288 0 = some (0, 1, false) := by kernel_rfl
theorem fl288_1 : fldT Tryz.prog 288 1 = some (1, 1, false) := by kernel_rfl
theorem fl288_2 : fldT Tryz.prog 288 2 = some (2, 1, false) := by kernel_rfl
theorem st288 : stT Tryz.prog 288 = some [(0, 1), (1, 1), (2, 1)] := by kernel_rfl
theorem ze288 : zeroT Tryz.prog 288 = some [.int .i64 0, .slice none 0 0, .slice none 0 0] := by kernel_rfl
theorem sz293 : szT Tryz.prog 293 = some 1 := by kernel_rfl
theorem by293 : byT Tryz.prog 293 = some 8 := by kernel_rfl
theorem ag293 : aggT Tryz.prog 293 = some false := by kernel_rfl
theorem ze293 : zeroT Tryz.prog 293 = some [.nilFunc] := by kernel_rfl
theorem sz300 : szT Tryz.prog 300 = some 4 := by kernel_rfl
theorem by300 : byT Tryz.prog 300 = some 80 := by kernel_rfl
theorem ag300 : aggT Tryz.prog 300 = some true := by kernel_rfl
theorem fl300_0 : fldT Tryz.prog 300 0 = some (0, 1, false) := by kernel_rfl
theorem fl300_1 : fldT Tryz.prog 300 1 = some (1, 1, false) := by kernel_rfl
theorem fl300_2 : fldT Tryz.prog 300 2 = some (2, 1, false) := by kernel_rfl
theorem fl300_3 : fldT Tryz.prog 300 3 = some (3, 1, false) := by kernel_rfl
theorem st300 : stT Tryz.prog 300 = some [(0, 1), (1, 1), (2, 1), (3, 1)] := by kernel_rfl
theorem ze300 : zeroT Tryz.prog 300 = some [.string ⟨#[]⟩, .string ⟨#[]⟩, .slice none 0 0, .slice none 0 0] := by kernel_rfl
theorem sz305 : szT Tryz.prog 305 = some 1 := by kernel_rfl
theorem by305 : byT Tryz.prog 305 = some 8 := by kernel_rfl
theorem ag305 : aggT Tryz.prog 305 = some false := by kernel_rfl
theorem ze305 : zeroT Tryz.prog 305 = some [.int .u64 0] := by kernel_rfl
theorem sz309 : szT Tryz.prog 309 = some 1 := by kernel_rfl
theorem by309 : byT Tryz.prog 309 = some 8 := by kernel_rfl
theorem ag309 : aggT Tryz.prog 309 = some false := by kernel_rfl
theorem ze309 : zeroT Tryz.prog 309 = some [.pointer none] := by kernel_rfl
theorem sz317 : szT Tryz.prog 317 = some 1 := by kernel_rfl
theorem by317 : byT Tryz.prog 317 = some 8 := by kernel_rfl
theorem ag317 : aggT Tryz.prog 317 = some false := by kernel_rfl
theorem ze317 : zeroT Tryz.prog 317 = some [.nilFunc] := by kernel_rfl
theorem sz318 : szT Tryz.prog 318 = some 13 := by kernel_rfl
theorem by318 : byT Tryz.prog 318 = some 104 := by kernel_rfl
theorem ag318 : aggT Tryz.prog 318 = some true := by kernel_rfl
theorem el318 : elT Tryz.prog 318 = none := by kernel_rfl
theorem ar318 : arT Tryz.prog 318 = some (13, 317) := by kernel_rfl
theorem ze318 : zeroT Tryz.prog 318 = some [.nilFunc, .nilFunc, .nilFunc, .nilFunc, .nilFunc, .nilFunc, .nilFunc, .nilFunc, .nilFunc, .nilFunc, .nilFunc, .nilFunc, .nilFunc] := by kernel_rfl
theorem sz320 : szT Tryz.prog 320 = some 1 := by kernel_rfl
theorem by320 : byT Tryz.prog 320 = some 8 := by kernel_rfl
theorem ag320 : aggT Tryz.prog 320 = some false := by kernel_rfl
theorem ze320 : zeroT Tryz.prog 320 = some [.nilFunc] := by kernel_rfl
theorem sz321 : szT Tryz.prog 321 = some 1 := by kernel_rfl
theorem by321 : byT Tryz.prog 321 = some 8 := by kernel_rfl
theorem ag321 : aggT Tryz.prog 321 = some false := by kernel_rfl
theorem ze321 : zeroT Tryz.prog 321 = some [.pointer none] := by kernel_rfl
theorem sz323 : szT Tryz.prog 323 = some 1 := by kernel_rfl
theorem by323 : byT Tryz.prog 323 = some 8 := by kernel_rfl
theorem ag323 : aggT Tryz.prog 323 = some true := by kernel_rfl
theorem fl323_0 : fldT Tryz.prog 323 0 = some (0, 1, false) := by kernel_rfl
theorem st323 : stT Tryz.prog 323 = some [(0, 1)] := by kernel_rfl
theorem ze323 : zeroT Tryz.prog 323 = some [.int .i64 0] := by kernel_rfl
theorem sz326 : szT Tryz.prog 326 = some 1 := by kernel_rfl
theorem by326 : byT Tryz.prog 326 = some 8 := by kernel_rfl
theorem ag326 : aggT Tryz.prog 326 = some false := by kernel_rfl
theorem ze326 : zeroT Tryz.prog 326 = some [.pointer none] := by kernel_rfl
theorem sz329 : szT Tryz.prog 329 = some 1 := by kernel_rfl
theorem by329 : byT Tryz.prog 329 = some 8 := by kernel_rfl
theorem ag329 : aggT Tryz.prog 329 = some false := by kernel_rfl
theorem ze329 : zeroT Tryz.prog 329 = some [.map none] := by kernel_rfl
theorem sz331 : szT Tryz.prog 331 = some 2 := by kernel_rfl
theorem by331 : byT Tryz.prog 331 = some 16 := by kernel_rfl
theorem ag331 : aggT Tryz.prog 331 = some true := by kernel_rfl
theorem fl331_0 : fldT Tryz.prog 331 0 = some (0, 1, false) := by kernel_rfl
theorem fl331_1 : fldT Tryz.prog 331 1 = some (1, 1, false) := by kernel_rfl
theorem st331 : stT Tryz.prog 331 = some [(0, 1), (1, 1)] := by kernel_rfl
theorem ze331 : zeroT Tryz.prog 331 = some [.map none, .int .i64 0] := by kernel_rfl
theorem sz338 : szT Tryz.prog 338 = some 1 := by kernel_rfl
theorem by338 : byT Tryz.prog 338 = some 8 := by kernel_rfl
theorem ag338 : aggT Tryz.prog 338 = some false := by kernel_rfl
theorem ze338 : zeroT Tryz.prog 338 = some [.pointer none] := by kernel_rfl
theorem sz340 : szT Tryz.prog 340 = some 2 := by kernel_rfl
theorem by340 : byT Tryz.prog 340 = some 32 := by kernel_rfl
theorem ag340 : aggT Tryz.prog 340 = some true := by kernel_rfl
theorem fl340_0 : fldT Tryz.prog 340 0 = some (0, 1, false) := by kernel_rfl
theorem fl340_1 : fldT Tryz.prog 340 1 = some (1, 1, false) := by kernel_rfl
theorem st340 : stT Tryz.prog 340 = some [(0, 1), (1, 1)] := by kernel_rfl
theorem ze340 : zeroT Tryz.prog 340 = some [.slice none 0 0, .int .i64 0] := by kernel_rfl
theorem sz352 : szT Tryz.prog 352 = some 1 := by kernel_rfl
theorem by352 : byT Tryz.prog 352 = some 8 := by kernel_rfl
theorem ag352 : aggT Tryz.prog 352 = some false := by kernel_rfl
theorem ze352 : zeroT Tryz.prog 352 = some [.nilFunc] := by kernel_rfl
theorem sz354 : szT Tryz.prog 354 = some 1 := by kernel_rfl
theorem by354 : byT Tryz.prog 354 = some 8 := by kernel_rfl
theorem ag354 : aggT Tryz.prog 354 = some false := by kernel_rfl
theorem ze354 : zeroT Tryz.prog 354 = some [.nilFunc] := by kernel_rfl
theorem sz358 : szT Tryz.prog 358 = some 1 := by kernel_rfl
theorem by358 : byT Tryz.prog 358 = some 8 := by kernel_rfl
theorem ag358 : aggT Tryz.prog 358 = some false := by kernel_rfl
theorem ze358 : zeroT Tryz.prog 358 = some [.nilFunc] := by kernel_rfl
theorem sz368 : szT Tryz.prog 368 = some 1 := by kernel_rfl
theorem by368 : byT Tryz.prog 368 = some 8 := by kernel_rfl
theorem ag368 : aggT Tryz.prog 368 = some false := by kernel_rfl
theorem ze368 : zeroT Tryz.prog 368 = some [.nilFunc] := by kernel_rfl
theorem sz371 : szT Tryz.prog 371 = some 1 := by kernel_rfl
theorem by371 : byT Tryz.prog 371 = some 8 := by kernel_rfl
theorem ag371 : aggT Tryz.prog 371 = some false := by kernel_rfl
theorem ze371 : zeroT Tryz.prog 371 = some [.nilFunc] := by kernel_rfl
theorem sz373 : szT Tryz.prog 373 = some 1 := by kernel_rfl
theorem by373 : byT Tryz.prog 373 = some 8 := by kernel_rfl
theorem ag373 : aggT Tryz.prog 373 = some false := by kernel_rfl
theorem ze373 : zeroT Tryz.prog 373 = some [.nilFunc] := by kernel_rfl
theorem sz381 : szT Tryz.prog 381 = some 0 := by kernel_rfl
theorem by381 : byT Tryz.prog 381 = some 0 := by kernel_rfl
theorem ag381 : aggT Tryz.prog 381 = some true := by kernel_rfl
theorem sz383 : szT Tryz.prog 383 = some 1 := by kernel_rfl
theorem by383 : byT Tryz.prog 383 = some 8 := by kernel_rfl
theorem ag383 : aggT Tryz.prog 383 = some false := by kernel_rfl
theorem ze383 : zeroT Tryz.prog 383 = some [.pointer none] := by kernel_rfl
theorem sz385 : szT Tryz.prog 385 = some 3 := by kernel_rfl
theorem by385 : byT Tryz.prog 385 = some 40 := by kernel_rfl
theorem ag385 : aggT Tryz.prog 385 = some true := by kernel_rfl
theorem fl385_0 : fldT Tryz.prog 385 0 = some (0, 1, false) := by kernel_rfl
theorem fl385_1 : fldT Tryz.prog 385 1 = some (1, 1, false) := by kernel_rfl
theorem fl385_2 : fldT Tryz.prog 385 2 = some (2, 1, false) := by kernel_rfl
theorem st385 : stT Tryz.prog 385 = some [(0, 1), (1, 1), (2, 1)] := by kernel_rfl
theorem ze385 : zeroT Tryz.prog 385 = some [.slice none 0 0, .int .i64 0, .int .i64 0] := by kernel_rfl
theorem sz387 : szT Tryz.prog 387 = some 1 := by kernel_rfl
theorem by387 : byT Tryz.prog 387 = some 16 := by kernel_rfl
theorem ag387 : aggT Tryz.prog 387 = some false := by kernel_rfl
theorem ze387 : zeroT Tryz.prog 387 = some [.nilIface] := by kernel_rfl
theorem sz392 : szT Tryz.prog 392 = some 1 := by kernel_rfl
theorem by392 : byT Tryz.prog 392 = some 8 := by kernel_rfl
theorem ag392 : aggT Tryz.prog 392 = some false := by kernel_rfl
theorem ze392 : zeroT Tryz.prog 392 = some [.pointer none] := by kernel_rfl
theorem sz397 : szT Tryz.prog 397 = some 1 := by kernel_rfl
theorem by397 : byT Tryz.prog 397 = some 24 := by kernel_rfl
theorem ag397 : aggT Tryz.prog 397 = some false := by kernel_rfl
theorem el397 : elT Tryz.prog 397 = some 23 := by kernel_rfl
theorem ze397 : zeroT Tryz.prog 397 = some [.slice none 0 0] := by kernel_rfl
theorem sz400 : szT Tryz.prog 400 = some 1 := by kernel_rfl
theorem by400 : byT Tryz.prog 400 = some 8 := by kernel_rfl
theorem ag400 : aggT Tryz.prog 400 = some false := by kernel_rfl
theorem ze400 : zeroT Tryz.prog 400 = some [.pointer none] := by kernel_rfl
theorem sz403 : szT Tryz.prog 403 = some 1 := by kernel_rfl
theorem by403 : byT Tryz.prog 403 = some 8 := by kernel_rfl
theorem ag403 : aggT Tryz.prog 403 = some false := by kernel_rfl
theorem ze403 : zeroT Tryz.prog 403 = some [.pointer none] := by kernel_rfl
theorem sz405 : szT Tryz.prog 405 = some 1 := by kernel_rfl
theorem by405 : byT Tryz.prog 405 = some 8 := by kernel_rfl
theorem ag405 : aggT Tryz.prog 405 = some false := by kernel_rfl
theorem ze405 : zeroT Tryz.prog 405 = some [.pointer none] := by kernel_rfl
theorem sz406 : szT Tryz.prog 406 = some 1 := by kernel_rfl
theorem by406 : byT Tryz.prog 406 = some 8 := by kernel_rfl
theorem ag406 : aggT Tryz.prog 406 = some false := by kernel_rfl
theorem ze406 : zeroT Tryz.prog 406 = some [.nilFunc] := by kernel_rfl
theorem sz409 : szT Tryz.prog 409 = some 2 := by kernel_rfl
theorem by409 : byT Tryz.prog 409 = some 16 := by kernel_rfl
theorem ag409 : aggT Tryz.prog 409 = some true := by kernel_rfl
theorem fl409_0 : fldT Tryz.prog 409 0 = some (0, 1, false) := by kernel_rfl
theorem fl409_1 : fldT Tryz.prog 409 1 = some (1, 1, false) := by kernel_rfl
theorem st409 : stT Tryz.prog 409 = some [(0, 1), (1, 1)] := by kernel_rfl
theorem ze409 : zeroT Tryz.prog 409 = some [.pointer none, .nilFunc] := by kernel_rfl
theorem sz411 : szT Tryz.prog 411 = some 2 := by kernel_rfl
theorem by411 : byT Tryz.prog 411 = some 16 := by kernel_rfl
theorem ag411 : aggT Tryz.prog 411 = some true := by kernel_rfl
theorem fl411_0 : fldT Tryz.prog 411 0 = some (0, 1, false) := by kernel_rfl
theorem fl411_1 : fldT Tryz.prog 411 1 = some (1, 1, false) := by kernel_rfl
theorem st411 : stT Tryz.prog 411 = some [(0, 1), (1, 1)] := by kernel_rfl
theorem ze411 : zeroT Tryz.prog 411 = some [.pointer none, .pointer none] := by kernel_rfl
theorem sz412 : szT Tryz.prog 412 = some 1 := by kernel_rfl
theorem by412 : byT Tryz.prog 412 = some 8 := by kernel_rfl
theorem ag412 : aggT Tryz.prog 412 = some false := by kernel_rfl
theorem ze412 : zeroT Tryz.prog 412 = some [.pointer none] := by kernel_rfl
theorem sz414 : szT Tryz.prog 414 = some 3 := by kernel_rfl
theorem by414 : byT Tryz.prog 414 = some 24 := by kernel_rfl
theorem ag414 : aggT Tryz.prog 414 = some true := by kernel_rfl
theorem fl414_0 : fldT Tryz.prog 414 0 = some (0, 1, false) := by kernel_rfl
theorem fl414_1 : fldT Tryz.prog 414 1 = some (1, 1, false) := by kernel_rfl
theorem fl414_2 : fldT Tryz.prog 414 2 = some (2, 1, false) := by kernel_rfl
theorem st414 : stT Tryz.prog 414 = some [(0, 1), (1, 1), (2, 1)] := by kernel_rfl
theorem ze414 : zeroT Tryz.prog 414 = some [.pointer none, .pointer none, .pointer none] := by kernel_rfl
theorem sz416 : szT Tryz.prog 416 = some 1 := by kernel_rfl
theorem by416 : byT Tryz.prog 416 = some 8 := by kernel_rfl
theorem ag416 : aggT Tryz.prog 416 = some false := by kernel_rfl
theorem ze416 : zeroT Tryz.prog 416 = some [.pointer none] := by kernel_rfl
theorem sz417 : szT Tryz.prog 417 = some 1 := by kernel_rfl
theorem by417 : byT Tryz.prog 417 = some 24 := by kernel_rfl
theorem ag417 : aggT Tryz.prog 417 = some false := by kernel_rfl
theorem el417 : elT Tryz.prog 417 = some 403 := by kernel_rfl
theorem ze417 : zeroT Tryz.prog 417 = some [.slice none 0 0] := by kernel_rfl
theorem sz419 : szT Tryz.prog 419 = some 9 := by kernel_rfl
theorem by419 : byT Tryz.prog 419 = some 128 := by kernel_rfl
theorem ag419 : aggT Tryz.prog 419 = some true := by kernel_rfl
theorem fl419_0 : fldT Tryz.prog 419 0 = some (0, 1, false) := by kernel_rfl
theorem fl419_1 : fldT Tryz.prog 419 1 = some (1, 1, false) := by kernel_rfl
theorem fl419_2 : fldT Tryz.prog 419 2 = some (2, 5, true) := by kernel_rfl
theorem fl419_3 : fldT Tryz.prog 419 3 = some (7, 1, false) := by kernel_rfl
theorem fl419_4 : fldT Tryz.prog 419 4 = some (8, 1, false) := by kernel_rfl
theorem st419 : stT Tryz.prog 419 = some [(0, 1), (1, 1), (2, 5), (7, 1), (8, 1)] := by kernel_rfl
theorem ze419 : zeroT Tryz.prog 419 = some [.int .i64 0, .int .i64 0, .int .i64 0, .int .i64 0, .string ⟨#[]⟩, .slice none 0 0, .slice none 0 0, .slice none 0 0, .nilFunc] := by kernel_rfl
theorem sz421 : szT Tryz.prog 421 = some 10 := by kernel_rfl
theorem by421 : byT Tryz.prog 421 = some 152 := by kernel_rfl
theorem ag421 : aggT Tryz.prog 421 = some true := by kernel_rfl
theorem fl421_0 : fldT Tryz.prog 421 0 = some (0, 9, true) := by kernel_rfl
theorem fl421_1 : fldT Tryz.prog 421 1 = some (9, 1, false) := by kernel_rfl
theorem st421 : stT Tryz.prog 421 = some [(0, 9), (9, 1)] := by kernel_rfl
theorem ze421 : zeroT Tryz.prog 421 = some [.int .i64 0, .int .i64 0, .int .i64 0, .int .i64 0, .string ⟨#[]⟩, .slice none 0 0, .slice none 0 0, .slice none 0 0, .nilFunc, .slice none 0 0] := by kernel_rfl
theorem sz423 : szT Tryz.prog 423 = some 13 := by kernel_rfl
theorem by423 : byT Tryz.prog 423 = some 104 := by kernel_rfl
theorem ag423 : aggT Tryz.prog 423 = some true := by kernel_rfl
theorem el423 : elT Tryz.prog 423 = none := by kernel_rfl
theorem ar423 : arT Tryz.prog 423 = some (13, 49) := by kernel_rfl
theorem ze423 : zeroT Tryz.prog 423 = some [.nilFunc, .nilFunc, .nilFunc, .nilFunc, .nilFunc, .nilFunc, .nilFunc, .nilFunc, .nilFunc, .nilFunc, .nilFunc, .nilFunc, .nilFunc] := by kernel_rfl
theorem sz425 : szT Tryz.prog 425 = some 13 := by kernel_rfl
theorem by425 : byT Tryz.prog 425 = some 104 := by kernel_rfl
theorem ag425 : aggT Tryz.prog 425 = some true := by kernel_rfl
theorem fl425_0 : fldT Tryz.prog 425 0 = some (0, 13, true) := by kernel_rfl
theorem st425 : stT Tryz.prog 425 = some [(0, 13)] := by kernel_rfl
theorem ze425 : zeroT Tryz.prog 425 = some [.nilFunc, .nilFunc, .nilFunc, .nilFunc, .nilFunc, .nilFunc, .nilFunc, .nilFunc, .nilFunc, .nilFunc, .nilFunc, .nilFunc, .nilFunc] := by kernel_rfl
theorem sz429 : szT Tryz.prog 429 = some 7 := by kernel_rfl
theorem by429 : byT Tryz.prog 429 = some 104 := by kernel_rfl
theorem ag429 : aggT Tryz.prog 429 = some true := by kernel_rfl
theorem fl429_0 : fldT Tryz.prog 429 0 = some (0, 5, true) := by kernel_rfl
theorem fl429_1 : fldT Tryz.prog 429 1 = some (5, 1, false) := by kernel_rfl
theorem fl429_2 : fldT Tryz.prog 429 2 = some (6, 1, false) := by kernel_rfl
theorem st429 : stT Tryz.prog 429 = some [(0, 5), (5, 1), (6, 1)] := by kernel_rfl
theorem ze429 : zeroT Tryz.prog 429 = some [.int .i64 0, .int .i64 0, .string ⟨#[]⟩, .slice none 0 0, .slice none 0 0, .pointer none, .nilIface] := by kernel_rfl
theorem sz456 : szT Tryz.prog 456 = some 1 := by kernel_rfl
theorem by456 : byT Tryz.prog 456 = some 24 := by kernel_rfl
theorem ag456 : aggT Tryz.prog 456 = some false := by kernel_rfl
theorem el456 : elT Tryz.prog 456 = some 417 := by kernel_rfl
theorem ze456 : zeroT Tryz.prog 456 = some [.slice none 0 0] := by kernel_rfl
theorem is1 : strT Tryz.prog 1 = false := by kernel_rfl
theorem ib1 : boolT Tryz.prog 1 = false := by kernel_rfl
theorem is3 : strT Tryz.prog 3 = false := by kernel_rfl
theorem ib3 : boolT Tryz.prog 3 = false := by kernel_rfl
theorem is4 : strT Tryz.prog 4 = false := by kernel_rfl
theorem ib4 : boolT Tryz.prog 4 = true := by kernel_rfl
theorem is5 : strT Tryz.prog 5 = false := by kernel_rfl
theorem ib5 : boolT Tryz.prog 5 = false := by kernel_rfl
theorem is9 : strT Tryz.prog 9 = true := by kernel_rfl
theorem ib9 : boolT Tryz.prog 9 = false := by kernel_rfl
theorem is20 : strT Tryz.prog 20 = false := by kernel_rfl
theorem ib20 : boolT Tryz.prog 20 = false := by kernel_rfl
theorem is22 : strT Tryz.prog 22 = false := by kernel_rfl
theorem ib22 : boolT Tryz.prog 22 = false := by kernel_rfl
theorem is23 : strT Tryz.prog 23 = false := by kernel_rfl
theorem ib23 : boolT Tryz.prog 23 = false := by kernel_rfl
theorem is25 : strT Tryz.prog 25 = false := by kernel_rfl
theorem ib25 : boolT Tryz.prog 25 = false := by kernel_rfl
theorem is26 : strT Tryz.prog 26 = false := by kernel_rfl
theorem ib26 : boolT Tryz.prog 26 = false := by kernel_rfl
theorem is28 : strT Tryz.prog 28 = false := by kernel_rfl
theorem ib28 : boolT Tryz.prog 28 = false := by kernel_rfl
theorem is30 : strT Tryz.prog 30 = false := by kernel_rfl
theorem ib30 : boolT Tryz.prog 30 = false := by kernel_rfl
theorem is31 : strT Tryz.prog 31 = false := by kernel_rfl
theorem ib31 : boolT Tryz.prog 31 = false := by kernel_rfl
theorem is37 : strT Tryz.prog 37 = false := by kernel_rfl
theorem ib37 : boolT Tryz.prog 37 = false := by kernel_rfl
theorem is49 : strT Tryz.prog 49 = false := by kernel_rfl
theorem ib49 : boolT Tryz.prog 49 = false := by kernel_rfl
theorem is51 : strT Tryz.prog 51 = false := by kernel_rfl
theorem ib51 : boolT Tryz.prog 51 = false := by kernel_rfl
theorem is53 : strT Tryz.prog 53 = false := by kernel_rfl
theorem ib53 : boolT Tryz.prog 53 = false := by kernel_rfl
theorem is56 : strT Tryz.prog 56 = false := by kernel_rfl
theorem ib56 : boolT Tryz.prog 56 = false := by kernel_rfl
theorem is58 : strT Tryz.prog 58 = false := by kernel_rfl
theorem ib58 : boolT Tryz.prog 58 = false := by kernel_rfl
theorem is59 : strT Tryz.prog 59 = false := by kernel_rfl
theorem ib59 : boolT Tryz.prog 59 = false := by kernel_rfl
theorem is61 : strT Tryz.prog 61 = false := by kernel_rfl
theorem ib61 : boolT Tryz.prog 61 = false := by kernel_rfl
theorem is65 : strT Tryz.prog 65 = false := by kernel_rfl
theorem ib65 : boolT Tryz.prog 65 = false := by kernel_rfl
theorem is75 : strT Tryz.prog 75 = false := by kernel_rfl
theorem ib75 : boolT Tryz.prog 75 = false := by kernel_rfl
theorem is77 : strT Tryz.prog 77 = false := by kernel_rfl
theorem ib77 : boolT Tryz.prog 77 = false := by kernel_rfl
theorem is83 : strT Tryz.prog 83 = false := by kernel_rfl
theorem ib83 : boolT Tryz.prog 83 = false := by kernel_rfl
theorem is97 : strT Tryz.prog 97 = false := by kernel_rfl
theorem ib97 : boolT Tryz.prog 97 = false := by kernel_rfl
theorem is104 : strT Tryz.prog 104 = false := by kernel_rfl
theorem ib104 : boolT Tryz.prog 104 = false := by kernel_rfl
theorem is108 : strT Tryz.prog 108 = false := by kernel_rfl
theorem ib108 : boolT Tryz.prog 108 = false := by kernel_rfl
theorem is117 : strT Tryz.prog 117 = false := by kernel_rfl
theorem ib117 : boolT Tryz.prog 117 = false := by kernel_rfl
theorem is119 : strT Tryz.prog 119 = false := by kernel_rfl
theorem ib119 : boolT Tryz.prog 119 = false := by kernel_rfl
theorem is120 : strT Tryz.prog 120 = false := by kernel_rfl
theorem ib120 : boolT Tryz.prog 120 = false := by kernel_rfl
theorem is122 : strT Tryz.prog 122 = false := by kernel_rfl
theorem ib122 : boolT Tryz.prog 122 = false := by kernel_rfl
theorem is126 : strT Tryz.prog 126 = false := by kernel_rfl
theorem ib126 : boolT Tryz.prog 126 = false := by kernel_rfl
theorem is128 : strT Tryz.prog 128 = false := by kernel_rfl
theorem ib128 : boolT Tryz.prog 128 = false := by kernel_rfl
theorem is131 : strT Tryz.prog 131 = false := by kernel_rfl
theorem ib131 : boolT Tryz.prog 131 = false := by kernel_rfl
theorem is135 : strT Tryz.prog 135 = false := by kernel_rfl
theorem ib135 : boolT Tryz.prog 135 = false := by kernel_rfl
theorem is138 : strT Tryz.prog 138 = false := by kernel_rfl
theorem ib138 : boolT Tryz.prog 138 = false := by kernel_rfl
theorem is140 : strT Tryz.prog 140 = false := by kernel_rfl
theorem ib140 : boolT Tryz.prog 140 = false := by kernel_rfl
theorem is146 : strT Tryz.prog 146 = false := by kernel_rfl
theorem ib146 : boolT Tryz.prog 146 = false := by kernel_rfl
theorem is152 : strT Tryz.prog 152 = false := by kernel_rfl
theorem ib152 : boolT Tryz.prog 152 = false := by kernel_rfl
theorem is156 : strT Tryz.prog 156 = false := by kernel_rfl
theorem ib156 : boolT Tryz.prog 156 = false := by kernel_rfl
theorem is158 : strT Tryz.prog 158 = false := by kernel_rfl
theorem ib158 : boolT Tryz.prog 158 = false := by kernel_rfl
theorem is161 : strT Tryz.prog 161 = false := by kernel_rfl
theorem ib161 : boolT Tryz.prog 161 = false := by kernel_rfl
theorem is163 : strT Tryz.prog 163 = false := by kernel_rfl
theorem ib163 : boolT Tryz.prog 163 = false := by kernel_rfl
theorem is166 : strT Tryz.prog 166 = false := by kernel_rfl
theorem ib166 : boolT Tryz.prog 166 = false := by kernel_rfl
theorem is173 : strT Tryz.prog 173 = false := by kernel_rfl
theorem ib173 : boolT Tryz.prog 173 = false := by kernel_rfl
theorem is179 : strT Tryz.prog 179 = false := by kernel_rfl
theorem ib179 : boolT Tryz.prog 179 = false := by kernel_rfl
theorem is180 : strT Tryz.prog 180 = false := by kernel_rfl
theorem ib180 : boolT Tryz.prog 180 = false := by kernel_rfl
theorem is184 : strT Tryz.prog 184 = false := by kernel_rfl
theorem ib184 : boolT Tryz.prog 184 = false := by kernel_rfl
theorem is193 : strT Tryz.prog 193 = false := by kernel_rfl
theorem ib193 : boolT Tryz.prog 193 = false := by kernel_rfl
theorem is197 : strT Tryz.prog 197 = false := by kernel_rfl
theorem ib197 : boolT Tryz.prog 197 = false := by kernel_rfl
theorem is199 : strT Tryz.prog 199 = false := by kernel_rfl
theorem ib199 : boolT Tryz.prog 199 = false := by kernel_rfl
theorem is200 : strT Tryz.prog 200 = false := by kernel_rfl
theorem ib200 : boolT Tryz.prog 200 = false := by kernel_rfl
theorem is204 : strT Tryz.prog 204 = false := by kernel_rfl
theorem ib204 : boolT Tryz.prog 204 = false := by kernel_rfl
theorem is206 : strT Tryz.prog 206 = false := by kernel_rfl
theorem ib206 : boolT Tryz.prog 206 = false := by kernel_rfl
theorem is210 : strT Tryz.prog 210 = false := by kernel_rfl
theorem ib210 : boolT Tryz.prog 210 = false := by kernel_rfl
theorem is218 : strT Tryz.prog 218 = false := by kernel_rfl
theorem ib218 : boolT Tryz.prog 218 = false := by kernel_rfl
theorem is220 : strT Tryz.prog 220 = false := by kernel_rfl
theorem ib220 : boolT Tryz.prog 220 = false := by kernel_rfl
theorem is222 : strT Tryz.prog 222 = false := by kernel_rfl
theorem ib222 : boolT Tryz.prog 222 = false := by kernel_rfl
theorem is228 : strT Tryz.prog 228 = false := by kernel_rfl
theorem ib228 : boolT Tryz.prog 228 = false := by kernel_rfl
theorem is231 : strT Tryz.prog 231 = false := by kernel_rfl
theorem ib231 : boolT Tryz.prog 231 = false := by kernel_rfl
theorem is235 : strT Tryz.prog 235 = false := by kernel_rfl
theorem ib235 : boolT Tryz.prog 235 = false := by kernel_rfl
theorem is242 : strT Tryz.prog 242 = false := by kernel_rfl
theorem ib242 : boolT Tryz.prog 242 = false := by kernel_rfl
theorem is243 : strT Tryz.prog 243 = false := by kernel_rfl
theorem ib243 : boolT Tryz.prog 243 = false := by kernel_rfl
theorem is244 : strT Tryz.prog 244 = false := by kernel_rfl
theorem ib244 : boolT Tryz.prog 244 = false := by kernel_rfl
theorem is245 : strT Tryz.prog 245 = false := by kernel_rfl
theorem ib245 : boolT Tryz.prog 245 = false := by kernel_rfl
theorem is247 : strT Tryz.prog 247 = false := by kernel_rfl
theorem ib247 : boolT Tryz.prog 247 = false := by kernel_rfl
theorem is249 : strT Tryz.prog 249 = false := by kernel_rfl
theorem ib249 : boolT Tryz.prog 249 = false := by kernel_rfl
theorem is254 : strT Tryz.prog 254 = false := by kernel_rfl
theorem ib254 : boolT Tryz.prog 254 = false := by kernel_rfl
theorem is263 : strT Tryz.prog 263 = false := by kernel_rfl
theorem ib263 : boolT Tryz.prog 263 = false := by kernel_rfl
theorem is265 : strT Tryz.prog 265 = false := by kernel_rfl
theorem ib265 : boolT Tryz.prog 265 = false := by kernel_rfl
theorem is268 : strT Tryz.prog 268 = false := by kernel_rfl
theorem ib268 : boolT Tryz.prog 268 = false := by kernel_rfl
theorem is275 : strT Tryz.prog 275 = false := by kernel_rfl
theorem ib275 : boolT Tryz.prog 275 = false := by kernel_rfl
theorem is277 : strT Tryz.prog 277 = false := by kernel_rfl
theorem ib277 : boolT Tryz.prog 277 = false := by kernel_rfl
theorem is283 : strT Tryz.prog 283 = false := by kernel_rfl
theorem ib283 : boolT Tryz.prog 283 = false := by kernel_rfl
theorem is284 : strT Tryz.prog 284 = false := by kernel_rfl
theorem ib284 : boolT Tryz.prog 284 = false := by kernel_rfl
theorem is285 : strT Tryz.prog 285 = false := by kernel_rfl
theorem ib285 : boolT Tryz.prog 285 = false := by kernel_rfl
theorem is288 : strT Tryz.prog 288 = false := by kernel_rfl
theorem ib288 : boolT Tryz.prog 288 = false := by kernel_rfl
theorem is293 : strT Tryz.prog 293 = false := by kernel_rfl
theorem ib293 : boolT Tryz.prog 293 = false := by kernel_rfl
theorem is300 : strT Tryz.prog 300 = false := by kernel_rfl
theorem ib300 : boolT Tryz.prog 300 = false := by kernel_rfl
theorem is305 : strT Tryz.prog 305 = false := by kernel_rfl
theorem ib305 : boolT Tryz.prog 305 = false := by kernel_rfl
theorem is309 : strT Tryz.prog 309 = false := by kernel_rfl
theorem ib309 : boolT Tryz.prog 309 = false := by kernel_rfl
theorem is317 : strT Tryz.prog 317 = false := by kernel_rfl
theorem ib317 : boolT Tryz.prog 317 = false := by kernel_rfl
theorem is318 : strT Tryz.prog 318 = false := by kernel_rfl
theorem ib318 : boolT Tryz.prog 318 = false := by kernel_rfl
theorem is320 : strT Tryz.prog 320 = false := by kernel_rfl
theorem ib320 : boolT Tryz.prog 320 = false := by kernel_rfl
theorem is321 : strT Tryz.prog 321 = false := by kernel_rfl
theorem ib321 : boolT Tryz.prog 321 = false := by kernel_rfl
theorem is323 : strT Tryz.prog 323 = false := by kernel_rfl
theorem ib323 : boolT Tryz.prog 323 = false := by kernel_rfl
theorem is326 : strT Tryz.prog 326 = false := by kernel_rfl
theorem ib326 : boolT Tryz.prog 326 = false := by kernel_rfl
theorem is329 : strT Tryz.prog 329 = false := by kernel_rfl
theorem ib329 : boolT Tryz.prog 329 = false := by kernel_rfl
theorem is331 : strT Tryz.prog 331 = false := by kernel_rfl
theorem ib331 : boolT Tryz.prog 331 = false := by kernel_rfl
theorem is338 : strT Tryz.prog 338 = false := by kernel_rfl
theorem ib338 : boolT Tryz.prog 338 = false := by kernel_rfl
theorem is340 : strT Tryz.prog 340 = false := by kernel_rfl
theorem ib340 : boolT Tryz.prog 340 = false := by kernel_rfl
theorem is352 : strT Tryz.prog 352 = false := by kernel_rfl
theorem ib352 : boolT Tryz.prog 352 = false := by kernel_rfl
theorem is354 : strT Tryz.prog 354 = false := by kernel_rfl
theorem ib354 : boolT Tryz.prog 354 = false := by kernel_rfl
theorem is358 : strT Tryz.prog 358 = false := by kernel_rfl
theorem ib358 : boolT Tryz.prog 358 = false := by kernel_rfl
theorem is368 : strT Tryz.prog 368 = false := by kernel_rfl
theorem ib368 : boolT Tryz.prog 368 = false := by kernel_rfl
theorem is371 : strT Tryz.prog 371 = false := by kernel_rfl
theorem ib371 : boolT Tryz.prog 371 = false := by kernel_rfl
theorem is373 : strT Tryz.prog 373 = false := by kernel_rfl
theorem ib373 : boolT Tryz.prog 373 = false := by kernel_rfl
theorem is381 : strT Tryz.prog 381 = false := by kernel_rfl
theorem ib381 : boolT Tryz.prog 381 = false := by kernel_rfl
theorem is383 : strT Tryz.prog 383 = false := by kernel_rfl
theorem ib383 : boolT Tryz.prog 383 = false := by kernel_rfl
theorem is385 : strT Tryz.prog 385 = false := by kernel_rfl
theorem ib385 : boolT Tryz.prog 385 = false := by kernel_rfl
theorem is387 : strT Tryz.prog 387 = false := by kernel_rfl
theorem ib387 : boolT Tryz.prog 387 = false := by kernel_rfl
theorem is392 : strT Tryz.prog 392 = false := by kernel_rfl
theorem ib392 : boolT Tryz.prog 392 = false := by kernel_rfl
theorem is397 : strT Tryz.prog 397 = false := by kernel_rfl
theorem ib397 : boolT Tryz.prog 397 = false := by kernel_rfl
theorem is400 : strT Tryz.prog 400 = false := by kernel_rfl
theorem ib400 : boolT Tryz.prog 400 = false := by kernel_rfl
theorem is403 : strT Tryz.prog 403 = false := by kernel_rfl
theorem ib403 : boolT Tryz.prog 403 = false := by kernel_rfl
theorem is405 : strT Tryz.prog 405 = false := by kernel_rfl
theorem ib405 : boolT Tryz.prog 405 = false := by kernel_rfl
theorem is406 : strT Tryz.prog 406 = false := by kernel_rfl
theorem ib406 : boolT Tryz.prog 406 = false := by kernel_rfl
theorem is409 : strT Tryz.prog 409 = false := by kernel_rfl
theorem ib409 : boolT Tryz.prog 409 = false := by kernel_rfl
theorem is411 : strT Tryz.prog 411 = false := by kernel_rfl
theorem ib411 : boolT Tryz.prog 411 = false := by kernel_rfl
theorem is412 : strT Tryz.prog 412 = false := by kernel_rfl
theorem ib412 : boolT Tryz.prog 412 = false := by kernel_rfl
theorem is414 : strT Tryz.prog 414 = false := by kernel_rfl
theorem ib414 : boolT Tryz.prog 414 = false := by kernel_rfl
theorem is416 : strT Tryz.prog 416 = false := by kernel_rfl
theorem ib416 : boolT Tryz.prog 416 = false := by kernel_rfl
theorem is417 : strT Tryz.prog 417 = false := by kernel_rfl
theorem ib417 : boolT Tryz.prog 417 = false := by kernel_rfl
theorem is419 : strT Tryz.prog 419 = false := by kernel_rfl
theorem ib419 : boolT Tryz.prog 419 = false := by kernel_rfl
theorem is421 : strT Tryz.prog 421 = false := by kernel_rfl
theorem ib421 : boolT Tryz.prog 421 = false := by kernel_rfl
theorem is423 : strT Tryz.prog 423 = false := by kernel_rfl
theorem ib423 : boolT Tryz.prog 423 = false := by kernel_rfl
theorem is425 : strT Tryz.prog 425 = false := by kernel_rfl
theorem ib425 : boolT Tryz.prog 425 = false := by kernel_rfl
theorem is429 : strT Tryz.prog 429 = false := by kernel_rfl
theorem ib429 : boolT Tryz.prog 429 = false := by kernel_rfl
theorem is456 : strT Tryz.prog 456 = false := by kernel_rfl
theorem ib456 : boolT Tryz.prog 456 = false := by kernel_rfl

attribute [simp] sz1 by1 ag1 ze1 sz3 by3 ag3 ze3 sz4 by4 ag4 ze4 sz5 by5 ag5 ze5 sz9 by9 ag9 ze9 sz20 by20 ag20 ze20 sz22 by22 ag22 el22 ze22 sz23 by23 ag23 el23 ze23 sz25 by25 ag25 fl25_0 fl25_1 fl25_2 fl25_3 fl25_4 st25 ze25 sz26 by26 ag26 ze26 sz28 by28 ag28 el28 ze28 sz30 by30 ag30 fl30_0 fl30_1 fl30_2 fl30_3 st30 ze30 sz31 by31 ag31 ze31 sz37 by37 ag37 el37 ze37 sz49 by49 ag49 ze49 sz51 by51 ag51 el51 ze51 sz53 by53 ag53 el53 ze53 sz56 by56 ag56 el56 ze56 sz58 by58 ag58 fl58_0 fl58_1 fl58_2 st58 ze58 sz59 by59 ag59 el59 ze59 sz61 by61 ag61 fl61_0 fl61_1 fl61_2 fl61_3 fl61_4 fl61_5 fl61_6 fl61_7 fl61_8 st61 ze61 sz65 by65 ag65 fl65_0 fl65_1 fl65_2 fl65_3 st65 ze65 sz75 by75 ag75 el75 ze75 sz77 by77 ag77 fl77_0 fl77_1 st77 ze77 sz83 by83 ag83 ze83 sz97 by97 ag97 ze97 sz104 by104 ag104 ze104 sz108 by108 ag108 fl108_0 fl108_1 fl108_2 fl108_3 fl108_4 st108 ze108 sz117 by117 ag117 ze117 sz119 by119 ag119 fl119_0 fl119_1 fl119_2 fl119_3 fl119_4 fl119_5 st119 ze119 sz120 by120 ag120 el120 ze120 sz122 by122 ag122 fl122_0 fl122_1 fl122_2 fl122_3 fl122_4 fl122_5 st122 ze122 sz126 by126 ag126 el126 ze126 sz128 by128 ag128 fl128_0 fl128_1 fl128_2 fl128_3 st128 ze128 sz131 by131 ag131 fl131_0 fl131_1 fl131_2 fl131_3 fl131_4 st131 ze131 sz135 by135 ag135 fl135_0 fl135_1 st135 ze135 sz138 by138 ag138 ze138 sz140 by140 ag140 ze140 sz146 by146 ag146 fl146_0 fl146_1 st146 ze146 sz152 by152 ag152 fl152_0 st152 ze152 sz156 by156 ag156 ze156 sz158 by158 ag158 fl158_0 fl158_1 st158 ze158 sz161 by161 ag161 ze161 sz163 by163 ag163 fl163_0 st163 ze163 sz166 by166 ag166 ze166 sz173 by173 ag173 ze173 sz179 by179 ag179 ze179 sz180 by180 ag180 ze180 sz184 by184 ag184 fl184_0 fl184_1 fl184_2 st184 ze184 sz193 by193 ag193 el193 ze193 sz197 by197 ag197 ze197 sz199 by199 ag199 fl199_0 fl199_1 fl199_2 fl199_3 fl199_4 st199 ze199 sz200 by200 ag200 el200 ar200 ze200 sz204 by204 ag204 ze204 sz206 by206 ag206 ze206 sz210 by210 ag210 ze210 sz218 by218 ag218 el218 ze218 sz220 by220 ag220 fl220_0 fl220_1 fl220_2 fl220_3 st220 ze220 sz222 by222 ag222 fl222_0 fl222_1 fl222_2 fl222_3 st222 ze222 sz228 by228 ag228 sz231 by231 ag231 fl231_0 fl231_1 st231 ze231 sz235 by235 ag235 fl235_0 st235 ze235 sz242 by242 ag242 ze242 sz243 by243 ag243 ze243 sz244 by244 ag244 el244 ze244 sz245 by245 ag245 el245 ze245 sz247 by247 ag247 fl247_0 fl247_1 fl247_2 fl247_3 st247 ze247 sz249 by249 ag249 fl249_0 fl249_1 st249 ze249 sz254 by254 ag254 ze254 sz263 by263 ag263 ze263 sz265 by265 ag265 ze265 sz268 by268 ag268 ze268 sz275 by275 ag275 fl275_0 fl275_1 fl275_2 st275 ze275 sz277 by277 ag277 fl277_0 fl277_1 fl277_2 st277 ze277 sz283 by283 ag283 ze283 sz284 by284 ag284 el284 ar284 ze284 sz285 by285 ag285 ze285 sz288 by288 ag288 fl288_0 fl288_1 fl288_2 st288 ze288 sz293 by293 ag293 ze293 sz300 by300 ag300 fl300_0 fl300_1 fl300_2 fl300_3 st300 ze300 sz305 by305 ag305 ze305 sz309 by309 ag309 ze309 sz317 by317 ag317 ze317 sz318 by318 ag318 el318 ar318 ze318 sz320 by320 ag320 ze320 sz321 by321 ag321 ze321 sz323 by323 ag323 fl323_0 st323 ze323 sz326 by326 ag326 ze326 sz329 by329 ag329 ze329 sz331 by331 ag331 fl331_0 fl331_1 st331 ze331 sz338 by338 ag338 ze338 sz340 by340 ag340 fl340_0 fl340_1 st340 ze340 sz352 by352 ag352 ze352 sz354 by354 ag354 ze354 sz358 by358 ag358 ze358 sz368 by368 ag368 ze368 sz371 by371 ag371 ze371 sz373 by373 ag373 ze373 sz381 by381 ag381 sz383 by383 ag383 ze383 sz385 by385 ag385 fl385_0 fl385_1 fl385_2 st385 ze385 sz387 by387 ag387 ze387 sz392 by392 ag392 ze392 sz397 by397 ag397 el397 ze397 sz400 by400 ag400 ze400 sz403 by403 ag403 ze403 sz405 by405 ag405 ze405 sz406 by406 ag406 ze406 sz409 by409 ag409 fl409_0 fl409_1 st409 ze409 sz411 by411 ag411 fl411_0 fl411_1 st411 ze411 sz412 by412 ag412 ze412 sz414 by414 ag414 fl414_0 fl414_1 fl414_2 st414 ze414 sz416 by416 ag416 ze416 sz417 by417 ag417 el417 ze417 sz419 by419 ag419 fl419_0 fl419_1 fl419_2 fl419_3 fl419_4 st419 ze419 sz421 by421 ag421 fl421_0 fl421_1 st421 ze421 sz423 by423 ag423 el423 ar423 ze423 sz425 by425 ag425 fl425_0 st425 ze425 sz429 by429 ag429 fl429_0 fl429_1 fl429_2 st429 ze429 sz456 by456 ag456 el456 ze456 is1 ib1 is3 ib3 is4 ib4 is5 ib5 is9 ib9 is20 ib20 is22 ib22 is23 ib23 is25 ib25 is26 ib26 is28 ib28 is30 ib30 is31 ib31 is37 ib37 is49 ib49 is51 ib51 is53 ib53 is56 ib56 is58 ib58 is59 ib59 is61 ib61 is65 ib65 is75 ib75 is77 ib77 is83 ib83 is97 ib97 is104 ib104 is108 ib108 is117 ib117 is119 ib119 is120 ib120 is122 ib122 is126 ib126 is128 ib128 is131 ib131 is135 ib135 is138 ib138 is140 ib140 is146 ib146 is152 ib152 is156 ib156 is158 ib158 is161 ib161 is163 ib163 is166 ib166 is173 ib173 is179 ib179 is180 ib180 is184 ib184 is193 ib193 is197 ib197 is199 ib199 is200 ib200 is204 ib204 is206 ib206 is210 ib210 is218 ib218 is220 ib220 is222 ib222 is228 ib228 is231 ib231 is235 ib235 is242 ib242 is243 ib243 is244 ib244 is245 ib245 is247 ib247 is249 ib249 is254 ib254 is263 ib263 is265 ib265 is268 ib268 is275 ib275 is277 ib277 is283 ib283 is284 ib284 is285 ib285 is288 ib288 is293 ib293 is300 ib300 is305 ib305 is309 ib309 is317 ib317 is318 ib318 is320 ib320 is321 ib321 is323 ib323 is326 ib326 is329 ib329 is331 ib331 is338 ib338 is340 ib340 is352 ib352 is354 ib354 is358 ib358 is368 ib368 is371 ib371 is373 ib373 is381 ib381 is383 ib383 is385 ib385 is387 ib387 is392 ib392 is397 ib397 is400 ib400 is403 ib403 is405 ib405 is406 ib406 is409 ib409 is411 ib411 is412 ib412 is414 ib414 is416 ib416 is417 ib417 is419 ib419 is421 ib421 is423 ib423 is425 ib425 is429 ib429 is456 ib456

end Go.Proofs.YtfajdeofhioakaaGreat
