/-
  The program's types: sizes, fields, zero values. Printed by a program.
-/
import Derived.Test.YtppgpabjcenjdaaProg
import Derived.KernelRfl
import Derived.Test.YtppgpabjcenjdaaCFA

namespace Go.Proofs.Ytppgpabjcenjdaa

open Go.AI
theorem sz3 : szT Try.prog 3 = some 1 := by kernel_rfl
theorem by3 : byT Try.prog 3 = some 8 := by kernel_rfl
theorem ag3 : aggT Try.prog 3 = some false := by kernel_rfl
theorem ze3 : zeroT Try.prog 3 = some [.int .i64 0] := by kernel_rfl
theorem sz4 : szT Try.prog 4 = some 1 := by kernel_rfl
theorem by4 : byT Try.prog 4 = some 1 := by kernel_rfl
theorem ag4 : aggT Try.prog 4 = some false := by kernel_rfl
theorem ze4 : zeroT Try.prog 4 = some [.bool false] := by kernel_rfl
theorem sz5 : szT Try.prog 5 = some 1 := by kernel_rfl
theorem by5 : byT Try.prog 5 = some 1 := by kernel_rfl
theorem ag5 : aggT Try.prog 5 = some false := by kernel_rfl
theorem ze5 : zeroT Try.prog 5 = some [.int .u8 0] := by kernel_rfl
theorem sz9 : szT Try.prog 9 = some 1 := by kernel_rfl
theorem by9 : byT Try.prog 9 = some 16 := by kernel_rfl
theorem ag9 : aggT Try.prog 9 = some false := by kernel_rfl
theorem ze9 : zeroT Try.prog 9 = some [.string ⟨#[]⟩] := by kernel_rfl
theorem sz20 : szT Try.prog 20 = some 1 := by kernel_rfl
theorem by20 : byT Try.prog 20 = some 16 := by kernel_rfl
theorem ag20 : aggT Try.prog 20 = some false := by kernel_rfl
theorem ze20 : zeroT Try.prog 20 = some [.nilIface] := by kernel_rfl
theorem sz22 : szT Try.prog 22 = some 1 := by kernel_rfl
theorem by22 : byT Try.prog 22 = some 24 := by kernel_rfl
theorem ag22 : aggT Try.prog 22 = some false := by kernel_rfl
theorem el22 : elT Try.prog 22 = some 153 := by kernel_rfl
theorem ze22 : zeroT Try.prog 22 = some [.slice none 0 0] := by kernel_rfl
theorem sz23 : szT Try.prog 23 = some 1 := by kernel_rfl
theorem by23 : byT Try.prog 23 = some 24 := by kernel_rfl
theorem ag23 : aggT Try.prog 23 = some false := by kernel_rfl
theorem el23 : elT Try.prog 23 = some 25 := by kernel_rfl
theorem ze23 : zeroT Try.prog 23 = some [.slice none 0 0] := by kernel_rfl
theorem sz25 : szT Try.prog 25 = some 5 := by kernel_rfl
theorem by25 : byT Try.prog 25 = some 80 := by kernel_rfl
theorem ag25 : aggT Try.prog 25 = some true := by kernel_rfl
theorem fl25_0 : fldT Try.prog 25 0 = some (0, 1, false) := by kernel_rfl
theorem fl25_1 : fldT Try.prog 25 1 = some (1, 1, false) := by kernel_rfl
theorem fl25_2 : fldT Try.prog 25 2 = some (2, 1, false) := by kernel_rfl
theorem fl25_3 : fldT Try.prog 25 3 = some (3, 1, false) := by kernel_rfl
theorem fl25_4 : fldT Try.prog 25 4 = some (4, 1, false) := by kernel_rfl
theorem st25 : stT Try.prog 25 = some [(0, 1), (1, 1), (2, 1), (3, 1), (4, 1)] := by kernel_rfl
theorem ze25 : zeroT Try.prog 25 = some [.int .i64 0, .int .i64 0, .string ⟨#[]⟩, .slice none 0 0, .slice none 0 0] := by kernel_rfl
theorem sz28 : szT Try.prog 28 = some 1 := by kernel_rfl
theorem by28 : byT Try.prog 28 = some 8 := by kernel_rfl
theorem ag28 : aggT Try.prog 28 = some false := by kernel_rfl
theorem ze28 : zeroT Try.prog 28 = some [.int .i64 0] := by kernel_rfl
theorem sz33 : szT Try.prog 33 = some 1 := by kernel_rfl
theorem by33 : byT Try.prog 33 = some 8 := by kernel_rfl
theorem ag33 : aggT Try.prog 33 = some false := by kernel_rfl
theorem ze33 : zeroT Try.prog 33 = some [.nilFunc] := by kernel_rfl
theorem sz45 : szT Try.prog 45 = some 1 := by kernel_rfl
theorem by45 : byT Try.prog 45 = some 24 := by kernel_rfl
theorem ag45 : aggT Try.prog 45 = some false := by kernel_rfl
theorem el45 : elT Try.prog 45 = some 130 := by kernel_rfl
theorem ze45 : zeroT Try.prog 45 = some [.slice none 0 0] := by kernel_rfl
theorem sz49 : szT Try.prog 49 = some 15 := by kernel_rfl
theorem by49 : byT Try.prog 49 = some 240 := by kernel_rfl
theorem ag49 : aggT Try.prog 49 = some true := by kernel_rfl
theorem el49 : elT Try.prog 49 = none := by kernel_rfl
theorem ar49 : arT Try.prog 49 = some (3, 25) := by kernel_rfl
theorem ze49 : zeroT Try.prog 49 = some [.int .i64 0, .int .i64 0, .string ⟨#[]⟩, .slice none 0 0, .slice none 0 0, .int .i64 0, .int .i64 0, .string ⟨#[]⟩, .slice none 0 0, .slice none 0 0, .int .i64 0, .int .i64 0, .string ⟨#[]⟩, .slice none 0 0, .slice none 0 0] := by kernel_rfl
theorem sz54 : szT Try.prog 54 = some 1 := by kernel_rfl
theorem by54 : byT Try.prog 54 = some 8 := by kernel_rfl
theorem ag54 : aggT Try.prog 54 = some false := by kernel_rfl
theorem ze54 : zeroT Try.prog 54 = some [.nilFunc] := by kernel_rfl
theorem sz65 : szT Try.prog 65 = some 1 := by kernel_rfl
theorem by65 : byT Try.prog 65 = some 24 := by kernel_rfl
theorem ag65 : aggT Try.prog 65 = some false := by kernel_rfl
theorem el65 : elT Try.prog 65 = some 3 := by kernel_rfl
theorem ze65 : zeroT Try.prog 65 = some [.slice none 0 0] := by kernel_rfl
theorem sz83 : szT Try.prog 83 = some 4 := by kernel_rfl
theorem by83 : byT Try.prog 83 = some 32 := by kernel_rfl
theorem ag83 : aggT Try.prog 83 = some true := by kernel_rfl
theorem fl83_0 : fldT Try.prog 83 0 = some (0, 1, false) := by kernel_rfl
theorem fl83_1 : fldT Try.prog 83 1 = some (1, 1, false) := by kernel_rfl
theorem fl83_2 : fldT Try.prog 83 2 = some (2, 1, false) := by kernel_rfl
theorem fl83_3 : fldT Try.prog 83 3 = some (3, 1, false) := by kernel_rfl
theorem st83 : stT Try.prog 83 = some [(0, 1), (1, 1), (2, 1), (3, 1)] := by kernel_rfl
theorem ze83 : zeroT Try.prog 83 = some [.int .i64 0, .int .i64 0, .int .i64 0, .int .i64 0] := by kernel_rfl
theorem sz87 : szT Try.prog 87 = some 1 := by kernel_rfl
theorem by87 : byT Try.prog 87 = some 8 := by kernel_rfl
theorem ag87 : aggT Try.prog 87 = some false := by kernel_rfl
theorem ze87 : zeroT Try.prog 87 = some [.nilFunc] := by kernel_rfl
theorem sz90 : szT Try.prog 90 = some 4 := by kernel_rfl
theorem by90 : byT Try.prog 90 = some 4 := by kernel_rfl
theorem ag90 : aggT Try.prog 90 = some true := by kernel_rfl
theorem el90 : elT Try.prog 90 = none := by kernel_rfl
theorem ar90 : arT Try.prog 90 = some (4, 5) := by kernel_rfl
theorem ze90 : zeroT Try.prog 90 = some [.int .u8 0, .int .u8 0, .int .u8 0, .int .u8 0] := by kernel_rfl
theorem sz93 : szT Try.prog 93 = some 1 := by kernel_rfl
theorem by93 : byT Try.prog 93 = some 24 := by kernel_rfl
theorem ag93 : aggT Try.prog 93 = some false := by kernel_rfl
theorem el93 : elT Try.prog 93 = some 9 := by kernel_rfl
theorem ze93 : zeroT Try.prog 93 = some [.slice none 0 0] := by kernel_rfl
theorem sz96 : szT Try.prog 96 = some 2 := by kernel_rfl
theorem by96 : byT Try.prog 96 = some 2 := by kernel_rfl
theorem ag96 : aggT Try.prog 96 = some true := by kernel_rfl
theorem el96 : elT Try.prog 96 = none := by kernel_rfl
theorem ar96 : arT Try.prog 96 = some (2, 5) := by kernel_rfl
theorem ze96 : zeroT Try.prog 96 = some [.int .u8 0, .int .u8 0] := by kernel_rfl
theorem sz101 : szT Try.prog 101 = some 1 := by kernel_rfl
theorem by101 : byT Try.prog 101 = some 8 := by kernel_rfl
theorem ag101 : aggT Try.prog 101 = some false := by kernel_rfl
theorem ze101 : zeroT Try.prog 101 = some [.pointer none] := by kernel_rfl
theorem sz103 : szT Try.prog 103 = some 2 := by kernel_rfl
theorem by103 : byT Try.prog 103 = some 16 := by kernel_rfl
theorem ag103 : aggT Try.prog 103 = some true := by kernel_rfl
theorem fl103_0 : fldT Try.prog 103 0 = some (0, 1, false) := by kernel_rfl
theorem fl103_1 : fldT Try.prog 103 1 = some (1, 1, false) := by kernel_rfl
theorem st103 : stT Try.prog 103 = some [(0, 1), (1, 1)] := by kernel_rfl
theorem ze103 : zeroT Try.prog 103 = some [.int .i64 0, .int .i64 0] := by kernel_rfl
theorem sz106 : szT Try.prog 106 = some 1 := by kernel_rfl
theorem by106 : byT Try.prog 106 = some 8 := by kernel_rfl
theorem ag106 : aggT Try.prog 106 = some false := by kernel_rfl
theorem ze106 : zeroT Try.prog 106 = some [.nilFunc] := by kernel_rfl
theorem sz107 : szT Try.prog 107 = some 1 := by kernel_rfl
theorem by107 : byT Try.prog 107 = some 8 := by kernel_rfl
theorem ag107 : aggT Try.prog 107 = some false := by kernel_rfl
theorem ze107 : zeroT Try.prog 107 = some [.pointer none] := by kernel_rfl
theorem sz109 : szT Try.prog 109 = some 1 := by kernel_rfl
theorem by109 : byT Try.prog 109 = some 8 := by kernel_rfl
theorem ag109 : aggT Try.prog 109 = some true := by kernel_rfl
theorem fl109_0 : fldT Try.prog 109 0 = some (0, 1, false) := by kernel_rfl
theorem st109 : stT Try.prog 109 = some [(0, 1)] := by kernel_rfl
theorem ze109 : zeroT Try.prog 109 = some [.int .i64 0] := by kernel_rfl
theorem sz111 : szT Try.prog 111 = some 1 := by kernel_rfl
theorem by111 : byT Try.prog 111 = some 8 := by kernel_rfl
theorem ag111 : aggT Try.prog 111 = some false := by kernel_rfl
theorem ze111 : zeroT Try.prog 111 = some [.nilFunc] := by kernel_rfl
theorem sz113 : szT Try.prog 113 = some 1 := by kernel_rfl
theorem by113 : byT Try.prog 113 = some 8 := by kernel_rfl
theorem ag113 : aggT Try.prog 113 = some true := by kernel_rfl
theorem fl113_0 : fldT Try.prog 113 0 = some (0, 1, false) := by kernel_rfl
theorem st113 : stT Try.prog 113 = some [(0, 1)] := by kernel_rfl
theorem ze113 : zeroT Try.prog 113 = some [.nilFunc] := by kernel_rfl
theorem sz114 : szT Try.prog 114 = some 1 := by kernel_rfl
theorem by114 : byT Try.prog 114 = some 8 := by kernel_rfl
theorem ag114 : aggT Try.prog 114 = some false := by kernel_rfl
theorem ze114 : zeroT Try.prog 114 = some [.nilFunc] := by kernel_rfl
theorem sz125 : szT Try.prog 125 = some 1 := by kernel_rfl
theorem by125 : byT Try.prog 125 = some 24 := by kernel_rfl
theorem ag125 : aggT Try.prog 125 = some false := by kernel_rfl
theorem el125 : elT Try.prog 125 = some 177 := by kernel_rfl
theorem ze125 : zeroT Try.prog 125 = some [.slice none 0 0] := by kernel_rfl
theorem sz127 : szT Try.prog 127 = some 7 := by kernel_rfl
theorem by127 : byT Try.prog 127 = some 112 := by kernel_rfl
theorem ag127 : aggT Try.prog 127 = some true := by kernel_rfl
theorem fl127_0 : fldT Try.prog 127 0 = some (0, 1, false) := by kernel_rfl
theorem fl127_1 : fldT Try.prog 127 1 = some (1, 5, true) := by kernel_rfl
theorem fl127_2 : fldT Try.prog 127 2 = some (6, 1, false) := by kernel_rfl
theorem st127 : stT Try.prog 127 = some [(0, 1), (1, 5), (6, 1)] := by kernel_rfl
theorem ze127 : zeroT Try.prog 127 = some [.int .i64 0, .int .i64 0, .int .i64 0, .string ⟨#[]⟩, .slice none 0 0, .slice none 0 0, .slice none 0 0] := by kernel_rfl
theorem sz128 : szT Try.prog 128 = some 1 := by kernel_rfl
theorem by128 : byT Try.prog 128 = some 24 := by kernel_rfl
theorem ag128 : aggT Try.prog 128 = some false := by kernel_rfl
theorem el128 : elT Try.prog 128 = some 242 := by kernel_rfl
theorem ze128 : zeroT Try.prog 128 = some [.slice none 0 0] := by kernel_rfl
theorem sz130 : szT Try.prog 130 = some 23 := by kernel_rfl
theorem by130 : byT Try.prog 130 = some 360 := by kernel_rfl
theorem ag130 : aggT Try.prog 130 = some true := by kernel_rfl
theorem fl130_0 : fldT Try.prog 130 0 = some (0, 1, false) := by kernel_rfl
theorem fl130_1 : fldT Try.prog 130 1 = some (1, 1, false) := by kernel_rfl
theorem fl130_2 : fldT Try.prog 130 2 = some (2, 1, false) := by kernel_rfl
theorem fl130_3 : fldT Try.prog 130 3 = some (3, 5, true) := by kernel_rfl
theorem fl130_4 : fldT Try.prog 130 4 = some (8, 5, true) := by kernel_rfl
theorem fl130_5 : fldT Try.prog 130 5 = some (13, 1, false) := by kernel_rfl
theorem fl130_6 : fldT Try.prog 130 6 = some (14, 1, false) := by kernel_rfl
theorem fl130_7 : fldT Try.prog 130 7 = some (15, 7, true) := by kernel_rfl
theorem fl130_8 : fldT Try.prog 130 8 = some (22, 1, false) := by kernel_rfl
theorem st130 : stT Try.prog 130 = some [(0, 1), (1, 1), (2, 1), (3, 5), (8, 5), (13, 1), (14, 1), (15, 7), (22, 1)] := by kernel_rfl
theorem ze130 : zeroT Try.prog 130 = some [.int .i64 0, .string ⟨#[]⟩, .int .i64 0, .int .i64 0, .int .i64 0, .string ⟨#[]⟩, .slice none 0 0, .slice none 0 0, .int .i64 0, .int .i64 0, .string ⟨#[]⟩, .slice none 0 0, .slice none 0 0, .int .i64 0, .slice none 0 0, .int .i64 0, .int .i64 0, .int .i64 0, .string ⟨#[]⟩, .slice none 0 0, .slice none 0 0, .slice none 0 0, .slice none 0 0] := by kernel_rfl
theorem sz132 : szT Try.prog 132 = some 25 := by kernel_rfl
theorem by132 : byT Try.prog 132 = some 392 := by kernel_rfl
theorem ag132 : aggT Try.prog 132 = some true := by kernel_rfl
theorem fl132_0 : fldT Try.prog 132 0 = some (0, 23, true) := by kernel_rfl
theorem fl132_1 : fldT Try.prog 132 1 = some (23, 1, false) := by kernel_rfl
theorem fl132_2 : fldT Try.prog 132 2 = some (24, 1, false) := by kernel_rfl
theorem st132 : stT Try.prog 132 = some [(0, 23), (23, 1), (24, 1)] := by kernel_rfl
theorem ze132 : zeroT Try.prog 132 = some [.int .i64 0, .string ⟨#[]⟩, .int .i64 0, .int .i64 0, .int .i64 0, .string ⟨#[]⟩, .slice none 0 0, .slice none 0 0, .int .i64 0, .int .i64 0, .string ⟨#[]⟩, .slice none 0 0, .slice none 0 0, .int .i64 0, .slice none 0 0, .int .i64 0, .int .i64 0, .int .i64 0, .string ⟨#[]⟩, .slice none 0 0, .slice none 0 0, .slice none 0 0, .slice none 0 0, .int .i64 0, .slice none 0 0] := by kernel_rfl
theorem sz135 : szT Try.prog 135 = some 1 := by kernel_rfl
theorem by135 : byT Try.prog 135 = some 8 := by kernel_rfl
theorem ag135 : aggT Try.prog 135 = some false := by kernel_rfl
theorem ze135 : zeroT Try.prog 135 = some [.map none] := by kernel_rfl
theorem sz151 : szT Try.prog 151 = some 1 := by kernel_rfl
theorem by151 : byT Try.prog 151 = some 24 := by kernel_rfl
theorem ag151 : aggT Try.prog 151 = some false := by kernel_rfl
theorem el151 : elT Try.prog 151 = some 157 := by kernel_rfl
theorem ze151 : zeroT Try.prog 151 = some [.slice none 0 0] := by kernel_rfl
theorem sz153 : szT Try.prog 153 = some 2 := by kernel_rfl
theorem by153 : byT Try.prog 153 = some 32 := by kernel_rfl
theorem ag153 : aggT Try.prog 153 = some true := by kernel_rfl
theorem fl153_0 : fldT Try.prog 153 0 = some (0, 1, false) := by kernel_rfl
theorem fl153_1 : fldT Try.prog 153 1 = some (1, 1, false) := by kernel_rfl
theorem st153 : stT Try.prog 153 = some [(0, 1), (1, 1)] := by kernel_rfl
theorem ze153 : zeroT Try.prog 153 = some [.int .i64 0, .slice none 0 0] := by kernel_rfl
theorem sz154 : szT Try.prog 154 = some 1 := by kernel_rfl
theorem by154 : byT Try.prog 154 = some 8 := by kernel_rfl
theorem ag154 : aggT Try.prog 154 = some false := by kernel_rfl
theorem ze154 : zeroT Try.prog 154 = some [.nilFunc] := by kernel_rfl
theorem sz157 : szT Try.prog 157 = some 2 := by kernel_rfl
theorem by157 : byT Try.prog 157 = some 16 := by kernel_rfl
theorem ag157 : aggT Try.prog 157 = some true := by kernel_rfl
theorem fl157_0 : fldT Try.prog 157 0 = some (0, 1, false) := by kernel_rfl
theorem fl157_1 : fldT Try.prog 157 1 = some (1, 1, false) := by kernel_rfl
theorem st157 : stT Try.prog 157 = some [(0, 1), (1, 1)] := by kernel_rfl
theorem ze157 : zeroT Try.prog 157 = some [.int .i64 0, .int .i64 0] := by kernel_rfl
theorem sz161 : szT Try.prog 161 = some 1 := by kernel_rfl
theorem by161 : byT Try.prog 161 = some 8 := by kernel_rfl
theorem ag161 : aggT Try.prog 161 = some false := by kernel_rfl
theorem ze161 : zeroT Try.prog 161 = some [.nilFunc] := by kernel_rfl
theorem sz163 : szT Try.prog 163 = some 1 := by kernel_rfl
theorem by163 : byT Try.prog 163 = some 8 := by kernel_rfl
theorem ag163 : aggT Try.prog 163 = some false := by kernel_rfl
theorem ze163 : zeroT Try.prog 163 = some [.map none] := by kernel_rfl
theorem sz166 : szT Try.prog 166 = some 1 := by kernel_rfl
theorem by166 : byT Try.prog 166 = some 8 := by kernel_rfl
theorem ag166 : aggT Try.prog 166 = some false := by kernel_rfl
theorem ze166 : zeroT Try.prog 166 = some [.map none] := by kernel_rfl
theorem sz169 : szT Try.prog 169 = some 1 := by kernel_rfl
theorem by169 : byT Try.prog 169 = some 8 := by kernel_rfl
theorem ag169 : aggT Try.prog 169 = some false := by kernel_rfl
theorem ze169 : zeroT Try.prog 169 = some [.int .i64 0] := by kernel_rfl
theorem sz177 : szT Try.prog 177 = some 6 := by kernel_rfl
theorem by177 : byT Try.prog 177 = some 96 := by kernel_rfl
theorem ag177 : aggT Try.prog 177 = some true := by kernel_rfl
theorem fl177_0 : fldT Try.prog 177 0 = some (0, 1, false) := by kernel_rfl
theorem fl177_1 : fldT Try.prog 177 1 = some (1, 5, true) := by kernel_rfl
theorem st177 : stT Try.prog 177 = some [(0, 1), (1, 5)] := by kernel_rfl
theorem ze177 : zeroT Try.prog 177 = some [.string ⟨#[]⟩, .int .i64 0, .int .i64 0, .string ⟨#[]⟩, .slice none 0 0, .slice none 0 0] := by kernel_rfl
theorem sz180 : szT Try.prog 180 = some 1 := by kernel_rfl
theorem by180 : byT Try.prog 180 = some 24 := by kernel_rfl
theorem ag180 : aggT Try.prog 180 = some false := by kernel_rfl
theorem el180 : elT Try.prog 180 = some 187 := by kernel_rfl
theorem ze180 : zeroT Try.prog 180 = some [.slice none 0 0] := by kernel_rfl
theorem sz182 : szT Try.prog 182 = some 10 := by kernel_rfl
theorem by182 : byT Try.prog 182 = some 176 := by kernel_rfl
theorem ag182 : aggT Try.prog 182 = some true := by kernel_rfl
theorem fl182_0 : fldT Try.prog 182 0 = some (0, 1, false) := by kernel_rfl
theorem fl182_1 : fldT Try.prog 182 1 = some (1, 1, false) := by kernel_rfl
theorem fl182_2 : fldT Try.prog 182 2 = some (2, 1, false) := by kernel_rfl
theorem fl182_3 : fldT Try.prog 182 3 = some (3, 1, false) := by kernel_rfl
theorem fl182_4 : fldT Try.prog 182 4 = some (4, 5, true) := by kernel_rfl
theorem fl182_5 : fldT Try.prog 182 5 = some (9, 1, false) := by kernel_rfl
theorem st182 : stT Try.prog 182 = some [(0, 1), (1, 1), (2, 1), (3, 1), (4, 5), (9, 1)] := by kernel_rfl
theorem ze182 : zeroT Try.prog 182 = some [.string ⟨#[]⟩, .int .i64 0, .slice none 0 0, .slice none 0 0, .int .i64 0, .int .i64 0, .string ⟨#[]⟩, .slice none 0 0, .slice none 0 0, .slice none 0 0] := by kernel_rfl
theorem sz185 : szT Try.prog 185 = some 1 := by kernel_rfl
theorem by185 : byT Try.prog 185 = some 24 := by kernel_rfl
theorem ag185 : aggT Try.prog 185 = some false := by kernel_rfl
theorem el185 : elT Try.prog 185 = some 189 := by kernel_rfl
theorem ze185 : zeroT Try.prog 185 = some [.slice none 0 0] := by kernel_rfl
theorem sz187 : szT Try.prog 187 = some 4 := by kernel_rfl
theorem by187 : byT Try.prog 187 = some 88 := by kernel_rfl
theorem ag187 : aggT Try.prog 187 = some true := by kernel_rfl
theorem fl187_0 : fldT Try.prog 187 0 = some (0, 1, false) := by kernel_rfl
theorem fl187_1 : fldT Try.prog 187 1 = some (1, 1, false) := by kernel_rfl
theorem fl187_2 : fldT Try.prog 187 2 = some (2, 1, false) := by kernel_rfl
theorem fl187_3 : fldT Try.prog 187 3 = some (3, 1, false) := by kernel_rfl
theorem st187 : stT Try.prog 187 = some [(0, 1), (1, 1), (2, 1), (3, 1)] := by kernel_rfl
theorem ze187 : zeroT Try.prog 187 = some [.string ⟨#[]⟩, .slice none 0 0, .slice none 0 0, .slice none 0 0] := by kernel_rfl
theorem sz189 : szT Try.prog 189 = some 3 := by kernel_rfl
theorem by189 : byT Try.prog 189 = some 56 := by kernel_rfl
theorem ag189 : aggT Try.prog 189 = some true := by kernel_rfl
theorem fl189_0 : fldT Try.prog 189 0 = some (0, 1, false) := by kernel_rfl
theorem fl189_1 : fldT Try.prog 189 1 = some (1, 1, false) := by kernel_rfl
theorem fl189_2 : fldT Try.prog 189 2 = some (2, 1, false) := by kernel_rfl
theorem st189 : stT Try.prog 189 = some [(0, 1), (1, 1), (2, 1)] := by kernel_rfl
theorem ze189 : zeroT Try.prog 189 = some [.int .i64 0, .slice none 0 0, .slice none 0 0] := by kernel_rfl
theorem sz193 : szT Try.prog 193 = some 1 := by kernel_rfl
theorem by193 : byT Try.prog 193 = some 8 := by kernel_rfl
theorem ag193 : aggT Try.prog 193 = some false := by kernel_rfl
theorem ze193 : zeroT Try.prog 193 = some [.nilFunc] := by kernel_rfl
theorem sz195 : szT Try.prog 195 = some 5 := by kernel_rfl
theorem by195 : byT Try.prog 195 = some 32 := by kernel_rfl
theorem ag195 : aggT Try.prog 195 = some true := by kernel_rfl
theorem fl195_0 : fldT Try.prog 195 0 = some (0, 1, false) := by kernel_rfl
theorem fl195_1 : fldT Try.prog 195 1 = some (1, 1, false) := by kernel_rfl
theorem fl195_2 : fldT Try.prog 195 2 = some (2, 1, false) := by kernel_rfl
theorem fl195_3 : fldT Try.prog 195 3 = some (3, 1, false) := by kernel_rfl
theorem fl195_4 : fldT Try.prog 195 4 = some (4, 1, false) := by kernel_rfl
theorem st195 : stT Try.prog 195 = some [(0, 1), (1, 1), (2, 1), (3, 1), (4, 1)] := by kernel_rfl
theorem ze195 : zeroT Try.prog 195 = some [.bool false, .bool false, .int .i64 0, .int .i64 0, .int .i64 0] := by kernel_rfl
theorem sz196 : szT Try.prog 196 = some 65 := by kernel_rfl
theorem by196 : byT Try.prog 196 = some 416 := by kernel_rfl
theorem ag196 : aggT Try.prog 196 = some true := by kernel_rfl
theorem el196 : elT Try.prog 196 = none := by kernel_rfl
theorem ar196 : arT Try.prog 196 = some (13, 195) := by kernel_rfl
theorem ze196 : zeroT Try.prog 196 = some [.bool false, .bool false, .int .i64 0, .int .i64 0, .int .i64 0, .bool false, .bool false, .int .i64 0, .int .i64 0, .int .i64 0, .bool false, .bool false, .int .i64 0, .int .i64 0, .int .i64 0, .bool false, .bool false, .int .i64 0, .int .i64 0, .int .i64 0, .bool false, .bool false, .int .i64 0, .int .i64 0, .int .i64 0, .bool false, .bool false, .int .i64 0, .int .i64 0, .int .i64 0, .bool false, .bool false, .int .i64 0, .int .i64 0, .int .i64 0, .bool false, .bool false, .int .i64 0, .int .i64 0, .int .i64 0, .bool false, .bool false, .int .i64 0, .int .i64 0, .int .i64 0, .bool false, .bool false, .int .i64 0, .int .i64 0, .int .i64 0, .bool false, .bool false, .int .i64 0, .int .i64 0, .int .i64 0, .bool false, .bool false, .int .i64 0, .int .i64 0, .int .i64 0, .bool false, .bool false, .int .i64 0, .int .i64 0, .int .i64 0] := by kernel_rfl
theorem sz201 : szT Try.prog 201 = some 4 := by kernel_rfl
theorem by201 : byT Try.prog 201 = some 32 := by kernel_rfl
theorem ag201 : aggT Try.prog 201 = some true := by kernel_rfl
theorem fl201_0 : fldT Try.prog 201 0 = some (0, 1, false) := by kernel_rfl
theorem fl201_1 : fldT Try.prog 201 1 = some (1, 1, false) := by kernel_rfl
theorem fl201_2 : fldT Try.prog 201 2 = some (2, 1, false) := by kernel_rfl
theorem fl201_3 : fldT Try.prog 201 3 = some (3, 1, false) := by kernel_rfl
theorem st201 : stT Try.prog 201 = some [(0, 1), (1, 1), (2, 1), (3, 1)] := by kernel_rfl
theorem ze201 : zeroT Try.prog 201 = some [.int .i64 0, .int .i64 0, .int .i64 0, .int .i64 0] := by kernel_rfl
theorem sz207 : szT Try.prog 207 = some 1 := by kernel_rfl
theorem by207 : byT Try.prog 207 = some 8 := by kernel_rfl
theorem ag207 : aggT Try.prog 207 = some false := by kernel_rfl
theorem ze207 : zeroT Try.prog 207 = some [.int .u64 0] := by kernel_rfl
theorem sz213 : szT Try.prog 213 = some 9 := by kernel_rfl
theorem by213 : byT Try.prog 213 = some 112 := by kernel_rfl
theorem ag213 : aggT Try.prog 213 = some true := by kernel_rfl
theorem fl213_0 : fldT Try.prog 213 0 = some (0, 1, false) := by kernel_rfl
theorem fl213_1 : fldT Try.prog 213 1 = some (1, 1, false) := by kernel_rfl
theorem fl213_2 : fldT Try.prog 213 2 = some (2, 1, false) := by kernel_rfl
theorem fl213_3 : fldT Try.prog 213 3 = some (3, 1, false) := by kernel_rfl
theorem fl213_4 : fldT Try.prog 213 4 = some (4, 5, true) := by kernel_rfl
theorem st213 : stT Try.prog 213 = some [(0, 1), (1, 1), (2, 1), (3, 1), (4, 5)] := by kernel_rfl
theorem ze213 : zeroT Try.prog 213 = some [.int .i64 0, .int .i64 0, .int .i64 0, .int .i64 0, .int .i64 0, .int .i64 0, .string ⟨#[]⟩, .slice none 0 0, .slice none 0 0] := by kernel_rfl
theorem sz218 : szT Try.prog 218 = some 7 := by kernel_rfl
theorem by218 : byT Try.prog 218 = some 112 := by kernel_rfl
theorem ag218 : aggT Try.prog 218 = some true := by kernel_rfl
theorem fl218_0 : fldT Try.prog 218 0 = some (0, 5, true) := by kernel_rfl
theorem fl218_1 : fldT Try.prog 218 1 = some (5, 1, false) := by kernel_rfl
theorem fl218_2 : fldT Try.prog 218 2 = some (6, 1, false) := by kernel_rfl
theorem st218 : stT Try.prog 218 = some [(0, 5), (5, 1), (6, 1)] := by kernel_rfl
theorem ze218 : zeroT Try.prog 218 = some [.int .i64 0, .int .i64 0, .string ⟨#[]⟩, .slice none 0 0, .slice none 0 0, .slice none 0 0, .int .i64 0] := by kernel_rfl
theorem sz227 : szT Try.prog 227 = some 1 := by kernel_rfl
theorem by227 : byT Try.prog 227 = some 8 := by kernel_rfl
theorem ag227 : aggT Try.prog 227 = some false := by kernel_rfl
theorem ze227 : zeroT Try.prog 227 = some [.int .i64 0] := by kernel_rfl
theorem sz235 : szT Try.prog 235 = some 1 := by kernel_rfl
theorem by235 : byT Try.prog 235 = some 4 := by kernel_rfl
theorem ag235 : aggT Try.prog 235 = some false := by kernel_rfl
theorem ze235 : zeroT Try.prog 235 = some [.int .u32 0] := by kernel_rfl
theorem sz237 : szT Try.prog 237 = some 1 := by kernel_rfl
theorem by237 : byT Try.prog 237 = some 8 := by kernel_rfl
theorem ag237 : aggT Try.prog 237 = some false := by kernel_rfl
theorem ze237 : zeroT Try.prog 237 = some [.int .u64 0] := by kernel_rfl
theorem sz238 : szT Try.prog 238 = some 1 := by kernel_rfl
theorem by238 : byT Try.prog 238 = some 24 := by kernel_rfl
theorem ag238 : aggT Try.prog 238 = some false := by kernel_rfl
theorem el238 : elT Try.prog 238 = some 261 := by kernel_rfl
theorem ze238 : zeroT Try.prog 238 = some [.slice none 0 0] := by kernel_rfl
theorem sz240 : szT Try.prog 240 = some 8 := by kernel_rfl
theorem by240 : byT Try.prog 240 = some 120 := by kernel_rfl
theorem ag240 : aggT Try.prog 240 = some true := by kernel_rfl
theorem fl240_0 : fldT Try.prog 240 0 = some (0, 1, false) := by kernel_rfl
theorem fl240_1 : fldT Try.prog 240 1 = some (1, 5, true) := by kernel_rfl
theorem fl240_2 : fldT Try.prog 240 2 = some (6, 1, false) := by kernel_rfl
theorem fl240_3 : fldT Try.prog 240 3 = some (7, 1, false) := by kernel_rfl
theorem st240 : stT Try.prog 240 = some [(0, 1), (1, 5), (6, 1), (7, 1)] := by kernel_rfl
theorem ze240 : zeroT Try.prog 240 = some [.int .i64 0, .int .i64 0, .int .i64 0, .string ⟨#[]⟩, .slice none 0 0, .slice none 0 0, .int .i64 0, .slice none 0 0] := by kernel_rfl
theorem sz242 : szT Try.prog 242 = some 15 := by kernel_rfl
theorem by242 : byT Try.prog 242 = some 224 := by kernel_rfl
theorem ag242 : aggT Try.prog 242 = some true := by kernel_rfl
theorem fl242_0 : fldT Try.prog 242 0 = some (0, 1, false) := by kernel_rfl
theorem fl242_1 : fldT Try.prog 242 1 = some (1, 5, true) := by kernel_rfl
theorem fl242_2 : fldT Try.prog 242 2 = some (6, 1, false) := by kernel_rfl
theorem fl242_3 : fldT Try.prog 242 3 = some (7, 8, true) := by kernel_rfl
theorem st242 : stT Try.prog 242 = some [(0, 1), (1, 5), (6, 1), (7, 8)] := by kernel_rfl
theorem ze242 : zeroT Try.prog 242 = some [.string ⟨#[]⟩, .int .i64 0, .int .i64 0, .string ⟨#[]⟩, .slice none 0 0, .slice none 0 0, .int .i64 0, .int .i64 0, .int .i64 0, .int .i64 0, .string ⟨#[]⟩, .slice none 0 0, .slice none 0 0, .int .i64 0, .slice none 0 0] := by kernel_rfl
theorem sz253 : szT Try.prog 253 = some 1 := by kernel_rfl
theorem by253 : byT Try.prog 253 = some 8 := by kernel_rfl
theorem ag253 : aggT Try.prog 253 = some false := by kernel_rfl
theorem ze253 : zeroT Try.prog 253 = some [.int .u64 0] := by kernel_rfl
theorem sz257 : szT Try.prog 257 = some 1 := by kernel_rfl
theorem by257 : byT Try.prog 257 = some 8 := by kernel_rfl
theorem ag257 : aggT Try.prog 257 = some false := by kernel_rfl
theorem ze257 : zeroT Try.prog 257 = some [.pointer none] := by kernel_rfl
theorem sz261 : szT Try.prog 261 = some 10 := by kernel_rfl
theorem by261 : byT Try.prog 261 = some 144 := by kernel_rfl
theorem ag261 : aggT Try.prog 261 = some true := by kernel_rfl
theorem fl261_0 : fldT Try.prog 261 0 = some (0, 1, false) := by kernel_rfl
theorem fl261_1 : fldT Try.prog 261 1 = some (1, 1, false) := by kernel_rfl
theorem fl261_2 : fldT Try.prog 261 2 = some (2, 8, true) := by kernel_rfl
theorem st261 : stT Try.prog 261 = some [(0, 1), (1, 1), (2, 8)] := by kernel_rfl
theorem ze261 : zeroT Try.prog 261 = some [.string ⟨#[]⟩, .bool false, .int .i64 0, .int .i64 0, .int .i64 0, .string ⟨#[]⟩, .slice none 0 0, .slice none 0 0, .int .i64 0, .slice none 0 0] := by kernel_rfl
theorem sz263 : szT Try.prog 263 = some 25 := by kernel_rfl
theorem by263 : byT Try.prog 263 = some 408 := by kernel_rfl
theorem ag263 : aggT Try.prog 263 = some true := by kernel_rfl
theorem fl263_0 : fldT Try.prog 263 0 = some (0, 1, false) := by kernel_rfl
theorem fl263_1 : fldT Try.prog 263 1 = some (1, 1, false) := by kernel_rfl
theorem fl263_2 : fldT Try.prog 263 2 = some (2, 23, true) := by kernel_rfl
theorem st263 : stT Try.prog 263 = some [(0, 1), (1, 1), (2, 23)] := by kernel_rfl
theorem ze263 : zeroT Try.prog 263 = some [.slice none 0 0, .slice none 0 0, .int .i64 0, .string ⟨#[]⟩, .int .i64 0, .int .i64 0, .int .i64 0, .string ⟨#[]⟩, .slice none 0 0, .slice none 0 0, .int .i64 0, .int .i64 0, .string ⟨#[]⟩, .slice none 0 0, .slice none 0 0, .int .i64 0, .slice none 0 0, .int .i64 0, .int .i64 0, .int .i64 0, .string ⟨#[]⟩, .slice none 0 0, .slice none 0 0, .slice none 0 0, .slice none 0 0] := by kernel_rfl
theorem sz275 : szT Try.prog 275 = some 1 := by kernel_rfl
theorem by275 : byT Try.prog 275 = some 8 := by kernel_rfl
theorem ag275 : aggT Try.prog 275 = some false := by kernel_rfl
theorem ze275 : zeroT Try.prog 275 = some [.nilFunc] := by kernel_rfl
theorem is3 : strT Try.prog 3 = false := by kernel_rfl
theorem ib3 : boolT Try.prog 3 = false := by kernel_rfl
theorem is4 : strT Try.prog 4 = false := by kernel_rfl
theorem ib4 : boolT Try.prog 4 = true := by kernel_rfl
theorem is5 : strT Try.prog 5 = false := by kernel_rfl
theorem ib5 : boolT Try.prog 5 = false := by kernel_rfl
theorem is9 : strT Try.prog 9 = true := by kernel_rfl
theorem ib9 : boolT Try.prog 9 = false := by kernel_rfl
theorem is20 : strT Try.prog 20 = false := by kernel_rfl
theorem ib20 : boolT Try.prog 20 = false := by kernel_rfl
theorem is22 : strT Try.prog 22 = false := by kernel_rfl
theorem ib22 : boolT Try.prog 22 = false := by kernel_rfl
theorem is23 : strT Try.prog 23 = false := by kernel_rfl
theorem ib23 : boolT Try.prog 23 = false := by kernel_rfl
theorem is25 : strT Try.prog 25 = false := by kernel_rfl
theorem ib25 : boolT Try.prog 25 = false := by kernel_rfl
theorem is28 : strT Try.prog 28 = false := by kernel_rfl
theorem ib28 : boolT Try.prog 28 = false := by kernel_rfl
theorem is33 : strT Try.prog 33 = false := by kernel_rfl
theorem ib33 : boolT Try.prog 33 = false := by kernel_rfl
theorem is45 : strT Try.prog 45 = false := by kernel_rfl
theorem ib45 : boolT Try.prog 45 = false := by kernel_rfl
theorem is49 : strT Try.prog 49 = false := by kernel_rfl
theorem ib49 : boolT Try.prog 49 = false := by kernel_rfl
theorem is54 : strT Try.prog 54 = false := by kernel_rfl
theorem ib54 : boolT Try.prog 54 = false := by kernel_rfl
theorem is65 : strT Try.prog 65 = false := by kernel_rfl
theorem ib65 : boolT Try.prog 65 = false := by kernel_rfl
theorem is83 : strT Try.prog 83 = false := by kernel_rfl
theorem ib83 : boolT Try.prog 83 = false := by kernel_rfl
theorem is87 : strT Try.prog 87 = false := by kernel_rfl
theorem ib87 : boolT Try.prog 87 = false := by kernel_rfl
theorem is90 : strT Try.prog 90 = false := by kernel_rfl
theorem ib90 : boolT Try.prog 90 = false := by kernel_rfl
theorem is93 : strT Try.prog 93 = false := by kernel_rfl
theorem ib93 : boolT Try.prog 93 = false := by kernel_rfl
theorem is96 : strT Try.prog 96 = false := by kernel_rfl
theorem ib96 : boolT Try.prog 96 = false := by kernel_rfl
theorem is101 : strT Try.prog 101 = false := by kernel_rfl
theorem ib101 : boolT Try.prog 101 = false := by kernel_rfl
theorem is103 : strT Try.prog 103 = false := by kernel_rfl
theorem ib103 : boolT Try.prog 103 = false := by kernel_rfl
theorem is106 : strT Try.prog 106 = false := by kernel_rfl
theorem ib106 : boolT Try.prog 106 = false := by kernel_rfl
theorem is107 : strT Try.prog 107 = false := by kernel_rfl
theorem ib107 : boolT Try.prog 107 = false := by kernel_rfl
theorem is109 : strT Try.prog 109 = false := by kernel_rfl
theorem ib109 : boolT Try.prog 109 = false := by kernel_rfl
theorem is111 : strT Try.prog 111 = false := by kernel_rfl
theorem ib111 : boolT Try.prog 111 = false := by kernel_rfl
theorem is113 : strT Try.prog 113 = false := by kernel_rfl
theorem ib113 : boolT Try.prog 113 = false := by kernel_rfl
theorem is114 : strT Try.prog 114 = false := by kernel_rfl
theorem ib114 : boolT Try.prog 114 = false := by kernel_rfl
theorem is125 : strT Try.prog 125 = false := by kernel_rfl
theorem ib125 : boolT Try.prog 125 = false := by kernel_rfl
theorem is127 : strT Try.prog 127 = false := by kernel_rfl
theorem ib127 : boolT Try.prog 127 = false := by kernel_rfl
theorem is128 : strT Try.prog 128 = false := by kernel_rfl
theorem ib128 : boolT Try.prog 128 = false := by kernel_rfl
theorem is130 : strT Try.prog 130 = false := by kernel_rfl
theorem ib130 : boolT Try.prog 130 = false := by kernel_rfl
theorem is132 : strT Try.prog 132 = false := by kernel_rfl
theorem ib132 : boolT Try.prog 132 = false := by kernel_rfl
theorem is135 : strT Try.prog 135 = false := by kernel_rfl
theorem ib135 : boolT Try.prog 135 = false := by kernel_rfl
theorem is151 : strT Try.prog 151 = false := by kernel_rfl
theorem ib151 : boolT Try.prog 151 = false := by kernel_rfl
theorem is153 : strT Try.prog 153 = false := by kernel_rfl
theorem ib153 : boolT Try.prog 153 = false := by kernel_rfl
theorem is154 : strT Try.prog 154 = false := by kernel_rfl
theorem ib154 : boolT Try.prog 154 = false := by kernel_rfl
theorem is157 : strT Try.prog 157 = false := by kernel_rfl
theorem ib157 : boolT Try.prog 157 = false := by kernel_rfl
theorem is161 : strT Try.prog 161 = false := by kernel_rfl
theorem ib161 : boolT Try.prog 161 = false := by kernel_rfl
theorem is163 : strT Try.prog 163 = false := by kernel_rfl
theorem ib163 : boolT Try.prog 163 = false := by kernel_rfl
theorem is166 : strT Try.prog 166 = false := by kernel_rfl
theorem ib166 : boolT Try.prog 166 = false := by kernel_rfl
theorem is169 : strT Try.prog 169 = false := by kernel_rfl
theorem ib169 : boolT Try.prog 169 = false := by kernel_rfl
theorem is177 : strT Try.prog 177 = false := by kernel_rfl
theorem ib177 : boolT Try.prog 177 = false := by kernel_rfl
theorem is180 : strT Try.prog 180 = false := by kernel_rfl
theorem ib180 : boolT Try.prog 180 = false := by kernel_rfl
theorem is182 : strT Try.prog 182 = false := by kernel_rfl
theorem ib182 : boolT Try.prog 182 = false := by kernel_rfl
theorem is185 : strT Try.prog 185 = false := by kernel_rfl
theorem ib185 : boolT Try.prog 185 = false := by kernel_rfl
theorem is187 : strT Try.prog 187 = false := by kernel_rfl
theorem ib187 : boolT Try.prog 187 = false := by kernel_rfl
theorem is189 : strT Try.prog 189 = false := by kernel_rfl
theorem ib189 : boolT Try.prog 189 = false := by kernel_rfl
theorem is193 : strT Try.prog 193 = false := by kernel_rfl
theorem ib193 : boolT Try.prog 193 = false := by kernel_rfl
theorem is195 : strT Try.prog 195 = false := by kernel_rfl
theorem ib195 : boolT Try.prog 195 = false := by kernel_rfl
theorem is196 : strT Try.prog 196 = false := by kernel_rfl
theorem ib196 : boolT Try.prog 196 = false := by kernel_rfl
theorem is201 : strT Try.prog 201 = false := by kernel_rfl
theorem ib201 : boolT Try.prog 201 = false := by kernel_rfl
theorem is207 : strT Try.prog 207 = false := by kernel_rfl
theorem ib207 : boolT Try.prog 207 = false := by kernel_rfl
theorem is213 : strT Try.prog 213 = false := by kernel_rfl
theorem ib213 : boolT Try.prog 213 = false := by kernel_rfl
theorem is218 : strT Try.prog 218 = false := by kernel_rfl
theorem ib218 : boolT Try.prog 218 = false := by kernel_rfl
theorem is227 : strT Try.prog 227 = false := by kernel_rfl
theorem ib227 : boolT Try.prog 227 = false := by kernel_rfl
theorem is235 : strT Try.prog 235 = false := by kernel_rfl
theorem ib235 : boolT Try.prog 235 = false := by kernel_rfl
theorem is237 : strT Try.prog 237 = false := by kernel_rfl
theorem ib237 : boolT Try.prog 237 = false := by kernel_rfl
theorem is238 : strT Try.prog 238 = false := by kernel_rfl
theorem ib238 : boolT Try.prog 238 = false := by kernel_rfl
theorem is240 : strT Try.prog 240 = false := by kernel_rfl
theorem ib240 : boolT Try.prog 240 = false := by kernel_rfl
theorem is242 : strT Try.prog 242 = false := by kernel_rfl
theorem ib242 : boolT Try.prog 242 = false := by kernel_rfl
theorem is253 : strT Try.prog 253 = false := by kernel_rfl
theorem ib253 : boolT Try.prog 253 = false := by kernel_rfl
theorem is257 : strT Try.prog 257 = false := by kernel_rfl
theorem ib257 : boolT Try.prog 257 = false := by kernel_rfl
theorem is261 : strT Try.prog 261 = false := by kernel_rfl
theorem ib261 : boolT Try.prog 261 = false := by kernel_rfl
theorem is263 : strT Try.prog 263 = false := by kernel_rfl
theorem ib263 : boolT Try.prog 263 = false := by kernel_rfl
theorem is275 : strT Try.prog 275 = false := by kernel_rfl
theorem ib275 : boolT Try.prog 275 = false := by kernel_rfl

attribute [simp] sz3 by3 ag3 ze3 sz4 by4 ag4 ze4 sz5 by5 ag5 ze5 sz9 by9 ag9 ze9 sz20 by20 ag20 ze20 sz22 by22 ag22 el22 ze22 sz23 by23 ag23 el23 ze23 sz25 by25 ag25 fl25_0 fl25_1 fl25_2 fl25_3 fl25_4 st25 ze25 sz28 by28 ag28 ze28 sz33 by33 ag33 ze33 sz45 by45 ag45 el45 ze45 sz49 by49 ag49 el49 ar49 ze49 sz54 by54 ag54 ze54 sz65 by65 ag65 el65 ze65 sz83 by83 ag83 fl83_0 fl83_1 fl83_2 fl83_3 st83 ze83 sz87 by87 ag87 ze87 sz90 by90 ag90 el90 ar90 ze90 sz93 by93 ag93 el93 ze93 sz96 by96 ag96 el96 ar96 ze96 sz101 by101 ag101 ze101 sz103 by103 ag103 fl103_0 fl103_1 st103 ze103 sz106 by106 ag106 ze106 sz107 by107 ag107 ze107 sz109 by109 ag109 fl109_0 st109 ze109 sz111 by111 ag111 ze111 sz113 by113 ag113 fl113_0 st113 ze113 sz114 by114 ag114 ze114 sz125 by125 ag125 el125 ze125 sz127 by127 ag127 fl127_0 fl127_1 fl127_2 st127 ze127 sz128 by128 ag128 el128 ze128 sz130 by130 ag130 fl130_0 fl130_1 fl130_2 fl130_3 fl130_4 fl130_5 fl130_6 fl130_7 fl130_8 st130 ze130 sz132 by132 ag132 fl132_0 fl132_1 fl132_2 st132 ze132 sz135 by135 ag135 ze135 sz151 by151 ag151 el151 ze151 sz153 by153 ag153 fl153_0 fl153_1 st153 ze153 sz154 by154 ag154 ze154 sz157 by157 ag157 fl157_0 fl157_1 st157 ze157 sz161 by161 ag161 ze161 sz163 by163 ag163 ze163 sz166 by166 ag166 ze166 sz169 by169 ag169 ze169 sz177 by177 ag177 fl177_0 fl177_1 st177 ze177 sz180 by180 ag180 el180 ze180 sz182 by182 ag182 fl182_0 fl182_1 fl182_2 fl182_3 fl182_4 fl182_5 st182 ze182 sz185 by185 ag185 el185 ze185 sz187 by187 ag187 fl187_0 fl187_1 fl187_2 fl187_3 st187 ze187 sz189 by189 ag189 fl189_0 fl189_1 fl189_2 st189 ze189 sz193 by193 ag193 ze193 sz195 by195 ag195 fl195_0 fl195_1 fl195_2 fl195_3 fl195_4 st195 ze195 sz196 by196 ag196 el196 ar196 ze196 sz201 by201 ag201 fl201_0 fl201_1 fl201_2 fl201_3 st201 ze201 sz207 by207 ag207 ze207 sz213 by213 ag213 fl213_0 fl213_1 fl213_2 fl213_3 fl213_4 st213 ze213 sz218 by218 ag218 fl218_0 fl218_1 fl218_2 st218 ze218 sz227 by227 ag227 ze227 sz235 by235 ag235 ze235 sz237 by237 ag237 ze237 sz238 by238 ag238 el238 ze238 sz240 by240 ag240 fl240_0 fl240_1 fl240_2 fl240_3 st240 ze240 sz242 by242 ag242 fl242_0 fl242_1 fl242_2 fl242_3 st242 ze242 sz253 by253 ag253 ze253 sz257 by257 ag257 ze257 sz261 by261 ag261 fl261_0 fl261_1 fl261_2 st261 ze261 sz263 by263 ag263 fl263_0 fl263_1 fl263_2 st263 ze263 sz275 by275 ag275 ze275 is3 ib3 is4 ib4 is5 ib5 is9 ib9 is20 ib20 is22 ib22 is23 ib23 is25 ib25 is28 ib28 is33 ib33 is45 ib45 is49 ib49 is54 ib54 is65 ib65 is83 ib83 is87 ib87 is90 ib90 is93 ib93 is96 ib96 is101 ib101 is103 ib103 is106 ib106 is107 ib107 is109 ib109 is111 ib111 is113 ib113 is114 ib114 is125 ib125 is127 ib127 is128 ib128 is130 ib130 is132 ib132 is135 ib135 is151 ib151 is153 ib153 is154 ib154 is157 ib157 is161 ib161 is163 ib163 is166 ib166 is169 ib169 is177 ib177 is180 ib180 is182 ib182 is185 ib185 is187 ib187 is189 ib189 is193 ib193 is195 ib195 is196 ib196 is201 ib201 is207 ib207 is213 ib213 is218 ib218 is227 ib227 is235 ib235 is237 ib237 is238 ib238 is240 ib240 is242 ib242 is253 ib253 is257 ib257 is261 ib261 is263 ib263 is275 ib275

end Go.Proofs.Ytppgpabjcenjdaa
