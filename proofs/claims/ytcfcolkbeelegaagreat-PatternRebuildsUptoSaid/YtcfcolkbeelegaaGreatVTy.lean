import Derived.Test.YtcfcolkbeelegaaGreatProg
import Derived.KernelRfl
import Derived.Test.YtcfcolkbeelegaaGreatVFA

namespace Go.Proofs.YtcfcolkbeelegaaGreat

open Go.AI
theorem sz3 : szT Tryz.prog 3 = some 1 := by kernel_rfl
theorem by3 : byT Tryz.prog 3 = some 8 := by kernel_rfl
theorem ag3 : aggT Tryz.prog 3 = some false := by kernel_rfl
theorem ze3 : zeroT Tryz.prog 3 = some [.int .i64 0] := by kernel_rfl
theorem sz4 : szT Tryz.prog 4 = some 1 := by kernel_rfl
theorem by4 : byT Tryz.prog 4 = some 1 := by kernel_rfl
theorem ag4 : aggT Tryz.prog 4 = some false := by kernel_rfl
theorem ze4 : zeroT Tryz.prog 4 = some [.bool false] := by kernel_rfl
theorem sz5 : szT Tryz.prog 5 = some 1 := by kernel_rfl
theorem by5 : byT Tryz.prog 5 = some 1 := by kernel_rfl
theorem ag5 : aggT Tryz.prog 5 = some false := by kernel_rfl
theorem ze5 : zeroT Tryz.prog 5 = some [.int .u8 0] := by kernel_rfl
theorem sz9 : szT Tryz.prog 9 = some 1 := by kernel_rfl
theorem by9 : byT Tryz.prog 9 = some 16 := by kernel_rfl
theorem ag9 : aggT Tryz.prog 9 = some false := by kernel_rfl
theorem ze9 : zeroT Tryz.prog 9 = some [.string ⟨#[]⟩] := by kernel_rfl
theorem sz20 : szT Tryz.prog 20 = some 1 := by kernel_rfl
theorem by20 : byT Tryz.prog 20 = some 16 := by kernel_rfl
theorem ag20 : aggT Tryz.prog 20 = some false := by kernel_rfl
theorem ze20 : zeroT Tryz.prog 20 = some [.nilIface] := by kernel_rfl
theorem sz22 : szT Tryz.prog 22 = some 1 := by kernel_rfl
theorem by22 : byT Tryz.prog 22 = some 24 := by kernel_rfl
theorem ag22 : aggT Tryz.prog 22 = some false := by kernel_rfl
theorem el22 : elT Tryz.prog 22 = some 90 := by kernel_rfl
theorem ze22 : zeroT Tryz.prog 22 = some [.slice none 0 0] := by kernel_rfl
theorem sz23 : szT Tryz.prog 23 = some 1 := by kernel_rfl
theorem by23 : byT Tryz.prog 23 = some 24 := by kernel_rfl
theorem ag23 : aggT Tryz.prog 23 = some false := by kernel_rfl
theorem el23 : elT Tryz.prog 23 = some 25 := by kernel_rfl
theorem ze23 : zeroT Tryz.prog 23 = some [.slice none 0 0] := by kernel_rfl
theorem sz25 : szT Tryz.prog 25 = some 5 := by kernel_rfl
theorem by25 : byT Tryz.prog 25 = some 80 := by kernel_rfl
theorem ag25 : aggT Tryz.prog 25 = some true := by kernel_rfl
theorem fl25_0 : fldT Tryz.prog 25 0 = some (0, 1, false) := by kernel_rfl
theorem fl25_1 : fldT Tryz.prog 25 1 = some (1, 1, false) := by kernel_rfl
theorem fl25_2 : fldT Tryz.prog 25 2 = some (2, 1, false) := by kernel_rfl
theorem fl25_3 : fldT Tryz.prog 25 3 = some (3, 1, false) := by kernel_rfl
theorem fl25_4 : fldT Tryz.prog 25 4 = some (4, 1, false) := by kernel_rfl
theorem st25 : stT Tryz.prog 25 = some [(0, 1), (1, 1), (2, 1), (3, 1), (4, 1)] := by kernel_rfl
theorem ze25 : zeroT Tryz.prog 25 = some [.int .i64 0, .int .i64 0, .string ⟨#[]⟩, .slice none 0 0, .slice none 0 0] := by kernel_rfl
theorem sz29 : szT Tryz.prog 29 = some 1 := by kernel_rfl
theorem by29 : byT Tryz.prog 29 = some 8 := by kernel_rfl
theorem ag29 : aggT Tryz.prog 29 = some false := by kernel_rfl
theorem ze29 : zeroT Tryz.prog 29 = some [.int .i64 0] := by kernel_rfl
theorem sz34 : szT Tryz.prog 34 = some 1 := by kernel_rfl
theorem by34 : byT Tryz.prog 34 = some 8 := by kernel_rfl
theorem ag34 : aggT Tryz.prog 34 = some false := by kernel_rfl
theorem ze34 : zeroT Tryz.prog 34 = some [.nilFunc] := by kernel_rfl
theorem sz36 : szT Tryz.prog 36 = some 1 := by kernel_rfl
theorem by36 : byT Tryz.prog 36 = some 24 := by kernel_rfl
theorem ag36 : aggT Tryz.prog 36 = some false := by kernel_rfl
theorem el36 : elT Tryz.prog 36 = some 63 := by kernel_rfl
theorem ze36 : zeroT Tryz.prog 36 = some [.slice none 0 0] := by kernel_rfl
theorem sz37 : szT Tryz.prog 37 = some 1 := by kernel_rfl
theorem by37 : byT Tryz.prog 37 = some 24 := by kernel_rfl
theorem ag37 : aggT Tryz.prog 37 = some false := by kernel_rfl
theorem el37 : elT Tryz.prog 37 = some 53 := by kernel_rfl
theorem ze37 : zeroT Tryz.prog 37 = some [.slice none 0 0] := by kernel_rfl
theorem sz42 : szT Tryz.prog 42 = some 1 := by kernel_rfl
theorem by42 : byT Tryz.prog 42 = some 8 := by kernel_rfl
theorem ag42 : aggT Tryz.prog 42 = some false := by kernel_rfl
theorem ze42 : zeroT Tryz.prog 42 = some [.pointer none] := by kernel_rfl
theorem sz47 : szT Tryz.prog 47 = some 5 := by kernel_rfl
theorem by47 : byT Tryz.prog 47 = some 40 := by kernel_rfl
theorem ag47 : aggT Tryz.prog 47 = some true := by kernel_rfl
theorem fl47_0 : fldT Tryz.prog 47 0 = some (0, 1, false) := by kernel_rfl
theorem fl47_1 : fldT Tryz.prog 47 1 = some (1, 1, false) := by kernel_rfl
theorem fl47_2 : fldT Tryz.prog 47 2 = some (2, 1, false) := by kernel_rfl
theorem fl47_3 : fldT Tryz.prog 47 3 = some (3, 1, false) := by kernel_rfl
theorem fl47_4 : fldT Tryz.prog 47 4 = some (4, 1, false) := by kernel_rfl
theorem st47 : stT Tryz.prog 47 = some [(0, 1), (1, 1), (2, 1), (3, 1), (4, 1)] := by kernel_rfl
theorem ze47 : zeroT Tryz.prog 47 = some [.int .i64 0, .int .i64 0, .int .i64 0, .int .i64 0, .bool false] := by kernel_rfl
theorem sz50 : szT Tryz.prog 50 = some 1 := by kernel_rfl
theorem by50 : byT Tryz.prog 50 = some 24 := by kernel_rfl
theorem ag50 : aggT Tryz.prog 50 = some false := by kernel_rfl
theorem el50 : elT Tryz.prog 50 = some 74 := by kernel_rfl
theorem ze50 : zeroT Tryz.prog 50 = some [.slice none 0 0] := by kernel_rfl
theorem sz53 : szT Tryz.prog 53 = some 6 := by kernel_rfl
theorem by53 : byT Tryz.prog 53 = some 104 := by kernel_rfl
theorem ag53 : aggT Tryz.prog 53 = some true := by kernel_rfl
theorem fl53_0 : fldT Tryz.prog 53 0 = some (0, 1, false) := by kernel_rfl
theorem fl53_1 : fldT Tryz.prog 53 1 = some (1, 5, true) := by kernel_rfl
theorem st53 : stT Tryz.prog 53 = some [(0, 1), (1, 5)] := by kernel_rfl
theorem ze53 : zeroT Tryz.prog 53 = some [.slice none 0 0, .int .i64 0, .int .i64 0, .string ⟨#[]⟩, .slice none 0 0, .slice none 0 0] := by kernel_rfl
theorem sz54 : szT Tryz.prog 54 = some 1 := by kernel_rfl
theorem by54 : byT Tryz.prog 54 = some 4 := by kernel_rfl
theorem ag54 : aggT Tryz.prog 54 = some false := by kernel_rfl
theorem ze54 : zeroT Tryz.prog 54 = some [.int .u32 0] := by kernel_rfl
theorem sz56 : szT Tryz.prog 56 = some 2 := by kernel_rfl
theorem by56 : byT Tryz.prog 56 = some 32 := by kernel_rfl
theorem ag56 : aggT Tryz.prog 56 = some true := by kernel_rfl
theorem fl56_0 : fldT Tryz.prog 56 0 = some (0, 1, false) := by kernel_rfl
theorem fl56_1 : fldT Tryz.prog 56 1 = some (1, 1, false) := by kernel_rfl
theorem st56 : stT Tryz.prog 56 = some [(0, 1), (1, 1)] := by kernel_rfl
theorem ze56 : zeroT Tryz.prog 56 = some [.slice none 0 0, .int .u32 0] := by kernel_rfl
theorem sz58 : szT Tryz.prog 58 = some 1 := by kernel_rfl
theorem by58 : byT Tryz.prog 58 = some 24 := by kernel_rfl
theorem ag58 : aggT Tryz.prog 58 = some false := by kernel_rfl
theorem el58 : elT Tryz.prog 58 = some 141 := by kernel_rfl
theorem ze58 : zeroT Tryz.prog 58 = some [.slice none 0 0] := by kernel_rfl
theorem sz60 : szT Tryz.prog 60 = some 7 := by kernel_rfl
theorem by60 : byT Tryz.prog 60 = some 112 := by kernel_rfl
theorem ag60 : aggT Tryz.prog 60 = some true := by kernel_rfl
theorem fl60_0 : fldT Tryz.prog 60 0 = some (0, 1, false) := by kernel_rfl
theorem fl60_1 : fldT Tryz.prog 60 1 = some (1, 5, true) := by kernel_rfl
theorem fl60_2 : fldT Tryz.prog 60 2 = some (6, 1, false) := by kernel_rfl
theorem st60 : stT Tryz.prog 60 = some [(0, 1), (1, 5), (6, 1)] := by kernel_rfl
theorem ze60 : zeroT Tryz.prog 60 = some [.int .i64 0, .int .i64 0, .int .i64 0, .string ⟨#[]⟩, .slice none 0 0, .slice none 0 0, .slice none 0 0] := by kernel_rfl
theorem sz61 : szT Tryz.prog 61 = some 1 := by kernel_rfl
theorem by61 : byT Tryz.prog 61 = some 24 := by kernel_rfl
theorem ag61 : aggT Tryz.prog 61 = some false := by kernel_rfl
theorem el61 : elT Tryz.prog 61 = some 267 := by kernel_rfl
theorem ze61 : zeroT Tryz.prog 61 = some [.slice none 0 0] := by kernel_rfl
theorem sz63 : szT Tryz.prog 63 = some 23 := by kernel_rfl
theorem by63 : byT Tryz.prog 63 = some 360 := by kernel_rfl
theorem ag63 : aggT Tryz.prog 63 = some true := by kernel_rfl
theorem fl63_0 : fldT Tryz.prog 63 0 = some (0, 1, false) := by kernel_rfl
theorem fl63_1 : fldT Tryz.prog 63 1 = some (1, 1, false) := by kernel_rfl
theorem fl63_2 : fldT Tryz.prog 63 2 = some (2, 1, false) := by kernel_rfl
theorem fl63_3 : fldT Tryz.prog 63 3 = some (3, 5, true) := by kernel_rfl
theorem fl63_4 : fldT Tryz.prog 63 4 = some (8, 5, true) := by kernel_rfl
theorem fl63_5 : fldT Tryz.prog 63 5 = some (13, 1, false) := by kernel_rfl
theorem fl63_6 : fldT Tryz.prog 63 6 = some (14, 1, false) := by kernel_rfl
theorem fl63_7 : fldT Tryz.prog 63 7 = some (15, 7, true) := by kernel_rfl
theorem fl63_8 : fldT Tryz.prog 63 8 = some (22, 1, false) := by kernel_rfl
theorem st63 : stT Tryz.prog 63 = some [(0, 1), (1, 1), (2, 1), (3, 5), (8, 5), (13, 1), (14, 1), (15, 7), (22, 1)] := by kernel_rfl
theorem ze63 : zeroT Tryz.prog 63 = some [.int .i64 0, .string ⟨#[]⟩, .int .i64 0, .int .i64 0, .int .i64 0, .string ⟨#[]⟩, .slice none 0 0, .slice none 0 0, .int .i64 0, .int .i64 0, .string ⟨#[]⟩, .slice none 0 0, .slice none 0 0, .int .i64 0, .slice none 0 0, .int .i64 0, .int .i64 0, .int .i64 0, .string ⟨#[]⟩, .slice none 0 0, .slice none 0 0, .slice none 0 0, .slice none 0 0] := by kernel_rfl
theorem sz67 : szT Tryz.prog 67 = some 1 := by kernel_rfl
theorem by67 : byT Tryz.prog 67 = some 8 := by kernel_rfl
theorem ag67 : aggT Tryz.prog 67 = some false := by kernel_rfl
theorem ze67 : zeroT Tryz.prog 67 = some [.pointer none] := by kernel_rfl
theorem sz69 : szT Tryz.prog 69 = some 1 := by kernel_rfl
theorem by69 : byT Tryz.prog 69 = some 4 := by kernel_rfl
theorem ag69 : aggT Tryz.prog 69 = some true := by kernel_rfl
theorem fl69_0 : fldT Tryz.prog 69 0 = some (0, 1, false) := by kernel_rfl
theorem st69 : stT Tryz.prog 69 = some [(0, 1)] := by kernel_rfl
theorem ze69 : zeroT Tryz.prog 69 = some [.int .u32 0] := by kernel_rfl
theorem sz74 : szT Tryz.prog 74 = some 3 := by kernel_rfl
theorem by74 : byT Tryz.prog 74 = some 48 := by kernel_rfl
theorem ag74 : aggT Tryz.prog 74 = some true := by kernel_rfl
theorem fl74_0 : fldT Tryz.prog 74 0 = some (0, 1, false) := by kernel_rfl
theorem fl74_1 : fldT Tryz.prog 74 1 = some (1, 1, false) := by kernel_rfl
theorem fl74_2 : fldT Tryz.prog 74 2 = some (2, 1, false) := by kernel_rfl
theorem st74 : stT Tryz.prog 74 = some [(0, 1), (1, 1), (2, 1)] := by kernel_rfl
theorem ze74 : zeroT Tryz.prog 74 = some [.int .i64 0, .string ⟨#[]⟩, .slice none 0 0] := by kernel_rfl
theorem sz88 : szT Tryz.prog 88 = some 1 := by kernel_rfl
theorem by88 : byT Tryz.prog 88 = some 24 := by kernel_rfl
theorem ag88 : aggT Tryz.prog 88 = some false := by kernel_rfl
theorem el88 : elT Tryz.prog 88 = some 152 := by kernel_rfl
theorem ze88 : zeroT Tryz.prog 88 = some [.slice none 0 0] := by kernel_rfl
theorem sz90 : szT Tryz.prog 90 = some 2 := by kernel_rfl
theorem by90 : byT Tryz.prog 90 = some 32 := by kernel_rfl
theorem ag90 : aggT Tryz.prog 90 = some true := by kernel_rfl
theorem fl90_0 : fldT Tryz.prog 90 0 = some (0, 1, false) := by kernel_rfl
theorem fl90_1 : fldT Tryz.prog 90 1 = some (1, 1, false) := by kernel_rfl
theorem st90 : stT Tryz.prog 90 = some [(0, 1), (1, 1)] := by kernel_rfl
theorem ze90 : zeroT Tryz.prog 90 = some [.int .i64 0, .slice none 0 0] := by kernel_rfl
theorem sz91 : szT Tryz.prog 91 = some 1 := by kernel_rfl
theorem by91 : byT Tryz.prog 91 = some 8 := by kernel_rfl
theorem ag91 : aggT Tryz.prog 91 = some false := by kernel_rfl
theorem ze91 : zeroT Tryz.prog 91 = some [.nilFunc] := by kernel_rfl
theorem sz101 : szT Tryz.prog 101 = some 1 := by kernel_rfl
theorem by101 : byT Tryz.prog 101 = some 8 := by kernel_rfl
theorem ag101 : aggT Tryz.prog 101 = some false := by kernel_rfl
theorem ze101 : zeroT Tryz.prog 101 = some [.nilFunc] := by kernel_rfl
theorem sz102 : szT Tryz.prog 102 = some 1 := by kernel_rfl
theorem by102 : byT Tryz.prog 102 = some 8 := by kernel_rfl
theorem ag102 : aggT Tryz.prog 102 = some false := by kernel_rfl
theorem ze102 : zeroT Tryz.prog 102 = some [.pointer none] := by kernel_rfl
theorem sz104 : szT Tryz.prog 104 = some 2 := by kernel_rfl
theorem by104 : byT Tryz.prog 104 = some 16 := by kernel_rfl
theorem ag104 : aggT Tryz.prog 104 = some true := by kernel_rfl
theorem fl104_0 : fldT Tryz.prog 104 0 = some (0, 1, false) := by kernel_rfl
theorem fl104_1 : fldT Tryz.prog 104 1 = some (1, 1, false) := by kernel_rfl
theorem st104 : stT Tryz.prog 104 = some [(0, 1), (1, 1)] := by kernel_rfl
theorem ze104 : zeroT Tryz.prog 104 = some [.int .i64 0, .int .i64 0] := by kernel_rfl
theorem sz112 : szT Tryz.prog 112 = some 1 := by kernel_rfl
theorem by112 : byT Tryz.prog 112 = some 8 := by kernel_rfl
theorem ag112 : aggT Tryz.prog 112 = some false := by kernel_rfl
theorem ze112 : zeroT Tryz.prog 112 = some [.nilFunc] := by kernel_rfl
theorem sz118 : szT Tryz.prog 118 = some 1 := by kernel_rfl
theorem by118 : byT Tryz.prog 118 = some 16 := by kernel_rfl
theorem ag118 : aggT Tryz.prog 118 = some false := by kernel_rfl
theorem ze118 : zeroT Tryz.prog 118 = some [.nilIface] := by kernel_rfl
theorem sz121 : szT Tryz.prog 121 = some 1 := by kernel_rfl
theorem by121 : byT Tryz.prog 121 = some 24 := by kernel_rfl
theorem ag121 : aggT Tryz.prog 121 = some true := by kernel_rfl
theorem fl121_0 : fldT Tryz.prog 121 0 = some (0, 1, false) := by kernel_rfl
theorem st121 : stT Tryz.prog 121 = some [(0, 1)] := by kernel_rfl
theorem ze121 : zeroT Tryz.prog 121 = some [.slice none 0 0] := by kernel_rfl
theorem sz123 : szT Tryz.prog 123 = some 0 := by kernel_rfl
theorem by123 : byT Tryz.prog 123 = some 0 := by kernel_rfl
theorem ag123 : aggT Tryz.prog 123 = some true := by kernel_rfl
theorem sz125 : szT Tryz.prog 125 = some 1 := by kernel_rfl
theorem by125 : byT Tryz.prog 125 = some 8 := by kernel_rfl
theorem ag125 : aggT Tryz.prog 125 = some true := by kernel_rfl
theorem fl125_0 : fldT Tryz.prog 125 0 = some (0, 1, false) := by kernel_rfl
theorem st125 : stT Tryz.prog 125 = some [(0, 1)] := by kernel_rfl
theorem ze125 : zeroT Tryz.prog 125 = some [.int .i64 0] := by kernel_rfl
theorem sz127 : szT Tryz.prog 127 = some 1 := by kernel_rfl
theorem by127 : byT Tryz.prog 127 = some 8 := by kernel_rfl
theorem ag127 : aggT Tryz.prog 127 = some false := by kernel_rfl
theorem ze127 : zeroT Tryz.prog 127 = some [.pointer none] := by kernel_rfl
theorem sz129 : szT Tryz.prog 129 = some 5 := by kernel_rfl
theorem by129 : byT Tryz.prog 129 = some 64 := by kernel_rfl
theorem ag129 : aggT Tryz.prog 129 = some true := by kernel_rfl
theorem fl129_0 : fldT Tryz.prog 129 0 = some (0, 1, false) := by kernel_rfl
theorem fl129_1 : fldT Tryz.prog 129 1 = some (1, 1, false) := by kernel_rfl
theorem fl129_2 : fldT Tryz.prog 129 2 = some (2, 1, false) := by kernel_rfl
theorem fl129_3 : fldT Tryz.prog 129 3 = some (3, 1, false) := by kernel_rfl
theorem fl129_4 : fldT Tryz.prog 129 4 = some (4, 1, false) := by kernel_rfl
theorem st129 : stT Tryz.prog 129 = some [(0, 1), (1, 1), (2, 1), (3, 1), (4, 1)] := by kernel_rfl
theorem ze129 : zeroT Tryz.prog 129 = some [.slice none 0 0, .pointer none, .slice none 0 0, .bool false, .bool false] := by kernel_rfl
theorem sz133 : szT Tryz.prog 133 = some 1 := by kernel_rfl
theorem by133 : byT Tryz.prog 133 = some 8 := by kernel_rfl
theorem ag133 : aggT Tryz.prog 133 = some false := by kernel_rfl
theorem ze133 : zeroT Tryz.prog 133 = some [.nilFunc] := by kernel_rfl
theorem sz135 : szT Tryz.prog 135 = some 1 := by kernel_rfl
theorem by135 : byT Tryz.prog 135 = some 8 := by kernel_rfl
theorem ag135 : aggT Tryz.prog 135 = some false := by kernel_rfl
theorem ze135 : zeroT Tryz.prog 135 = some [.nilFunc] := by kernel_rfl
theorem sz141 : szT Tryz.prog 141 = some 6 := by kernel_rfl
theorem by141 : byT Tryz.prog 141 = some 96 := by kernel_rfl
theorem ag141 : aggT Tryz.prog 141 = some true := by kernel_rfl
theorem fl141_0 : fldT Tryz.prog 141 0 = some (0, 1, false) := by kernel_rfl
theorem fl141_1 : fldT Tryz.prog 141 1 = some (1, 5, true) := by kernel_rfl
theorem st141 : stT Tryz.prog 141 = some [(0, 1), (1, 5)] := by kernel_rfl
theorem ze141 : zeroT Tryz.prog 141 = some [.string ⟨#[]⟩, .int .i64 0, .int .i64 0, .string ⟨#[]⟩, .slice none 0 0, .slice none 0 0] := by kernel_rfl
theorem sz146 : szT Tryz.prog 146 = some 1 := by kernel_rfl
theorem by146 : byT Tryz.prog 146 = some 24 := by kernel_rfl
theorem ag146 : aggT Tryz.prog 146 = some false := by kernel_rfl
theorem el146 : elT Tryz.prog 146 = some 9 := by kernel_rfl
theorem ze146 : zeroT Tryz.prog 146 = some [.slice none 0 0] := by kernel_rfl
theorem sz152 : szT Tryz.prog 152 = some 2 := by kernel_rfl
theorem by152 : byT Tryz.prog 152 = some 16 := by kernel_rfl
theorem ag152 : aggT Tryz.prog 152 = some true := by kernel_rfl
theorem fl152_0 : fldT Tryz.prog 152 0 = some (0, 1, false) := by kernel_rfl
theorem fl152_1 : fldT Tryz.prog 152 1 = some (1, 1, false) := by kernel_rfl
theorem st152 : stT Tryz.prog 152 = some [(0, 1), (1, 1)] := by kernel_rfl
theorem ze152 : zeroT Tryz.prog 152 = some [.int .i64 0, .int .i64 0] := by kernel_rfl
theorem sz156 : szT Tryz.prog 156 = some 1 := by kernel_rfl
theorem by156 : byT Tryz.prog 156 = some 8 := by kernel_rfl
theorem ag156 : aggT Tryz.prog 156 = some false := by kernel_rfl
theorem ze156 : zeroT Tryz.prog 156 = some [.nilFunc] := by kernel_rfl
theorem sz158 : szT Tryz.prog 158 = some 1 := by kernel_rfl
theorem by158 : byT Tryz.prog 158 = some 8 := by kernel_rfl
theorem ag158 : aggT Tryz.prog 158 = some true := by kernel_rfl
theorem fl158_0 : fldT Tryz.prog 158 0 = some (0, 1, false) := by kernel_rfl
theorem st158 : stT Tryz.prog 158 = some [(0, 1)] := by kernel_rfl
theorem ze158 : zeroT Tryz.prog 158 = some [.nilFunc] := by kernel_rfl
theorem sz159 : szT Tryz.prog 159 = some 1 := by kernel_rfl
theorem by159 : byT Tryz.prog 159 = some 8 := by kernel_rfl
theorem ag159 : aggT Tryz.prog 159 = some false := by kernel_rfl
theorem ze159 : zeroT Tryz.prog 159 = some [.nilFunc] := by kernel_rfl
theorem sz162 : szT Tryz.prog 162 = some 1 := by kernel_rfl
theorem by162 : byT Tryz.prog 162 = some 8 := by kernel_rfl
theorem ag162 : aggT Tryz.prog 162 = some false := by kernel_rfl
theorem ze162 : zeroT Tryz.prog 162 = some [.pointer none] := by kernel_rfl
theorem sz165 : szT Tryz.prog 165 = some 1 := by kernel_rfl
theorem by165 : byT Tryz.prog 165 = some 8 := by kernel_rfl
theorem ag165 : aggT Tryz.prog 165 = some false := by kernel_rfl
theorem ze165 : zeroT Tryz.prog 165 = some [.map none] := by kernel_rfl
theorem sz167 : szT Tryz.prog 167 = some 2 := by kernel_rfl
theorem by167 : byT Tryz.prog 167 = some 16 := by kernel_rfl
theorem ag167 : aggT Tryz.prog 167 = some true := by kernel_rfl
theorem fl167_0 : fldT Tryz.prog 167 0 = some (0, 1, false) := by kernel_rfl
theorem fl167_1 : fldT Tryz.prog 167 1 = some (1, 1, false) := by kernel_rfl
theorem st167 : stT Tryz.prog 167 = some [(0, 1), (1, 1)] := by kernel_rfl
theorem ze167 : zeroT Tryz.prog 167 = some [.map none, .int .i64 0] := by kernel_rfl
theorem sz174 : szT Tryz.prog 174 = some 1 := by kernel_rfl
theorem by174 : byT Tryz.prog 174 = some 8 := by kernel_rfl
theorem ag174 : aggT Tryz.prog 174 = some false := by kernel_rfl
theorem ze174 : zeroT Tryz.prog 174 = some [.nilFunc] := by kernel_rfl
theorem sz175 : szT Tryz.prog 175 = some 1 := by kernel_rfl
theorem by175 : byT Tryz.prog 175 = some 8 := by kernel_rfl
theorem ag175 : aggT Tryz.prog 175 = some false := by kernel_rfl
theorem ze175 : zeroT Tryz.prog 175 = some [.nilFunc] := by kernel_rfl
theorem sz184 : szT Tryz.prog 184 = some 1 := by kernel_rfl
theorem by184 : byT Tryz.prog 184 = some 8 := by kernel_rfl
theorem ag184 : aggT Tryz.prog 184 = some false := by kernel_rfl
theorem ze184 : zeroT Tryz.prog 184 = some [.nilFunc] := by kernel_rfl
theorem sz186 : szT Tryz.prog 186 = some 1 := by kernel_rfl
theorem by186 : byT Tryz.prog 186 = some 8 := by kernel_rfl
theorem ag186 : aggT Tryz.prog 186 = some false := by kernel_rfl
theorem ze186 : zeroT Tryz.prog 186 = some [.int .i64 0] := by kernel_rfl
theorem sz187 : szT Tryz.prog 187 = some 1 := by kernel_rfl
theorem by187 : byT Tryz.prog 187 = some 24 := by kernel_rfl
theorem ag187 : aggT Tryz.prog 187 = some false := by kernel_rfl
theorem el187 : elT Tryz.prog 187 = some 3 := by kernel_rfl
theorem ze187 : zeroT Tryz.prog 187 = some [.slice none 0 0] := by kernel_rfl
theorem sz198 : szT Tryz.prog 198 = some 1 := by kernel_rfl
theorem by198 : byT Tryz.prog 198 = some 8 := by kernel_rfl
theorem ag198 : aggT Tryz.prog 198 = some false := by kernel_rfl
theorem ze198 : zeroT Tryz.prog 198 = some [.pointer none] := by kernel_rfl
theorem sz199 : szT Tryz.prog 199 = some 1 := by kernel_rfl
theorem by199 : byT Tryz.prog 199 = some 24 := by kernel_rfl
theorem ag199 : aggT Tryz.prog 199 = some false := by kernel_rfl
theorem el199 : elT Tryz.prog 199 = some 5 := by kernel_rfl
theorem ze199 : zeroT Tryz.prog 199 = some [.slice none 0 0] := by kernel_rfl
theorem sz201 : szT Tryz.prog 201 = some 2 := by kernel_rfl
theorem by201 : byT Tryz.prog 201 = some 32 := by kernel_rfl
theorem ag201 : aggT Tryz.prog 201 = some true := by kernel_rfl
theorem fl201_0 : fldT Tryz.prog 201 0 = some (0, 1, false) := by kernel_rfl
theorem fl201_1 : fldT Tryz.prog 201 1 = some (1, 1, false) := by kernel_rfl
theorem st201 : stT Tryz.prog 201 = some [(0, 1), (1, 1)] := by kernel_rfl
theorem ze201 : zeroT Tryz.prog 201 = some [.pointer none, .slice none 0 0] := by kernel_rfl
theorem sz210 : szT Tryz.prog 210 = some 4 := by kernel_rfl
theorem by210 : byT Tryz.prog 210 = some 32 := by kernel_rfl
theorem ag210 : aggT Tryz.prog 210 = some true := by kernel_rfl
theorem fl210_0 : fldT Tryz.prog 210 0 = some (0, 1, false) := by kernel_rfl
theorem fl210_1 : fldT Tryz.prog 210 1 = some (1, 1, false) := by kernel_rfl
theorem fl210_2 : fldT Tryz.prog 210 2 = some (2, 1, false) := by kernel_rfl
theorem fl210_3 : fldT Tryz.prog 210 3 = some (3, 1, false) := by kernel_rfl
theorem st210 : stT Tryz.prog 210 = some [(0, 1), (1, 1), (2, 1), (3, 1)] := by kernel_rfl
theorem ze210 : zeroT Tryz.prog 210 = some [.int .i64 0, .int .i64 0, .int .i64 0, .int .i64 0] := by kernel_rfl
theorem sz218 : szT Tryz.prog 218 = some 1 := by kernel_rfl
theorem by218 : byT Tryz.prog 218 = some 8 := by kernel_rfl
theorem ag218 : aggT Tryz.prog 218 = some false := by kernel_rfl
theorem ze218 : zeroT Tryz.prog 218 = some [.int .i64 0] := by kernel_rfl
theorem sz221 : szT Tryz.prog 221 = some 1 := by kernel_rfl
theorem by221 : byT Tryz.prog 221 = some 8 := by kernel_rfl
theorem ag221 : aggT Tryz.prog 221 = some false := by kernel_rfl
theorem ze221 : zeroT Tryz.prog 221 = some [.nilFunc] := by kernel_rfl
theorem sz222 : szT Tryz.prog 222 = some 1 := by kernel_rfl
theorem by222 : byT Tryz.prog 222 = some 8 := by kernel_rfl
theorem ag222 : aggT Tryz.prog 222 = some false := by kernel_rfl
theorem ze222 : zeroT Tryz.prog 222 = some [.pointer none] := by kernel_rfl
theorem sz224 : szT Tryz.prog 224 = some 1 := by kernel_rfl
theorem by224 : byT Tryz.prog 224 = some 8 := by kernel_rfl
theorem ag224 : aggT Tryz.prog 224 = some true := by kernel_rfl
theorem fl224_0 : fldT Tryz.prog 224 0 = some (0, 1, false) := by kernel_rfl
theorem st224 : stT Tryz.prog 224 = some [(0, 1)] := by kernel_rfl
theorem ze224 : zeroT Tryz.prog 224 = some [.int .i64 0] := by kernel_rfl
theorem sz228 : szT Tryz.prog 228 = some 1 := by kernel_rfl
theorem by228 : byT Tryz.prog 228 = some 8 := by kernel_rfl
theorem ag228 : aggT Tryz.prog 228 = some false := by kernel_rfl
theorem ze228 : zeroT Tryz.prog 228 = some [.nilFunc] := by kernel_rfl
theorem sz234 : szT Tryz.prog 234 = some 0 := by kernel_rfl
theorem by234 : byT Tryz.prog 234 = some 0 := by kernel_rfl
theorem ag234 : aggT Tryz.prog 234 = some true := by kernel_rfl
theorem sz239 : szT Tryz.prog 239 = some 1 := by kernel_rfl
theorem by239 : byT Tryz.prog 239 = some 8 := by kernel_rfl
theorem ag239 : aggT Tryz.prog 239 = some false := by kernel_rfl
theorem ze239 : zeroT Tryz.prog 239 = some [.nilFunc] := by kernel_rfl
theorem sz242 : szT Tryz.prog 242 = some 9 := by kernel_rfl
theorem by242 : byT Tryz.prog 242 = some 112 := by kernel_rfl
theorem ag242 : aggT Tryz.prog 242 = some true := by kernel_rfl
theorem fl242_0 : fldT Tryz.prog 242 0 = some (0, 1, false) := by kernel_rfl
theorem fl242_1 : fldT Tryz.prog 242 1 = some (1, 1, false) := by kernel_rfl
theorem fl242_2 : fldT Tryz.prog 242 2 = some (2, 1, false) := by kernel_rfl
theorem fl242_3 : fldT Tryz.prog 242 3 = some (3, 1, false) := by kernel_rfl
theorem fl242_4 : fldT Tryz.prog 242 4 = some (4, 5, true) := by kernel_rfl
theorem st242 : stT Tryz.prog 242 = some [(0, 1), (1, 1), (2, 1), (3, 1), (4, 5)] := by kernel_rfl
theorem ze242 : zeroT Tryz.prog 242 = some [.int .i64 0, .int .i64 0, .int .i64 0, .int .i64 0, .int .i64 0, .int .i64 0, .string ⟨#[]⟩, .slice none 0 0, .slice none 0 0] := by kernel_rfl
theorem sz245 : szT Tryz.prog 245 = some 1 := by kernel_rfl
theorem by245 : byT Tryz.prog 245 = some 8 := by kernel_rfl
theorem ag245 : aggT Tryz.prog 245 = some false := by kernel_rfl
theorem ze245 : zeroT Tryz.prog 245 = some [.int .u64 0] := by kernel_rfl
theorem sz246 : szT Tryz.prog 246 = some 1 := by kernel_rfl
theorem by246 : byT Tryz.prog 246 = some 8 := by kernel_rfl
theorem ag246 : aggT Tryz.prog 246 = some false := by kernel_rfl
theorem ze246 : zeroT Tryz.prog 246 = some [.pointer none] := by kernel_rfl
theorem sz248 : szT Tryz.prog 248 = some 1 := by kernel_rfl
theorem by248 : byT Tryz.prog 248 = some 8 := by kernel_rfl
theorem ag248 : aggT Tryz.prog 248 = some false := by kernel_rfl
theorem ze248 : zeroT Tryz.prog 248 = some [.nilFunc] := by kernel_rfl
theorem sz250 : szT Tryz.prog 250 = some 5 := by kernel_rfl
theorem by250 : byT Tryz.prog 250 = some 32 := by kernel_rfl
theorem ag250 : aggT Tryz.prog 250 = some true := by kernel_rfl
theorem fl250_0 : fldT Tryz.prog 250 0 = some (0, 1, false) := by kernel_rfl
theorem fl250_1 : fldT Tryz.prog 250 1 = some (1, 1, false) := by kernel_rfl
theorem fl250_2 : fldT Tryz.prog 250 2 = some (2, 1, false) := by kernel_rfl
theorem fl250_3 : fldT Tryz.prog 250 3 = some (3, 1, false) := by kernel_rfl
theorem fl250_4 : fldT Tryz.prog 250 4 = some (4, 1, false) := by kernel_rfl
theorem st250 : stT Tryz.prog 250 = some [(0, 1), (1, 1), (2, 1), (3, 1), (4, 1)] := by kernel_rfl
theorem ze250 : zeroT Tryz.prog 250 = some [.bool false, .bool false, .int .i64 0, .int .i64 0, .int .i64 0] := by kernel_rfl
theorem sz251 : szT Tryz.prog 251 = some 65 := by kernel_rfl
theorem by251 : byT Tryz.prog 251 = some 416 := by kernel_rfl
theorem ag251 : aggT Tryz.prog 251 = some true := by kernel_rfl
theorem el251 : elT Tryz.prog 251 = none := by kernel_rfl
theorem ar251 : arT Tryz.prog 251 = some (13, 250) := by kernel_rfl
theorem ze251 : zeroT Tryz.prog 251 = some [.bool false, .bool false, .int .i64 0, .int .i64 0, .int .i64 0, .bool false, .bool false, .int .i64 0, .int .i64 0, .int .i64 0, .bool false, .bool false, .int .i64 0, .int .i64 0, .int .i64 0, .bool false, .bool false, .int .i64 0, .int .i64 0, .int .i64 0, .bool false, .bool false, .int .i64 0, .int .i64 0, .int .i64 0, .bool false, .bool false, .int .i64 0, .int .i64 0, .int .i64 0, .bool false, .bool false, .int .i64 0, .int .i64 0, .int .i64 0, .bool false, .bool false, .int .i64 0, .int .i64 0, .int .i64 0, .bool false, .bool false, .int .i64 0, .int .i64 0, .int .i64 0, .bool false, .bool false, .int .i64 0, .int .i64 0, .int .i64 0, .bool false, .bool false, .int .i64 0, .int .i64 0, .int .i64 0, .bool false, .bool false, .int .i64 0, .int .i64 0, .int .i64 0, .bool false, .bool false, .int .i64 0, .int .i64 0, .int .i64 0] := by kernel_rfl
theorem sz253 : szT Tryz.prog 253 = some 1 := by kernel_rfl
theorem by253 : byT Tryz.prog 253 = some 8 := by kernel_rfl
theorem ag253 : aggT Tryz.prog 253 = some false := by kernel_rfl
theorem ze253 : zeroT Tryz.prog 253 = some [.nilFunc] := by kernel_rfl
theorem sz257 : szT Tryz.prog 257 = some 1 := by kernel_rfl
theorem by257 : byT Tryz.prog 257 = some 8 := by kernel_rfl
theorem ag257 : aggT Tryz.prog 257 = some false := by kernel_rfl
theorem ze257 : zeroT Tryz.prog 257 = some [.nilFunc] := by kernel_rfl
theorem sz263 : szT Tryz.prog 263 = some 1 := by kernel_rfl
theorem by263 : byT Tryz.prog 263 = some 24 := by kernel_rfl
theorem ag263 : aggT Tryz.prog 263 = some false := by kernel_rfl
theorem el263 : elT Tryz.prog 263 = some 291 := by kernel_rfl
theorem ze263 : zeroT Tryz.prog 263 = some [.slice none 0 0] := by kernel_rfl
theorem sz265 : szT Tryz.prog 265 = some 8 := by kernel_rfl
theorem by265 : byT Tryz.prog 265 = some 120 := by kernel_rfl
theorem ag265 : aggT Tryz.prog 265 = some true := by kernel_rfl
theorem fl265_0 : fldT Tryz.prog 265 0 = some (0, 1, false) := by kernel_rfl
theorem fl265_1 : fldT Tryz.prog 265 1 = some (1, 5, true) := by kernel_rfl
theorem fl265_2 : fldT Tryz.prog 265 2 = some (6, 1, false) := by kernel_rfl
theorem fl265_3 : fldT Tryz.prog 265 3 = some (7, 1, false) := by kernel_rfl
theorem st265 : stT Tryz.prog 265 = some [(0, 1), (1, 5), (6, 1), (7, 1)] := by kernel_rfl
theorem ze265 : zeroT Tryz.prog 265 = some [.int .i64 0, .int .i64 0, .int .i64 0, .string ⟨#[]⟩, .slice none 0 0, .slice none 0 0, .int .i64 0, .slice none 0 0] := by kernel_rfl
theorem sz267 : szT Tryz.prog 267 = some 15 := by kernel_rfl
theorem by267 : byT Tryz.prog 267 = some 224 := by kernel_rfl
theorem ag267 : aggT Tryz.prog 267 = some true := by kernel_rfl
theorem fl267_0 : fldT Tryz.prog 267 0 = some (0, 1, false) := by kernel_rfl
theorem fl267_1 : fldT Tryz.prog 267 1 = some (1, 5, true) := by kernel_rfl
theorem fl267_2 : fldT Tryz.prog 267 2 = some (6, 1, false) := by kernel_rfl
theorem fl267_3 : fldT Tryz.prog 267 3 = some (7, 8, true) := by kernel_rfl
theorem st267 : stT Tryz.prog 267 = some [(0, 1), (1, 5), (6, 1), (7, 8)] := by kernel_rfl
theorem ze267 : zeroT Tryz.prog 267 = some [.string ⟨#[]⟩, .int .i64 0, .int .i64 0, .string ⟨#[]⟩, .slice none 0 0, .slice none 0 0, .int .i64 0, .int .i64 0, .int .i64 0, .int .i64 0, .string ⟨#[]⟩, .slice none 0 0, .slice none 0 0, .int .i64 0, .slice none 0 0] := by kernel_rfl
theorem sz274 : szT Tryz.prog 274 = some 1 := by kernel_rfl
theorem by274 : byT Tryz.prog 274 = some 8 := by kernel_rfl
theorem ag274 : aggT Tryz.prog 274 = some false := by kernel_rfl
theorem ze274 : zeroT Tryz.prog 274 = some [.pointer none] := by kernel_rfl
theorem sz275 : szT Tryz.prog 275 = some 1 := by kernel_rfl
theorem by275 : byT Tryz.prog 275 = some 8 := by kernel_rfl
theorem ag275 : aggT Tryz.prog 275 = some false := by kernel_rfl
theorem ze275 : zeroT Tryz.prog 275 = some [.nilFunc] := by kernel_rfl
theorem sz283 : szT Tryz.prog 283 = some 1 := by kernel_rfl
theorem by283 : byT Tryz.prog 283 = some 8 := by kernel_rfl
theorem ag283 : aggT Tryz.prog 283 = some false := by kernel_rfl
theorem ze283 : zeroT Tryz.prog 283 = some [.pointer none] := by kernel_rfl
theorem sz291 : szT Tryz.prog 291 = some 10 := by kernel_rfl
theorem by291 : byT Tryz.prog 291 = some 144 := by kernel_rfl
theorem ag291 : aggT Tryz.prog 291 = some true := by kernel_rfl
theorem fl291_0 : fldT Tryz.prog 291 0 = some (0, 1, false) := by kernel_rfl
theorem fl291_1 : fldT Tryz.prog 291 1 = some (1, 1, false) := by kernel_rfl
theorem fl291_2 : fldT Tryz.prog 291 2 = some (2, 8, true) := by kernel_rfl
theorem st291 : stT Tryz.prog 291 = some [(0, 1), (1, 1), (2, 8)] := by kernel_rfl
theorem ze291 : zeroT Tryz.prog 291 = some [.string ⟨#[]⟩, .bool false, .int .i64 0, .int .i64 0, .int .i64 0, .string ⟨#[]⟩, .slice none 0 0, .slice none 0 0, .int .i64 0, .slice none 0 0] := by kernel_rfl
theorem sz293 : szT Tryz.prog 293 = some 25 := by kernel_rfl
theorem by293 : byT Tryz.prog 293 = some 408 := by kernel_rfl
theorem ag293 : aggT Tryz.prog 293 = some true := by kernel_rfl
theorem fl293_0 : fldT Tryz.prog 293 0 = some (0, 1, false) := by kernel_rfl
theorem fl293_1 : fldT Tryz.prog 293 1 = some (1, 1, false) := by kernel_rfl
theorem fl293_2 : fldT Tryz.prog 293 2 = some (2, 23, true) := by kernel_rfl
theorem st293 : stT Tryz.prog 293 = some [(0, 1), (1, 1), (2, 23)] := by kernel_rfl
theorem ze293 : zeroT Tryz.prog 293 = some [.slice none 0 0, .slice none 0 0, .int .i64 0, .string ⟨#[]⟩, .int .i64 0, .int .i64 0, .int .i64 0, .string ⟨#[]⟩, .slice none 0 0, .slice none 0 0, .int .i64 0, .int .i64 0, .string ⟨#[]⟩, .slice none 0 0, .slice none 0 0, .int .i64 0, .slice none 0 0, .int .i64 0, .int .i64 0, .int .i64 0, .string ⟨#[]⟩, .slice none 0 0, .slice none 0 0, .slice none 0 0, .slice none 0 0] := by kernel_rfl
theorem sz298 : szT Tryz.prog 298 = some 0 := by kernel_rfl
theorem by298 : byT Tryz.prog 298 = some 0 := by kernel_rfl
theorem ag298 : aggT Tryz.prog 298 = some true := by kernel_rfl
theorem sz301 : szT Tryz.prog 301 = some 2 := by kernel_rfl
theorem by301 : byT Tryz.prog 301 = some 32 := by kernel_rfl
theorem ag301 : aggT Tryz.prog 301 = some true := by kernel_rfl
theorem fl301_0 : fldT Tryz.prog 301 0 = some (0, 1, false) := by kernel_rfl
theorem fl301_1 : fldT Tryz.prog 301 1 = some (1, 1, false) := by kernel_rfl
theorem st301 : stT Tryz.prog 301 = some [(0, 1), (1, 1)] := by kernel_rfl
theorem ze301 : zeroT Tryz.prog 301 = some [.slice none 0 0, .int .i64 0] := by kernel_rfl
theorem sz313 : szT Tryz.prog 313 = some 1 := by kernel_rfl
theorem by313 : byT Tryz.prog 313 = some 8 := by kernel_rfl
theorem ag313 : aggT Tryz.prog 313 = some false := by kernel_rfl
theorem ze313 : zeroT Tryz.prog 313 = some [.int .i64 0] := by kernel_rfl
theorem sz322 : szT Tryz.prog 322 = some 1 := by kernel_rfl
theorem by322 : byT Tryz.prog 322 = some 8 := by kernel_rfl
theorem ag322 : aggT Tryz.prog 322 = some false := by kernel_rfl
theorem ze322 : zeroT Tryz.prog 322 = some [.int .u64 0] := by kernel_rfl
theorem sz327 : szT Tryz.prog 327 = some 1 := by kernel_rfl
theorem by327 : byT Tryz.prog 327 = some 8 := by kernel_rfl
theorem ag327 : aggT Tryz.prog 327 = some false := by kernel_rfl
theorem ze327 : zeroT Tryz.prog 327 = some [.nilFunc] := by kernel_rfl
theorem sz328 : szT Tryz.prog 328 = some 7 := by kernel_rfl
theorem by328 : byT Tryz.prog 328 = some 56 := by kernel_rfl
theorem ag328 : aggT Tryz.prog 328 = some true := by kernel_rfl
theorem el328 : elT Tryz.prog 328 = none := by kernel_rfl
theorem ar328 : arT Tryz.prog 328 = some (7, 327) := by kernel_rfl
theorem ze328 : zeroT Tryz.prog 328 = some [.nilFunc, .nilFunc, .nilFunc, .nilFunc, .nilFunc, .nilFunc, .nilFunc] := by kernel_rfl
theorem sz332 : szT Tryz.prog 332 = some 1 := by kernel_rfl
theorem by332 : byT Tryz.prog 332 = some 8 := by kernel_rfl
theorem ag332 : aggT Tryz.prog 332 = some false := by kernel_rfl
theorem ze332 : zeroT Tryz.prog 332 = some [.int .u64 0] := by kernel_rfl
theorem sz336 : szT Tryz.prog 336 = some 1 := by kernel_rfl
theorem by336 : byT Tryz.prog 336 = some 8 := by kernel_rfl
theorem ag336 : aggT Tryz.prog 336 = some false := by kernel_rfl
theorem ze336 : zeroT Tryz.prog 336 = some [.pointer none] := by kernel_rfl
theorem sz344 : szT Tryz.prog 344 = some 1 := by kernel_rfl
theorem by344 : byT Tryz.prog 344 = some 8 := by kernel_rfl
theorem ag344 : aggT Tryz.prog 344 = some false := by kernel_rfl
theorem ze344 : zeroT Tryz.prog 344 = some [.nilFunc] := by kernel_rfl
theorem is3 : strT Tryz.prog 3 = false := by kernel_rfl
theorem ib3 : boolT Tryz.prog 3 = false := by kernel_rfl
theorem is4 : strT Tryz.prog 4 = false := by kernel_rfl
theorem ib4 : boolT Tryz.prog 4 = true := by kernel_rfl
theorem is5 : strT Tryz.prog 5 = false := by kernel_rfl
theorem ib5 : boolT Tryz.prog 5 = false := by kernel_rfl
theorem is9 : strT Tryz.prog 9 = true := by kernel_rfl
theorem ib9 : boolT Tryz.prog 9 = false := by kernel_rfl
theorem is20 : strT Tryz.prog 20 = false := by kernel_rfl
theorem ib20 : boolT Tryz.prog 20 = false := by kernel_rfl
theorem is22 : strT Tryz.prog 22 = false := by kernel_rfl
theorem ib22 : boolT Tryz.prog 22 = false := by kernel_rfl
theorem is23 : strT Tryz.prog 23 = false := by kernel_rfl
theorem ib23 : boolT Tryz.prog 23 = false := by kernel_rfl
theorem is25 : strT Tryz.prog 25 = false := by kernel_rfl
theorem ib25 : boolT Tryz.prog 25 = false := by kernel_rfl
theorem is29 : strT Tryz.prog 29 = false := by kernel_rfl
theorem ib29 : boolT Tryz.prog 29 = false := by kernel_rfl
theorem is34 : strT Tryz.prog 34 = false := by kernel_rfl
theorem ib34 : boolT Tryz.prog 34 = false := by kernel_rfl
theorem is36 : strT Tryz.prog 36 = false := by kernel_rfl
theorem ib36 : boolT Tryz.prog 36 = false := by kernel_rfl
theorem is37 : strT Tryz.prog 37 = false := by kernel_rfl
theorem ib37 : boolT Tryz.prog 37 = false := by kernel_rfl
theorem is42 : strT Tryz.prog 42 = false := by kernel_rfl
theorem ib42 : boolT Tryz.prog 42 = false := by kernel_rfl
theorem is47 : strT Tryz.prog 47 = false := by kernel_rfl
theorem ib47 : boolT Tryz.prog 47 = false := by kernel_rfl
theorem is50 : strT Tryz.prog 50 = false := by kernel_rfl
theorem ib50 : boolT Tryz.prog 50 = false := by kernel_rfl
theorem is53 : strT Tryz.prog 53 = false := by kernel_rfl
theorem ib53 : boolT Tryz.prog 53 = false := by kernel_rfl
theorem is54 : strT Tryz.prog 54 = false := by kernel_rfl
theorem ib54 : boolT Tryz.prog 54 = false := by kernel_rfl
theorem is56 : strT Tryz.prog 56 = false := by kernel_rfl
theorem ib56 : boolT Tryz.prog 56 = false := by kernel_rfl
theorem is58 : strT Tryz.prog 58 = false := by kernel_rfl
theorem ib58 : boolT Tryz.prog 58 = false := by kernel_rfl
theorem is60 : strT Tryz.prog 60 = false := by kernel_rfl
theorem ib60 : boolT Tryz.prog 60 = false := by kernel_rfl
theorem is61 : strT Tryz.prog 61 = false := by kernel_rfl
theorem ib61 : boolT Tryz.prog 61 = false := by kernel_rfl
theorem is63 : strT Tryz.prog 63 = false := by kernel_rfl
theorem ib63 : boolT Tryz.prog 63 = false := by kernel_rfl
theorem is67 : strT Tryz.prog 67 = false := by kernel_rfl
theorem ib67 : boolT Tryz.prog 67 = false := by kernel_rfl
theorem is69 : strT Tryz.prog 69 = false := by kernel_rfl
theorem ib69 : boolT Tryz.prog 69 = false := by kernel_rfl
theorem is74 : strT Tryz.prog 74 = false := by kernel_rfl
theorem ib74 : boolT Tryz.prog 74 = false := by kernel_rfl
theorem is88 : strT Tryz.prog 88 = false := by kernel_rfl
theorem ib88 : boolT Tryz.prog 88 = false := by kernel_rfl
theorem is90 : strT Tryz.prog 90 = false := by kernel_rfl
theorem ib90 : boolT Tryz.prog 90 = false := by kernel_rfl
theorem is91 : strT Tryz.prog 91 = false := by kernel_rfl
theorem ib91 : boolT Tryz.prog 91 = false := by kernel_rfl
theorem is101 : strT Tryz.prog 101 = false := by kernel_rfl
theorem ib101 : boolT Tryz.prog 101 = false := by kernel_rfl
theorem is102 : strT Tryz.prog 102 = false := by kernel_rfl
theorem ib102 : boolT Tryz.prog 102 = false := by kernel_rfl
theorem is104 : strT Tryz.prog 104 = false := by kernel_rfl
theorem ib104 : boolT Tryz.prog 104 = false := by kernel_rfl
theorem is112 : strT Tryz.prog 112 = false := by kernel_rfl
theorem ib112 : boolT Tryz.prog 112 = false := by kernel_rfl
theorem is118 : strT Tryz.prog 118 = false := by kernel_rfl
theorem ib118 : boolT Tryz.prog 118 = false := by kernel_rfl
theorem is121 : strT Tryz.prog 121 = false := by kernel_rfl
theorem ib121 : boolT Tryz.prog 121 = false := by kernel_rfl
theorem is123 : strT Tryz.prog 123 = false := by kernel_rfl
theorem ib123 : boolT Tryz.prog 123 = false := by kernel_rfl
theorem is125 : strT Tryz.prog 125 = false := by kernel_rfl
theorem ib125 : boolT Tryz.prog 125 = false := by kernel_rfl
theorem is127 : strT Tryz.prog 127 = false := by kernel_rfl
theorem ib127 : boolT Tryz.prog 127 = false := by kernel_rfl
theorem is129 : strT Tryz.prog 129 = false := by kernel_rfl
theorem ib129 : boolT Tryz.prog 129 = false := by kernel_rfl
theorem is133 : strT Tryz.prog 133 = false := by kernel_rfl
theorem ib133 : boolT Tryz.prog 133 = false := by kernel_rfl
theorem is135 : strT Tryz.prog 135 = false := by kernel_rfl
theorem ib135 : boolT Tryz.prog 135 = false := by kernel_rfl
theorem is141 : strT Tryz.prog 141 = false := by kernel_rfl
theorem ib141 : boolT Tryz.prog 141 = false := by kernel_rfl
theorem is146 : strT Tryz.prog 146 = false := by kernel_rfl
theorem ib146 : boolT Tryz.prog 146 = false := by kernel_rfl
theorem is152 : strT Tryz.prog 152 = false := by kernel_rfl
theorem ib152 : boolT Tryz.prog 152 = false := by kernel_rfl
theorem is156 : strT Tryz.prog 156 = false := by kernel_rfl
theorem ib156 : boolT Tryz.prog 156 = false := by kernel_rfl
theorem is158 : strT Tryz.prog 158 = false := by kernel_rfl
theorem ib158 : boolT Tryz.prog 158 = false := by kernel_rfl
theorem is159 : strT Tryz.prog 159 = false := by kernel_rfl
theorem ib159 : boolT Tryz.prog 159 = false := by kernel_rfl
theorem is162 : strT Tryz.prog 162 = false := by kernel_rfl
theorem ib162 : boolT Tryz.prog 162 = false := by kernel_rfl
theorem is165 : strT Tryz.prog 165 = false := by kernel_rfl
theorem ib165 : boolT Tryz.prog 165 = false := by kernel_rfl
theorem is167 : strT Tryz.prog 167 = false := by kernel_rfl
theorem ib167 : boolT Tryz.prog 167 = false := by kernel_rfl
theorem is174 : strT Tryz.prog 174 = false := by kernel_rfl
theorem ib174 : boolT Tryz.prog 174 = false := by kernel_rfl
theorem is175 : strT Tryz.prog 175 = false := by kernel_rfl
theorem ib175 : boolT Tryz.prog 175 = false := by kernel_rfl
theorem is184 : strT Tryz.prog 184 = false := by kernel_rfl
theorem ib184 : boolT Tryz.prog 184 = false := by kernel_rfl
theorem is186 : strT Tryz.prog 186 = false := by kernel_rfl
theorem ib186 : boolT Tryz.prog 186 = false := by kernel_rfl
theorem is187 : strT Tryz.prog 187 = false := by kernel_rfl
theorem ib187 : boolT Tryz.prog 187 = false := by kernel_rfl
theorem is198 : strT Tryz.prog 198 = false := by kernel_rfl
theorem ib198 : boolT Tryz.prog 198 = false := by kernel_rfl
theorem is199 : strT Tryz.prog 199 = false := by kernel_rfl
theorem ib199 : boolT Tryz.prog 199 = false := by kernel_rfl
theorem is201 : strT Tryz.prog 201 = false := by kernel_rfl
theorem ib201 : boolT Tryz.prog 201 = false := by kernel_rfl
theorem is210 : strT Tryz.prog 210 = false := by kernel_rfl
theorem ib210 : boolT Tryz.prog 210 = false := by kernel_rfl
theorem is218 : strT Tryz.prog 218 = false := by kernel_rfl
theorem ib218 : boolT Tryz.prog 218 = false := by kernel_rfl
theorem is221 : strT Tryz.prog 221 = false := by kernel_rfl
theorem ib221 : boolT Tryz.prog 221 = false := by kernel_rfl
theorem is222 : strT Tryz.prog 222 = false := by kernel_rfl
theorem ib222 : boolT Tryz.prog 222 = false := by kernel_rfl
theorem is224 : strT Tryz.prog 224 = false := by kernel_rfl
theorem ib224 : boolT Tryz.prog 224 = false := by kernel_rfl
theorem is228 : strT Tryz.prog 228 = false := by kernel_rfl
theorem ib228 : boolT Tryz.prog 228 = false := by kernel_rfl
theorem is234 : strT Tryz.prog 234 = false := by kernel_rfl
theorem ib234 : boolT Tryz.prog 234 = false := by kernel_rfl
theorem is239 : strT Tryz.prog 239 = false := by kernel_rfl
theorem ib239 : boolT Tryz.prog 239 = false := by kernel_rfl
theorem is242 : strT Tryz.prog 242 = false := by kernel_rfl
theorem ib242 : boolT Tryz.prog 242 = false := by kernel_rfl
theorem is245 : strT Tryz.prog 245 = false := by kernel_rfl
theorem ib245 : boolT Tryz.prog 245 = false := by kernel_rfl
theorem is246 : strT Tryz.prog 246 = false := by kernel_rfl
theorem ib246 : boolT Tryz.prog 246 = false := by kernel_rfl
theorem is248 : strT Tryz.prog 248 = false := by kernel_rfl
theorem ib248 : boolT Tryz.prog 248 = false := by kernel_rfl
theorem is250 : strT Tryz.prog 250 = false := by kernel_rfl
theorem ib250 : boolT Tryz.prog 250 = false := by kernel_rfl
theorem is251 : strT Tryz.prog 251 = false := by kernel_rfl
theorem ib251 : boolT Tryz.prog 251 = false := by kernel_rfl
theorem is253 : strT Tryz.prog 253 = false := by kernel_rfl
theorem ib253 : boolT Tryz.prog 253 = false := by kernel_rfl
theorem is257 : strT Tryz.prog 257 = false := by kernel_rfl
theorem ib257 : boolT Tryz.prog 257 = false := by kernel_rfl
theorem is263 : strT Tryz.prog 263 = false := by kernel_rfl
theorem ib263 : boolT Tryz.prog 263 = false := by kernel_rfl
theorem is265 : strT Tryz.prog 265 = false := by kernel_rfl
theorem ib265 : boolT Tryz.prog 265 = false := by kernel_rfl
theorem is267 : strT Tryz.prog 267 = false := by kernel_rfl
theorem ib267 : boolT Tryz.prog 267 = false := by kernel_rfl
theorem is274 : strT Tryz.prog 274 = false := by kernel_rfl
theorem ib274 : boolT Tryz.prog 274 = false := by kernel_rfl
theorem is275 : strT Tryz.prog 275 = false := by kernel_rfl
theorem ib275 : boolT Tryz.prog 275 = false := by kernel_rfl
theorem is283 : strT Tryz.prog 283 = false := by kernel_rfl
theorem ib283 : boolT Tryz.prog 283 = false := by kernel_rfl
theorem is291 : strT Tryz.prog 291 = false := by kernel_rfl
theorem ib291 : boolT Tryz.prog 291 = false := by kernel_rfl
theorem is293 : strT Tryz.prog 293 = false := by kernel_rfl
theorem ib293 : boolT Tryz.prog 293 = false := by kernel_rfl
theorem is298 : strT Tryz.prog 298 = false := by kernel_rfl
theorem ib298 : boolT Tryz.prog 298 = false := by kernel_rfl
theorem is301 : strT Tryz.prog 301 = false := by kernel_rfl
theorem ib301 : boolT Tryz.prog 301 = false := by kernel_rfl
theorem is313 : strT Tryz.prog 313 = false := by kernel_rfl
theorem ib313 : boolT Tryz.prog 313 = false := by kernel_rfl
theorem is322 : strT Tryz.prog 322 = false := by kernel_rfl
theorem ib322 : boolT Tryz.prog 322 = false := by kernel_rfl
theorem is327 : strT Tryz.prog 327 = false := by kernel_rfl
theorem ib327 : boolT Tryz.prog 327 = false := by kernel_rfl
theorem is328 : strT Tryz.prog 328 = false := by kernel_rfl
theorem ib328 : boolT Tryz.prog 328 = false := by kernel_rfl
theorem is332 : strT Tryz.prog 332 = false := by kernel_rfl
theorem ib332 : boolT Tryz.prog 332 = false := by kernel_rfl
theorem is336 : strT Tryz.prog 336 = false := by kernel_rfl
theorem ib336 : boolT Tryz.prog 336 = false := by kernel_rfl
theorem is344 : strT Tryz.prog 344 = false := by kernel_rfl
theorem ib344 : boolT Tryz.prog 344 = false := by kernel_rfl

attribute [simp] sz3 by3 ag3 ze3 sz4 by4 ag4 ze4 sz5 by5 ag5 ze5 sz9 by9 ag9 ze9 sz20 by20 ag20 ze20 sz22 by22 ag22 el22 ze22 sz23 by23 ag23 el23 ze23 sz25 by25 ag25 fl25_0 fl25_1 fl25_2 fl25_3 fl25_4 st25 ze25 sz29 by29 ag29 ze29 sz34 by34 ag34 ze34 sz36 by36 ag36 el36 ze36 sz37 by37 ag37 el37 ze37 sz42 by42 ag42 ze42 sz47 by47 ag47 fl47_0 fl47_1 fl47_2 fl47_3 fl47_4 st47 ze47 sz50 by50 ag50 el50 ze50 sz53 by53 ag53 fl53_0 fl53_1 st53 ze53 sz54 by54 ag54 ze54 sz56 by56 ag56 fl56_0 fl56_1 st56 ze56 sz58 by58 ag58 el58 ze58 sz60 by60 ag60 fl60_0 fl60_1 fl60_2 st60 ze60 sz61 by61 ag61 el61 ze61 sz63 by63 ag63 fl63_0 fl63_1 fl63_2 fl63_3 fl63_4 fl63_5 fl63_6 fl63_7 fl63_8 st63 ze63 sz67 by67 ag67 ze67 sz69 by69 ag69 fl69_0 st69 ze69 sz74 by74 ag74 fl74_0 fl74_1 fl74_2 st74 ze74 sz88 by88 ag88 el88 ze88 sz90 by90 ag90 fl90_0 fl90_1 st90 ze90 sz91 by91 ag91 ze91 sz101 by101 ag101 ze101 sz102 by102 ag102 ze102 sz104 by104 ag104 fl104_0 fl104_1 st104 ze104 sz112 by112 ag112 ze112 sz118 by118 ag118 ze118 sz121 by121 ag121 fl121_0 st121 ze121 sz123 by123 ag123 sz125 by125 ag125 fl125_0 st125 ze125 sz127 by127 ag127 ze127 sz129 by129 ag129 fl129_0 fl129_1 fl129_2 fl129_3 fl129_4 st129 ze129 sz133 by133 ag133 ze133 sz135 by135 ag135 ze135 sz141 by141 ag141 fl141_0 fl141_1 st141 ze141 sz146 by146 ag146 el146 ze146 sz152 by152 ag152 fl152_0 fl152_1 st152 ze152 sz156 by156 ag156 ze156 sz158 by158 ag158 fl158_0 st158 ze158 sz159 by159 ag159 ze159 sz162 by162 ag162 ze162 sz165 by165 ag165 ze165 sz167 by167 ag167 fl167_0 fl167_1 st167 ze167 sz174 by174 ag174 ze174 sz175 by175 ag175 ze175 sz184 by184 ag184 ze184 sz186 by186 ag186 ze186 sz187 by187 ag187 el187 ze187 sz198 by198 ag198 ze198 sz199 by199 ag199 el199 ze199 sz201 by201 ag201 fl201_0 fl201_1 st201 ze201 sz210 by210 ag210 fl210_0 fl210_1 fl210_2 fl210_3 st210 ze210 sz218 by218 ag218 ze218 sz221 by221 ag221 ze221 sz222 by222 ag222 ze222 sz224 by224 ag224 fl224_0 st224 ze224 sz228 by228 ag228 ze228 sz234 by234 ag234 sz239 by239 ag239 ze239 sz242 by242 ag242 fl242_0 fl242_1 fl242_2 fl242_3 fl242_4 st242 ze242 sz245 by245 ag245 ze245 sz246 by246 ag246 ze246 sz248 by248 ag248 ze248 sz250 by250 ag250 fl250_0 fl250_1 fl250_2 fl250_3 fl250_4 st250 ze250 sz251 by251 ag251 el251 ar251 ze251 sz253 by253 ag253 ze253 sz257 by257 ag257 ze257 sz263 by263 ag263 el263 ze263 sz265 by265 ag265 fl265_0 fl265_1 fl265_2 fl265_3 st265 ze265 sz267 by267 ag267 fl267_0 fl267_1 fl267_2 fl267_3 st267 ze267 sz274 by274 ag274 ze274 sz275 by275 ag275 ze275 sz283 by283 ag283 ze283 sz291 by291 ag291 fl291_0 fl291_1 fl291_2 st291 ze291 sz293 by293 ag293 fl293_0 fl293_1 fl293_2 st293 ze293 sz298 by298 ag298 sz301 by301 ag301 fl301_0 fl301_1 st301 ze301 sz313 by313 ag313 ze313 sz322 by322 ag322 ze322 sz327 by327 ag327 ze327 sz328 by328 ag328 el328 ar328 ze328 sz332 by332 ag332 ze332 sz336 by336 ag336 ze336 sz344 by344 ag344 ze344 is3 ib3 is4 ib4 is5 ib5 is9 ib9 is20 ib20 is22 ib22 is23 ib23 is25 ib25 is29 ib29 is34 ib34 is36 ib36 is37 ib37 is42 ib42 is47 ib47 is50 ib50 is53 ib53 is54 ib54 is56 ib56 is58 ib58 is60 ib60 is61 ib61 is63 ib63 is67 ib67 is69 ib69 is74 ib74 is88 ib88 is90 ib90 is91 ib91 is101 ib101 is102 ib102 is104 ib104 is112 ib112 is118 ib118 is121 ib121 is123 ib123 is125 ib125 is127 ib127 is129 ib129 is133 ib133 is135 ib135 is141 ib141 is146 ib146 is152 ib152 is156 ib156 is158 ib158 is159 ib159 is162 ib162 is165 ib165 is167 ib167 is174 ib174 is175 ib175 is184 ib184 is186 ib186 is187 ib187 is198 ib198 is199 ib199 is201 ib201 is210 ib210 is218 ib218 is221 ib221 is222 ib222 is224 ib224 is228 ib228 is234 ib234 is239 ib239 is242 ib242 is245 ib245 is246 ib246 is248 ib248 is250 ib250 is251 ib251 is253 ib253 is257 ib257 is263 ib263 is265 ib265 is267 ib267 is274 ib274 is275 ib275 is283 ib283 is291 ib291 is293 ib293 is298 ib298 is301 ib301 is313 ib313 is322 ib322 is327 ib327 is328 ib328 is332 ib332 is336 ib336 is344 ib344

end Go.Proofs.YtcfcolkbeelegaaGreat
