/-
  Calls that become known.
-/
import Derived.Test.YtplomildbmcmfaaGreatBKE

set_option maxRecDepth 1000000

namespace Go.Proofs.YtplomildbmcmfaaGreat.kq

open Go Go.AI Go.AI.EV
def kt0 : KT := .nil
theorem kt0_ok : KTok Tryz.prog kt0 := trivial

end Go.Proofs.YtplomildbmcmfaaGreat.kq

set_option maxRecDepth 1000000

namespace Go.Proofs.YtplomildbmcmfaaGreat.kq

open Go Go.AI Go.AI.EV
theorem pu110 : PuOk Tryz.prog 249 ea110 ev110 := pu_run seat_is kt0_ok fzT 60 (by decide +kernel)
theorem pu115 : PuOk Tryz.prog 249 ea115 ev115 := pu_run seat_is kt0_ok fzT 60 (by decide +kernel)
theorem pu11 : PuOk Tryz.prog 249 ea11 ev11 := pu_run seat_is kt0_ok fzT 60 (by decide +kernel)
theorem pu137 : PuOk Tryz.prog 195 ea137 ev137 := pu_run seat_is kt0_ok fzT 60 (by decide +kernel)
theorem pu2 : PuOk Tryz.prog 249 ea2 ev2 := pu_run seat_is kt0_ok fzT 60 (by decide +kernel)
theorem pu36 : PuOk Tryz.prog 238 ea36 ev36 := pu_run seat_is kt0_ok fzT 60 (by decide +kernel)
theorem pu50 : PuOk Tryz.prog 238 ea50 ev50 := pu_run seat_is kt0_ok fzT 60 (by decide +kernel)
theorem pu57 : PuOk Tryz.prog 238 ea57 ev57 := pu_run seat_is kt0_ok fzT 60 (by decide +kernel)
theorem pu74 : PuOk Tryz.prog 238 ea74 ev74 := pu_run seat_is kt0_ok fzT 60 (by decide +kernel)
theorem pu78 : PuOk Tryz.prog 238 ea78 ev78 := pu_run seat_is kt0_ok fzT 60 (by decide +kernel)
theorem pu130 : PuOk Tryz.prog 238 ea130 ev130 := pu_run seat_is kt0_ok fzT 60 (by decide +kernel)
theorem pu111 : PuOk Tryz.prog 179 ea111 ev111 := pu_run seat_is kt0_ok fzT 60 (by decide +kernel)
theorem pu116 : PuOk Tryz.prog 86 ea116 ev116 := pu_run seat_is kt0_ok fzT 60 (by decide +kernel)
theorem pu58 : PuOk Tryz.prog 234 ea58 ev58 := pu_run seat_is kt0_ok fzT 60 (by decide +kernel)
theorem pu60 : PuOk Tryz.prog 195 ea60 ev60 := pu_run seat_is kt0_ok fzT 60 (by decide +kernel)
theorem pu21 : PuOk Tryz.prog 101 ea21 ev21 := pu_run seat_is kt0_ok fzT 60 (by decide +kernel)
theorem pu25 : PuOk Tryz.prog 242 ea25 ev25 := pu_run seat_is kt0_ok fzT 60 (by decide +kernel)
theorem pu13 : PuOk Tryz.prog 179 ea13 ev13 := pu_run seat_is kt0_ok fzT 60 (by decide +kernel)
theorem pu6 : PuOk Tryz.prog 57 ea6 ev6 := pu_run seat_is kt0_ok fzT 60 (by decide +kernel)
theorem pu31 : PuOk Tryz.prog 379 ea31 ev31 := pu_run seat_is kt0_ok fzT 60 (by decide +kernel)
theorem pu54 : PuOk Tryz.prog 338 ea54 ev54 := pu_run seat_is kt0_ok fzT 60 (by decide +kernel)
theorem pu17 : PuOk Tryz.prog 293 ea17 ev17 := pu_run seat_is kt0_ok fzT 60 (by decide +kernel)
theorem pu38 : PuOk Tryz.prog 293 ea38 ev38 := pu_run seat_is kt0_ok fzT 60 (by decide +kernel)
theorem pu55 : PuOk Tryz.prog 293 ea55 ev55 := pu_run seat_is kt0_ok fzT 60 (by decide +kernel)
theorem pu56 : PuOk Tryz.prog 293 ea56 ev56 := pu_run seat_is kt0_ok fzT 60 (by decide +kernel)
theorem pu83 : PuOk Tryz.prog 293 ea83 ev83 := pu_run seat_is kt0_ok fzT 60 (by decide +kernel)
theorem pu112 : PuOk Tryz.prog 293 ea112 ev112 := pu_run seat_is kt0_ok fzT 60 (by decide +kernel)
theorem pu45 : PuOk Tryz.prog 86 ea45 ev45 := pu_run seat_is kt0_ok fzT 60 (by decide +kernel)
theorem pu8 : PuOk Tryz.prog 286 ea8 ev8 := pu_run seat_is kt0_ok fzT 60 (by decide +kernel)
theorem pu4 : PuOk Tryz.prog 179 ea4 ev4 := pu_run seat_is kt0_ok fzT 60 (by decide +kernel)
theorem pu24 : PuOk Tryz.prog 174 ea24 ev24 := pu_run seat_is kt0_ok fzT 60 (by decide +kernel)
theorem pu53 : PuOk Tryz.prog 338 ea53 ev53 := pu_run seat_is kt0_ok fzT 60 (by decide +kernel)
theorem pu14 : PuOk Tryz.prog 234 ea14 ev14 := pu_run seat_is kt0_ok fzT 60 (by decide +kernel)
theorem pu44 : PuOk Tryz.prog 234 ea44 ev44 := pu_run seat_is kt0_ok fzT 60 (by decide +kernel)
theorem pu22 : PuOk Tryz.prog 138 ea22 ev22 := pu_run seat_is kt0_ok fzT 60 (by decide +kernel)
theorem pu18 : PuOk Tryz.prog 167 ea18 ev18 := pu_run seat_is kt0_ok fzT 60 (by decide +kernel)
theorem pu0 : PuOk Tryz.prog 62 ea0 ev0 := pu_run seat_is kt0_ok fzT 60 (by decide +kernel)
theorem pu10 : PuOk Tryz.prog 98 ea10 ev10 := pu_run seat_is kt0_ok fzT 60 (by decide +kernel)

end Go.Proofs.YtplomildbmcmfaaGreat.kq

set_option maxRecDepth 1000000

namespace Go.Proofs.YtplomildbmcmfaaGreat.kq

open Go Go.AI Go.AI.EV
def kt1 : KT := (.nd 195 [(ea60, ev60), (ea137, ev137)] (.nd 101 [(ea21, ev21)] (.nd 86 [(ea45, ev45), (ea116, ev116)] (.nd 62 [(ea0, ev0)] (.nd 57 [(ea6, ev6)] .nil .nil) .nil) (.nd 98 [(ea10, ev10)] .nil .nil)) (.nd 174 [(ea24, ev24)] (.nd 167 [(ea18, ev18)] (.nd 138 [(ea22, ev22)] .nil .nil) .nil) (.nd 179 [(ea4, ev4), (ea13, ev13), (ea111, ev111)] .nil .nil))) (.nd 286 [(ea8, ev8)] (.nd 242 [(ea25, ev25)] (.nd 238 [(ea36, ev36), (ea50, ev50), (ea57, ev57), (ea74, ev74), (ea78, ev78), (ea130, ev130)] (.nd 234 [(ea14, ev14), (ea44, ev44), (ea58, ev58)] .nil .nil) .nil) (.nd 249 [(ea2, ev2), (ea11, ev11), (ea110, ev110), (ea115, ev115)] .nil .nil)) (.nd 338 [(ea53, ev53), (ea54, ev54)] (.nd 293 [(ea17, ev17), (ea38, ev38), (ea55, ev55), (ea56, ev56), (ea83, ev83), (ea112, ev112)] .nil .nil) (.nd 379 [(ea31, ev31)] .nil .nil))))
theorem kt1_ok : KTok Tryz.prog kt1 := ⟨List.forall_mem_cons.2 ⟨pu60, List.forall_mem_cons.2 ⟨pu137, List.forall_mem_nil _⟩⟩, ⟨List.forall_mem_cons.2 ⟨pu21, List.forall_mem_nil _⟩, ⟨List.forall_mem_cons.2 ⟨pu45, List.forall_mem_cons.2 ⟨pu116, List.forall_mem_nil _⟩⟩, ⟨List.forall_mem_cons.2 ⟨pu0, List.forall_mem_nil _⟩, ⟨List.forall_mem_cons.2 ⟨pu6, List.forall_mem_nil _⟩, trivial, trivial⟩, trivial⟩, ⟨List.forall_mem_cons.2 ⟨pu10, List.forall_mem_nil _⟩, trivial, trivial⟩⟩, ⟨List.forall_mem_cons.2 ⟨pu24, List.forall_mem_nil _⟩, ⟨List.forall_mem_cons.2 ⟨pu18, List.forall_mem_nil _⟩, ⟨List.forall_mem_cons.2 ⟨pu22, List.forall_mem_nil _⟩, trivial, trivial⟩, trivial⟩, ⟨List.forall_mem_cons.2 ⟨pu4, List.forall_mem_cons.2 ⟨pu13, List.forall_mem_cons.2 ⟨pu111, List.forall_mem_nil _⟩⟩⟩, trivial, trivial⟩⟩⟩, ⟨List.forall_mem_cons.2 ⟨pu8, List.forall_mem_nil _⟩, ⟨List.forall_mem_cons.2 ⟨pu25, List.forall_mem_nil _⟩, ⟨List.forall_mem_cons.2 ⟨pu36, List.forall_mem_cons.2 ⟨pu50, List.forall_mem_cons.2 ⟨pu57, List.forall_mem_cons.2 ⟨pu74, List.forall_mem_cons.2 ⟨pu78, List.forall_mem_cons.2 ⟨pu130, List.forall_mem_nil _⟩⟩⟩⟩⟩⟩, ⟨List.forall_mem_cons.2 ⟨pu14, List.forall_mem_cons.2 ⟨pu44, List.forall_mem_cons.2 ⟨pu58, List.forall_mem_nil _⟩⟩⟩, trivial, trivial⟩, trivial⟩, ⟨List.forall_mem_cons.2 ⟨pu2, List.forall_mem_cons.2 ⟨pu11, List.forall_mem_cons.2 ⟨pu110, List.forall_mem_cons.2 ⟨pu115, List.forall_mem_nil _⟩⟩⟩⟩, trivial, trivial⟩⟩, ⟨List.forall_mem_cons.2 ⟨pu53, List.forall_mem_cons.2 ⟨pu54, List.forall_mem_nil _⟩⟩, ⟨List.forall_mem_cons.2 ⟨pu17, List.forall_mem_cons.2 ⟨pu38, List.forall_mem_cons.2 ⟨pu55, List.forall_mem_cons.2 ⟨pu56, List.forall_mem_cons.2 ⟨pu83, List.forall_mem_cons.2 ⟨pu112, List.forall_mem_nil _⟩⟩⟩⟩⟩⟩, trivial, trivial⟩, ⟨List.forall_mem_cons.2 ⟨pu31, List.forall_mem_nil _⟩, trivial, trivial⟩⟩⟩⟩

end Go.Proofs.YtplomildbmcmfaaGreat.kq

set_option maxRecDepth 1000000

namespace Go.Proofs.YtplomildbmcmfaaGreat.kq

open Go Go.AI Go.AI.EV
theorem pu1 : PuOk Tryz.prog 27 ea1 ev1 := pu_run seat_is kt1_ok fzT 60 (by decide +kernel)
theorem pu149 : PuOk Tryz.prog 238 ea149 ev149 := pu_run seat_is kt1_ok fzT 60 (by decide +kernel)
theorem pu139 : PuOk Tryz.prog 426 ea139 ev139 := pu_run seat_is kt1_ok fzT 60 (by decide +kernel)
theorem pu113 : PuOk Tryz.prog 238 ea113 ev113 := pu_run seat_is kt1_ok fzT 60 (by decide +kernel)
theorem pu119 : PuOk Tryz.prog 238 ea119 ev119 := pu_run seat_is kt1_ok fzT 60 (by decide +kernel)
theorem pu122 : PuOk Tryz.prog 238 ea122 ev122 := pu_run seat_is kt1_ok fzT 60 (by decide +kernel)
theorem pu141 : PuOk Tryz.prog 319 ea141 ev141 := pu_run seat_is kt1_ok fzT 60 (by decide +kernel)
theorem pu123 : PuOk Tryz.prog 314 ea123 ev123 := pu_run seat_is kt1_ok fzT 60 (by decide +kernel)

end Go.Proofs.YtplomildbmcmfaaGreat.kq

set_option maxRecDepth 1000000

namespace Go.Proofs.YtplomildbmcmfaaGreat.kq

open Go Go.AI Go.AI.EV
theorem pu125 : PuOk Tryz.prog 314 ea125 ev125 := pu_run seat_is kt1_ok fzT 60 (by decide +kernel)
theorem pu75 : PuOk Tryz.prog 238 ea75 ev75 := pu_run seat_is kt1_ok fzT 60 (by decide +kernel)
theorem pu96 : PuOk Tryz.prog 238 ea96 ev96 := pu_run seat_is kt1_ok fzT 60 (by decide +kernel)
theorem pu120 : PuOk Tryz.prog 238 ea120 ev120 := pu_run seat_is kt1_ok fzT 60 (by decide +kernel)
theorem pu127 : PuOk Tryz.prog 238 ea127 ev127 := pu_run seat_is kt1_ok fzT 60 (by decide +kernel)
theorem pu9 : PuOk Tryz.prog 161 ea9 ev9 := pu_run seat_is kt1_ok fzT 60 (by decide +kernel)
theorem pu62 : PuOk Tryz.prog 426 ea62 ev62 := pu_run seat_is kt1_ok fzT 60 (by decide +kernel)
theorem pu48 : PuOk Tryz.prog 263 ea48 ev48 := pu_run seat_is kt1_ok fzT 60 (by decide +kernel)
theorem pu63 : PuOk Tryz.prog 319 ea63 ev63 := pu_run seat_is kt1_ok fzT 60 (by decide +kernel)
theorem pu135 : PuOk Tryz.prog 234 ea135 ev135 := pu_run seat_is kt1_ok fzT 60 (by decide +kernel)
theorem pu61 : PuOk Tryz.prog 143 ea61 ev61 := pu_run seat_is kt1_ok fzT 60 (by decide +kernel)
theorem pu138 : PuOk Tryz.prog 143 ea138 ev138 := pu_run seat_is kt1_ok fzT 60 (by decide +kernel)
theorem pu7 : PuOk Tryz.prog 57 ea7 ev7 := pu_run seat_is kt1_ok fzT 60 (by decide +kernel)
theorem pu19 : PuOk Tryz.prog 168 ea19 ev19 := pu_run seat_is kt1_ok fzT 60 (by decide +kernel)
theorem pu23 : PuOk Tryz.prog 143 ea23 ev23 := pu_run seat_is kt1_ok fzT 60 (by decide +kernel)
theorem pu33 : PuOk Tryz.prog 168 ea33 ev33 := pu_run seat_is kt1_ok fzT 60 (by decide +kernel)
theorem pu52 : PuOk Tryz.prog 143 ea52 ev52 := pu_run seat_is kt1_ok fzT 60 (by decide +kernel)
theorem pu100 : PuOk Tryz.prog 143 ea100 ev100 := pu_run seat_is kt1_ok fzT 60 (by decide +kernel)
theorem pu42 : PuOk Tryz.prog 426 ea42 ev42 := pu_run seat_is kt1_ok fzT 60 (by decide +kernel)
theorem pu34 : PuOk Tryz.prog 319 ea34 ev34 := pu_run seat_is kt1_ok fzT 60 (by decide +kernel)
theorem pu35 : PuOk Tryz.prog 319 ea35 ev35 := pu_run seat_is kt1_ok fzT 60 (by decide +kernel)
theorem pu43 : PuOk Tryz.prog 319 ea43 ev43 := pu_run seat_is kt1_ok fzT 60 (by decide +kernel)
theorem pu49 : PuOk Tryz.prog 319 ea49 ev49 := pu_run seat_is kt1_ok fzT 60 (by decide +kernel)
theorem pu91 : PuOk Tryz.prog 319 ea91 ev91 := pu_run seat_is kt1_ok fzT 60 (by decide +kernel)
theorem pu128 : PuOk Tryz.prog 319 ea128 ev128 := pu_run seat_is kt1_ok fzT 60 (by decide +kernel)
theorem pu26 : PuOk Tryz.prog 180 ea26 ev26 := pu_run seat_is kt1_ok fzT 60 (by decide +kernel)
theorem pu47 : PuOk Tryz.prog 314 ea47 ev47 := pu_run seat_is kt1_ok fzT 60 (by decide +kernel)
theorem pu15 : PuOk Tryz.prog 234 ea15 ev15 := pu_run seat_is kt1_ok fzT 60 (by decide +kernel)
theorem pu3 : PuOk Tryz.prog 178 ea3 ev3 := pu_run seat_is kt1_ok fzT 60 (by decide +kernel)
theorem pu12 : PuOk Tryz.prog 178 ea12 ev12 := pu_run seat_is kt1_ok fzT 60 (by decide +kernel)
theorem pu27 : PuOk Tryz.prog 195 ea27 ev27 := pu_run seat_is kt1_ok fzT 60 (by decide +kernel)
theorem pu40 : PuOk Tryz.prog 195 ea40 ev40 := pu_run seat_is kt1_ok fzT 60 (by decide +kernel)

end Go.Proofs.YtplomildbmcmfaaGreat.kq

set_option maxRecDepth 1000000

namespace Go.Proofs.YtplomildbmcmfaaGreat.kq

open Go Go.AI Go.AI.EV
def kt2 : KT := (.nd 180 [(ea26, ev26)] (.nd 143 [(ea23, ev23), (ea52, ev52), (ea61, ev61), (ea100, ev100), (ea138, ev138)] (.nd 86 [(ea45, ev45), (ea116, ev116)] (.nd 57 [(ea6, ev6), (ea7, ev7)] (.nd 27 [(ea1, ev1)] .nil .nil) (.nd 62 [(ea0, ev0)] .nil .nil)) (.nd 101 [(ea21, ev21)] (.nd 98 [(ea10, ev10)] .nil .nil) (.nd 138 [(ea22, ev22)] .nil .nil))) (.nd 174 [(ea24, ev24)] (.nd 167 [(ea18, ev18)] (.nd 161 [(ea9, ev9)] .nil .nil) (.nd 168 [(ea19, ev19), (ea33, ev33)] .nil .nil)) (.nd 179 [(ea4, ev4), (ea13, ev13), (ea111, ev111)] (.nd 178 [(ea3, ev3), (ea12, ev12)] .nil .nil) .nil))) (.nd 286 [(ea8, ev8)] (.nd 242 [(ea25, ev25)] (.nd 234 [(ea14, ev14), (ea15, ev15), (ea44, ev44), (ea58, ev58), (ea135, ev135)] (.nd 195 [(ea27, ev27), (ea40, ev40), (ea60, ev60), (ea137, ev137)] .nil .nil) (.nd 238 [(ea36, ev36), (ea50, ev50), (ea57, ev57), (ea74, ev74), (ea75, ev75), (ea78, ev78), (ea96, ev96), (ea113, ev113), (ea119, ev119), (ea120, ev120), (ea122, ev122), (ea127, ev127), (ea130, ev130), (ea149, ev149)] .nil .nil)) (.nd 263 [(ea48, ev48)] (.nd 249 [(ea2, ev2), (ea11, ev11), (ea110, ev110), (ea115, ev115)] .nil .nil) .nil)) (.nd 338 [(ea53, ev53), (ea54, ev54)] (.nd 314 [(ea47, ev47), (ea123, ev123), (ea125, ev125)] (.nd 293 [(ea17, ev17), (ea38, ev38), (ea55, ev55), (ea56, ev56), (ea83, ev83), (ea112, ev112)] .nil .nil) (.nd 319 [(ea34, ev34), (ea35, ev35), (ea43, ev43), (ea49, ev49), (ea63, ev63), (ea91, ev91), (ea128, ev128), (ea141, ev141)] .nil .nil)) (.nd 426 [(ea42, ev42), (ea62, ev62), (ea139, ev139)] (.nd 379 [(ea31, ev31)] .nil .nil) .nil))))
theorem kt2_ok : KTok Tryz.prog kt2 := ⟨List.forall_mem_cons.2 ⟨pu26, List.forall_mem_nil _⟩, ⟨List.forall_mem_cons.2 ⟨pu23, List.forall_mem_cons.2 ⟨pu52, List.forall_mem_cons.2 ⟨pu61, List.forall_mem_cons.2 ⟨pu100, List.forall_mem_cons.2 ⟨pu138, List.forall_mem_nil _⟩⟩⟩⟩⟩, ⟨List.forall_mem_cons.2 ⟨pu45, List.forall_mem_cons.2 ⟨pu116, List.forall_mem_nil _⟩⟩, ⟨List.forall_mem_cons.2 ⟨pu6, List.forall_mem_cons.2 ⟨pu7, List.forall_mem_nil _⟩⟩, ⟨List.forall_mem_cons.2 ⟨pu1, List.forall_mem_nil _⟩, trivial, trivial⟩, ⟨List.forall_mem_cons.2 ⟨pu0, List.forall_mem_nil _⟩, trivial, trivial⟩⟩, ⟨List.forall_mem_cons.2 ⟨pu21, List.forall_mem_nil _⟩, ⟨List.forall_mem_cons.2 ⟨pu10, List.forall_mem_nil _⟩, trivial, trivial⟩, ⟨List.forall_mem_cons.2 ⟨pu22, List.forall_mem_nil _⟩, trivial, trivial⟩⟩⟩, ⟨List.forall_mem_cons.2 ⟨pu24, List.forall_mem_nil _⟩, ⟨List.forall_mem_cons.2 ⟨pu18, List.forall_mem_nil _⟩, ⟨List.forall_mem_cons.2 ⟨pu9, List.forall_mem_nil _⟩, trivial, trivial⟩, ⟨List.forall_mem_cons.2 ⟨pu19, List.forall_mem_cons.2 ⟨pu33, List.forall_mem_nil _⟩⟩, trivial, trivial⟩⟩, ⟨List.forall_mem_cons.2 ⟨pu4, List.forall_mem_cons.2 ⟨pu13, List.forall_mem_cons.2 ⟨pu111, List.forall_mem_nil _⟩⟩⟩, ⟨List.forall_mem_cons.2 ⟨pu3, List.forall_mem_cons.2 ⟨pu12, List.forall_mem_nil _⟩⟩, trivial, trivial⟩, trivial⟩⟩⟩, ⟨List.forall_mem_cons.2 ⟨pu8, List.forall_mem_nil _⟩, ⟨List.forall_mem_cons.2 ⟨pu25, List.forall_mem_nil _⟩, ⟨List.forall_mem_cons.2 ⟨pu14, List.forall_mem_cons.2 ⟨pu15, List.forall_mem_cons.2 ⟨pu44, List.forall_mem_cons.2 ⟨pu58, List.forall_mem_cons.2 ⟨pu135, List.forall_mem_nil _⟩⟩⟩⟩⟩, ⟨List.forall_mem_cons.2 ⟨pu27, List.forall_mem_cons.2 ⟨pu40, List.forall_mem_cons.2 ⟨pu60, List.forall_mem_cons.2 ⟨pu137, List.forall_mem_nil _⟩⟩⟩⟩, trivial, trivial⟩, ⟨List.forall_mem_cons.2 ⟨pu36, List.forall_mem_cons.2 ⟨pu50, List.forall_mem_cons.2 ⟨pu57, List.forall_mem_cons.2 ⟨pu74, List.forall_mem_cons.2 ⟨pu75, List.forall_mem_cons.2 ⟨pu78, List.forall_mem_cons.2 ⟨pu96, List.forall_mem_cons.2 ⟨pu113, List.forall_mem_cons.2 ⟨pu119, List.forall_mem_cons.2 ⟨pu120, List.forall_mem_cons.2 ⟨pu122, List.forall_mem_cons.2 ⟨pu127, List.forall_mem_cons.2 ⟨pu130, List.forall_mem_cons.2 ⟨pu149, List.forall_mem_nil _⟩⟩⟩⟩⟩⟩⟩⟩⟩⟩⟩⟩⟩⟩, trivial, trivial⟩⟩, ⟨List.forall_mem_cons.2 ⟨pu48, List.forall_mem_nil _⟩, ⟨List.forall_mem_cons.2 ⟨pu2, List.forall_mem_cons.2 ⟨pu11, List.forall_mem_cons.2 ⟨pu110, List.forall_mem_cons.2 ⟨pu115, List.forall_mem_nil _⟩⟩⟩⟩, trivial, trivial⟩, trivial⟩⟩, ⟨List.forall_mem_cons.2 ⟨pu53, List.forall_mem_cons.2 ⟨pu54, List.forall_mem_nil _⟩⟩, ⟨List.forall_mem_cons.2 ⟨pu47, List.forall_mem_cons.2 ⟨pu123, List.forall_mem_cons.2 ⟨pu125, List.forall_mem_nil _⟩⟩⟩, ⟨List.forall_mem_cons.2 ⟨pu17, List.forall_mem_cons.2 ⟨pu38, List.forall_mem_cons.2 ⟨pu55, List.forall_mem_cons.2 ⟨pu56, List.forall_mem_cons.2 ⟨pu83, List.forall_mem_cons.2 ⟨pu112, List.forall_mem_nil _⟩⟩⟩⟩⟩⟩, trivial, trivial⟩, ⟨List.forall_mem_cons.2 ⟨pu34, List.forall_mem_cons.2 ⟨pu35, List.forall_mem_cons.2 ⟨pu43, List.forall_mem_cons.2 ⟨pu49, List.forall_mem_cons.2 ⟨pu63, List.forall_mem_cons.2 ⟨pu91, List.forall_mem_cons.2 ⟨pu128, List.forall_mem_cons.2 ⟨pu141, List.forall_mem_nil _⟩⟩⟩⟩⟩⟩⟩⟩, trivial, trivial⟩⟩, ⟨List.forall_mem_cons.2 ⟨pu42, List.forall_mem_cons.2 ⟨pu62, List.forall_mem_cons.2 ⟨pu139, List.forall_mem_nil _⟩⟩⟩, ⟨List.forall_mem_cons.2 ⟨pu31, List.forall_mem_nil _⟩, trivial, trivial⟩, trivial⟩⟩⟩⟩

end Go.Proofs.YtplomildbmcmfaaGreat.kq

set_option maxRecDepth 1000000

namespace Go.Proofs.YtplomildbmcmfaaGreat.kq

open Go Go.AI Go.AI.EV
theorem pu136 : PuOk Tryz.prog 263 ea136 ev136 := pu_run seat_is kt2_ok fzT 60 (by decide +kernel)
theorem pu140 : PuOk Tryz.prog 263 ea140 ev140 := pu_run seat_is kt2_ok fzT 60 (by decide +kernel)
theorem pu145 : PuOk Tryz.prog 263 ea145 ev145 := pu_run seat_is kt2_ok fzT 60 (by decide +kernel)

end Go.Proofs.YtplomildbmcmfaaGreat.kq

set_option maxRecDepth 1000000

namespace Go.Proofs.YtplomildbmcmfaaGreat.kq

open Go Go.AI Go.AI.EV
theorem pu103 : PuOk Tryz.prog 263 ea103 ev103 := pu_run seat_is kt2_ok fzT 60 (by decide +kernel)
theorem pu129 : PuOk Tryz.prog 263 ea129 ev129 := pu_run seat_is kt2_ok fzT 60 (by decide +kernel)
theorem pu131 : PuOk Tryz.prog 263 ea131 ev131 := pu_run seat_is kt2_ok fzT 60 (by decide +kernel)
theorem pu146 : PuOk Tryz.prog 263 ea146 ev146 := pu_run seat_is kt2_ok fzT 60 (by decide +kernel)
theorem pu126 : PuOk Tryz.prog 263 ea126 ev126 := pu_run seat_is kt2_ok fzT 60 (by decide +kernel)
theorem pu107 : PuOk Tryz.prog 263 ea107 ev107 := pu_run seat_is kt2_ok fzT 60 (by decide +kernel)

end Go.Proofs.YtplomildbmcmfaaGreat.kq

set_option maxRecDepth 1000000

namespace Go.Proofs.YtplomildbmcmfaaGreat.kq

open Go Go.AI Go.AI.EV
theorem pu124 : PuOk Tryz.prog 263 ea124 ev124 := pu_run seat_is kt2_ok fzT 60 (by decide +kernel)
theorem pu16 : PuOk Tryz.prog 161 ea16 ev16 := pu_run seat_is kt2_ok fzT 60 (by decide +kernel)
theorem pu93 : PuOk Tryz.prog 263 ea93 ev93 := pu_run seat_is kt2_ok fzT 60 (by decide +kernel)
theorem pu97 : PuOk Tryz.prog 263 ea97 ev97 := pu_run seat_is kt2_ok fzT 60 (by decide +kernel)
theorem pu59 : PuOk Tryz.prog 263 ea59 ev59 := pu_run seat_is kt2_ok fzT 60 (by decide +kernel)
theorem pu90 : PuOk Tryz.prog 263 ea90 ev90 := pu_run seat_is kt2_ok fzT 60 (by decide +kernel)
theorem pu84 : PuOk Tryz.prog 263 ea84 ev84 := pu_run seat_is kt2_ok fzT 60 (by decide +kernel)

end Go.Proofs.YtplomildbmcmfaaGreat.kq
