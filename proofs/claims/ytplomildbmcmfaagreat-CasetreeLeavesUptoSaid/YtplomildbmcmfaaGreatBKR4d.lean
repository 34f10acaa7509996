/-
  Calls that become known.
-/
import Derived.Test.YtplomildbmcmfaaGreatBKR3a

set_option maxRecDepth 1000000

namespace Go.Proofs.YtplomildbmcmfaaGreat.kq

open Go Go.AI Go.AI.EV
def kt4 : KT := (.nd 234 [(ea14, ev14), (ea15, ev15), (ea44, ev44), (ea58, ev58), (ea135, ev135)] (.nd 143 [(ea23, ev23), (ea28, ev28), (ea41, ev41), (ea52, ev52), (ea61, ev61), (ea100, ev100), (ea138, ev138)] (.nd 86 [(ea45, ev45), (ea116, ev116)] (.nd 57 [(ea6, ev6), (ea7, ev7)] (.nd 56 [(ea5, ev5)] (.nd 27 [(ea1, ev1)] .nil .nil) .nil) (.nd 62 [(ea0, ev0)] .nil .nil)) (.nd 101 [(ea21, ev21)] (.nd 100 [(ea20, ev20), (ea114, ev114)] (.nd 98 [(ea10, ev10)] .nil .nil) .nil) (.nd 138 [(ea22, ev22)] .nil .nil))) (.nd 178 [(ea3, ev3), (ea12, ev12)] (.nd 168 [(ea19, ev19), (ea33, ev33)] (.nd 167 [(ea18, ev18)] (.nd 161 [(ea9, ev9), (ea16, ev16)] .nil .nil) .nil) (.nd 174 [(ea24, ev24)] .nil .nil)) (.nd 180 [(ea26, ev26)] (.nd 179 [(ea4, ev4), (ea13, ev13), (ea111, ev111)] .nil .nil) (.nd 195 [(ea27, ev27), (ea40, ev40), (ea60, ev60), (ea137, ev137)] .nil .nil)))) (.nd 314 [(ea47, ev47), (ea123, ev123), (ea125, ev125)] (.nd 263 [(ea37, ev37), (ea39, ev39), (ea48, ev48), (ea51, ev51), (ea59, ev59), (ea64, ev64), (ea67, ev67), (ea69, ev69), (ea73, ev73), (ea76, ev76), (ea79, ev79), (ea84, ev84), (ea86, ev86), (ea87, ev87), (ea88, ev88), (ea90, ev90), (ea92, ev92), (ea93, ev93), (ea94, ev94), (ea97, ev97), (ea99, ev99), (ea101, ev101), (ea103, ev103), (ea104, ev104), (ea105, ev105), (ea107, ev107), (ea121, ev121), (ea124, ev124), (ea126, ev126), (ea129, ev129), (ea131, ev131), (ea132, ev132), (ea133, ev133), (ea134, ev134), (ea136, ev136), (ea140, ev140), (ea142, ev142), (ea143, ev143), (ea145, ev145), (ea146, ev146), (ea148, ev148), (ea150, ev150), (ea152, ev152)] (.nd 246 [(ea151, ev151)] (.nd 242 [(ea25, ev25)] (.nd 238 [(ea36, ev36), (ea50, ev50), (ea57, ev57), (ea74, ev74), (ea75, ev75), (ea78, ev78), (ea96, ev96), (ea113, ev113), (ea119, ev119), (ea120, ev120), (ea122, ev122), (ea127, ev127), (ea130, ev130), (ea149, ev149)] .nil .nil) .nil) (.nd 249 [(ea2, ev2), (ea11, ev11), (ea110, ev110), (ea115, ev115)] .nil .nil)) (.nd 302 [(ea29, ev29)] (.nd 293 [(ea17, ev17), (ea38, ev38), (ea55, ev55), (ea56, ev56), (ea83, ev83), (ea112, ev112)] (.nd 286 [(ea8, ev8)] .nil .nil) .nil) (.nd 305 [(ea32, ev32), (ea118, ev118)] .nil .nil))) (.nd 379 [(ea31, ev31)] (.nd 349 [(ea46, ev46), (ea65, ev65), (ea89, ev89), (ea95, ev95), (ea102, ev102), (ea106, ev106), (ea144, ev144)] (.nd 338 [(ea53, ev53), (ea54, ev54)] (.nd 319 [(ea34, ev34), (ea35, ev35), (ea43, ev43), (ea49, ev49), (ea63, ev63), (ea91, ev91), (ea128, ev128), (ea141, ev141)] .nil .nil) .nil) (.nd 350 [(ea68, ev68), (ea70, ev70), (ea77, ev77), (ea80, ev80)] .nil .nil)) (.nd 381 [(ea117, ev117)] (.nd 380 [(ea30, ev30)] .nil .nil) (.nd 426 [(ea42, ev42), (ea62, ev62), (ea139, ev139)] .nil .nil)))))
theorem kt4_ok : KTok Tryz.prog kt4 := ⟨List.forall_mem_cons.2 ⟨pu14, List.forall_mem_cons.2 ⟨pu15, List.forall_mem_cons.2 ⟨pu44, List.forall_mem_cons.2 ⟨pu58, List.forall_mem_cons.2 ⟨pu135, List.forall_mem_nil _⟩⟩⟩⟩⟩, ⟨List.forall_mem_cons.2 ⟨pu23, List.forall_mem_cons.2 ⟨pu28, List.forall_mem_cons.2 ⟨pu41, List.forall_mem_cons.2 ⟨pu52, List.forall_mem_cons.2 ⟨pu61, List.forall_mem_cons.2 ⟨pu100, List.forall_mem_cons.2 ⟨pu138, List.forall_mem_nil _⟩⟩⟩⟩⟩⟩⟩, ⟨List.forall_mem_cons.2 ⟨pu45, List.forall_mem_cons.2 ⟨pu116, List.forall_mem_nil _⟩⟩, ⟨List.forall_mem_cons.2 ⟨pu6, List.forall_mem_cons.2 ⟨pu7, List.forall_mem_nil _⟩⟩, ⟨List.forall_mem_cons.2 ⟨pu5, List.forall_mem_nil _⟩, ⟨List.forall_mem_cons.2 ⟨pu1, List.forall_mem_nil _⟩, trivial, trivial⟩, trivial⟩, ⟨List.forall_mem_cons.2 ⟨pu0, List.forall_mem_nil _⟩, trivial, trivial⟩⟩, ⟨List.forall_mem_cons.2 ⟨pu21, List.forall_mem_nil _⟩, ⟨List.forall_mem_cons.2 ⟨pu20, List.forall_mem_cons.2 ⟨pu114, List.forall_mem_nil _⟩⟩, ⟨List.forall_mem_cons.2 ⟨pu10, List.forall_mem_nil _⟩, trivial, trivial⟩, trivial⟩, ⟨List.forall_mem_cons.2 ⟨pu22, List.forall_mem_nil _⟩, trivial, trivial⟩⟩⟩, ⟨List.forall_mem_cons.2 ⟨pu3, List.forall_mem_cons.2 ⟨pu12, List.forall_mem_nil _⟩⟩, ⟨List.forall_mem_cons.2 ⟨pu19, List.forall_mem_cons.2 ⟨pu33, List.forall_mem_nil _⟩⟩, ⟨List.forall_mem_cons.2 ⟨pu18, List.forall_mem_nil _⟩, ⟨List.forall_mem_cons.2 ⟨pu9, List.forall_mem_cons.2 ⟨pu16, List.forall_mem_nil _⟩⟩, trivial, trivial⟩, trivial⟩, ⟨List.forall_mem_cons.2 ⟨pu24, List.forall_mem_nil _⟩, trivial, trivial⟩⟩, ⟨List.forall_mem_cons.2 ⟨pu26, List.forall_mem_nil _⟩, ⟨List.forall_mem_cons.2 ⟨pu4, List.forall_mem_cons.2 ⟨pu13, List.forall_mem_cons.2 ⟨pu111, List.forall_mem_nil _⟩⟩⟩, trivial, trivial⟩, ⟨List.forall_mem_cons.2 ⟨pu27, List.forall_mem_cons.2 ⟨pu40, List.forall_mem_cons.2 ⟨pu60, List.forall_mem_cons.2 ⟨pu137, List.forall_mem_nil _⟩⟩⟩⟩, trivial, trivial⟩⟩⟩⟩, ⟨List.forall_mem_cons.2 ⟨pu47, List.forall_mem_cons.2 ⟨pu123, List.forall_mem_cons.2 ⟨pu125, List.forall_mem_nil _⟩⟩⟩, ⟨List.forall_mem_cons.2 ⟨pu37, List.forall_mem_cons.2 ⟨pu39, List.forall_mem_cons.2 ⟨pu48, List.forall_mem_cons.2 ⟨pu51, List.forall_mem_cons.2 ⟨pu59, List.forall_mem_cons.2 ⟨pu64, List.forall_mem_cons.2 ⟨pu67, List.forall_mem_cons.2 ⟨pu69, List.forall_mem_cons.2 ⟨pu73, List.forall_mem_cons.2 ⟨pu76, List.forall_mem_cons.2 ⟨pu79, List.forall_mem_cons.2 ⟨pu84, List.forall_mem_cons.2 ⟨pu86, List.forall_mem_cons.2 ⟨pu87, List.forall_mem_cons.2 ⟨pu88, List.forall_mem_cons.2 ⟨pu90, List.forall_mem_cons.2 ⟨pu92, List.forall_mem_cons.2 ⟨pu93, List.forall_mem_cons.2 ⟨pu94, List.forall_mem_cons.2 ⟨pu97, List.forall_mem_cons.2 ⟨pu99, List.forall_mem_cons.2 ⟨pu101, List.forall_mem_cons.2 ⟨pu103, List.forall_mem_cons.2 ⟨pu104, List.forall_mem_cons.2 ⟨pu105, List.forall_mem_cons.2 ⟨pu107, List.forall_mem_cons.2 ⟨pu121, List.forall_mem_cons.2 ⟨pu124, List.forall_mem_cons.2 ⟨pu126, List.forall_mem_cons.2 ⟨pu129, List.forall_mem_cons.2 ⟨pu131, List.forall_mem_cons.2 ⟨pu132, List.forall_mem_cons.2 ⟨pu133, List.forall_mem_cons.2 ⟨pu134, List.forall_mem_cons.2 ⟨pu136, List.forall_mem_cons.2 ⟨pu140, List.forall_mem_cons.2 ⟨pu142, List.forall_mem_cons.2 ⟨pu143, List.forall_mem_cons.2 ⟨pu145, List.forall_mem_cons.2 ⟨pu146, List.forall_mem_cons.2 ⟨pu148, List.forall_mem_cons.2 ⟨pu150, List.forall_mem_cons.2 ⟨pu152, List.forall_mem_nil _⟩⟩⟩⟩⟩⟩⟩⟩⟩⟩⟩⟩⟩⟩⟩⟩⟩⟩⟩⟩⟩⟩⟩⟩⟩⟩⟩⟩⟩⟩⟩⟩⟩⟩⟩⟩⟩⟩⟩⟩⟩⟩⟩, ⟨List.forall_mem_cons.2 ⟨pu151, List.forall_mem_nil _⟩, ⟨List.forall_mem_cons.2 ⟨pu25, List.forall_mem_nil _⟩, ⟨List.forall_mem_cons.2 ⟨pu36, List.forall_mem_cons.2 ⟨pu50, List.forall_mem_cons.2 ⟨pu57, List.forall_mem_cons.2 ⟨pu74, List.forall_mem_cons.2 ⟨pu75, List.forall_mem_cons.2 ⟨pu78, List.forall_mem_cons.2 ⟨pu96, List.forall_mem_cons.2 ⟨pu113, List.forall_mem_cons.2 ⟨pu119, List.forall_mem_cons.2 ⟨pu120, List.forall_mem_cons.2 ⟨pu122, List.forall_mem_cons.2 ⟨pu127, List.forall_mem_cons.2 ⟨pu130, List.forall_mem_cons.2 ⟨pu149, List.forall_mem_nil _⟩⟩⟩⟩⟩⟩⟩⟩⟩⟩⟩⟩⟩⟩, trivial, trivial⟩, trivial⟩, ⟨List.forall_mem_cons.2 ⟨pu2, List.forall_mem_cons.2 ⟨pu11, List.forall_mem_cons.2 ⟨pu110, List.forall_mem_cons.2 ⟨pu115, List.forall_mem_nil _⟩⟩⟩⟩, trivial, trivial⟩⟩, ⟨List.forall_mem_cons.2 ⟨pu29, List.forall_mem_nil _⟩, ⟨List.forall_mem_cons.2 ⟨pu17, List.forall_mem_cons.2 ⟨pu38, List.forall_mem_cons.2 ⟨pu55, List.forall_mem_cons.2 ⟨pu56, List.forall_mem_cons.2 ⟨pu83, List.forall_mem_cons.2 ⟨pu112, List.forall_mem_nil _⟩⟩⟩⟩⟩⟩, ⟨List.forall_mem_cons.2 ⟨pu8, List.forall_mem_nil _⟩, trivial, trivial⟩, trivial⟩, ⟨List.forall_mem_cons.2 ⟨pu32, List.forall_mem_cons.2 ⟨pu118, List.forall_mem_nil _⟩⟩, trivial, trivial⟩⟩⟩, ⟨List.forall_mem_cons.2 ⟨pu31, List.forall_mem_nil _⟩, ⟨List.forall_mem_cons.2 ⟨pu46, List.forall_mem_cons.2 ⟨pu65, List.forall_mem_cons.2 ⟨pu89, List.forall_mem_cons.2 ⟨pu95, List.forall_mem_cons.2 ⟨pu102, List.forall_mem_cons.2 ⟨pu106, List.forall_mem_cons.2 ⟨pu144, List.forall_mem_nil _⟩⟩⟩⟩⟩⟩⟩, ⟨List.forall_mem_cons.2 ⟨pu53, List.forall_mem_cons.2 ⟨pu54, List.forall_mem_nil _⟩⟩, ⟨List.forall_mem_cons.2 ⟨pu34, List.forall_mem_cons.2 ⟨pu35, List.forall_mem_cons.2 ⟨pu43, List.forall_mem_cons.2 ⟨pu49, List.forall_mem_cons.2 ⟨pu63, List.forall_mem_cons.2 ⟨pu91, List.forall_mem_cons.2 ⟨pu128, List.forall_mem_cons.2 ⟨pu141, List.forall_mem_nil _⟩⟩⟩⟩⟩⟩⟩⟩, trivial, trivial⟩, trivial⟩, ⟨List.forall_mem_cons.2 ⟨pu68, List.forall_mem_cons.2 ⟨pu70, List.forall_mem_cons.2 ⟨pu77, List.forall_mem_cons.2 ⟨pu80, List.forall_mem_nil _⟩⟩⟩⟩, trivial, trivial⟩⟩, ⟨List.forall_mem_cons.2 ⟨pu117, List.forall_mem_nil _⟩, ⟨List.forall_mem_cons.2 ⟨pu30, List.forall_mem_nil _⟩, trivial, trivial⟩, ⟨List.forall_mem_cons.2 ⟨pu42, List.forall_mem_cons.2 ⟨pu62, List.forall_mem_cons.2 ⟨pu139, List.forall_mem_nil _⟩⟩⟩, trivial, trivial⟩⟩⟩⟩⟩

end Go.Proofs.YtplomildbmcmfaaGreat.kq

set_option maxRecDepth 1000000

namespace Go.Proofs.YtplomildbmcmfaaGreat.kq

open Go Go.AI Go.AI.EV
theorem pu147 : PuOk Tryz.prog 244 ea147 ev147 := pu_run seat_is kt4_ok fzT 60 (by decide +kernel)

end Go.Proofs.YtplomildbmcmfaaGreat.kq

set_option maxRecDepth 1000000

namespace Go.Proofs.YtplomildbmcmfaaGreat.kq

open Go Go.AI Go.AI.EV
theorem pu108 : PuOk Tryz.prog 244 ea108 ev108 := pu_run seat_is kt4_ok fzT 60 (by decide +kernel)

end Go.Proofs.YtplomildbmcmfaaGreat.kq

set_option maxRecDepth 1000000

namespace Go.Proofs.YtplomildbmcmfaaGreat.kq

open Go Go.AI Go.AI.EV
theorem pu98 : PuOk Tryz.prog 244 ea98 ev98 := pu_run seat_is kt4_ok fzT 60 (by decide +kernel)

end Go.Proofs.YtplomildbmcmfaaGreat.kq

set_option maxRecDepth 1000000

namespace Go.Proofs.YtplomildbmcmfaaGreat.kq

open Go Go.AI Go.AI.EV
theorem pu66 : PuOk Tryz.prog 244 ea66 ev66 := pu_run seat_is kt4_ok fzT 60 (by decide +kernel)
theorem pu71 : PuOk Tryz.prog 246 ea71 ev71 := pu_run seat_is kt4_ok fzT 60 (by decide +kernel)
theorem pu72 : PuOk Tryz.prog 246 ea72 ev72 := pu_run seat_is kt4_ok fzT 60 (by decide +kernel)
theorem pu81 : PuOk Tryz.prog 246 ea81 ev81 := pu_run seat_is kt4_ok fzT 60 (by decide +kernel)
theorem pu82 : PuOk Tryz.prog 246 ea82 ev82 := pu_run seat_is kt4_ok fzT 60 (by decide +kernel)

end Go.Proofs.YtplomildbmcmfaaGreat.kq
