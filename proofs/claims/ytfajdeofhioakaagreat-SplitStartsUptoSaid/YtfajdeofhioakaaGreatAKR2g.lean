import Derived.Test.YtfajdeofhioakaaGreatAKR0a

set_option maxRecDepth 1000000

namespace Go.Proofs.YtfajdeofhioakaaGreat.kq

open Go Go.AI Go.AI.EV
def kt1 : KT := (.nd 95 [(ea26, ev26), (ea35, ev35), (ea48, ev48), (ea60, ev60), (ea64, ev64)] (.nd 73 [(ea12, ev12), (ea87, ev87)] (.nd 38 [(ea1, ev1)] (.nd 31 [(ea0, ev0)] (.nd 26 [(ea10, ev10)] .nil .nil) .nil) (.nd 45 [(ea3, ev3)] .nil .nil)) (.nd 81 [(ea13, ev13)] (.nd 80 [(ea17, ev17)] .nil .nil) (.nd 83 [(ea14, ev14)] .nil .nil))) (.nd 146 [(ea4, ev4), (ea6, ev6)] (.nd 115 [(ea11, ev11), (ea31, ev31), (ea58, ev58), (ea68, ev68)] (.nd 101 [(ea2, ev2), (ea5, ev5), (ea21, ev21), (ea23, ev23), (ea50, ev50), (ea51, ev51), (ea82, ev82)] .nil .nil) (.nd 133 [(ea27, ev27)] .nil .nil)) (.nd 193 [(ea106, ev106)] (.nd 166 [(ea16, ev16)] .nil .nil) (.nd 237 [(ea53, ev53)] .nil .nil))))
theorem kt1_ok : KTok Tryz.prog kt1 := ⟨List.forall_mem_cons.2 ⟨pu26, List.forall_mem_cons.2 ⟨pu35, List.forall_mem_cons.2 ⟨pu48, List.forall_mem_cons.2 ⟨pu60, List.forall_mem_cons.2 ⟨pu64, List.forall_mem_nil _⟩⟩⟩⟩⟩, ⟨List.forall_mem_cons.2 ⟨pu12, List.forall_mem_cons.2 ⟨pu87, List.forall_mem_nil _⟩⟩, ⟨List.forall_mem_cons.2 ⟨pu1, List.forall_mem_nil _⟩, ⟨List.forall_mem_cons.2 ⟨pu0, List.forall_mem_nil _⟩, ⟨List.forall_mem_cons.2 ⟨pu10, List.forall_mem_nil _⟩, trivial, trivial⟩, trivial⟩, ⟨List.forall_mem_cons.2 ⟨pu3, List.forall_mem_nil _⟩, trivial, trivial⟩⟩, ⟨List.forall_mem_cons.2 ⟨pu13, List.forall_mem_nil _⟩, ⟨List.forall_mem_cons.2 ⟨pu17, List.forall_mem_nil _⟩, trivial, trivial⟩, ⟨List.forall_mem_cons.2 ⟨pu14, List.forall_mem_nil _⟩, trivial, trivial⟩⟩⟩, ⟨List.forall_mem_cons.2 ⟨pu4, List.forall_mem_cons.2 ⟨pu6, List.forall_mem_nil _⟩⟩, ⟨List.forall_mem_cons.2 ⟨pu11, List.forall_mem_cons.2 ⟨pu31, List.forall_mem_cons.2 ⟨pu58, List.forall_mem_cons.2 ⟨pu68, List.forall_mem_nil _⟩⟩⟩⟩, ⟨List.forall_mem_cons.2 ⟨pu2, List.forall_mem_cons.2 ⟨pu5, List.forall_mem_cons.2 ⟨pu21, List.forall_mem_cons.2 ⟨pu23, List.forall_mem_cons.2 ⟨pu50, List.forall_mem_cons.2 ⟨pu51, List.forall_mem_cons.2 ⟨pu82, List.forall_mem_nil _⟩⟩⟩⟩⟩⟩⟩, trivial, trivial⟩, ⟨List.forall_mem_cons.2 ⟨pu27, List.forall_mem_nil _⟩, trivial, trivial⟩⟩, ⟨List.forall_mem_cons.2 ⟨pu106, List.forall_mem_nil _⟩, ⟨List.forall_mem_cons.2 ⟨pu16, List.forall_mem_nil _⟩, trivial, trivial⟩, ⟨List.forall_mem_cons.2 ⟨pu53, List.forall_mem_nil _⟩, trivial, trivial⟩⟩⟩⟩

end Go.Proofs.YtfajdeofhioakaaGreat.kq

set_option maxRecDepth 1000000

namespace Go.Proofs.YtfajdeofhioakaaGreat.kq

open Go Go.AI Go.AI.EV
theorem pu9 : PuOk Tryz.prog 29 ea9 ev9 := pu_run seat_is kt1_ok fzT 60 (by decide +kernel)
theorem pu80 : PuOk Tryz.prog 95 ea80 ev80 := pu_run seat_is kt1_ok fzT 60 (by decide +kernel)
theorem pu69 : PuOk Tryz.prog 248 ea69 ev69 := pu_run seat_is kt1_ok fzT 60 (by decide +kernel)
theorem pu95 : PuOk Tryz.prog 248 ea95 ev95 := pu_run seat_is kt1_ok fzT 60 (by decide +kernel)
theorem pu83 : PuOk Tryz.prog 95 ea83 ev83 := pu_run seat_is kt1_ok fzT 60 (by decide +kernel)
theorem pu89 : PuOk Tryz.prog 95 ea89 ev89 := pu_run seat_is kt1_ok fzT 60 (by decide +kernel)

end Go.Proofs.YtfajdeofhioakaaGreat.kq

set_option maxRecDepth 1000000

namespace Go.Proofs.YtfajdeofhioakaaGreat.kq

open Go Go.AI Go.AI.EV
theorem pu71 : PuOk Tryz.prog 233 ea71 ev71 := pu_run seat_is kt1_ok fzT 60 (by decide +kernel)
theorem pu97 : PuOk Tryz.prog 233 ea97 ev97 := pu_run seat_is kt1_ok fzT 60 (by decide +kernel)
theorem pu107 : PuOk Tryz.prog 28 ea107 ev107 := pu_run seat_is kt1_ok fzT 60 (by decide +kernel)
theorem pu108 : PuOk Tryz.prog 55 ea108 ev108 := pu_run seat_is kt1_ok fzT 60 (by decide +kernel)
theorem pu7 : PuOk Tryz.prog 95 ea7 ev7 := pu_run seat_is kt1_ok fzT 60 (by decide +kernel)
theorem pu47 : PuOk Tryz.prog 173 ea47 ev47 := pu_run seat_is kt1_ok fzT 60 (by decide +kernel)
theorem pu52 : PuOk Tryz.prog 173 ea52 ev52 := pu_run seat_is kt1_ok fzT 60 (by decide +kernel)
theorem pu22 : PuOk Tryz.prog 95 ea22 ev22 := pu_run seat_is kt1_ok fzT 60 (by decide +kernel)
theorem pu42 : PuOk Tryz.prog 95 ea42 ev42 := pu_run seat_is kt1_ok fzT 60 (by decide +kernel)
theorem pu75 : PuOk Tryz.prog 95 ea75 ev75 := pu_run seat_is kt1_ok fzT 60 (by decide +kernel)
theorem pu84 : PuOk Tryz.prog 95 ea84 ev84 := pu_run seat_is kt1_ok fzT 60 (by decide +kernel)
theorem pu90 : PuOk Tryz.prog 95 ea90 ev90 := pu_run seat_is kt1_ok fzT 60 (by decide +kernel)
theorem pu25 : PuOk Tryz.prog 208 ea25 ev25 := pu_run seat_is kt1_ok fzT 60 (by decide +kernel)
theorem pu44 : PuOk Tryz.prog 208 ea44 ev44 := pu_run seat_is kt1_ok fzT 60 (by decide +kernel)
theorem pu59 : PuOk Tryz.prog 72 ea59 ev59 := pu_run seat_is kt1_ok fzT 60 (by decide +kernel)

end Go.Proofs.YtfajdeofhioakaaGreat.kq

set_option maxRecDepth 1000000

namespace Go.Proofs.YtfajdeofhioakaaGreat.kq

open Go Go.AI Go.AI.EV
theorem pu63 : PuOk Tryz.prog 233 ea63 ev63 := pu_run seat_is kt1_ok fzT 60 (by decide +kernel)
theorem pu105 : PuOk Tryz.prog 28 ea105 ev105 := pu_run seat_is kt1_ok fzT 60 (by decide +kernel)
theorem pu32 : PuOk Tryz.prog 72 ea32 ev32 := pu_run seat_is kt1_ok fzT 60 (by decide +kernel)
theorem pu86 : PuOk Tryz.prog 167 ea86 ev86 := pu_run seat_is kt1_ok fzT 60 (by decide +kernel)
theorem pu62 : PuOk Tryz.prog 72 ea62 ev62 := pu_run seat_is kt1_ok fzT 60 (by decide +kernel)
theorem pu66 : PuOk Tryz.prog 72 ea66 ev66 := pu_run seat_is kt1_ok fzT 60 (by decide +kernel)
theorem pu28 : PuOk Tryz.prog 233 ea28 ev28 := pu_run seat_is kt1_ok fzT 60 (by decide +kernel)
theorem pu29 : PuOk Tryz.prog 233 ea29 ev29 := pu_run seat_is kt1_ok fzT 60 (by decide +kernel)
theorem pu34 : PuOk Tryz.prog 233 ea34 ev34 := pu_run seat_is kt1_ok fzT 60 (by decide +kernel)
theorem pu39 : PuOk Tryz.prog 233 ea39 ev39 := pu_run seat_is kt1_ok fzT 60 (by decide +kernel)
theorem pu45 : PuOk Tryz.prog 233 ea45 ev45 := pu_run seat_is kt1_ok fzT 60 (by decide +kernel)
theorem pu55 : PuOk Tryz.prog 233 ea55 ev55 := pu_run seat_is kt1_ok fzT 60 (by decide +kernel)
theorem pu56 : PuOk Tryz.prog 233 ea56 ev56 := pu_run seat_is kt1_ok fzT 60 (by decide +kernel)
theorem pu24 : PuOk Tryz.prog 173 ea24 ev24 := pu_run seat_is kt1_ok fzT 60 (by decide +kernel)
theorem pu43 : PuOk Tryz.prog 173 ea43 ev43 := pu_run seat_is kt1_ok fzT 60 (by decide +kernel)
theorem pu15 : PuOk Tryz.prog 27 ea15 ev15 := pu_run seat_is kt1_ok fzT 60 (by decide +kernel)

end Go.Proofs.YtfajdeofhioakaaGreat.kq

set_option maxRecDepth 1000000

namespace Go.Proofs.YtfajdeofhioakaaGreat.kq

open Go Go.AI Go.AI.EV
def kt2 : KT := (.nd 95 [(ea7, ev7), (ea22, ev22), (ea26, ev26), (ea35, ev35), (ea42, ev42), (ea48, ev48), (ea60, ev60), (ea64, ev64), (ea75, ev75), (ea80, ev80), (ea83, ev83), (ea84, ev84), (ea89, ev89), (ea90, ev90)] (.nd 45 [(ea3, ev3)] (.nd 29 [(ea9, ev9)] (.nd 27 [(ea15, ev15)] (.nd 26 [(ea10, ev10)] .nil .nil) (.nd 28 [(ea105, ev105), (ea107, ev107)] .nil .nil)) (.nd 38 [(ea1, ev1)] (.nd 31 [(ea0, ev0)] .nil .nil) .nil)) (.nd 80 [(ea17, ev17)] (.nd 72 [(ea32, ev32), (ea59, ev59), (ea62, ev62), (ea66, ev66)] (.nd 55 [(ea108, ev108)] .nil .nil) (.nd 73 [(ea12, ev12), (ea87, ev87)] .nil .nil)) (.nd 83 [(ea14, ev14)] (.nd 81 [(ea13, ev13)] .nil .nil) .nil))) (.nd 173 [(ea24, ev24), (ea43, ev43), (ea47, ev47), (ea52, ev52)] (.nd 146 [(ea4, ev4), (ea6, ev6)] (.nd 115 [(ea11, ev11), (ea31, ev31), (ea58, ev58), (ea68, ev68)] (.nd 101 [(ea2, ev2), (ea5, ev5), (ea21, ev21), (ea23, ev23), (ea50, ev50), (ea51, ev51), (ea82, ev82)] .nil .nil) (.nd 133 [(ea27, ev27)] .nil .nil)) (.nd 167 [(ea86, ev86)] (.nd 166 [(ea16, ev16)] .nil .nil) .nil)) (.nd 233 [(ea28, ev28), (ea29, ev29), (ea34, ev34), (ea39, ev39), (ea45, ev45), (ea55, ev55), (ea56, ev56), (ea63, ev63), (ea71, ev71), (ea97, ev97)] (.nd 208 [(ea25, ev25), (ea44, ev44)] (.nd 193 [(ea106, ev106)] .nil .nil) .nil) (.nd 248 [(ea69, ev69), (ea95, ev95)] (.nd 237 [(ea53, ev53)] .nil .nil) .nil))))
theorem kt2_ok : KTok Tryz.prog kt2 := ⟨List.forall_mem_cons.2 ⟨pu7, List.forall_mem_cons.2 ⟨pu22, List.forall_mem_cons.2 ⟨pu26, List.forall_mem_cons.2 ⟨pu35, List.forall_mem_cons.2 ⟨pu42, List.forall_mem_cons.2 ⟨pu48, List.forall_mem_cons.2 ⟨pu60, List.forall_mem_cons.2 ⟨pu64, List.forall_mem_cons.2 ⟨pu75, List.forall_mem_cons.2 ⟨pu80, List.forall_mem_cons.2 ⟨pu83, List.forall_mem_cons.2 ⟨pu84, List.forall_mem_cons.2 ⟨pu89, List.forall_mem_cons.2 ⟨pu90, List.forall_mem_nil _⟩⟩⟩⟩⟩⟩⟩⟩⟩⟩⟩⟩⟩⟩, ⟨List.forall_mem_cons.2 ⟨pu3, List.forall_mem_nil _⟩, ⟨List.forall_mem_cons.2 ⟨pu9, List.forall_mem_nil _⟩, ⟨List.forall_mem_cons.2 ⟨pu15, List.forall_mem_nil _⟩, ⟨List.forall_mem_cons.2 ⟨pu10, List.forall_mem_nil _⟩, trivial, trivial⟩, ⟨List.forall_mem_cons.2 ⟨pu105, List.forall_mem_cons.2 ⟨pu107, List.forall_mem_nil _⟩⟩, trivial, trivial⟩⟩, ⟨List.forall_mem_cons.2 ⟨pu1, List.forall_mem_nil _⟩, ⟨List.forall_mem_cons.2 ⟨pu0, List.forall_mem_nil _⟩, trivial, trivial⟩, trivial⟩⟩, ⟨List.forall_mem_cons.2 ⟨pu17, List.forall_mem_nil _⟩, ⟨List.forall_mem_cons.2 ⟨pu32, List.forall_mem_cons.2 ⟨pu59, List.forall_mem_cons.2 ⟨pu62, List.forall_mem_cons.2 ⟨pu66, List.forall_mem_nil _⟩⟩⟩⟩, ⟨List.forall_mem_cons.2 ⟨pu108, List.forall_mem_nil _⟩, trivial, trivial⟩, ⟨List.forall_mem_cons.2 ⟨pu12, List.forall_mem_cons.2 ⟨pu87, List.forall_mem_nil _⟩⟩, trivial, trivial⟩⟩, ⟨List.forall_mem_cons.2 ⟨pu14, List.forall_mem_nil _⟩, ⟨List.forall_mem_cons.2 ⟨pu13, List.forall_mem_nil _⟩, trivial, trivial⟩, trivial⟩⟩⟩, ⟨List.forall_mem_cons.2 ⟨pu24, List.forall_mem_cons.2 ⟨pu43, List.forall_mem_cons.2 ⟨pu47, List.forall_mem_cons.2 ⟨pu52, List.forall_mem_nil _⟩⟩⟩⟩, ⟨List.forall_mem_cons.2 ⟨pu4, List.forall_mem_cons.2 ⟨pu6, List.forall_mem_nil _⟩⟩, ⟨List.forall_mem_cons.2 ⟨pu11, List.forall_mem_cons.2 ⟨pu31, List.forall_mem_cons.2 ⟨pu58, List.forall_mem_cons.2 ⟨pu68, List.forall_mem_nil _⟩⟩⟩⟩, ⟨List.forall_mem_cons.2 ⟨pu2, List.forall_mem_cons.2 ⟨pu5, List.forall_mem_cons.2 ⟨pu21, List.forall_mem_cons.2 ⟨pu23, List.forall_mem_cons.2 ⟨pu50, List.forall_mem_cons.2 ⟨pu51, List.forall_mem_cons.2 ⟨pu82, List.forall_mem_nil _⟩⟩⟩⟩⟩⟩⟩, trivial, trivial⟩, ⟨List.forall_mem_cons.2 ⟨pu27, List.forall_mem_nil _⟩, trivial, trivial⟩⟩, ⟨List.forall_mem_cons.2 ⟨pu86, List.forall_mem_nil _⟩, ⟨List.forall_mem_cons.2 ⟨pu16, List.forall_mem_nil _⟩, trivial, trivial⟩, trivial⟩⟩, ⟨List.forall_mem_cons.2 ⟨pu28, List.forall_mem_cons.2 ⟨pu29, List.forall_mem_cons.2 ⟨pu34, List.forall_mem_cons.2 ⟨pu39, List.forall_mem_cons.2 ⟨pu45, List.forall_mem_cons.2 ⟨pu55, List.forall_mem_cons.2 ⟨pu56, List.forall_mem_cons.2 ⟨pu63, List.forall_mem_cons.2 ⟨pu71, List.forall_mem_cons.2 ⟨pu97, List.forall_mem_nil _⟩⟩⟩⟩⟩⟩⟩⟩⟩⟩, ⟨List.forall_mem_cons.2 ⟨pu25, List.forall_mem_cons.2 ⟨pu44, List.forall_mem_nil _⟩⟩, ⟨List.forall_mem_cons.2 ⟨pu106, List.forall_mem_nil _⟩, trivial, trivial⟩, trivial⟩, ⟨List.forall_mem_cons.2 ⟨pu69, List.forall_mem_cons.2 ⟨pu95, List.forall_mem_nil _⟩⟩, ⟨List.forall_mem_cons.2 ⟨pu53, List.forall_mem_nil _⟩, trivial, trivial⟩, trivial⟩⟩⟩⟩

end Go.Proofs.YtfajdeofhioakaaGreat.kq

set_option maxRecDepth 1000000

namespace Go.Proofs.YtfajdeofhioakaaGreat.kq

open Go Go.AI Go.AI.EV
theorem pu67 : PuOk Tryz.prog 208 ea67 ev67 := pu_run seat_is kt2_ok fzT 60 (by decide +kernel)
theorem pu70 : PuOk Tryz.prog 208 ea70 ev70 := pu_run seat_is kt2_ok fzT 60 (by decide +kernel)

end Go.Proofs.YtfajdeofhioakaaGreat.kq

set_option maxRecDepth 1000000

namespace Go.Proofs.YtfajdeofhioakaaGreat.kq

open Go Go.AI Go.AI.EV
theorem pu94 : PuOk Tryz.prog 208 ea94 ev94 := pu_run seat_is kt2_ok fzT 60 (by decide +kernel)
theorem pu96 : PuOk Tryz.prog 208 ea96 ev96 := pu_run seat_is kt2_ok fzT 60 (by decide +kernel)

end Go.Proofs.YtfajdeofhioakaaGreat.kq

set_option maxRecDepth 1000000

namespace Go.Proofs.YtfajdeofhioakaaGreat.kq

open Go Go.AI Go.AI.EV
theorem pu101 : PuOk Tryz.prog 208 ea101 ev101 := pu_run seat_is kt2_ok fzT 60 (by decide +kernel)
theorem pu109 : PuOk Tryz.prog 14 ea109 ev109 := pu_run seat_is kt2_ok fzT 60 (by decide +kernel)
theorem pu78 : PuOk Tryz.prog 208 ea78 ev78 := pu_run seat_is kt2_ok fzT 60 (by decide +kernel)
theorem pu91 : PuOk Tryz.prog 208 ea91 ev91 := pu_run seat_is kt2_ok fzT 60 (by decide +kernel)

end Go.Proofs.YtfajdeofhioakaaGreat.kq

set_option maxRecDepth 1000000

namespace Go.Proofs.YtfajdeofhioakaaGreat.kq

open Go Go.AI Go.AI.EV
theorem pu102 : PuOk Tryz.prog 208 ea102 ev102 := pu_run seat_is kt2_ok fzT 60 (by decide +kernel)
theorem pu103 : PuOk Tryz.prog 208 ea103 ev103 := pu_run seat_is kt2_ok fzT 60 (by decide +kernel)
theorem pu40 : PuOk Tryz.prog 208 ea40 ev40 := pu_run seat_is kt2_ok fzT 60 (by decide +kernel)
theorem pu76 : PuOk Tryz.prog 208 ea76 ev76 := pu_run seat_is kt2_ok fzT 60 (by decide +kernel)
theorem pu49 : PuOk Tryz.prog 208 ea49 ev49 := pu_run seat_is kt2_ok fzT 60 (by decide +kernel)

end Go.Proofs.YtfajdeofhioakaaGreat.kq

set_option maxRecDepth 1000000

namespace Go.Proofs.YtfajdeofhioakaaGreat.kq

open Go Go.AI Go.AI.EV
theorem pu85 : PuOk Tryz.prog 208 ea85 ev85 := pu_run seat_is kt2_ok fzT 60 (by decide +kernel)
theorem pu57 : PuOk Tryz.prog 208 ea57 ev57 := pu_run seat_is kt2_ok fzT 60 (by decide +kernel)
theorem pu72 : PuOk Tryz.prog 208 ea72 ev72 := pu_run seat_is kt2_ok fzT 60 (by decide +kernel)
theorem pu54 : PuOk Tryz.prog 208 ea54 ev54 := pu_run seat_is kt2_ok fzT 60 (by decide +kernel)
theorem pu88 : PuOk Tryz.prog 76 ea88 ev88 := pu_run seat_is kt2_ok fzT 60 (by decide +kernel)
theorem pu61 : PuOk Tryz.prog 208 ea61 ev61 := pu_run seat_is kt2_ok fzT 60 (by decide +kernel)
theorem pu65 : PuOk Tryz.prog 208 ea65 ev65 := pu_run seat_is kt2_ok fzT 60 (by decide +kernel)

end Go.Proofs.YtfajdeofhioakaaGreat.kq

set_option maxRecDepth 1000000

namespace Go.Proofs.YtfajdeofhioakaaGreat.kq

open Go Go.AI Go.AI.EV
theorem pu92 : PuOk Tryz.prog 208 ea92 ev92 := pu_run seat_is kt2_ok fzT 60 (by decide +kernel)
theorem pu93 : PuOk Tryz.prog 208 ea93 ev93 := pu_run seat_is kt2_ok fzT 60 (by decide +kernel)
theorem pu98 : PuOk Tryz.prog 208 ea98 ev98 := pu_run seat_is kt2_ok fzT 60 (by decide +kernel)
theorem pu8 : PuOk Tryz.prog 10 ea8 ev8 := pu_run seat_is kt2_ok fzT 60 (by decide +kernel)
theorem pu81 : PuOk Tryz.prog 10 ea81 ev81 := pu_run seat_is kt2_ok fzT 60 (by decide +kernel)
theorem pu18 : PuOk Tryz.prog 168 ea18 ev18 := pu_run seat_is kt2_ok fzT 60 (by decide +kernel)
theorem pu73 : PuOk Tryz.prog 208 ea73 ev73 := pu_run seat_is kt2_ok fzT 60 (by decide +kernel)
theorem pu99 : PuOk Tryz.prog 208 ea99 ev99 := pu_run seat_is kt2_ok fzT 60 (by decide +kernel)
theorem pu33 : PuOk Tryz.prog 208 ea33 ev33 := pu_run seat_is kt2_ok fzT 60 (by decide +kernel)
theorem pu36 : PuOk Tryz.prog 208 ea36 ev36 := pu_run seat_is kt2_ok fzT 60 (by decide +kernel)
theorem pu37 : PuOk Tryz.prog 208 ea37 ev37 := pu_run seat_is kt2_ok fzT 60 (by decide +kernel)
theorem pu38 : PuOk Tryz.prog 208 ea38 ev38 := pu_run seat_is kt2_ok fzT 60 (by decide +kernel)
theorem pu30 : PuOk Tryz.prog 208 ea30 ev30 := pu_run seat_is kt2_ok fzT 60 (by decide +kernel)

end Go.Proofs.YtfajdeofhioakaaGreat.kq

set_option maxRecDepth 1000000

namespace Go.Proofs.YtfajdeofhioakaaGreat.kq

open Go Go.AI Go.AI.EV
theorem pu46 : PuOk Tryz.prog 208 ea46 ev46 := pu_run seat_is kt2_ok fzT 60 (by decide +kernel)

end Go.Proofs.YtfajdeofhioakaaGreat.kq
