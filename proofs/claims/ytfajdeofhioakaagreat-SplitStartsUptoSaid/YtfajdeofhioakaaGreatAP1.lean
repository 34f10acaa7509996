import Derived.Test.YtfajdeofhioakaaGreatAKR4a
import Derived.Test.YtfajdeofhioakaaGreatAG1
import Derived.Test.YtfajdeofhioakaaGreatAC
import Derived.Test.YtfajdeofhioakaaGreatAD

set_option maxRecDepth 1000000

namespace Go.Proofs.YtfajdeofhioakaaGreat.kq

open Go Go.AI Go.AI.EV
def kt5 : KT := (.nd 83 [(ea14, ev14)] (.nd 45 [(ea3, ev3)] (.nd 28 [(ea105, ev105), (ea107, ev107)] (.nd 26 [(ea10, ev10)] (.nd 14 [(ea109, ev109)] (.nd 10 [(ea8, ev8), (ea81, ev81)] .nil .nil) .nil) (.nd 27 [(ea15, ev15)] .nil .nil)) (.nd 31 [(ea0, ev0)] (.nd 29 [(ea9, ev9)] .nil .nil) (.nd 38 [(ea1, ev1)] .nil .nil))) (.nd 73 [(ea12, ev12), (ea87, ev87)] (.nd 62 [(ea74, ev74), (ea100, ev100)] (.nd 55 [(ea108, ev108)] .nil .nil) (.nd 72 [(ea32, ev32), (ea59, ev59), (ea62, ev62), (ea66, ev66)] .nil .nil)) (.nd 80 [(ea17, ev17)] (.nd 76 [(ea20, ev20), (ea88, ev88)] .nil .nil) (.nd 81 [(ea13, ev13)] .nil .nil)))) (.nd 167 [(ea86, ev86)] (.nd 133 [(ea27, ev27)] (.nd 115 [(ea11, ev11), (ea31, ev31), (ea58, ev58), (ea68, ev68)] (.nd 101 [(ea2, ev2), (ea5, ev5), (ea21, ev21), (ea23, ev23), (ea50, ev50), (ea51, ev51), (ea82, ev82)] (.nd 95 [(ea7, ev7), (ea22, ev22), (ea26, ev26), (ea35, ev35), (ea42, ev42), (ea48, ev48), (ea60, ev60), (ea64, ev64), (ea75, ev75), (ea80, ev80), (ea83, ev83), (ea84, ev84), (ea89, ev89), (ea90, ev90)] .nil .nil) .nil) (.nd 121 [(ea19, ev19)] .nil .nil)) (.nd 148 [(ea41, ev41), (ea77, ev77)] (.nd 146 [(ea4, ev4), (ea6, ev6)] .nil .nil) (.nd 166 [(ea16, ev16)] .nil .nil))) (.nd 208 [(ea25, ev25), (ea30, ev30), (ea33, ev33), (ea36, ev36), (ea37, ev37), (ea38, ev38), (ea40, ev40), (ea44, ev44), (ea46, ev46), (ea49, ev49), (ea54, ev54), (ea57, ev57), (ea61, ev61), (ea65, ev65), (ea67, ev67), (ea70, ev70), (ea72, ev72), (ea73, ev73), (ea76, ev76), (ea78, ev78), (ea85, ev85), (ea91, ev91), (ea92, ev92), (ea93, ev93), (ea94, ev94), (ea96, ev96), (ea98, ev98), (ea99, ev99), (ea101, ev101), (ea102, ev102), (ea103, ev103)] (.nd 173 [(ea24, ev24), (ea43, ev43), (ea47, ev47), (ea52, ev52)] (.nd 168 [(ea18, ev18)] .nil .nil) (.nd 193 [(ea106, ev106)] .nil .nil)) (.nd 237 [(ea53, ev53)] (.nd 233 [(ea28, ev28), (ea29, ev29), (ea34, ev34), (ea39, ev39), (ea45, ev45), (ea55, ev55), (ea56, ev56), (ea63, ev63), (ea71, ev71), (ea97, ev97)] .nil .nil) (.nd 248 [(ea69, ev69), (ea95, ev95)] .nil .nil)))))
theorem kt5_ok : KTok Tryz.prog kt5 := ⟨List.forall_mem_cons.2 ⟨pu14, List.forall_mem_nil _⟩, ⟨List.forall_mem_cons.2 ⟨pu3, List.forall_mem_nil _⟩, ⟨List.forall_mem_cons.2 ⟨pu105, List.forall_mem_cons.2 ⟨pu107, List.forall_mem_nil _⟩⟩, ⟨List.forall_mem_cons.2 ⟨pu10, List.forall_mem_nil _⟩, ⟨List.forall_mem_cons.2 ⟨pu109, List.forall_mem_nil _⟩, ⟨List.forall_mem_cons.2 ⟨pu8, List.forall_mem_cons.2 ⟨pu81, List.forall_mem_nil _⟩⟩, trivial, trivial⟩, trivial⟩, ⟨List.forall_mem_cons.2 ⟨pu15, List.forall_mem_nil _⟩, trivial, trivial⟩⟩, ⟨List.forall_mem_cons.2 ⟨pu0, List.forall_mem_nil _⟩, ⟨List.forall_mem_cons.2 ⟨pu9, List.forall_mem_nil _⟩, trivial, trivial⟩, ⟨List.forall_mem_cons.2 ⟨pu1, List.forall_mem_nil _⟩, trivial, trivial⟩⟩⟩, ⟨List.forall_mem_cons.2 ⟨pu12, List.forall_mem_cons.2 ⟨pu87, List.forall_mem_nil _⟩⟩, ⟨List.forall_mem_cons.2 ⟨pu74, List.forall_mem_cons.2 ⟨pu100, List.forall_mem_nil _⟩⟩, ⟨List.forall_mem_cons.2 ⟨pu108, List.forall_mem_nil _⟩, trivial, trivial⟩, ⟨List.forall_mem_cons.2 ⟨pu32, List.forall_mem_cons.2 ⟨pu59, List.forall_mem_cons.2 ⟨pu62, List.forall_mem_cons.2 ⟨pu66, List.forall_mem_nil _⟩⟩⟩⟩, trivial, trivial⟩⟩, ⟨List.forall_mem_cons.2 ⟨pu17, List.forall_mem_nil _⟩, ⟨List.forall_mem_cons.2 ⟨pu20, List.forall_mem_cons.2 ⟨pu88, List.forall_mem_nil _⟩⟩, trivial, trivial⟩, ⟨List.forall_mem_cons.2 ⟨pu13, List.forall_mem_nil _⟩, trivial, trivial⟩⟩⟩⟩, ⟨List.forall_mem_cons.2 ⟨pu86, List.forall_mem_nil _⟩, ⟨List.forall_mem_cons.2 ⟨pu27, List.forall_mem_nil _⟩, ⟨List.forall_mem_cons.2 ⟨pu11, List.forall_mem_cons.2 ⟨pu31, List.forall_mem_cons.2 ⟨pu58, List.forall_mem_cons.2 ⟨pu68, List.forall_mem_nil _⟩⟩⟩⟩, ⟨List.forall_mem_cons.2 ⟨pu2, List.forall_mem_cons.2 ⟨pu5, List.forall_mem_cons.2 ⟨pu21, List.forall_mem_cons.2 ⟨pu23, List.forall_mem_cons.2 ⟨pu50, List.forall_mem_cons.2 ⟨pu51, List.forall_mem_cons.2 ⟨pu82, List.forall_mem_nil _⟩⟩⟩⟩⟩⟩⟩, ⟨List.forall_mem_cons.2 ⟨pu7, List.forall_mem_cons.2 ⟨pu22, List.forall_mem_cons.2 ⟨pu26, List.forall_mem_cons.2 ⟨pu35, List.forall_mem_cons.2 ⟨pu42, List.forall_mem_cons.2 ⟨pu48, List.forall_mem_cons.2 ⟨pu60, List.forall_mem_cons.2 ⟨pu64, List.forall_mem_cons.2 ⟨pu75, List.forall_mem_cons.2 ⟨pu80, List.forall_mem_cons.2 ⟨pu83, List.forall_mem_cons.2 ⟨pu84, List.forall_mem_cons.2 ⟨pu89, List.forall_mem_cons.2 ⟨pu90, List.forall_mem_nil _⟩⟩⟩⟩⟩⟩⟩⟩⟩⟩⟩⟩⟩⟩, trivial, trivial⟩, trivial⟩, ⟨List.forall_mem_cons.2 ⟨pu19, List.forall_mem_nil _⟩, trivial, trivial⟩⟩, ⟨List.forall_mem_cons.2 ⟨pu41, List.forall_mem_cons.2 ⟨pu77, List.forall_mem_nil _⟩⟩, ⟨List.forall_mem_cons.2 ⟨pu4, List.forall_mem_cons.2 ⟨pu6, List.forall_mem_nil _⟩⟩, trivial, trivial⟩, ⟨List.forall_mem_cons.2 ⟨pu16, List.forall_mem_nil _⟩, trivial, trivial⟩⟩⟩, ⟨List.forall_mem_cons.2 ⟨pu25, List.forall_mem_cons.2 ⟨pu30, List.forall_mem_cons.2 ⟨pu33, List.forall_mem_cons.2 ⟨pu36, List.forall_mem_cons.2 ⟨pu37, List.forall_mem_cons.2 ⟨pu38, List.forall_mem_cons.2 ⟨pu40, List.forall_mem_cons.2 ⟨pu44, List.forall_mem_cons.2 ⟨pu46, List.forall_mem_cons.2 ⟨pu49, List.forall_mem_cons.2 ⟨pu54, List.forall_mem_cons.2 ⟨pu57, List.forall_mem_cons.2 ⟨pu61, List.forall_mem_cons.2 ⟨pu65, List.forall_mem_cons.2 ⟨pu67, List.forall_mem_cons.2 ⟨pu70, List.forall_mem_cons.2 ⟨pu72, List.forall_mem_cons.2 ⟨pu73, List.forall_mem_cons.2 ⟨pu76, List.forall_mem_cons.2 ⟨pu78, List.forall_mem_cons.2 ⟨pu85, List.forall_mem_cons.2 ⟨pu91, List.forall_mem_cons.2 ⟨pu92, List.forall_mem_cons.2 ⟨pu93, List.forall_mem_cons.2 ⟨pu94, List.forall_mem_cons.2 ⟨pu96, List.forall_mem_cons.2 ⟨pu98, List.forall_mem_cons.2 ⟨pu99, List.forall_mem_cons.2 ⟨pu101, List.forall_mem_cons.2 ⟨pu102, List.forall_mem_cons.2 ⟨pu103, List.forall_mem_nil _⟩⟩⟩⟩⟩⟩⟩⟩⟩⟩⟩⟩⟩⟩⟩⟩⟩⟩⟩⟩⟩⟩⟩⟩⟩⟩⟩⟩⟩⟩⟩, ⟨List.forall_mem_cons.2 ⟨pu24, List.forall_mem_cons.2 ⟨pu43, List.forall_mem_cons.2 ⟨pu47, List.forall_mem_cons.2 ⟨pu52, List.forall_mem_nil _⟩⟩⟩⟩, ⟨List.forall_mem_cons.2 ⟨pu18, List.forall_mem_nil _⟩, trivial, trivial⟩, ⟨List.forall_mem_cons.2 ⟨pu106, List.forall_mem_nil _⟩, trivial, trivial⟩⟩, ⟨List.forall_mem_cons.2 ⟨pu53, List.forall_mem_nil _⟩, ⟨List.forall_mem_cons.2 ⟨pu28, List.forall_mem_cons.2 ⟨pu29, List.forall_mem_cons.2 ⟨pu34, List.forall_mem_cons.2 ⟨pu39, List.forall_mem_cons.2 ⟨pu45, List.forall_mem_cons.2 ⟨pu55, List.forall_mem_cons.2 ⟨pu56, List.forall_mem_cons.2 ⟨pu63, List.forall_mem_cons.2 ⟨pu71, List.forall_mem_cons.2 ⟨pu97, List.forall_mem_nil _⟩⟩⟩⟩⟩⟩⟩⟩⟩⟩, trivial, trivial⟩, ⟨List.forall_mem_cons.2 ⟨pu69, List.forall_mem_cons.2 ⟨pu95, List.forall_mem_nil _⟩⟩, trivial, trivial⟩⟩⟩⟩⟩

end Go.Proofs.YtfajdeofhioakaaGreat.kq

set_option maxRecDepth 1000000

namespace Go.Proofs.YtfajdeofhioakaaGreat.kq

open Go Go.AI Go.AI.EV
theorem pu79 : PuOk Tryz.prog 23 ea79 ev79 := pu_run seat_is kt5_ok fzT 60 (by decide +kernel)

end Go.Proofs.YtfajdeofhioakaaGreat.kq

set_option maxRecDepth 1000000

namespace Go.Proofs.YtfajdeofhioakaaGreat.kq

open Go Go.AI Go.AI.EV
theorem pu104 : PuOk Tryz.prog 23 ea104 ev104 := pu_run seat_is kt5_ok fzT 60 (by decide +kernel)

end Go.Proofs.YtfajdeofhioakaaGreat.kq

set_option maxRecDepth 1000000

namespace Go.Proofs.YtfajdeofhioakaaGreat.kq

open Go Go.AI Go.AI.EV
def kt6 : KT := (.nd 83 [(ea14, ev14)] (.nd 38 [(ea1, ev1)] (.nd 27 [(ea15, ev15)] (.nd 23 [(ea79, ev79), (ea104, ev104)] (.nd 14 [(ea109, ev109)] (.nd 10 [(ea8, ev8), (ea81, ev81)] .nil .nil) .nil) (.nd 26 [(ea10, ev10)] .nil .nil)) (.nd 29 [(ea9, ev9)] (.nd 28 [(ea105, ev105), (ea107, ev107)] .nil .nil) (.nd 31 [(ea0, ev0)] .nil .nil))) (.nd 73 [(ea12, ev12), (ea87, ev87)] (.nd 62 [(ea74, ev74), (ea100, ev100)] (.nd 55 [(ea108, ev108)] (.nd 45 [(ea3, ev3)] .nil .nil) .nil) (.nd 72 [(ea32, ev32), (ea59, ev59), (ea62, ev62), (ea66, ev66)] .nil .nil)) (.nd 80 [(ea17, ev17)] (.nd 76 [(ea20, ev20), (ea88, ev88)] .nil .nil) (.nd 81 [(ea13, ev13)] .nil .nil)))) (.nd 167 [(ea86, ev86)] (.nd 133 [(ea27, ev27)] (.nd 115 [(ea11, ev11), (ea31, ev31), (ea58, ev58), (ea68, ev68)] (.nd 101 [(ea2, ev2), (ea5, ev5), (ea21, ev21), (ea23, ev23), (ea50, ev50), (ea51, ev51), (ea82, ev82)] (.nd 95 [(ea7, ev7), (ea22, ev22), (ea26, ev26), (ea35, ev35), (ea42, ev42), (ea48, ev48), (ea60, ev60), (ea64, ev64), (ea75, ev75), (ea80, ev80), (ea83, ev83), (ea84, ev84), (ea89, ev89), (ea90, ev90)] .nil .nil) .nil) (.nd 121 [(ea19, ev19)] .nil .nil)) (.nd 148 [(ea41, ev41), (ea77, ev77)] (.nd 146 [(ea4, ev4), (ea6, ev6)] .nil .nil) (.nd 166 [(ea16, ev16)] .nil .nil))) (.nd 208 [(ea25, ev25), (ea30, ev30), (ea33, ev33), (ea36, ev36), (ea37, ev37), (ea38, ev38), (ea40, ev40), (ea44, ev44), (ea46, ev46), (ea49, ev49), (ea54, ev54), (ea57, ev57), (ea61, ev61), (ea65, ev65), (ea67, ev67), (ea70, ev70), (ea72, ev72), (ea73, ev73), (ea76, ev76), (ea78, ev78), (ea85, ev85), (ea91, ev91), (ea92, ev92), (ea93, ev93), (ea94, ev94), (ea96, ev96), (ea98, ev98), (ea99, ev99), (ea101, ev101), (ea102, ev102), (ea103, ev103)] (.nd 173 [(ea24, ev24), (ea43, ev43), (ea47, ev47), (ea52, ev52)] (.nd 168 [(ea18, ev18)] .nil .nil) (.nd 193 [(ea106, ev106)] .nil .nil)) (.nd 237 [(ea53, ev53)] (.nd 233 [(ea28, ev28), (ea29, ev29), (ea34, ev34), (ea39, ev39), (ea45, ev45), (ea55, ev55), (ea56, ev56), (ea63, ev63), (ea71, ev71), (ea97, ev97)] .nil .nil) (.nd 248 [(ea69, ev69), (ea95, ev95)] .nil .nil)))))
theorem kt6_ok : KTok Tryz.prog kt6 := ⟨List.forall_mem_cons.2 ⟨pu14, List.forall_mem_nil _⟩, ⟨List.forall_mem_cons.2 ⟨pu1, List.forall_mem_nil _⟩, ⟨List.forall_mem_cons.2 ⟨pu15, List.forall_mem_nil _⟩, ⟨List.forall_mem_cons.2 ⟨pu79, List.forall_mem_cons.2 ⟨pu104, List.forall_mem_nil _⟩⟩, ⟨List.forall_mem_cons.2 ⟨pu109, List.forall_mem_nil _⟩, ⟨List.forall_mem_cons.2 ⟨pu8, List.forall_mem_cons.2 ⟨pu81, List.forall_mem_nil _⟩⟩, trivial, trivial⟩, trivial⟩, ⟨List.forall_mem_cons.2 ⟨pu10, List.forall_mem_nil _⟩, trivial, trivial⟩⟩, ⟨List.forall_mem_cons.2 ⟨pu9, List.forall_mem_nil _⟩, ⟨List.forall_mem_cons.2 ⟨pu105, List.forall_mem_cons.2 ⟨pu107, List.forall_mem_nil _⟩⟩, trivial, trivial⟩, ⟨List.forall_mem_cons.2 ⟨pu0, List.forall_mem_nil _⟩, trivial, trivial⟩⟩⟩, ⟨List.forall_mem_cons.2 ⟨pu12, List.forall_mem_cons.2 ⟨pu87, List.forall_mem_nil _⟩⟩, ⟨List.forall_mem_cons.2 ⟨pu74, List.forall_mem_cons.2 ⟨pu100, List.forall_mem_nil _⟩⟩, ⟨List.forall_mem_cons.2 ⟨pu108, List.forall_mem_nil _⟩, ⟨List.forall_mem_cons.2 ⟨pu3, List.forall_mem_nil _⟩, trivial, trivial⟩, trivial⟩, ⟨List.forall_mem_cons.2 ⟨pu32, List.forall_mem_cons.2 ⟨pu59, List.forall_mem_cons.2 ⟨pu62, List.forall_mem_cons.2 ⟨pu66, List.forall_mem_nil _⟩⟩⟩⟩, trivial, trivial⟩⟩, ⟨List.forall_mem_cons.2 ⟨pu17, List.forall_mem_nil _⟩, ⟨List.forall_mem_cons.2 ⟨pu20, List.forall_mem_cons.2 ⟨pu88, List.forall_mem_nil _⟩⟩, trivial, trivial⟩, ⟨List.forall_mem_cons.2 ⟨pu13, List.forall_mem_nil _⟩, trivial, trivial⟩⟩⟩⟩, ⟨List.forall_mem_cons.2 ⟨pu86, List.forall_mem_nil _⟩, ⟨List.forall_mem_cons.2 ⟨pu27, List.forall_mem_nil _⟩, ⟨List.forall_mem_cons.2 ⟨pu11, List.forall_mem_cons.2 ⟨pu31, List.forall_mem_cons.2 ⟨pu58, List.forall_mem_cons.2 ⟨pu68, List.forall_mem_nil _⟩⟩⟩⟩, ⟨List.forall_mem_cons.2 ⟨pu2, List.forall_mem_cons.2 ⟨pu5, List.forall_mem_cons.2 ⟨pu21, List.forall_mem_cons.2 ⟨pu23, List.forall_mem_cons.2 ⟨pu50, List.forall_mem_cons.2 ⟨pu51, List.forall_mem_cons.2 ⟨pu82, List.forall_mem_nil _⟩⟩⟩⟩⟩⟩⟩, ⟨List.forall_mem_cons.2 ⟨pu7, List.forall_mem_cons.2 ⟨pu22, List.forall_mem_cons.2 ⟨pu26, List.forall_mem_cons.2 ⟨pu35, List.forall_mem_cons.2 ⟨pu42, List.forall_mem_cons.2 ⟨pu48, List.forall_mem_cons.2 ⟨pu60, List.forall_mem_cons.2 ⟨pu64, List.forall_mem_cons.2 ⟨pu75, List.forall_mem_cons.2 ⟨pu80, List.forall_mem_cons.2 ⟨pu83, List.forall_mem_cons.2 ⟨pu84, List.forall_mem_cons.2 ⟨pu89, List.forall_mem_cons.2 ⟨pu90, List.forall_mem_nil _⟩⟩⟩⟩⟩⟩⟩⟩⟩⟩⟩⟩⟩⟩, trivial, trivial⟩, trivial⟩, ⟨List.forall_mem_cons.2 ⟨pu19, List.forall_mem_nil _⟩, trivial, trivial⟩⟩, ⟨List.forall_mem_cons.2 ⟨pu41, List.forall_mem_cons.2 ⟨pu77, List.forall_mem_nil _⟩⟩, ⟨List.forall_mem_cons.2 ⟨pu4, List.forall_mem_cons.2 ⟨pu6, List.forall_mem_nil _⟩⟩, trivial, trivial⟩, ⟨List.forall_mem_cons.2 ⟨pu16, List.forall_mem_nil _⟩, trivial, trivial⟩⟩⟩, ⟨List.forall_mem_cons.2 ⟨pu25, List.forall_mem_cons.2 ⟨pu30, List.forall_mem_cons.2 ⟨pu33, List.forall_mem_cons.2 ⟨pu36, List.forall_mem_cons.2 ⟨pu37, List.forall_mem_cons.2 ⟨pu38, List.forall_mem_cons.2 ⟨pu40, List.forall_mem_cons.2 ⟨pu44, List.forall_mem_cons.2 ⟨pu46, List.forall_mem_cons.2 ⟨pu49, List.forall_mem_cons.2 ⟨pu54, List.forall_mem_cons.2 ⟨pu57, List.forall_mem_cons.2 ⟨pu61, List.forall_mem_cons.2 ⟨pu65, List.forall_mem_cons.2 ⟨pu67, List.forall_mem_cons.2 ⟨pu70, List.forall_mem_cons.2 ⟨pu72, List.forall_mem_cons.2 ⟨pu73, List.forall_mem_cons.2 ⟨pu76, List.forall_mem_cons.2 ⟨pu78, List.forall_mem_cons.2 ⟨pu85, List.forall_mem_cons.2 ⟨pu91, List.forall_mem_cons.2 ⟨pu92, List.forall_mem_cons.2 ⟨pu93, List.forall_mem_cons.2 ⟨pu94, List.forall_mem_cons.2 ⟨pu96, List.forall_mem_cons.2 ⟨pu98, List.forall_mem_cons.2 ⟨pu99, List.forall_mem_cons.2 ⟨pu101, List.forall_mem_cons.2 ⟨pu102, List.forall_mem_cons.2 ⟨pu103, List.forall_mem_nil _⟩⟩⟩⟩⟩⟩⟩⟩⟩⟩⟩⟩⟩⟩⟩⟩⟩⟩⟩⟩⟩⟩⟩⟩⟩⟩⟩⟩⟩⟩⟩, ⟨List.forall_mem_cons.2 ⟨pu24, List.forall_mem_cons.2 ⟨pu43, List.forall_mem_cons.2 ⟨pu47, List.forall_mem_cons.2 ⟨pu52, List.forall_mem_nil _⟩⟩⟩⟩, ⟨List.forall_mem_cons.2 ⟨pu18, List.forall_mem_nil _⟩, trivial, trivial⟩, ⟨List.forall_mem_cons.2 ⟨pu106, List.forall_mem_nil _⟩, trivial, trivial⟩⟩, ⟨List.forall_mem_cons.2 ⟨pu53, List.forall_mem_nil _⟩, ⟨List.forall_mem_cons.2 ⟨pu28, List.forall_mem_cons.2 ⟨pu29, List.forall_mem_cons.2 ⟨pu34, List.forall_mem_cons.2 ⟨pu39, List.forall_mem_cons.2 ⟨pu45, List.forall_mem_cons.2 ⟨pu55, List.forall_mem_cons.2 ⟨pu56, List.forall_mem_cons.2 ⟨pu63, List.forall_mem_cons.2 ⟨pu71, List.forall_mem_cons.2 ⟨pu97, List.forall_mem_nil _⟩⟩⟩⟩⟩⟩⟩⟩⟩⟩, trivial, trivial⟩, ⟨List.forall_mem_cons.2 ⟨pu69, List.forall_mem_cons.2 ⟨pu95, List.forall_mem_nil _⟩⟩, trivial, trivial⟩⟩⟩⟩⟩

end Go.Proofs.YtfajdeofhioakaaGreat.kq

set_option maxRecDepth 1000000

namespace Go.Proofs.YtfajdeofhioakaaGreat.kq

open Go Go.AI Go.AI.EV
theorem pu110 : PuOk Tryz.prog 9 ea110 ev110 := pu_run seat_is kt6_ok fzT 60 (by decide +kernel)

end Go.Proofs.YtfajdeofhioakaaGreat.kq

namespace Go.Proofs.YtfajdeofhioakaaGreat

open Go Go.AI

mutual
def rsub (vs : List Tm) (e n d : Int) : Tm → Tm × Int × Int
 | .mk k i nm ls ks =>
  if 4096 < n then (.mk k i nm ls ks, e, n)
  else if k = 0 then
   (if d ≤ i then
    (match vs[(i - d).toNat]? with
     | some x => (shiftT d 0 0 x, errIf (shiftBad d 0 0 x) e, n + x.size)
     | none => (vr (i - vs.length), errIf (decide (65535 < i - vs.length)) e, n + 1))
   else (.mk k i nm ls ks, e, n + 1))
  else (.mk k i nm ls (rsubL vs e (n + 1) d k 0 ks).1, (rsubL vs e (n + 1) d k 0 ks).2.1, (rsubL vs e (n + 1) d k 0 ks).2.2)
def rsubL (vs : List Tm) (e n d k : Int) (idx : Nat) : List Tm → List Tm × Int × Int
 | [] => ([], e, n)
 | t :: ts =>
  ((rsub vs e n (d + belowZ k idx) t).1 :: (rsubL vs (rsub vs e n (d + belowZ k idx) t).2.1 (rsub vs e n (d + belowZ k idx) t).2.2 d k (idx + 1) ts).1,
   (rsubL vs (rsub vs e n (d + belowZ k idx) t).2.1 (rsub vs e n (d + belowZ k idx) t).2.2 d k (idx + 1) ts).2.1,
   (rsubL vs (rsub vs e n (d + belowZ k idx) t).2.1 (rsub vs e n (d + belowZ k idx) t).2.2 d k (idx + 1) ts).2.2)
end
def capD (dp : Int) : Int := if 65536 < dp then 65536 else dp
def resRefUnder (t : Tm) (vs : List Tm) (dp : Int) : Tm × Int :=
 if dp < 0 then (zT, 2)
 else if 4096 < (rsub vs 0 0 (capD dp) t).2.2 then (zT, 5)
 else if (rsub vs 0 0 (capD dp) t).2.1 ≠ 0 then (zT, (rsub vs 0 0 (capD dp) t).2.1)
 else if 200 < ((rsub vs 0 0 (capD dp) t).1.depth : Int) then (zT, 7) else ((rsub vs 0 0 (capD dp) t).1, 0)


mutual
theorem shiftT_size (d f : Int) : ∀ (t : Tm) (dp m : Int), t.ok m → (shiftT d f dp t).size = t.size
 | .mk k i n ls ks, dp, m, h => by
  simp only [Tm.ok, Tm.okN] at h
  simp only [shiftT]
  by_cases hk : k = 0
  ·obtain ⟨_, _, rfl, rfl, rfl⟩ := h.1.1 hk
   simp only [hk, if_true]
   split
   ·rfl
   ·rfl
  ·simp only [hk, if_false, Tm.size]
   rw [shiftL_size d f ks dp k m 0 h.2]
theorem shiftL_size (d f : Int) : ∀ (l : List Tm) (dp k m : Int) (idx : Nat), Tm.oks m k idx l → Tm.sizes (shiftL d f dp k idx l) = Tm.sizes l
 | [], dp, k, m, idx, _ => rfl
 | t :: ts, dp, k, m, idx, h => by
  simp only [Tm.oks] at h
  simp only [shiftL, Tm.sizes]
  rw [shiftT_size d f t _ _ h.1, shiftL_size d f ts dp k m (idx + 1) h.2]
end

mutual
theorem shiftT_ok (d f : Int) (hf : 0 ≤ f) : ∀ (t : Tm) (dp M m : Int), t.ok m → 65536 + dp ≤ M → m ≤ M → 0 ≤ dp → shiftBad d f dp t = false → (shiftT d f dp t).ok M
 | .mk k i n ls ks, dp, M, m, h, hM, hm, hdp, hb => by
  simp only [Tm.ok, Tm.okN] at h
  simp only [shiftT]
  simp only [shiftBad] at hb
  by_cases hk : k = 0
  ·obtain ⟨h1, h2, rfl, rfl, rfl⟩ := h.1.1 hk
   simp only [hk, if_true] at hb ⊢
   by_cases hc : i < f + dp ∨ i + d < f + dp
   ·rw [if_pos hc]
    simp only [Tm.ok, Tm.okN, Tm.oks]
    exact ⟨⟨fun _ => ⟨h1, by omega, trivial, trivial, trivial⟩, by simp, by simp, by simp⟩, trivial⟩
   ·rw [if_neg hc]
    simp only [vr, Tm.ok, Tm.okN, Tm.oks]
    simp at hb
    exact ⟨⟨fun _ => ⟨by omega, by omega, trivial, trivial, trivial⟩, by simp, by simp, by simp⟩, trivial⟩
  ·simp only [hk, if_false] at hb ⊢
   simp only [Tm.ok, Tm.okN]
   have hl : (shiftL d f dp k 0 ks).length = ks.length := shiftL_length d f dp k ks 0
   exact ⟨⟨fun h0 => absurd h0 hk, h.1.2.1, h.1.2.2.1, by rw [hl]; exact h.1.2.2.2⟩, shiftL_ok d f hf ks dp M m k 0 h.2 hM hm hdp hb⟩
theorem shiftL_ok (d f : Int) (hf : 0 ≤ f) : ∀ (l : List Tm) (dp M m k : Int) (idx : Nat), Tm.oks m k idx l → 65536 + dp ≤ M → m ≤ M → 0 ≤ dp → shiftBads d f dp k idx l = false → Tm.oks M k idx (shiftL d f dp k idx l)
 | [], dp, M, m, k, idx, _, _, _, _, _ => trivial
 | t :: ts, dp, M, m, k, idx, h, hM, hm, hdp, hb => by
  simp only [Tm.oks] at h
  simp only [shiftBads, Bool.or_eq_false_iff] at hb
  have hz := belowZ_01' k idx
  simp only [shiftL, Tm.oks]
  exact ⟨shiftT_ok d f hf t _ _ _ h.1 (by omega) (by omega) (by omega) hb.1, shiftL_ok d f hf ts dp M m k (idx + 1) h.2 hM hm hdp hb.2⟩
end
theorem zT_ok (m : Int) (hm : 0 < m) : zT.ok m := by
 simp only [zT, Tm.ok, Tm.okN, Tm.oks]
 exact ⟨⟨fun _ => ⟨by omega, by omega, trivial, trivial, trivial⟩, by simp, by simp, by simp⟩, trivial⟩

mutual
theorem ok_mono : ∀ (t : Tm) (m M : Int), t.ok m → m ≤ M → t.ok M
 | .mk k i n ls ks, m, M, h, hM => by
  simp only [Tm.ok, Tm.okN] at h ⊢
  exact ⟨⟨fun hk => by have := h.1.1 hk; exact ⟨this.1, by omega, this.2.2⟩, h.1.2⟩, oks_mono ks m M k 0 h.2 hM⟩
theorem oks_mono : ∀ (l : List Tm) (m M k : Int) (idx : Nat), Tm.oks m k idx l → m ≤ M → Tm.oks M k idx l
 | [], _, _, _, _, _, _ => trivial
 | t :: ts, m, M, k, idx, h, hM => by
  simp only [Tm.oks] at h ⊢
  exact ⟨ok_mono t _ _ h.1 (by omega), oks_mono ts m M k (idx + 1) h.2 hM⟩
end

end Go.Proofs.YtfajdeofhioakaaGreat
