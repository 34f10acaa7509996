/- Words for what recurs: each does the tactics that stand in it. -/
import Derived.KernelRfl
namespace Go.AI
structure Bx (Z:Prop):Prop where
 o:Z
variable {G Z:Prop}
theorem aA (h:G:=by simp):G:=h
theorem aB (h:G:=by omega):G:=h
theorem aC (h:G:=by kernel_rfl):G:=h
theorem aD (h:G:=by decide):G:=h
theorem aE (h:G:=by simp;rfl):G:=h
theorem aF (h:G:=by first|rfl|simp):G:=h
theorem aYu:type_of%@List.getElem?_eq_getElem.{0} :=@List.getElem?_eq_getElem
theorem aYv:type_of%@List.getElem?_eq_some_iff.{0} :=@List.getElem?_eq_some_iff
theorem aYw:type_of%@Nat.le_refl:=@Nat.le_refl
theorem aYx:type_of%@List.getElem_mem.{0} :=@List.getElem_mem
theorem aYy:type_of%@List.cons_append.{0} :=@List.cons_append
theorem aYz:type_of%@Option.some.injEq.{0} :=@Option.some.injEq
theorem aZ0:type_of%@List.append_nil.{0} :=@List.append_nil
theorem aZ1:type_of%@List.length_cons.{0} :=@List.length_cons
theorem aZ2:type_of%@List.length_nil.{0} :=@List.length_nil
theorem aZ3:type_of%@List.nil_append.{0} :=@List.nil_append
theorem aZ4:type_of%@List.length_append.{0} :=@List.length_append
theorem aZ5:type_of%@List.take_succ_eq_append_getElem.{0} :=@List.take_succ_eq_append_getElem
theorem aZ6:type_of%@List.take_of_length_le.{0} :=@List.take_of_length_le
theorem aZ7:type_of%@Bool.and_eq_true:=@Bool.and_eq_true
theorem aZ8:type_of%@List.getElem?_append_left.{0} :=@List.getElem?_append_left
theorem aZ9:type_of%@List.mem_of_getElem?.{0} :=@List.mem_of_getElem?
theorem aZa:type_of%@Option.map_eq_some_iff.{0,0} :=@Option.map_eq_some_iff
theorem aZb:type_of%@Option.getD_some.{0} :=@Option.getD_some
theorem aZc:type_of%@List.map_cons.{0,0} :=@List.map_cons
theorem aZd:type_of%@Bool.false_eq_true:=@Bool.false_eq_true
theorem aZe:type_of%@Prod.mk.injEq.{0,0} :=@Prod.mk.injEq
theorem aZf:type_of%@List.all_eq_true.{0} :=@List.all_eq_true
theorem aZg:type_of%@List.mem_cons.{0} :=@List.mem_cons
theorem aZh:type_of%@decide_eq_true_eq:=@decide_eq_true_eq
theorem aZi:type_of%@List.append_assoc.{0} :=@List.append_assoc
theorem aZj:type_of%@Int.toNat_natCast:=@Int.toNat_natCast
theorem aZk:type_of%@List.getElem?_set_ne.{0} :=@List.getElem?_set_ne
theorem aZl:type_of%@List.take_length.{0} :=@List.take_length
theorem aZm:type_of%@List.length_take.{0} :=@List.length_take
theorem aZn:type_of%@List.mem_append.{0} :=@List.mem_append
theorem aZo:type_of%@List.length_map.{0,0} :=@List.length_map
theorem aZp:type_of%@List.set_append_left.{0} :=@List.set_append_left
theorem aZq:type_of%@List.mem_map.{0,0} :=@List.mem_map
theorem aZr:type_of%@List.getElem?_cons_succ.{0} :=@List.getElem?_cons_succ
theorem aZs:type_of%@Bool.eq_iff_iff:=@Bool.eq_iff_iff
theorem aZt:type_of%@List.getElem?_cons_zero.{0} :=@List.getElem?_cons_zero
theorem aZu:type_of%@List.take_succ_cons.{0} :=@List.take_succ_cons
theorem aZv:type_of%@Nat.zero_add:=@Nat.zero_add
theorem aZw:type_of%@List.take_append_of_le_length.{0} :=@List.take_append_of_le_length
theorem aZx:type_of%@List.map_append.{0,0} :=@List.map_append
theorem aZy:type_of%@List.cons.injEq.{0} :=@List.cons.injEq
theorem aZz:type_of%@Bool.not_eq_true':=@Bool.not_eq_true'
theorem bA0:type_of%@List.length_drop.{0} :=@List.length_drop
theorem bA1:type_of%@Option.map_some.{0,0} :=@Option.map_some
theorem bA2:type_of%@List.replicate_succ.{0} :=@List.replicate_succ
theorem bA3:type_of%@List.mem_of_mem_take.{0} :=@List.mem_of_mem_take
theorem bA4:type_of%@List.take_append_drop.{0} :=@List.take_append_drop
theorem bA5:type_of%@List.mem_range:=@List.mem_range
theorem bA6:type_of%@Int.le_refl:=@Int.le_refl
theorem bA7:type_of%@List.getElem?_append_right.{0} :=@List.getElem?_append_right
theorem bA8:type_of%@Array.getElem?_eq_some_iff.{0} :=@Array.getElem?_eq_some_iff
theorem bA9:type_of%@List.flatten_cons.{0} :=@List.flatten_cons
theorem bAa:type_of%@List.map_nil.{0,0} :=@List.map_nil
theorem bAb:type_of%@Nat.min_eq_left:=@Nat.min_eq_left
theorem bAc:type_of%@List.nodup_cons.{0} :=@List.nodup_cons
theorem bAd:type_of%@Bool.or_eq_true:=@Bool.or_eq_true
theorem bAe:type_of%@List.set_append_right.{0} :=@List.set_append_right
theorem bAf:type_of%@Option.some.inj.{0} :=@Option.some.inj
theorem bAg:type_of%@List.take_add_one.{0} :=@List.take_add_one
theorem bAh:type_of%@Nat.lt_or_ge:=@Nat.lt_or_ge
theorem bAi:type_of%@List.ext_getElem?.{0} :=@List.ext_getElem?
theorem bAj:type_of%@Nat.mul_le_mul_right:=@Nat.mul_le_mul_right
theorem bAk:type_of%@List.mem_append_left.{0} :=@List.mem_append_left
theorem bAl:type_of%@List.getElem?_of_mem.{0} :=@List.getElem?_of_mem
theorem bAm:type_of%@Bool.or_eq_false_iff:=@Bool.or_eq_false_iff
theorem bAn:type_of%@List.drop_length.{0} :=@List.drop_length
theorem bAo:type_of%@decide_eq_false_iff_not:=@decide_eq_false_iff_not
theorem bAp:type_of%@List.mem_of_mem_drop.{0} :=@List.mem_of_mem_drop
theorem bAq:type_of%@List.mem_cons_of_mem.{0} :=@List.mem_cons_of_mem
theorem bAr:type_of%@Nat.le_trans:=@Nat.le_trans
theorem bAs:type_of%@List.append_of_mem.{0} :=@List.append_of_mem
theorem bAt:type_of%@List.length_set.{0} :=@List.length_set
theorem bAu:type_of%@List.drop_eq_getElem_cons.{0} :=@List.drop_eq_getElem_cons
theorem bAv:type_of%@List.eq_nil_of_length_eq_zero.{0} :=@List.eq_nil_of_length_eq_zero
theorem bAw:type_of%@List.length_pos_iff.{0} :=@List.length_pos_iff
theorem bAx:type_of%@List.length_singleton.{0} :=@List.length_singleton
theorem bAy:type_of%@List.getElem?_eq_none.{0} :=@List.getElem?_eq_none
theorem bAz:type_of%@Nat.add_assoc:=@Nat.add_assoc
theorem bB0:type_of%@List.set_cons_zero.{0} :=@List.set_cons_zero
theorem bB1:type_of%@List.getElem?_take.{0} :=@List.getElem?_take
theorem bB2:type_of%@Nat.add_mul:=@Nat.add_mul
theorem bB3:type_of%@List.getElem?_map.{0,0} :=@List.getElem?_map
theorem bB4:type_of%@List.drop_succ_cons.{0} :=@List.drop_succ_cons
theorem bB5:type_of%@Bool.false_or:=@Bool.false_or
theorem bB6:type_of%@Nat.add_zero:=@Nat.add_zero
theorem bB7:type_of%@Bool.not_false:=@Bool.not_false
theorem bB8:type_of%@List.all_append.{0} :=@List.all_append
theorem bB9:type_of%@List.flatten_append.{0} :=@List.flatten_append
theorem bBa:type_of%@Array.ext'.{0} :=@Array.ext'
theorem bBb:type_of%@List.set_cons_succ.{0} :=@List.set_cons_succ
theorem bBc:type_of%@List.take_zero.{0} :=@List.take_zero
theorem bBd:type_of%@Array.all_eq_true_iff_forall_mem.{0} :=@Array.all_eq_true_iff_forall_mem
theorem bBe:type_of%@List.contains_iff_mem.{0} :=@List.contains_iff_mem
theorem bBf:type_of%@not_true_eq_false:=@not_true_eq_false
theorem bBg:type_of%@List.foldl_append.{0,0} :=@List.foldl_append
theorem bBh:type_of%@List.getElem?_eq_none_iff.{0} :=@List.getElem?_eq_none_iff
theorem bBi:type_of%@Array.getElem?_eq_getElem.{0} :=@Array.getElem?_eq_getElem
theorem bBj:type_of%@List.any_eq_true.{0} :=@List.any_eq_true
theorem bBk:type_of%@Array.length_toList.{0} :=@Array.length_toList
theorem bBl:type_of%@Nat.succ_mul:=@Nat.succ_mul
theorem bBm:type_of%@Nat.add_comm:=@Nat.add_comm
theorem bBn:type_of%@Bool.not_true:=@Bool.not_true
theorem bBo:type_of%@List.mem_replicate.{0} :=@List.mem_replicate
theorem bBp:type_of%@List.length_eq_zero_iff.{0} :=@List.length_eq_zero_iff
theorem bBq:type_of%@List.map_map.{0,0,0} :=@List.map_map
theorem bBr:type_of%@Bool.true_or:=@Bool.true_or
theorem bBs:type_of%@Array.getElem?_toList.{0} :=@Array.getElem?_toList
theorem bBt:type_of%@List.Nodup.length_le_of_subset.{0} :=@List.Nodup.length_le_of_subset
theorem bBu:type_of%@Option.getD_none.{0} :=@Option.getD_none
theorem y6 (g:Z)(h:Bx Z->G:=by
 intro g;refine nv ?_;refine Run.draw [0,0,0,0,0,0,0,0,0,0,0,0,0,0,0,0,0,0,0,0,0,0,0,0,0,0,0,0,0,0,0,0,0,0,0,0,0,0,0,0,1,1,1,1,1,2,2] [0,0,0,0,0,0,0,0,0,0,0,0,0,0,0,0,0,0,0,0,0,0,0,0,0,0,0,0,0,0,0,0,0,0,0,0,0,0,0,0,0,0,0,0,1,0,0] [0,1,3,7,15,31,63,7,135,391,903,2047,4095,8191,16383,32767,65535,131071,16383,278527,802815,1851391,3948543,8388607,16777215,33554431,67108863,134217727,268435455,536870911,67108863,1140850687,3288334335,7583301631,16173236223,34359738367,68719476735,137438953471,274877906943,549755813887,1099511627775,2199023255551,4398046511103,8796093022207,17592186044415,35184372088831,70368744177663] [0,1,2,3,4,5,6,7,8,9,10,11,12,13,14,15,16,17,18,19,20,21,22,23,24,25,26,27,28,29,30,31,32,33,34,35,36,37,38,39,40,41,42,43,44,45,46] aC aC ?_;exact g.o):G:=h ⟨g⟩
theorem y7 (g:Z)(h:Bx Z->G:=by
 intro g;simp only[bQ,keepT,keepT.go,List.contains_cons,bBb,bB0];exact g.o):G:=h ⟨g⟩
theorem y8 (g:Z)(h:Bx Z->G:=by
 intro g;refine nv ?_;refine Run.draw [0,0,0,0,0,0,0,0,0,0,0,0,0,0,0,0,0,0,0,0,0,0,0,0,0,0,0,0] [0,0,0,0,0,0,0,0,0,0,0,0,0,0,0,0,0,0,0,0,0,0,0,0,0,0,0,0] [0,0,2,6,15,31,63,63,191,447,1023,2047,4095,8191,4095,32767,65535,131071,4095,266239,4095,1839103,3936255,8130559,16777215,33554431,67108863,134217727] [0,1,2,3,4,5,6,7,8,9,10,11,12,13,14,15,16,17,18,19,20,21,22,23,24,25,26,27] aC aC ?_;exact g.o):G:=h ⟨g⟩
theorem y9 (g:Z)(h:Bx Z->G:=by
 intro g;change Run _ _ _ _ _ _ _ _;exact g.o):G:=h ⟨g⟩
theorem ya (g:Z)(h:Bx Z->G:=by
 intro g;simp only[aZ3,bB4,List.drop_zero];exact g.o):G:=h ⟨g⟩
theorem yb (g:Z)(h:Bx Z->G:=by
 intro g;try (simp (disch:=omega) only[aQ])
 refine J _ ?_;simp;exact g.o):G:=h ⟨g⟩
theorem yc (g:Z)(h:Bx Z->G:=by
 intro g;refine ND.Run.drawP (pc:=[]) [0,0,0,1,1,1] [0,0,0,0,0,1] [0,0,1,5,13,31] [0,2,1,3,4,5] aC aC ?_;refine zm ?_;exact g.o):G:=h ⟨g⟩
theorem yd (g:Z)(h:Bx Z->G:=by
 intro g;simp only[aZu,bBc];exact g.o):G:=h ⟨g⟩
theorem ye (g:Z)(h:Bx Z->G:=by
 intro g;simp;refine Run.cutAt 0 hh rfl aB aA aA aA rfl ?_;exact g.o):G:=h ⟨g⟩
theorem yf (g:Z)(h:Bx Z->G:=by
 intro g;simp only[keepT,keepT.go,List.contains_cons];simp;exact g.o):G:=h ⟨g⟩
theorem yg (g:Z)(h:Bx Z->G:=by
 intro g;refine Run.draw [0,0,0,0,0,0,0,0,0,0,0,0,0,0,1,1,1] [0,0,0,0,0,0,0,0,0,0,0,0,0,0,0,0,0] [0,1,3,7,15,31,63,127,255,127,639,127,127,6271,15999,32767,65535] [0,1,2,3,4,5,6,11,12,13,7,8,9,10,14,15,16] aC aC ?_;exact g.o):G:=h ⟨g⟩
theorem yh (g:Z)(h:Bx Z->G:=by
 intro g;simp only[keepT,keepT.go,List.contains_cons];exact g.o):G:=h ⟨g⟩
theorem yi (g:Z)(h:Bx Z->G:=by
 intro g;refine zo ?_;refine Run.freezeS 4 (id:=h.length+2+G.length) (n:=acc.length) (cap:=cap) (sz:=5) (m:=cap-acc.length) (es:=aL acc.reverse) aA (by simp only[Heap.at];rw[hget];rfl) (eJ _) aA hcap ?_;rw[hset];refine aRi ?_;exact g.o):G:=h ⟨g⟩
theorem yj (g:Z)(h:Bx Z->G:=by
 intro g;refine nv ?_;refine Run.draw [0,0,0,0,0,0,0,0,0,0,0,0,0,0,0,0,0,0,0,0,0] [0,0,0,0,0,0,0,0,0,0,0,0,0,0,0,0,0,0,0,0,0] [0,0,2,6,15,31,63,127,63,511,1023,2047,63,4159,63,28735,61503,127039,262143,524287,1048575] [0,1,2,3,4,5,6,7,8,9,10,11,12,13,14,15,16,17,18,19,20] aC aC ?_;exact g.o):G:=h ⟨g⟩
theorem yk (g:Z)(h:Bx Z->G:=by
 intro g;refine nv ?_;refine Run.draw [0,0,0,0,0,0,0,0,0,0,0,0,1] [0,0,0,0,0,0,0,0,0,0,0,0,0] [0,0,2,6,14,30,62,14,142,510,1022,15,4095] [0,1,2,3,11,4,5,6,7,8,9,10,12] aC aC ?_;exact g.o):G:=h ⟨g⟩
theorem yl (g:Z)(h:Bx Z->G:=by
 intro g;simp only[spV,spB,spA];refine znr ?_;refine rl (args:=[.p (.prim (.slice none 0 0))]) rfl aF aA rfl (ACalls.weak (WeakL.cons (Weak.nil 5) WeakL.nil) (reverse_nil _ (hh.app aA))) ?_;refine aWs ?_;exact g.o):G:=h ⟨g⟩
theorem ym (g:Z)(h:Bx Z->G:=by
 intro g;refine nv ?_;refine Run.draw [0,0,0,0,0,0,0,0,0,0,0,0,0,0,0,1,1] [0,0,0,0,0,0,0,0,0,0,0,0,0,0,0,0,0] [0,1,3,7,15,31,63,127,255,511,1023,2047,511,4607,12799,32767,65535] [0,1,2,3,4,5,6,7,8,12,13,14,9,10,11,15,16] aC aC ?_;exact g.o):G:=h ⟨g⟩
theorem yn (g:Z)(h:Bx Z->G:=by
 intro g;refine nv ?_;refine Run.draw [0,0,0,0,0,0,0,0,0,0,0,0,0,0,0,0,0] [0,0,0,0,0,0,0,0,0,0,0,0,0,0,0,0,0] [0,1,0,7,15,31,0,64,255,511,1023,2047,1023,5119,13311,32767,65535] [0,1,2,3,4,5,6,7,8,9,10,11,12,13,14,15,16] aC aC ?_;exact g.o):G:=h ⟨g⟩
theorem yo (g:Z)(h:Bx Z->G:=by
 intro g;refine Run.keep [0,2,4,6] ?_;simp;refine Run.cutAt (h0:=List.set G q (ktB cr)) 2 (hGw.set aA) rfl aA aA (by simp<;>omega) aA (by simp[iL]) ?_;exact g.o):G:=h ⟨g⟩
theorem yp (g:Z)(h:Bx Z->G:=by
 intro g;refine Run.draw [0,0,0,0,0,0,1,1,1,1] [0,0,0,0,0,0,0,0,0,1] [0,1,3,7,0,16,63,127,255,511] [4,5,0,1,2,3,6,7,8,9] aC aC ?_;refine zd ?_;exact g.o):G:=h ⟨g⟩
theorem yq (g:Z)(h:Bx Z->G:=by
 intro g;refine Run.keep [0,3,4] ?_;simp;refine Run.cutAt (h0:=List.set G q (dU env s')) 2 (hGw.set aA) rfl aA aA (by simp<;>omega) aA (by simp[iL]) ?_;exact g.o):G:=h ⟨g⟩
theorem yr (g:Z)(h:Bx Z->G:=by
 intro g;simp;refine Run.cutAt 2 hh rfl aB aA aA aA rfl ?_;exact g.o):G:=h ⟨g⟩
theorem yt (g:Z)(h:Bx Z->G:=by
 intro g;refine Run.draw [0,0,0,0] [0,0,0,0] [0,0,1,7] [0,1,2,3] aC aC ?_;refine zd ?_;exact g.o):G:=h ⟨g⟩
theorem yu (g:Z)(h:Bx Z->G:=by
 intro g;simp only[wpListIn];rw[bO s hw];simp only[if_true];exact g.o):G:=h ⟨g⟩
theorem yw (g:Z)(h:Bx Z->G:=by
 intro g;refine zf ?_;refine zr ?_;exact g.o):G:=h ⟨g⟩
theorem yx (g:Z)(h:Bx Z->G:=by
 intro g;refine Go.AI.rl rfl aF aA rfl (c1 _ (hh.app aA)) ?_;exact g.o):G:=h ⟨g⟩
theorem yy (g:Z)(h:Bx Z->G:=by
 intro g;refine ND.Run.drawP (pc:=[]) [0,0,0,0,0,0,0,0,1,2,3] [0,0,0,0,0,0,0,0,1,2,0] [0,0,0,7,0,0,32,112,255,511,1023] [0,1,2,3,4,5,6,7,8,9,10] aC aC ?_;refine zm ?_;refine ND.DR.call rfl rfl rfl aA rfl rfl (c3 _ (hGw.app aA)) ?_;exact g.o):G:=h ⟨g⟩
theorem yz (g:Z)(h:Bx Z->G:=by
 intro g;refine ND.DR.callR rfl rfl rfl aA rfl rfl (c1 _ (hh.app aA)) ⟨_,_,⟨zT,rfl⟩,rfl⟩ ?_;exact g.o):G:=h ⟨g⟩
theorem y10 (g:Z)(h:Bx Z->G:=by
 intro g;refine ND.DR.callR rfl rfl rfl aA rfl rfl (cX _ (hh.app aA)) ⟨_,_,⟨zT,rfl⟩,rfl⟩ ?_;exact g.o):G:=h ⟨g⟩
theorem y11 (g:Z)(h:Bx Z->G:=by
 intro g;refine zf ?_;refine ND.Run.drawP (pc:=[8]) [0,0,0,0,0,0,0,0,0,0,0,0,0,1,2] [0,0,0,0,0,0,0,0,0,0,0,0,0,1,0] [0,1,3,0,15,31,0,64,255,511,1023,1023,0,6143,16383] [12,0,1,2,3,4,5,6,7,8,9,10,13,11,14] aC aC ?_;exact g.o):G:=h ⟨g⟩
theorem y12 (g:Z)(h:Bx Z->G:=by
 intro g;simp only[Lv.av,Lv.cells,List.map];exact g.o):G:=h ⟨g⟩
theorem y13 (g:Z)(h:Bx Z->G:=by
 intro g;refine nv ?_;refine ND.Run.drawP (pc:=[7]) [0,0,0,0,0,0,0,0,0,0,0,0,1,2] [0,0,0,0,0,0,0,0,0,0,0,0,1,0] [0,0,2,0,14,30,62,127,255,511,511,0,3071,8191] [11,0,1,2,3,4,5,6,7,8,9,12,10,13] aC aC ?_;exact g.o):G:=h ⟨g⟩
theorem y14 (g:Z)(h:Bx Z->G:=by
 intro g;refine Run.draw [0,0,0,0,0,0,1] [0,0,0,0,0,0,0] [0,0,2,6,14,1,63] [0,5,1,2,3,4,6] aC aC ?_;exact g.o):G:=h ⟨g⟩
theorem y15 (g:Z)(h:Bx Z->G:=by
 intro g;refine Run.cutAt 1 hh rfl aB aA aA aA rfl ?_;exact g.o):G:=h ⟨g⟩
theorem y16 (g:Z)(h:Bx Z->G:=by
 intro g;refine ND.Run.drawP (pc:=[6]) [0,0,0,0,0,0,0,0,0,0,0,1,2] [0,0,0,0,0,0,0,0,0,0,0,1,0] [0,1,3,7,0,16,63,127,255,255,0,1535,4095] [10,0,1,2,3,4,5,6,7,8,11,9,12] aC aC ?_;exact g.o):G:=h ⟨g⟩
theorem y17 (g:Z)(h:Bx Z->G:=by
 intro g;rw[hG];simp only[hGl];refine zor ?_;refine Go.AI.rl rfl aF aA rfl (c2 _ (hGw.app aA)) ?_;exact g.o):G:=h ⟨g⟩
theorem y18 (g:Z)(h:Bx Z->G:=by
 intro g;simp only[bQ,keepT,keepT.go,List.contains_cons];exact g.o):G:=h ⟨g⟩
theorem y19 (g:Z)(h:Bx Z->G:=by
 intro g;refine zo ?_;refine Run.draw [0,0,0,0,0,0,0,0,0,0,0,1] [0,0,0,0,0,0,0,0,0,0,0,0] [0,1,3,7,7,31,7,7,199,455,1023,2047] [0,1,2,3,4,5,6,7,8,9,10,11] aC aC ?_;exact g.o):G:=h ⟨g⟩
theorem y1a (g:Z)(h:Bx Z->G:=by
 intro g;simp only[Dc.av,Dc.cells,aH,List.map,aYy,aZ3];exact g.o):G:=h ⟨g⟩
theorem y1b (g:Z)(h:Bx Z->G:=by
 intro g;change wpOpsIn (fen rd) 0 P ops _ (Region.linearise.go .any ops ops.size t (Array.replicate ops.size false) []) _ _;exact g.o):G:=h ⟨g⟩
theorem y1c (g:Z)(h:Bx Z->G:=by
 intro g;refine Run.draw [0,0,0,0,0,0,0,1,1,1,2,2] [0,0,0,0,0,0,0,0,0,1,0,2] [0,1,0,4,0,16,48,124,252,511,1023,2047] [4,5,6,0,1,2,3,7,8,9,10,11] aC aC ?_;exact g.o):G:=h ⟨g⟩
theorem y1d (g:Z)(h:Bx Z->G:=by
 intro g;refine Run.draw [0,0,0,0,0,0,0,0,0,0,0,0] [0,0,0,0,0,0,0,0,0,0,0,0] [0,0,0,4,0,16,0,112,240,496,1023,2047] [0,1,2,3,4,5,6,7,8,9,10,11] aC aC ?_;exact g.o):G:=h ⟨g⟩
theorem y1e (g:Z)(h:Bx Z->G:=by
 intro g;refine rl (args:=[(Lv.mk oc ov).av,(Lv.mk 0 [(a,b)]).av]) rfl rfl (by simp[Lv.av,Lv.cells,bN]) rfl (aCk _ (hh.app aA) ⟨oc,ov⟩ ⟨0,[(a,b)]⟩ (by simp only;omega) aA) ?_;exact g.o):G:=h ⟨g⟩
theorem y1f (g:Z)(h:Bx Z->G:=by
 intro g;refine Fin.ret' (h0:=B w2++l) (xs:=[.agg zTm,bA (k==0)]) aA (by simp[hlen]) (hwB w2) aE (by simp[gl]) rfl (Weak.tup (WeakL.cons Weak.zT (WeakL.refl _))) (by simp[zT]) ?_;exact g.o):G:=h ⟨g⟩
theorem y1g (g:Z)(h:Bx Z->G:=by
 intro g;refine aOh ?_;refine Run.draw [0,0,0,0,0,0,0,0,1,1] [0,0,0,0,0,0,0,0,0,0] [0,0,2,7,15,0,32,31,255,511] [0,1,2,3,4,7,5,6,8,9] aC aC ?_;exact g.o):G:=h ⟨g⟩
theorem y1h (g:Z)(h:Bx Z->G:=by
 intro g;refine Run.draw [0,0,0,0,0,0,0,0,0,0,1] [0,0,0,0,0,0,0,0,0,0,0] [0,0,2,0,14,30,62,0,128,511,1023] [0,1,2,3,4,5,6,7,8,9,10] aC aC ?_;exact g.o):G:=h ⟨g⟩
theorem y1i (g:Z)(h:Bx Z->G:=by
 intro g;rw[e1,e2,<-aZi,aZw (by rw[aZ4,aZm];omega),aZ6 (by rw[aZ4,aZm];omega)];exact g.o):G:=h ⟨g⟩
theorem y1j (g:Z)(h:Bx Z->G:=by
 intro g;refine zd ?_;refine DR.call rfl rfl rfl aA rfl hvar ?_;refine zd ?_;exact g.o):G:=h ⟨g⟩
theorem y1k (g:Z)(h:Bx Z->G:=by
 intro g;refine zo ?_;refine Run.keep [0,3,4] ?_;simp;refine Run.cutAt (h0:=List.set G q (dU env s2)) 2 (hGw.set aA) rfl aA aA (by simp<;>omega) aA (by simp[iL]) ?_;exact g.o):G:=h ⟨g⟩
theorem y1l (g:Z)(h:Bx Z->G:=by
 intro g;refine ND.DR.call rfl rfl rfl aA rfl rfl (cw _ (hh.app aA)) ?_;refine zm ?_;refine ND.DR.call rfl rfl rfl aA rfl rfl (c6 _ ((hh.set aA).app aA)) ?_;refine zm ?_;exact g.o):G:=h ⟨g⟩
theorem y1m (g:Z)(h:Bx Z->G:=by
 intro g;simp only[Tryz.ntmps235,aZ1,aZ2,Tm.av,aH,List.map];refine rS ?_;exact g.o):G:=h ⟨g⟩
theorem y1n (g:Z)(h:Bx Z->G:=by
 intro g;refine Go.AI.rl rfl aF aA rfl (c2 _ (hh.app aA)) ?_;refine zo ?_;exact g.o):G:=h ⟨g⟩
theorem y1o (g:Z)(h:Bx Z->G:=by
 intro g;simp only[Tm.av,aH,List.map];exact g.o):G:=h ⟨g⟩
theorem y1p (g:Z)(h:Bx Z->G:=by
 intro g;refine Run.assertMiss (t0:=125) (y:= .agg [iA e]) (z:=[.slice none 0 0]) rfl (by simp[aJ]) Tryz.underlying121 (by simp[Oc.av]) aD Tryz.zeroValue121 rfl ?_;exact g.o):G:=h ⟨g⟩
theorem y1q (g:Z)(h:Bx Z->G:=by
 intro g;rw[c5];simp only[hGl];refine zm ?_;exact g.o):G:=h ⟨g⟩
theorem y1r (g:Z)(h:Bx Z->G:=by
 intro g;simp[h2,hdl,<-hdc,htd,hdl',hone,hpa];exact g.o):G:=h ⟨g⟩
theorem y1s (g:Z)(h:Bx Z->G:=by
 intro g;refine Fin.ret' (h0:=h) aA rfl hh rfl aE rfl (Weak.refl _) aA ?_;exact g.o):G:=h ⟨g⟩
theorem y1t (g:Z)(h:Bx Z->G:=by
 intro g;refine Run.assertMiss (t0:=123) (y:= .agg []) (z:=[.slice none 0 0]) rfl (by simp[aJ]) Tryz.underlying121 (by simp[Oc.av]) aD Tryz.zeroValue121 rfl ?_;exact g.o):G:=h ⟨g⟩
theorem y1u (g:Z)(h:Bx Z->G:=by
 intro g;refine Run.assertMiss (t0:=234) (y:= .agg []) (z:=[.slice none 0 0]) rfl (by simp[aJ]) Tryz.underlying121 (by simp[Oc.av]) aD Tryz.zeroValue121 rfl ?_;exact g.o):G:=h ⟨g⟩
theorem y1v (g:Z)(h:Bx Z->G:=by
 intro g;refine ND.DR.call rfl rfl rfl aA rfl rfl (c7 _ (hGw.app aA)) ?_;refine zm ?_;exact g.o):G:=h ⟨g⟩
theorem y1w (g:Z)(h:Bx Z->G:=by
 intro g;refine zov1 ?_;refine zx ?_;refine Fin.ret' (h0:=h) aA rfl hh rfl aE rfl (Weak.of_eq (y:=(vr i).bare.av) (by simp[vr,Tm.bare])) aA ?_;exact g.o):G:=h ⟨g⟩
theorem y1x (g:Z)(h:Bx Z->G:=by
 intro g;refine Run.cutAt 3 hh rfl aB aA aA aA rfl ?_;refine cI ?_;exact g.o):G:=h ⟨g⟩
theorem y1y (g:Z)(h:Bx Z->G:=by
 intro g;refine zor ?_;refine Run.keep [1,2,6,7,8] ?_;simp;refine Run.cutAt 0 (hwf s2) rfl (by rw[hlen];omega) aA (by simp[hlen];omega) aA rfl ?_;simp;exact g.o):G:=h ⟨g⟩
theorem y1z (g:Z)(h:Bx Z->G:=by
 intro g;refine Go.AI.rl rfl aF aA rfl (c0 _ (hh.app aA)) ?_;exact g.o):G:=h ⟨g⟩
theorem y20 (g:Z)(h:Bx Z->G:=by
 intro g;refine Run.weakH h.length (cs':=(vN (Tm.mk k0 k1 k2 k3 k4) u).cells.map .p) (by simp only[Heap.at];rw[aBn];rfl) (aKm _ _) ?_;rw[aCo];exact g.o):G:=h ⟨g⟩
theorem y21 (g:Z)(h:Bx Z->G:=by
 intro g;refine ze ?_;refine zn ?_;exact g.o):G:=h ⟨g⟩
theorem y22 (g:Z)(h:Bx Z->G:=by
 intro g;simp only[Instr.lookup,Sem.run_bind,run_underlying ht,Result.andThen,MapKept.run_getObj_map hh,MapKept.run_checkKey hd hkey,Sem.run_pure];exact g.o):G:=h ⟨g⟩
theorem y23 (g:Z)(h:Bx Z->G:=by
 intro g;refine Run.panicA (t:=298) (y:= .agg []) rfl rfl (by simp[Value.cells]) ?_;exact g.o):G:=h ⟨g⟩
theorem y24 (g:Z)(h:Bx Z->G:=by
 intro g;simp only[Tm.av,Pt.av,bC,aH,List.map];exact g.o):G:=h ⟨g⟩
theorem y25 (g:Z)(h:Bx Z->G:=by
 intro g;refine zd ?_;refine DR.call (args:=[iA k,iA j]) rfl rfl rfl aA rfl (aAo _ (WF.app (WF.set hh aA) aA) k j) ?_;exact g.o):G:=h ⟨g⟩
theorem y26 (g:Z)(h:Bx Z->G:=by
 intro g;refine zr ?_;refine zr ?_;exact g.o):G:=h ⟨g⟩
theorem y27 (g:Z)(h:Bx Z->G:=by
 intro g;simp only[aZ3,List.drop_zero];exact g.o):G:=h ⟨g⟩
theorem y28 (g:Z)(h:Bx Z->G:=by
 intro g;simp only[Tm.av];rw[<-htc];exact g.o):G:=h ⟨g⟩
theorem y29 (g:Z)(h:Bx Z->G:=by
 intro g;unfold wpOpIn;simp only[e1];rw[bO s e2];simp only[if_true];exact g.o):G:=h ⟨g⟩
theorem y2a (g:Z)(h:Bx Z->G:=by
 intro g;refine zt ?_;refine zrx ?_;exact g.o):G:=h ⟨g⟩
theorem y2b (g:Z)(h:Bx Z->G:=by
 intro g;rw[List.getElem?_set];exact g.o):G:=h ⟨g⟩
theorem y2c (g:Z)(h:Bx Z->G:=by
 intro g;refine DR.call rfl rfl rfl aA rfl (c1 _ (hwf.app aA)) ?_;exact g.o):G:=h ⟨g⟩
theorem y2d (g:Z)(h:Bx Z->G:=by
 intro g;refine Run.cutAt 0 (hB.wf _ _) rfl (by rw[hB.len];omega) aA (by simp[hB.len];omega) aA rfl ?_;refine cI ?_;exact g.o):G:=h ⟨g⟩
theorem y2e (g:Z)(h:Bx Z->G:=by
 intro g;refine DR.call rfl rfl rfl aA rfl (c1 _ (hh.app aA)) ?_;exact g.o):G:=h ⟨g⟩
theorem y2f (g:Z)(h:Bx Z->G:=by
 intro g;refine DR.call rfl rfl rfl aA rfl (c4 _ (hh.app aA)) ?_;exact g.o):G:=h ⟨g⟩
theorem y2g (g:Z)(h:Bx Z->G:=by
 intro g;refine zt ?_;refine zr ?_;exact g.o):G:=h ⟨g⟩
theorem y2h (g:Z)(h:Bx Z->G:=by
 intro g;refine Run.keep [1,2,3,14,15,16] ?_;simp;refine Run.cutAt 4 hh rfl aB aA aA aA rfl ?_;exact g.o):G:=h ⟨g⟩
theorem y2i (g:Z)(h:Bx Z->G:=by
 intro g;rw[hlA,aZw (by rw[n1];simp),aZ6 (by rw[n1];simp),aZ3];exact g.o):G:=h ⟨g⟩
theorem y2j (g:Z)(h:Bx Z->G:=by
 intro g;refine Run.drawPanic [0,0,0,1,2] [0,0,0,0,0] [0,1,0,7,15] [0,1,2] 3 aC aC ?_;exact g.o):G:=h ⟨g⟩
theorem y2k (g:Z)(h:Bx Z->G:=by
 intro g;simp;refine Run.cutAt 1 (hwf s2') rfl (by rw[hlen,hlen];omega) aA (by simp[hlen];omega) aA rfl ?_;exact g.o):G:=h ⟨g⟩
theorem y2l (g:Z)(h:Bx Z->G:=by
 intro g;unfold Instr.buildSlice;simp only[Sem.run_bind,nL hel,Result.andThen_ok,fL hsz];rw[if_neg aB];exact g.o):G:=h ⟨g⟩
theorem y2m (g:Z)(h:Bx Z->G:=by
 intro g;refine Run.draw [0,0,0,1,2] [0,0,0,1,2] [0,1,0,7,15] [0,1,2,3,4] aC aC ?_;exact g.o):G:=h ⟨g⟩
theorem y2n (g:Z)(h:Bx Z->G:=by
 intro g;refine Run.appendZ (sz:=5) (sz':=5) (es:=[]) (e:=25) rfl rfl rfl rfl aA aA ?_;refine zox ?_;exact g.o):G:=h ⟨g⟩
theorem y2o (g:Z)(h:Bx Z->G:=by
 intro g;simp only[hsz,ne_eq,bBf,decide_false,bB5];rw[if_neg (by simpa [hsz] using hbound)];exact g.o):G:=h ⟨g⟩
theorem y2p (h:G:=by
 repeat' (first|apply And.intro|intro _)
 all_goals
  refine yb ?_
  repeat' first|exact wn|apply wc
  all_goals first|exact Weak.junk _|(refine Weak.bool ?_;clear J;rw[aZs];simp;done)|(refine Weak.bool ?_;clear J;rw[aZs];simp;omega)|(refine Weak.bool ?_;clear J;simp_all;done)|(refine Weak.bool ?_;clear J;simp[*];done)|(refine Weak.bool ?_;clear J;rw[aZs];simp[*];omega)|exact Weak.refl _):G:=h
theorem y2q (h:G:=by
 have hget:∀(x y o:Option AO),(h++x::y::(G++[o]))[h.length+2+G.length]?=some o:=fun x y o=>by
  rw[show h++x::y::(G++[o])=(h++[x,y]++G)++[o] by simp,bA7 (by simp<;>omega),show h.length+2+G.length-(h++[x,y]++G).length=0 by simp<;>omega];rfl
 have hset:∀(x y o o':Option AO),(h++x::y::(G++[o])).set (h.length+2+G.length) o'=h++x::y::(G++[o']):=fun x y o o'=>by
  rw[show h++x::y::(G++[o])=(h++[x,y]++G)++[o] by simp,bAe _ _ (by simp<;>omega),show h.length+2+G.length-(h++[x,y]++G).length=0 by simp<;>omega];simp
 have hwf:∀(x y o:Option AO),(∀n,AO.under n x=true)->(∀n,AO.under n y=true)->(∀n,AO.under n o=true)->WF (h++x::y::(G++[o])):=fun x y o hx hy ho=>by
  have:=(hW x y hx hy).app (l:=[o]) (by simp only[List.all_cons,ho,List.all_nil,Bool.and_self]);simpa using this
 simp only[spV,spB,spA];refine znr ?_;have hrv:=fun(x y:Option AO) hx hy=>uQ _ (hwf x y (row acc (cap-acc.length)) hx hy (fun n=>row_under n _ _)) acc (h.length+2+G.length) cap (cap-acc.length) aB (hget _ _ _)
 simp only[hset] at hrv;refine rl (args:=[.sm (h.length+2+G.length) 0 acc.length cap 5]) rfl aF aA rfl (hrv _ _ (fun n=>by simp) (fun n=>by simp)) ?_;refine yi ?_;refine Fin.ret' (h0:=h) aA rfl hh rfl aE rfl (Weak.refl _) aA ⟨by simp,rfl⟩):G:=h
theorem y2r (h:G:=by
 refine zA ?_;refine zF2 hh ?_;exact⟨by rw[hr];rfl,rfl⟩):G:=h
theorem y2s (h:G:=by exact Fin.ret' (h0:=h) aA rfl hh rfl aE rfl (Weak.refl _) aA ⟨rfl,rfl⟩):G:=h
theorem y2t (h:G:=by
 refine Run.tok 4 5 aA ?_;simp;rw[htc]
 refine Run.loopS (ι:=Nat×List Tm×Tm) [1,3] (fun p=>p.2.1.length+p.2.2.size<=t.size/\p.2.2.size<=p.1/\r=aKa 6 p.1 p.2.1 p.2.2) (fun p=>p.2.2.size) (fun p=>[(4, .own (h.length+2) 5 (aL p.2.1))])
  (fun p=>h++[some (.cells (p.2.2.cells.map .p)),some (.cells zTm),some (.tok p.2.1.length 5)]) (t.size,[],t) ⟨by simp,by simp,hr⟩ ?_ aA ?_
 ·simp[aL];exact zK
 rintro⟨N,acc,cur⟩ ⟨hs,hle,hra⟩ IH;simp only at hs hle hra;simp;obtain⟨m,rfl⟩:∃m,N=m+1:=⟨N-1,by have:=cur.size_pos;omega⟩;simp only[aKa] at hra;obtain⟨k,i,nm,ls,ks⟩:=cur
 by_cases hk:k=6
 ·subst hk
  by_cases hks:ks.length=2
  ·obtain⟨a,b,rfl⟩:∃a b,ks=[a,b]:=by
    match ks,hks with
    |[a,b],_=>exact⟨a,b,rfl⟩
   simp only[isB,if_true] at hra;simp only[Tm.size,Tm.sizes] at hs hle;have hb1:(acc.length+1)*80<=140737488355328:=by have:=t.size_pos;omega
   have hb2:acc.length+1<=9223372036854775807:=by omega
   refine aI3 ?_;refine aYp hb1 hb2 ?_;refine zr ?_;refine IH (m,acc++[a],b) _ _ ⟨by simp only[aZ4,bAx];have:=a.size_pos;omega,by simp only;have:=a.size_pos;omega,hra⟩ (by simp only[Tm.size,Tm.sizes];have:=a.size_pos;omega) ?_ ?_
   ·simp[eX];exact zK
   ·simp
  ·have hk2:((ks.length:Int)==2)=false:=by simp;omega
   have hib:isB 6 (Tm.mk 6 i nm ls ks)=none:=by
    match ks,hks with
    |[],_=>rfl
    |[_],_=>rfl
    |_::_::_::_,_=>rfl
   rw[hib] at hra;simp only at hra;subst hra;refine qJ hk2 ?_;refine yt ?_;refine y9 ?_;refine znx ?_;refine Fin.ret' (h0:=h) (xs:=[.own (h.length+2) 5 (aL acc),(Tm.mk 6 i nm ls ks).av]) aA rfl hh rfl aA rfl (Weak.tup (WeakL.cons (Weak.own _ _ _) (WeakL.refl _))) aA ⟨rfl,rfl⟩
 ·have hkb:(k==6)=false:=by simpa using hk
  have hib:isB 6 (Tm.mk k i nm ls ks)=none:=by
   match ks with
   |[]=>rfl
   |[_]=>rfl
   |[_,_]=>simp[isB,hk]
   |_::_::_::_=>rfl
  rw[hib] at hra;simp only at hra;subst hra;refine qJ hkb ?_;refine yt ?_;refine y9 ?_;refine znx ?_;refine Fin.ret' (h0:=h) (xs:=[.own (h.length+2) 5 (aL acc),(Tm.mk k i nm ls ks).av]) aA rfl hh rfl aA rfl (Weak.tup (WeakL.cons (Weak.own _ _ _) (WeakL.refl _))) aA ⟨rfl,rfl⟩):G:=h
theorem y2u (h:G:=by
 have hmi:=p.mem i (by rw[hπ];simp);have hil:i<listed.size:=by rw[p.size];exact hmi.1
 have hnd:=p.nodup;rw[hπ] at hnd
 have hni:i∉π1++π2:=by
  rw[List.nodup_append] at hnd;obtain⟨h1,h2,h3⟩:=hnd;rw[bAc] at h2;intro hm;rcases aZn.1 hm with hm|hm
  ·exact h3 i hm i aA rfl
  ·exact h2.1 hm
 have hsub:List.Sublist (π1++π2) π:=by rw[hπ];exact List.Sublist.append (List.Sublist.refl _) (List.sublist_cons_self _ _)
 refine⟨by simpa using p.size,fun j hj=>?_,fun j hj hl=>?_,fun e he=>?_,hsub.nodup p.nodup,fun a b ha hl hp=>?_,p.edge,p.pair.sublist hsub,fun e he=>?_,?_,hr⟩
 ·have:=p.mem j (hsub.subset hj);refine⟨this.1,?_⟩;rw[getD_set hil,if_neg (fun e:j=i=>hni (e▸hj))];exact this.2
 ·rw[getD_set hil] at hl;split at hl
  ·cases hl
  ·rename_i hne;rcases p.all j hj hl with hm|⟨e,he,hel,hle,hpe⟩
   ·left;rw[hπ] at hm;rcases aZn.1 hm with hm|hm
    ·exact bAk _ hm
    ·rcases aZg.1 hm with hm|hm
     ·exact absurd hm hne
     ·exact List.mem_append_right _ hm
   ·right;refine⟨e,he,hel,?_,hpe⟩;have hne':e≠i:=fun ee=>(p.last e he).1 (by rw[hπ,ee];simp)
    rw[getD_set hil,if_neg hne'];exact hle
 ·have hne':e≠i:=fun ee=>(p.last e he).1 (by rw[hπ,ee];simp)
  refine⟨(p.finU e he).1,?_⟩;rw[getD_set hil,if_neg hne'];exact(p.finU e he).2
 ·rw[getD_set hil] at hl⊢;split
  ·rfl
  ·split at hl
   ·rename_i e;subst e;exact p.below hi hp
   ·exact p.closed a b ha hl hp
 ·obtain⟨h1,h2⟩:=p.last e he;exact⟨fun hm=>h1 (hsub.subset hm),fun j hj=>h2 j (hsub.subset hj)⟩
 ·intro σ1 k σ2 hk o ho e he hb;rw[getD_setF hil]
  by_cases hei:e.on=i
  ·exact .inl (by simp[hei])
  ·simp only[hei,if_false]
   --where k stood in the whole order
   have:∃τ1 τ2,π++fin.toList=τ1++k::τ2/\∀x∈τ1,x=i\/x∈σ1:=by
    obtain⟨τ1,τ2,h1,h2⟩:=split_insert i k π1 (π2++fin.toList) σ1 σ2 (by simpa using hk);exact⟨τ1,τ2,by rw[hπ];simpa using h1,h2⟩
   obtain⟨τ1,τ2,h1,h2⟩:=this;rcases p.ready τ1 k τ2 h1 o ho e he hb with h3|h3
   ·exact .inl h3
   ·rcases h2 _ h3 with h|h
    ·exact absurd h hei
    ·exact .inr h):G:=h
theorem y2v (h:G:=by simp at hg;(first|(rcases hg with rfl|rfl|rfl|rfl)|(rcases hg with rfl|rfl|rfl)|(rcases hg with rfl|rfl)|subst hg)<;>exact hh.app aA):G:=h
theorem y2w (h:G:=by
 have holds:∀j v,(cur.take (es.length*sz))[j]?=some v->w.cell? ((⟨g,0,none⟩:Addr).add j)=some v:=by
  intro j v hj;rw[bL,aZv,hrow.cell];rw[bB1] at hj;split at hj
  ·exact hj
  ·cases hj
 have hlec:es.length*sz<=cap*sz:=bAj _ hcap;have hol:(cur.take (es.length*sz)).length=es.length*sz:=by rw[aZm];omega
 have horep:RepL E w (es.flatten.map .p) (cur.take (es.length*sz)):=by
  have:=hreps.take (es.length*sz);have hel:(es.flatten.map AV.p).length=es.length*sz:=by rw[aZo,aV hes]
  unfold buf at this
  rwa [aZw aB,aZ6 aB] at this
 have hrun:=run_append_grow (P:=P) w t o.type e i zv hu hi hzv ⟨g,0,none⟩ es.length cap (cur.take (es.length*sz)) (by rw[hol,hisz]) holds ⟨b,off,none⟩ ys.length cx news (by rw[n1,hisz])
  (fun j v hj=>by rw[bL];exact n2 j v hj) aB aB (growslice_fits aB (by rw[hiby];exact hb))
 have hzs:((Builtin.zeroCells zv.cells (grownCap w (es.length+ys.length) cap e-(es.length+ys.length))).toList).length=(grownCap w (es.length+ys.length) cap e-(es++ys).length)*sz:=by
  rw[bBk,size_zeroCells,hzc];simp[hzl,hisz]
 obtain⟨E',g1,g2,g3,g4⟩:=aNf (h:=h) (e:=e) (es:=es++ys) st.rel st.fresh (by rw[bB9,aZx];exact horep.append n3) hzs;rw[aZ4] at g1 g3;refine⟨_,_,E',_, .slice (some ⟨w.heap.size,0,none⟩) (es.length+ys.length) (grownCap w (es.length+ys.length) cap e), .inr ⟨grownCap w (es.length+ys.length) cap e,dN w _ cap e,rfl,rfl⟩,?_,g1,by simpa using g2,?_,g3⟩
 ·have hq:List.toArray (cur.take (es.length*sz)++news++(Builtin.zeroCells zv.cells (grownCap w (es.length+ys.length) cap e-(es.length+ys.length))).toList)=
    (cur.take (es.length*sz)).toArray++news.toArray++Builtin.zeroCells zv.cells (grownCap w (es.length+ys.length) cap e-(es.length+ys.length)):=by
   apply bBa;simp
  rw[hq];exact hY ho (by rw[hsv,hxv];exact hrun)
 ·simp only[Rep];exact⟨_,g4,rfl⟩):G:=h
theorem y2x (h:G:=by
 simp only[okDraw,aZ7,aZf,aZh,bA5] at h;obtain⟨⟨⟨⟨⟨⟨h1,h2⟩,h3⟩,h4⟩,h5⟩,h6⟩,h7⟩:=h;obtain⟨h41,h42⟩:=pairB_sound h4;have hun:∀i,i<ops.size->(Array.replicate ops.size false).getD i true=false:=fun i hi=>by simp[hi]
 have hno:∀i,(Array.replicate ops.size false).getD i false≠true:=fun i=>by
  rcases bAh i ops.size with hi|hi<;>simp[hi]
 refine⟨by simp,fun i hi=>⟨h1 i hi,hun i (h1 i hi)⟩,fun i hi _=>?_,fun e he=>?_,h41,fun i j hi hl=>?_,fun i j hi hp=>?_,h42,fun e he=>?_,?_,rankB_sound h7⟩
 ·have:=h2 i hi;simp only[bAd,bBe] at this;rcases this with hm|hm
  ·exact .inl hm
  ·right
   cases hf:fin with
   |none=>rw[hf] at hm;cases hm
   |some e=>
    rw[hf] at hm h5;simp only[lastB,aZ7,aZh] at h5;simp only[bAd,beq_iff_eq] at hm;exact⟨e,rfl,h5.1.1,hun e h5.1.1,hm⟩
 ·subst he;simp only[lastB,aZ7,aZh] at h5;exact⟨h5.1.1,hun e h5.1.1⟩
 ·rw[hun i hi] at hl;cases hl
 ·have:=h3 i hi;simp only[edgeB,aZf,bA5,bAd,aZz] at this;have hj:j<ops.size:=by simp only[prB,aZ7,aZh] at hp;exact hp.1
  have:=(this j hj).resolve_left (by rw[hp];simp);split at this
  ·rename_i o ho;obtain⟨e,he,hc⟩:=Array.any_eq_true'.1 this;simp only[aZ7,bAd,beq_iff_eq,aZh] at hc;exact⟨o,e,ho,he,hc.1.1,hc.1.2,hc.2⟩
  ·cases this
 ·subst he;simp only[lastB,aZ7,aZz,aZf,bAd] at h5;refine⟨(fun hm=>by have:=h5.1.2;rw[bBe.2 hm] at this;cases this),fun j hj=>(h5.2 j hj).imp id ?_⟩;intro hx;split at hx
  ·rename_i oe oj he hj';simp only[aZ7,aZz] at hx;exact⟨oe,oj,he,hj',hx.1,hx.2⟩
  ·cases hx
 ·intro π1 i π2 hs o ho e he hb;rcases readyB_sound h6 π1 i π2 hs o ho e he hb with h'|h'
  ·cases h'
  ·exact .inr h'):G:=h
theorem y2y (h:G:=by
 obtain⟨hcap,hpos,hW⟩:=hok;simp only[spA] at hle hra
 have hget:∀(x y o:Option AO),(h++x::y::(G++[o]))[h.length+2+G.length]?=some o:=fun x y o=>by
  rw[show h++x::y::(G++[o])=(h++[x,y]++G)++[o] by simp,bA7 (by simp<;>omega),show h.length+2+G.length-(h++[x,y]++G).length=0 by simp<;>omega];rfl
 have hset:∀(x y o o':Option AO),(h++x::y::(G++[o])).set (h.length+2+G.length) o'=h++x::y::(G++[o']):=fun x y o o'=>by
  rw[show h++x::y::(G++[o])=(h++[x,y]++G)++[o] by simp,bAe _ _ (by simp<;>omega),show h.length+2+G.length-(h++[x,y]++G).length=0 by simp<;>omega];simp
 simp only[spV,spB];refine aI3 ?_;refine Run.regPre 6 fun K J=>?_
 refine yd ?_;simp[aL];refine zi ?_;clear J;refine ya ?_;refine Run.appendS (id:=h.length+2+G.length) (es:=aL acc) (ys:=[a.cells]) (cap:=cap) (sz:=5) (by_:=80) (e:=25) rfl rfl rfl rfl rfl rfl aA (by simp only[Heap.at];rw[hget];simp only[kJ];rfl) (eJ _) (by simpa using hcap) aA aA aA (by simp;omega) (by simp;omega) ?_ ?_
 ·intro hc1;rw[hset];refine zor ?_;refine IH (some (acc++[a],G,cap),f) _ _ ⟨⟨by simpa using hc1,by simp,hW⟩,by simp[spA];omega,by simp[spA];simpa using hra⟩ (by simp only[Tm.size,Tm.sizes];omega) ?_ ?_
  ·simp[spV];exact zK
  ·simp[spB,row,eX]
 ·intro c' hc1;refine zor ?_;refine IH (some (acc++[a],G++[row acc (cap-acc.length)],c'),f) _ _ ⟨⟨by simpa using hc1,by simp,fun x y hx hy=>?_⟩,by simp[spA];omega,by simp[spA];simpa using hra⟩ (by simp only[Tm.size,Tm.sizes];omega) ?_ ?_
  ·have:=(hW x y hx hy).app (l:=[row acc (cap-acc.length)]) (by simp only[List.all_cons,row_under,List.all_nil,Bool.and_self]);simpa using this
  ·simp[spV]
   repeat' first|exact wn|apply wc
   all_goals first|exact Weak.junk _|exact Weak.refl _|exact Weak.of_eq (by congr 1;omega)
  ·simp[spB,row,eX]):G:=h
theorem y2z (h:G:=by
 refine zL (c1 _ (hh.app aA)) ?_;refine aOi ?_
 by_cases e3:a1=3
 ·subst e3;rw[if_pos rfl] at hr;refine aI3 ?_;refine Run.reg fun K J=>?_
  refine y1r ?_;refine zj ?_;clear J;refine Run.ret ?_;exact Fin.ret' (h0:=h) aA rfl hh rfl (by simp[hdl',htd];rfl) rfl (Weak.refl _) (by simp[hdu]) ⟨by rw[hr];simp only[hdav];rfl,rfl⟩
 rw[if_neg e3] at hr;have e3':(a1==3)=false:=by simp[e3]
 by_cases e4:a1=4
 ·subst e4;rw[if_pos rfl] at hr;refine y1g ?_;refine DR.go fun K J=>?_
  refine y1r ?_;refine zh ?_;clear J;refine y9 ?_;refine znx ?_;exact Fin.ret' (h0:=h) aA rfl hh rfl (by simp[hdl',htd];rfl) rfl (Weak.refl _) (by simp[hdu]) ⟨by rw[hr];simp only[hdav];rfl,rfl⟩
 rw[if_neg e4] at hr;have e4':(a1==4)=false:=by simp[e4]
 by_cases e5:a1=5
 ·subst e5;rw[if_pos rfl] at hr;refine mE ?_;refine Run.reg fun K J=>?_
  refine y1r ?_;refine zj ?_;clear J;refine Run.ret ?_;exact Fin.ret' (h0:=h) aA rfl hh rfl (by simp[hdl',htd];rfl) rfl (Weak.refl _) (by simp[hdu]) ⟨by rw[hr];simp only[hdav];rfl,rfl⟩
 rw[if_neg e5] at hr;have e5':(a1==5)=false:=by simp[e5]
 refine aA7 e3' e4' e5' ?_;refine Fin.ret' (h0:=h) (xs:=[.agg [iA 0, .p (sP []),iA 0,iA 0,iA 0, .p (sP []), .p (.prim (.slice none 0 0)), .p (.prim (.slice none 0 0)),iA 0,iA 0, .p (sP []), .p (.prim (.slice none 0 0)), .p (.prim (.slice none 0 0)),iA 0, .p (.prim (.slice none 0 0)),iA 0,iA 0,iA 0, .p (sP []), .p (.prim (.slice none 0 0)), .p (.prim (.slice none 0 0)), .p (.prim (.slice none 0 0)), .p (.prim (.slice none 0 0))],iA 0,bA false]) aA rfl hh rfl aA rfl (y:= .tup [zDc.av,iA 0,bA false]) (Weak.tup (WeakL.cons oB (WeakL.refl _))) (by simp[zDc,Dc.av,Dc.cells,zT]) ⟨by rw[hr],rfl⟩):G:=h
theorem y30 (h:G:=by refine Fin.ret' (h0:=h) (xs:=[.agg [iA 0, .p (sP []),iA 0,iA 0,iA 0, .p (sP []), .p (.prim (.slice none 0 0)), .p (.prim (.slice none 0 0)),iA 0,iA 0, .p (sP []), .p (.prim (.slice none 0 0)), .p (.prim (.slice none 0 0)),iA 0, .p (.prim (.slice none 0 0)),iA 0,iA 0,iA 0, .p (sP []), .p (.prim (.slice none 0 0)), .p (.prim (.slice none 0 0)), .p (.prim (.slice none 0 0)), .p (.prim (.slice none 0 0))],iA 0,bA false]) aA rfl hh rfl aA rfl (y:= .tup [zDc.av,iA 0,bA false]) (Weak.tup (WeakL.cons oB (WeakL.refl _))) (by simp[zDc,Dc.av,Dc.cells,zT]) ⟨by rw[hr],rfl⟩):G:=h
theorem y31 (h:G:=by exact Fin.ret' (h0:=h) aA rfl hh rfl aE rfl (Weak.refl _) aA ⟨by rw[hr];rfl,rfl⟩):G:=h
theorem y32 (h:G:=by
 have hsr:=aS st s;rw[hs] at hsr;simp only[Rep,RepP] at hsr;have hX:=qE hx hx2 (aS st x);simp only[RepP] at hX;obtain⟨ad,cx,hxv,_,hX⟩:=hX;have hne:ys≠[]:=by intro h0;rw[h0] at hpos;simp at hpos
 obtain⟨b,off,rfl,hr⟩:=hX.resolve_left hne;have hu:=nP he;obtain⟨i,zv,hi,hzv,hzc,hzl,_⟩:=bV hz;have hisz:i.size=sz:=by unfold szT at hsz;rw[hi] at hsz;simpa using hsz
 have hiby:i.bytes=by_:=by unfold byT at hby;rw[hi] at hby;simpa using hby
 have hyl:=hr.length;obtain⟨news,n1,n2,n3⟩:=hr.values;have hrun:=run_append_nil (P:=P) w t o.type e i zv hu hi hzv ⟨b,off,none⟩ ys.length cx news (by rw[n1,hisz]) (fun j v hj=>by rw[bL];exact n2 j v hj) hpos aB (by rw[hiby];omega)
 have hzs:((Builtin.zeroCells zv.cells (grownCap w ys.length 0 e-ys.length)).toList).length=(grownCap w ys.length 0 e-ys.length)*sz:=by
  rw[bBk,size_zeroCells,hzc];simp[hzl,hisz]
 obtain⟨E',g1,g2,g3,g4⟩:=aNf (h:=h) (e:=e) st.rel st.fresh n3 hzs;refine⟨_,_,E',_, .slice (some ⟨w.heap.size,0,none⟩) ys.length (grownCap w ys.length 0 e),⟨grownCap w ys.length 0 e,dN w _ 0 e,rfl,rfl⟩,?_,g1,by simpa using g2,?_,g3⟩
 ·have hq:List.toArray (news++(Builtin.zeroCells zv.cells (grownCap w ys.length 0 e-ys.length)).toList)=news.toArray++Builtin.zeroCells zv.cells (grownCap w ys.length 0 e-ys.length):=by
   apply bBa;simp
  rw[hq];exact hY ho (by rw[hsr.1,hxv];exact hrun)
 ·simp only[Rep];exact⟨_,g4,rfl⟩):G:=h
theorem y33 (h:G:=by exact Fin.ret' (h0:=h) aA rfl hh rfl aE rfl (Weak.refl _) aA ⟨by simp,rfl⟩):G:=h
theorem y34 (h:G:=by
 refine zA ?_;refine zF2 hh ?_;exact⟨⟨_,rfl,fun h=>by cases h⟩,rfl⟩):G:=h
theorem y35 (h:G:=by
 by_cases hz:s'-1<0
 ·rw[if_pos hz] at hWe;subst hWe;simp only[if_pos hz] at c4;have c4:=fun l hw=>WPost.fails hGs2 (c4 l hw)
  simp only[Tm.av,aH,List.map,aL,List.set_set] at c4;refine aAc ?_;refine Run.call rfl aF aA rfl (c4 _ ((hGw.set aA).app aA)) ?_ ?_
  ·rintro v h' ⟨hv,_⟩;cases hv
  rintro v h' ⟨hv,rfl⟩;simp only[AOut.panic.injEq] at hv;subst hv;exact Fin.panA (h0:=List.set G q (dU env (s'-1))) aA (hGw.set aA) rfl rfl ⟨rfl,hGs _⟩
 rw[if_neg hz] at hWe;simp only at hWe;simp only[if_neg hz] at c4;have c4:=fun l hw=>WPost.oks hGs2 (c4 l hw)
 obtain⟨s2,hs2⟩:∃s2,s'-1=s2:=⟨_,rfl⟩;rw[hs2] at hWe hz;simp only[hs2] at c4;have c5:=fun g hw=>dG g hw y args aB
 have hgin:Gin (aN y args):=(Gin.of_at hka).app hta (by have:=fR hka;omega);generalize aN y args=z at hWe c5 hgin;obtain⟨y0,y1,y2,y3,y4⟩:=y;obtain⟨z0,z1,z2,z3,z4⟩:=z;simp only[Tm.av,aH,List.map,aL,List.set_set] at c4 c5;refine aAc ?_;refine zL (c4 _ ((hGw.set aA).app aA)) ?_;refine zo ?_;refine zL (c5 _ ((hGw.set aA).app aA)) ?_;refine y1k ?_;refine IH ⟨.mk z0 z1 z2 z3 z4,s2,m⟩ _ _ ⟨hgin,by simp only;omega,by simp only;omega,by simp only;omega,hWe⟩ (by simp only;omega) ?_ ?_
 ·exact zS
 ·simp[whG,hGs]):G:=h
theorem y36 (h:G:=by
 have hmulle:(es.length+ys.length)*sz<=cap*sz:=bAj _ hroom
 obtain⟨w',hrun,hrow',hsame,hsize,hos,hout⟩:=jQ (P:=P) (ty:=o.type) hu hi hrow (a:=⟨b,off,none⟩) (m:=ys.length) (c:=cx) (news:=news) (n:=es.length) (cap:=cap) (by rw[n1,hisz]) (fun j v hj=>by rw[bL];exact n2 j v hj)
  (RepL.one_p n3) hroom (by rw[hisz];omega)
 rw[hisz] at hrow'
 have hnew:RepL E w (buf sz (es++ys) (cap-(es.length+ys.length))) (patch cur (es.length*sz) news):=by
  have:=RepL.patch (es.length*sz) n3 hreps;rw[aT1 hes hyl aB] at this
  rwa [show cap-es.length-ys.length=cap-(es.length+ys.length) by omega] at this
 have hx:Ext E w E w':=⟨fun _ _ h=>h,fun b' off' hb'=>dK (hsame b' (fun e=>st.rel.sep id _ g off' hid hg (e▸hb'))) off',fun _ _ h=>h,fun _ L h=>⟨L,h,aYw _,fun _=>rfl⟩⟩;obtain⟨g1,g2⟩:=st.rel.writeO hid rfl (o':= .cells (buf sz (es++ys) (cap-(es.length+ys.length)))) rfl hg (fun hx=>⟨_,hrow',hnew.ext hx⟩) hsame hsize hos hout;refine⟨_,_,E,w', .slice (some ⟨g,0,none⟩) (es.length+ys.length) cap, .inl ⟨hroom,rfl,rfl⟩,?_,g1,by simpa using st.fresh,?_,g2⟩
 ·exact hY ho (by rw[hsv,hxv];exact hrun)
 ·simp only[Rep];exact⟨g,hg,rfl⟩):G:=h
theorem y37 (h:G:=by exact Fin.ret' aA rfl hh (aZ0 _).symm aE rfl (Weak.refl _) aA ⟨⟨_,rfl,fun h=>by cases h⟩,rfl⟩):G:=h
theorem y38 (h:G:=by
 refine Go.AI.ct aA (nv ?_);refine yc ?_;refine y9 ?_;refine znx ?_;exact Fin.ret' (h0:=G) (xs:=[.agg zTm, .p (.prim (.slice none 0 0)),bA false, .agg [iA l1,iA l2, .p (sP l3), .p (.sl 2 (aW l4)), .p (.sl 5 (aL l5))]]) aA rfl hGw rfl aA rfl (yU _ _ _ _ _) (lZ _ _) ⟨⟨_,rfl⟩,hG.symm⟩):G:=h
theorem y39 (h:G:=by
 subst hr;refine Run.ret ?_;refine Fin.ret' (h0:=h) aA rfl hh rfl aE rfl (y:= .tup [.agg [iA 0, .p (.sl 2 (bN []))],iA 3]) ?_ aA ⟨rfl,rfl⟩;refine Weak.tup (WeakL.cons (Weak.agg ?_) (WeakL.cons (Weak.refl _) WeakL.nil));exact zK):G:=h
theorem y3a (h:G:=by exact Fin.ret' aA rfl hh (aZ0 _).symm rfl rfl (Weak.refl _) rfl ⟨rfl,rfl⟩):G:=h
theorem y3b (h:G:=by
 refine Go.AI.ct aA (nv ?_);refine zrx ?_;exact Fin.ret' (h0:=h) (xs:=[.agg aY3,iA 0, .p (.prim (.slice none 0 0)),bA false]) aA rfl hh rfl aA rfl (y:= .tup [zDc.av,iA 0, .p (.sl 5 []),bA false]) (Weak.tup (WeakL.cons oB (WeakL.cons (Weak.refl _) (WeakL.cons (Weak.nil 5) (WeakL.refl _))))) (by simp[zDc,Dc.av,Dc.cells,zT]) ⟨by rw[hr];rfl,rfl⟩):G:=h
theorem y3c (h:G:=by
 refine y29 ?_;obtain⟨vs,hrun,hvs⟩:=fI (P:=P) s e4 e5 e3;refine⟨fun _ _=>trivial,?_⟩;rw[Oper.semAt_eq _ _ _ (fun c hc=>by rw[hc] at e3;cases e3),hrun];refine⟨fun hd=>(by cases hd),fC.2 (Calls.mono (e6 E w vs s.rel s.fresh hvs) ?_)⟩;rintro e w' ⟨out,h'',E',⟨rfl,rfl⟩,hrel,hf,hout,hfr⟩;simp only[aAd] at hout;obtain⟨u,rfl,hx⟩:=hout;show K P rd (Post nb Q E h w) k (.panic _) a w';rw[mU];exact⟨E',T,h'',D, .panic v,e7 T (fun _ _=>rfl),s.move hfr hrel hf,hfr.toN _,u,rfl,hx⟩):G:=h
theorem y3d (h:G:=by
 refine Weak.tup (WeakL.cons (Weak.agg ?_) (WeakL.cons (Weak.refl _) WeakL.nil));exact zK):G:=h
theorem y3e (h:G:=by
 repeat (first|refine Run.skip ?_|refine Run.opsNil ?_|refine Run.inBlock ?_)
 refine hJ _ ?_;exact zS):G:=h
theorem y3f (h:G:=by refine Fin.ret' (h0:=h) aA rfl hh rfl aE rfl (Weak.refl _) aA ⟨rfl,rfl⟩):G:=h
theorem y3g (h:G:=by
 obtain⟨k,nm,ps,⟨k1,i1,n1,l1,s1⟩,⟨k2,i2,n2,l2,s2⟩,fx,cs,rp,⟨k3,i3,n3,l3,s3⟩,rr,fs⟩:=d;simp[Dc.row,Dc.cells,aH]):G:=h
theorem y3h (h:G:=by
 exfalso
 have hne:π++fin.toList≠[]:=by
  cases hfin:fin with
  |none=>
   have:=hf0 hfin;intro hh;rw[List.append_eq_nil_iff] at hh;rw[hh.1] at this;simp at this
  |some e=>simp
 obtain⟨i,σ,hσ⟩:=List.exists_cons_of_ne_nil hne
 have hlt:i<ops.size/\listed.getD i true=false:=by
  have hm:i∈π++fin.toList:=by rw[hσ];simp
  rcases aZn.1 hm with hm|hm
  ·exact p.mem i hm
  ·cases hfin:fin with
   |none=>rw[hfin] at hm;simp at hm
   |some e=>
    rw[hfin] at hm;simp at hm;subst hm;exact p.finU _ hfin
 have:i∈Region.ready .any ops listed:=by
  refine mem_ready.2 ⟨hlt.2,ops[i],bBi hlt.1,fun e he hb=>?_⟩;rcases p.ready [] i σ (by simpa using hσ) _ (bBi hlt.1) e he hb with h1|h1
  ·exact h1
  ·cases h1
 rw[hnil] at this;cases this):G:=h
theorem y3i (h:G:=by exact Fin.ret' aA rfl hh rfl aE rfl (Weak.refl _) aA ⟨rfl,rfl⟩):G:=h
theorem y3j (h:G:=by
 simp only[AOut.ret.injEq] at hv;subst hv;refine zox ?_;exact Fin.ret' aA rfl hh (aZ0 _).symm rfl rfl (Weak.of_eq (by simp[<-hr])) rfl ⟨rfl,rfl⟩):G:=h
theorem y3k (h:G:=by
 have:=h3 i hi;simp only[aTe,aZf,bA5,bAd,aZz] at this;have hj:j<ops.size:=by simp only[prB,aZ7,aZh] at hp;exact hp.1
 rcases this j hj with (h|h)|h
 ·rw[hp] at h;cases h
 ·left;split at h
  ·rename_i o ho;obtain⟨e,he,hc⟩:=Array.any_eq_true'.1 h;simp only[aZ7,bAd,beq_iff_eq] at hc;exact⟨o,e,ho,he,hc.1,hc.2⟩
  ·cases h
 ·right;obtain⟨⟨u,v⟩,hm,hc⟩:=bBj.1 h;simp only[aZ7,bAd,beq_iff_eq] at hc;obtain⟨rfl,hc⟩:=hc;exact⟨u,hm,hc⟩):G:=h
theorem y3l (h:G:=by
 simp only[spV,spB];refine aI3 ?_;refine Run.regPre 6 fun K J=>?_
 refine yd ?_;simp[aL];refine zi ?_;clear J;refine ya ?_;refine Run.appendN (ys:=[a.cells]) (sz:=5) (by_:=80) (e:=25) rfl rfl rfl rfl rfl rfl aA aA aA aA aA aA fun c' hc'=>?_
 refine zor ?_;refine IH (some ([a],[],c'),f) _ _ ⟨⟨by simpa using hc',by simp,fun x y hx hy=>hh.app (by simp only[List.all_cons,hx,hy,List.all_nil,Bool.and_self])⟩,by simp[spA] at hle⊢;omega,by simp[spA];simpa [spA] using hra⟩ (by simp only[Tm.size,Tm.sizes];omega) ?_ ?_
 ·simp[spV];exact zK
 ·simp[spB,row,aL]):G:=h
theorem y3m (h:G:=by
 refine zA ?_;refine zF2 hh ?_;exact⟨by rw[this];rfl,rfl⟩):G:=h
theorem y3n (h:G:=by
 refine Weak.agg ?_
 repeat' first|exact wn|apply wc
 all_goals first|exact Weak.refl _|exact Weak.nil _):G:=h
theorem y3o (h:G:=by refine Fin.ret' (h0:=h) (xs:=[.agg zTm,iA 2]) aA rfl hh rfl aA rfl (Weak.tup (WeakL.cons Weak.zT (WeakL.refl _))) aA ⟨rfl,rfl⟩):G:=h
theorem y3p (h:G:=by
 refine Run.call rfl aF aA rfl (c2 _ (hGw.app aA)) ?_ ?_
 ·rintro v h' ⟨hv,_⟩;cases hv
 rintro v h' ⟨hv,rfl⟩;simp only[AOut.panic.injEq] at hv;subst hv;exact Fin.panA (h0:=List.set G q (dU env s')) aA (hGw.set aA) rfl rfl ⟨rfl,hGs s'⟩):G:=h
theorem y3q (h:G:=by
 simp only[AOut.ret.injEq] at hv;subst hv;rw[<-hr];refine zo ?_;refine Run.nil ?_;exact Fin.ret' (h0:=B r.1) aA (by rw[hlen,hlen]) (hwf _) rfl rfl rfl (Weak.refl _) rfl ⟨rfl,rfl⟩):G:=h
theorem y3r (h:G:=by
 refine zL (c1 _ (hh.app aA)) ?_;refine zo ?_
 by_cases hp:0<(tel.length:Int)-fx
 ·rw[if_pos hp] at hz;subst hz;have hp':fx<(tel.length:Int):=by omega
  refine aOs ?_;refine zF1 hh ?_;exact⟨by simp only[gN,if_pos hp'],rfl⟩
 ·rw[if_neg hp] at hz;subst hz;have hp':¬fx<(tel.length:Int):=by omega
  refine aOs ?_;refine zF1 hh ?_;exact⟨by simp only[gN,if_neg hp'],rfl⟩):G:=h
theorem y3s (h:G:=by
 by_cases he:e=0
 ·subst he;have hl:((ls.length:Int)==a3)=decide ((ls.length:Int)=a3):=rfl;refine yk ?_;refine zd1 hl ?_;refine y9 ?_;refine znx ?_;refine zF1 hh ?_;exact⟨by simp[En.av,En.cells],rfl⟩
 ·have heb:(e==(0:Int))=false:=by simpa using he
  refine yk ?_;refine zd1 heb ?_;refine y9 ?_;refine znx ?_;refine zF1 hh ?_;exact⟨by simp[En.av,En.cells,he],rfl⟩):G:=h
theorem y3t (h:G:=by
 refine zA ?_;refine zF2 hh ?_;exact⟨⟨_,rfl,trivial⟩,rfl⟩):G:=h
theorem y3u (h:G:=by
 rw[bO s h1];simp only[if_true];obtain⟨vs,hrun,hvs⟩:=fI (P:=P) s h4 h5 h3;refine⟨fun _ _=>trivial,?_⟩;rw[Oper.semAt_eq _ _ _ (fun c hc=>by rw[hc] at h3;cases h3),hrun];refine⟨fun hd=>(by cases hd),fC.2 (Calls.mono (h6 E w vs s.rel s.fresh hvs) ?_)⟩;rintro e w' ⟨out,h'',E',⟨rfl,rfl⟩,hrel,hf,hout,hfr⟩;simp only[aAd] at hout;obtain⟨u,rfl,hx⟩:=hout;exact hk _ _ _ E' w' _ ⟨[h],rfl,by simp[h2]⟩ h7 ((s.move hfr hrel hf).put hx o.dst) hfr):G:=h
theorem y3v (h:G:=by
 refine y1e ?_;obtain⟨⟨c2,v2⟩,hj2⟩:∃q,yQ ⟨oc,ov⟩ ⟨0,[(a,b)]⟩=q:=⟨_,rfl⟩
 have hk2:KeyOk v2:=by
  have:KeyOk (yQ ⟨oc,ov⟩ ⟨0,[(a,b)]⟩).vars:=hok.merge ⟨⟨by simp,trivial⟩,by simpa using k2⟩;rw[hj2] at this;exact this
 rw[hj2] at hrr⊢;refine y12 ?_;refine zo ?_;refine Run.keep [1,2,3,6,8,9] ?_;refine yf ?_;refine y1x ?_;refine IH (j+1,⟨c2,v2⟩) _ _ ⟨by simp;omega,hk2,hrr⟩ (by simp;omega) ?_ ?_
 ·exact zS
 ·simp[Lv.cells]):G:=h
theorem y3w (h:G:=by
 simp[aUz];refine J _ _ ?_;clear J;have hu:Tryz.prog.underlying 20=some (.interface #[]):=by kernel_rfl
 refine aSi hu ?_;refine Run.call (args:=[.p (aGu e)]) rfl rfl aA rfl (aIb h hh e) ?_ ?_
 ·rintro v h' ⟨hv,rfl⟩;simp only[AOut.ret.injEq] at hv;subst hv;refine zo2 hp hq2 ?_;refine Run.nil ?_;refine Fin.ret' aA aA ((hh.set aA).set aA) (aZ0 _).symm rfl rfl (Weak.refl _) rfl ⟨⟨_,rfl⟩,rfl⟩
 ·rintro v h' ⟨hv,_⟩;cases hv):G:=h
theorem y3x (h:G:=by
 simp[aUz];refine J _ _ ?_;clear J;have hu:Tryz.prog.underlying 20=some (.interface #[]):=by kernel_rfl
 refine nR hu ?_;refine Run.nil ?_;refine zF3 hh ?_;exact⟨⟨_,rfl⟩,rfl⟩):G:=h
theorem y3y (h:G:=by exact Fin.ret' (h0:=G) aA rfl hGw rfl aE rfl (Weak.refl _) aA ⟨by simp[Tm.av,aH],hG.symm⟩):G:=h
theorem y3z (h:G:=by
 rw[aZ4,ht]
 by_cases hE:((ops[i]?).map fun o=>eF pc i o)=some true
 ·have hπ1:π1=[]:=by
   cases π1 with
   |nil=>rfl
   |cons j π1=>
    obtain⟨oi,oj,hoi,_,_,hEi,_⟩:=hloose j aA;rw[hoi] at hE;simp only[bA1,aYz,hEi] at hE;cases hE
  subst hπ1;simp only[aZ3,Ranked,hE,if_true] at hrk⊢;exact hrk.2
 ·simp only[hE,if_false,bB6];exact Ranked.remove hE π1 π2 _ hrk):G:=h
theorem y40 (h:G:=by exact Fin.ret' (h0:=G) (xs:=[.agg zTm,bA false]) aA rfl hGw rfl aA rfl aEn (aMx _) ⟨rfl,hG.symm⟩):G:=h
theorem y41 (h:G:=by exact Fin.ret' (h0:=h) aA rfl hh rfl aE rfl (Weak.refl _) aA ⟨by rw[ha aD];rfl,rfl⟩):G:=h
theorem y42 (h:G:=by exact Fin.ret' (h0:=h) (xs:=[.agg zTm,bA false]) aA rfl hh rfl aA rfl aEn (aMx _) ⟨rfl,hss.symm⟩):G:=h
theorem y43 (h:G:=by
 repeat' (first|apply And.intro|intro _)
 all_goals
  refine yb ?_
  repeat' first|exact wn|apply wc
  all_goals first|exact Weak.junk _|(refine Weak.bool ?_;clear J;rw[aZs];simp[hi];done)|(refine Weak.bool ?_;clear J;rw[aZs];simp[hi];omega)|(refine Weak.bool ?_;clear J;simp_all;done)|(refine Weak.bool ?_;clear J;simp[*];done)|(refine Weak.bool ?_;clear J;rw[aZs];simp[*];omega)|exact Weak.refl _):G:=h
theorem y44 (h:G:=by
 refine Go.AI.ct aA (nv ?_);refine zrx ?_;exact Fin.ret' (h0:=h) (xs:=[.agg zTm,bA false]) aA rfl hh rfl aA rfl wk hzu ⟨rfl,hss.symm⟩):G:=h
theorem y45 (h:G:=by exact Fin.ret' (h0:=h) (xs:=[.agg aY3,iA 0, .p (.prim (.slice none 0 0)),bA false]) aA rfl hh rfl aA rfl wk aA ⟨none_ret hr,rfl⟩):G:=h
theorem y46 (h:G:=by
 refine⟨hrel,hfresh,?_,rfl⟩;have hl:=hargs.length;have:=hargs.append (RepL.replicate (E:=E) (w:=w) (fn.ntmps-args.length));simpa [hl] using this):G:=h
theorem y47 (h:G:=by refine Fin.ret' (h0:=h) (xs:=[.agg zTm,iA e]) aA rfl hh rfl aA rfl (Weak.tup (WeakL.cons Weak.zT (WeakL.refl _))) aA ⟨rfl,rfl⟩):G:=h
theorem y48 (h:G:=by
 refine yo ?_;refine IH ⟨.mk z0 z1 z2 z3 z4,cr,m⟩ _ _ ⟨hin,hk2,by simp only;omega,hWe⟩ (by simp only;omega) ?_ ?_
 ·exact zS
 ·simp[wqG,hGs]):G:=h
theorem y49 (h:G:=by
 simp only[Rep,RepP];refine⟨_,cap,by rw[hn],by omega, .inr ⟨b,0,rfl,?_⟩⟩;refine RepEs.of_row (vs:=vals.take (es.length*sz)) hes (fun j v hj=>⟨.inr rfl,?_⟩) ?_
 ·rw[hrow.cell,aZv];rw[bB1] at hj;split at hj
  ·exact hj
  ·cases hj
 ·have:=(hreps.ext f2.ext).take (es.length*sz);unfold buf at this
  rwa [aZw aB,aZ6 aB] at this):G:=h
theorem y4a (h:G:=by exact Fin.ret' (h0:=h) aA rfl hh rfl aE rfl (Weak.refl _) (by simp[Value.cells]) ⟨rfl,rfl⟩):G:=h
theorem y4b (h:G:=by
 refine yn ?_;refine aWp hce hcil h14 hcb ?_;refine y9 ?_;refine nv ?_;refine Go.AI.ct aA (nv ?_);refine zr2 fM1 fM2 ?_;refine zx ?_;exact Fin.retM (h0:=List.set (List.set H q (ktB ⟨st,nd,fo,lm,false⟩)) M (some (.cells [bW env, .ptr q 0,vA,bA true,bA s.sk]))) aA aA (hflag1 true s.sk).wf rfl rfl rfl (Weak.refl _) rfl ⟨rfl,hflag1 true s.sk,hFm1.trans (Fm.set (.inl hnM) (by simpa using hn0) _)⟩):G:=h
theorem y4c (h:G:=by
 obtain⟨G2,hG2⟩:∃G2,List.set h q (dU env s')=G2:=⟨_,rfl⟩;have hG2l:h.length=G2.length:=by rw[<-hG2];simp
 have hG2w:WF G2:=by rw[<-hG2];exact hh.set aA
 have hG2q:G2[q]?=some (dU env s'):=by rw[<-hG2];exact g3 _
 rw[hG2];simp only[hG2l];refine zox ?_;exact Fin.ret' (h0:=G2) aA rfl hG2w rfl aE rfl (Weak.refl _) aA ⟨by simp[Tm.av],hG2.symm⟩):G:=h
theorem y4d (h:G:=by
 refine wpIn_region_any hm ?_;obtain⟨s',hfr⟩:=s.drew;have p:=okDraw_sound hok;have:=dr_sound (P:=P) (rd:=rd) (nb:=nb) (k:=k) (Q:=Q) (D:=D) (fun he=>by cases he) (fun e' he T h r=>by cases he;exact r) ops.size π _ [] T h p d (fun he=>by cases he) (fun e' he=>by cases he;exact draw_len' p) E _ a s';exact wpAny_post (dQ (P:=P) (rd:=rd) (Post.of_fr (Q:=Q) hfr) k) ops.size _ _ _ this):G:=h
theorem y4e (h:G:=by
 have h1:(List.range ops.size).length<=π.length:=by
  apply bBt List.nodup_range;intro i hi;rcases p.all i (bA5.1 hi) (by simp[bA5.1 hi]) with hm|⟨e,he,_⟩
  ·exact hm
  ·cases he
 have h2:π.length<=(List.range ops.size).length:=by
  apply bBt p.nodup;intro i hi;exact bA5.2 (p.mem i hi).1
 simp at h1 h2;omega):G:=h
theorem y4f (h:G:=by
 simp only[AOut.panic.injEq] at hv;subst hv;exact Fin.panA (h0:=h.set q (dU env (s-1))) aA (hh.set aA) rfl rfl ⟨rfl,rfl⟩):G:=h
theorem y4g (h:G:=by
 apply bAi;intro j;refine y2b ?_;split
 ·rename_i e;subst e;simp[show off<vs.length by omega] at hv⊢;exact hv.symm
 ·rfl):G:=h
theorem y4h (h:G:=by
 refine Go.AI.ct aA (nv ?_);refine yc ?_;refine y9 ?_;refine znx ?_;exact Fin.ret' (h0:=List.set G q (ktB ⟨st',nd',fo',lm',ov'⟩)) (xs:=[.agg zTm, .p (.prim (.slice none 0 0)),bA false, .agg [iA m1,iA m2, .p (sP m3), .p (.sl 2 (aW m4)), .p (.sl 5 (aL m5))]]) aA aA hG2w rfl aA rfl (yU _ _ _ _ _) (lZ _ _) ⟨⟨_,rfl⟩,hGs _⟩):G:=h
theorem y4i (h:G:=by
 refine wpIn_region_any hm ?_;obtain⟨s',hfr⟩:=s.drew;have p:=okDraw_sound hok;have:=dr_sound (P:=P) (rd:=rd) (nb:=nb) (k:=k) (Q:=Q) (D:=D) (fun _ T h r=>r) (fun e he=>by cases he) ops.size π _ [] T h p d (fun _=>draw_len p) (fun e he=>by cases he) E _ a s';exact wpAny_post (dQ (P:=P) (rd:=rd) (Post.of_fr (Q:=Q) hfr) k) ops.size _ _ _ this):G:=h
theorem y4j (h:G:=by rw[bBk,size_zeroCells,hzc];simp[hzl,hisz]):G:=h
theorem y4k (h:G:=by exact Fin.ret' aA rfl hh (aZ0 _).symm aE rfl (Weak.refl _) aA ⟨⟨_,rfl,trivial⟩,rfl⟩):G:=h
theorem y4l (h:G:=by
 subst hje;rw[aZ6 aA] at hall;refine dP ?_;refine zA ?_;refine zF2 hh ?_;exact⟨by rw[hr,hall];rfl,rfl⟩):G:=h
theorem y4m (h:G:=by exact⟨_,by simp[Builtin.len_,run_underlying hu];rfl,by simp[Rep,RepP,bH,goInt]⟩):G:=h
theorem y4n (h:G:=by exact Fin.ret' (h0:=h) (xs:=[.agg zTm,bA false]) aA rfl hh rfl aA rfl wk hzu ⟨rfl,(dO hq).symm⟩):G:=h
theorem y4o (h:G:=by
 rw[aYu q] at this;exact bAf this):G:=h
theorem y4p (h:G:=by
 rw[bO s hw];simp only[if_true];obtain⟨E',w',nn,v,hrun,hn,hr,hf,hx,hfr⟩:=sL hop s;have:=J E' w' _ ((s.move hfr hr hf).put hx o.dst) hfr;refine⟨fun _ _=>trivial,?_⟩;rw[Oper.semAt_eq _ _ _ (fun c hc=>by rw[hc] at hop;simp[aop] at hop),hrun];rcases hn with rfl|⟨rfl,rfl⟩<;>exact this):G:=h
theorem y4q (h:G:=by
 refine Go.AI.ct aA (nv ?_);refine yc ?_;refine y9 ?_;refine znx ?_;exact Fin.ret' (h0:=G2) (xs:=[.agg zTm, .p (.prim (.slice none 0 0)),bA false, .agg [iA m1,iA m2, .p (sP m3), .p (.sl 2 (aW m4)), .p (.sl 5 (aL m5))]]) aA rfl hG2w rfl aA rfl (yU _ _ _ _ _) (lZ _ _) ⟨⟨_,rfl⟩,hG2.symm⟩):G:=h
theorem y4r (h:G:=by
 rw[hz] at c3;simp only[Tm.av,aH,List.map] at c3;refine kL k8' ?_;refine zL (c3 _ ((hGw.set aA).app aA)) ?_;refine zox ?_;refine zF6 (hGw.set aA) ?_;exact⟨by simp[Tm.kind,hz,Tm.av,aH],hGs s'⟩):G:=h
theorem y4s (h:G:=by
 refine aH9 (π0:=π) (fun i hi=>bBe.1 (h2 i hi)) h1 (fun π1 i π2 hs o ho e he hb=>?_) ops.size t _ aA ?_
 ·rcases readyB_sound h5 π1 i π2 hs o ho e he hb with h'|h'
  ·cases h'
  ·exact h'
 ·unfold unl;rw[List.filter_eq_self.2 (fun i hi=>by simp[bA5.1 hi]),List.length_range]):G:=h
theorem y4t (h:G:=by
 have p':=p.step hi hπ hr';have hlen:π.length=(π1++π2).length+1:=by rw[hπ];simp;omega
 have:=ih (π1++π2) _ (hist++t) T' h' p' dn (fun e=>by have:=hf0 e;omega) (fun e he=>by have:=hf1 e he;omega) E' w' a' s';exact wpAny_post (dQ (P:=P) (rd:=rd) (Post.of_fr (Q:=Q) hfr) k) fuel _ _ _ this):G:=h
theorem y4u (h:G:=by
 rw[bB1] at hj;split at hj
 ·exact hj
 ·cases hj):G:=h
theorem y4v (h:G:=by
 have hπ:π=[]:=bBp.1 (hf0 hfin).symm;subst hπ;refine⟨?_,J hfin T h d E w a s⟩;rw[List.eq_nil_iff_forall_not_mem];intro i hi;obtain⟨h0,o,ho,_⟩:=mem_ready.1 hi;rcases p.all i (bA8.1 ho).1 h0 with hm|⟨e,he,_⟩
 ·cases hm
 ·rw[hfin] at he;cases he):G:=h
theorem y4w (h:G:=by
 obtain⟨hl,e⟩:=aYv.1 hq;rw[<-e,List.set_getElem_self]):G:=h
theorem y4x (h:G:=by
 obtain⟨h0,o,ho,hall⟩:=mem_ready.1 hi;have hlt:i<ops.size:=(bA8.1 ho).1;obtain⟨o',e,ho',he,hb,hj,hon⟩:=p.edge i j hlt hp;rw[ho] at ho';cases ho';have hl:=listed_true_of_false (hall e he hb);rcases hj with rfl|hj
 ·exact hl
 ·exact p.closed e.on j hon hl hj):G:=h
theorem y4y (h:G:=by
 refine y21 ?_;refine Run.nil ?_;exact Fin.retM (h0:=H') (l:=[]) aA hF'.1 hM'.wf (aZ0 _).symm rfl rfl (Weak.refl _) rfl ⟨rfl,hM',hF'⟩):G:=h
theorem y4z (h:G:=by
 have h2:(e::π).length<=(List.range ops.size).length:=by
  apply bBt (bAc.2 ⟨(p.last e rfl).1,p.nodup⟩);intro i hi;rcases aZg.1 hi with rfl|hi
  ·exact bA5.2 (p.finU _ rfl).1
  ·exact bA5.2 (p.mem i hi).1
 simp at h2;omega):G:=h
theorem y50 (h:G:=by
 refine yl ?_;refine Fin.ret' (h0:=h) (xs:=[.agg [.p (iP 4), .p (iP i), .p (sP nm), .p (.sl 2 (aW ls)), .p (.sl 5 (aL ks))], .p (.prim (.slice none 0 0))]) aA rfl hh rfl aA rfl (Weak.tup (WeakL.cons (Weak.refl _) (WeakL.cons (Weak.nil 5) WeakL.nil))) aA ⟨by simp[aL],rfl⟩):G:=h
theorem y51 (h:G:=by
 refine yl ?_;refine Fin.ret' (h0:=h) (xs:=[.agg [.p (iP k), .p (iP i), .p (sP nm), .p (.sl 2 (aW ls)), .p (.sl 5 (aL ks))], .p (.prim (.slice none 0 0))]) aA rfl hh rfl aA rfl (Weak.tup (WeakL.cons (Weak.refl _) (WeakL.cons (Weak.nil 5) WeakL.nil))) aA ⟨by simp[aL],rfl⟩):G:=h
theorem y52 (h:G:=by
 refine Run.keep [0,1,2,8,18,19,20] ?_;refine ye ?_;simp;refine IH (j+1,false) _ _ (by simp only;omega) (by simp only;omega) ?_ aA;exact zS):G:=h
theorem y53 (h:G:=by
 refine zL (c2 _ hh) ?_;refine zox ?_;refine zF4 hh ?_;exact⟨by simp,rfl⟩):G:=h
theorem y54 (h:G:=by
 rw[bAt,if_neg hne] at this;have e':Heap.at (h.set id none) i=some o:=this▸e;unfold Heap.at at e'⊢
 by_cases c:id=i
 ·subst c;rw[List.getElem?_set_self'] at e'
  cases hh:h[id]?<;>simp[hh] at e'
 ·rw[aZk c] at e';exact⟨e',fun q=>c q.symm⟩):G:=h
theorem y55 (h:G:=by
 rw[hz] at c3;simp only[Tm.av,aH,List.map] at c3;refine kL k8' ?_;refine zL (c3 _ (hG2.app aA)) ?_;refine zox ?_;refine zF6 hG2 ?_;exact⟨by simp[Tm.kind,hz,Tm.av,aH],hGs c'⟩):G:=h
theorem y56 (h:G:=by
 rcases aZg.1 h with rfl|h
 ·omega
 ·have:=ih h;omega):G:=h
theorem y57 (h:G:=by
 refine zA ?_;refine zF2 hh ?_;exact⟨by rw[<-hz];rfl,rfl⟩):G:=h
theorem y58 (h:G:=by
 rw[dL (aH6 (t:=Tm.mk 8 p1 p2 p3 p4) (by simp[Tm.kind]))] at this;exact this (.inr rfl)):G:=h
theorem y59 (h:G:=by
 refine zA ?_;refine zF2 hh ?_;exact⟨by rw[this];rfl,rfl⟩):G:=h
theorem y5a (h:G:=by
 refine aAc ?_;refine Run.keep [0,1,2,10,47,48,49] ?_;refine yf ?_;refine Run.cutAt 2 hh rfl aB aA aA (by simp;exact hdu _) (by simp[iL]) ?_;simp;refine IH2 (jj+1) _ _ ⟨by omega,by rw[bK,hallj,hb2];rfl⟩ aB ?_ aA;exact zS):G:=h
theorem y5b (h:G:=by exact pure (by simp[execOp,e1]) e2 rfl rfl):G:=h
theorem y5c (h:G:=by
 refine Go.AI.ct aA (nv ?_);refine yc ?_;refine y9 ?_;refine znx ?_;exact Fin.ret' (h0:=h) (xs:=[.agg zTm, .p (.prim (.slice none 0 0)),bA false, .agg zTm]) aA rfl hh rfl aA rfl aTo (lZ _ _) ⟨⟨_,rfl⟩,(dO hq).symm⟩):G:=h
theorem y5d (h:G:=by
 by_cases e:j=i
 ·subst e;simp[hi]
 ·simp[e,Array.getElem?_setIfInBounds_ne (Ne.symm e)]):G:=h
theorem y5e (h:G:=by
 simp only[Rep];exact⟨⟨none,0,0⟩,by simp,aYw _,none,0,rfl,aYw _, .inl trivial,fun _=>⟨rfl,rfl⟩⟩):G:=h
theorem y5f (h:G:=by
 refine oR ?_;intro v hv;obtain⟨l,hl,hv⟩:=List.mem_flatten.1 hv;rw[(bBo.1 hl).2] at hv;exact hprim v hv):G:=h
theorem y5g (h:G:=by exact Fin.ret' aA rfl hh rfl rfl rfl (Weak.refl _) rfl ⟨by rw[<-hH];rfl,rfl⟩):G:=h
theorem y5h (h:G:=by exact hY ho (by rw[hsv,hxv];exact hrun)):G:=h
theorem y5i (h:G:=by
 rcases hO i b' h1 with ⟨e1,e2⟩|⟨e1,e2,o1⟩<;>rcases hO i' b' h2 with ⟨e3,e4⟩|⟨e3,e4,o2⟩
 ·rw[e1,e3]
 ·subst e2;exact absurd (r.inj _ _ _ o2 hown) e4
 ·subst e4;exact absurd (r.inj _ _ _ o1 hown) e2
 ·exact r.inj i i' b' o1 o2):G:=h
theorem y5j (h:G:=by
 refine IH (j+1) _ _ aB aB ?_ rfl;exact zS):G:=h
theorem y5k (h:G:=by
 have hπ1:π1=[]:=by
  cases π1 with
  |nil=>rfl
  |cons j π1=>
   obtain⟨oi,oj,hoi,_,_,hEi,_⟩:=hloose j aA;rw[hoi] at hE;simp[hEi] at hE
 subst hπ1;simp only[aZ3,Ranked,hE,if_true] at hrk⊢;exact hrk.2):G:=h
theorem y5l (h:G:=by
 rcases ho with ⟨c,h1,h3,h2⟩|⟨c,x,c',m,h1,hk,h2⟩
 ·have e:=hne _ _ h1;rw[hold id' e] at h1;exact⟨e, .inl ⟨c,h1,h3,h2⟩⟩
 ·have e:=hne _ _ h1;rw[hold id' e] at h1;exact⟨e, .inr ⟨c,x,c',m,h1,hk,h2⟩⟩):G:=h
theorem y5m (h:G:=by
 refine dJ he ?_;refine IH (j+1) _ _ ⟨by omega,hgo he⟩ aB ?_ rfl;exact zS):G:=h
theorem y5n (h:G:=by
 refine aUr ?_;exact Fin.ret' (h0:=h) aA rfl hh rfl aE rfl (Weak.refl _) (by simp[Oc.av]) ⟨rfl,rfl⟩):G:=h
theorem y5o (h:G:=by exact Fin.ret' (h0:=h) aA rfl hh rfl aE rfl (Weak.refl _) aA ⟨by simp[Tr.cells,dX],rfl⟩):G:=h
theorem y5p (h:G:=by
 refine hJ _ ?_;exact zS):G:=h
theorem y5q (h:G:=by
 unfold looseB at h;split at h
 ·rename_i oi oj hi hj;simp only[aZ7,aZz,bAd,aZh] at h;exact⟨oi,oj,hi,hj,h.1.1,h.1.2,fun he=>h.2.resolve_left (by rw[he];simp)⟩
 ·cases h):G:=h
theorem y5r (h:G:=by
 have:=dV dc l [] (by rw[hl',hdl']);simpa only[aZ0] using this):G:=h
theorem y5s (h:G:=by exact Fin.ret' (h0:=h) (xs:=[.agg zDcA,iA 0,bA false]) aA rfl hh rfl aA rfl (y:= .tup [zDc.av,iA 0,bA false]) (Weak.tup (WeakL.cons oB (WeakL.refl _))) (by simp[zDc,Dc.av,Dc.cells,zT]) ⟨rfl,rfl⟩):G:=h
theorem y5t (h:G:=by
 refine Go.AI.ct aA (nv ?_);refine zrx ?_;exact Fin.ret' (h0:=h) (xs:=[iA 0, .p (.prim (.slice none 0 0)),iA 6]) aA rfl hh (aZ0 _).symm aA rfl (qW 0 6) (by simp[mtA]) ⟨rfl,hss.symm,hc⟩):G:=h
theorem y5u (h:G:=by
 have hsp:=fM (Tm.mk (aG t).1.kind 0 [] [] [p]) (aG t).2;rw[dL (show isB 4 (Tm.mk (aG t).1.kind 0 [] [] [p])=none from rfl)] at hsp;rw[hsp] at h4;have h5:(aG t).1.kind=3:=h4;omega):G:=h
theorem y5v (h:G:=by
 refine y9 ?_;refine znr ?_;have htk:ls.take (j+1)=ls.take j++[ls[j]]:=aZ5 hjl;refine y2h ?_;refine IH (j+1) _ _ aB aB ?_ ?_
 ·exact zS
 ·rw[htk,aMe];simp[Lv.cells]):G:=h
theorem y5w (h:G:=by
 apply bAi;intro j;refine y2b ?_;split
 ·rename_i e;subst e;rcases bAh slot a.tmps.size with l|l
  ·simp[l] at hv⊢;exact hv.symm
  ·have l':¬slot<a.tmps.size:=by omega
   simp[l']
 ·rfl):G:=h
theorem y5x (h:G:=by
 have hje:j=ks.length:=by omega
 subst hje;rw[aZl];have hd2:=fJ ks;refine dP ?_;refine zA ?_;refine Fin.ret' aA rfl hh rfl rfl rfl (Weak.refl _) rfl ⟨by simp[Tm.depth],rfl⟩):G:=h
theorem y5y (h:G:=by
 repeat (first|refine Run.skip ?_|refine Run.opsNil ?_|refine Run.inBlock ?_)
 refine hJ _ ?_;rw[hrb];exact zS):G:=h
theorem y5z (h:G:=by
 refine⟨_,_,_,_,_,_,rfl,rfl,rfl,by simp,rfl,(c2 _ (hGw.app aA)),?_⟩;intro T' hT;exact Fin.panA (h0:=List.set G q (dU env s')) aA (hGw.set aA) aE rfl ⟨rfl,hGs s'⟩):G:=h
theorem y60 (h:G:=by
 by_cases hk:k=4
 ·refine .inr ⟨hk,?_⟩;subst hk
  match ks,hb with
  |[],_=>rfl
  |[_],_=>rfl
  |[_,_],hb=>simp[isB] at hb
  |_::_::_::q,_=>simp;omega
 ·exact .inl (by simpa using hk)):G:=h
theorem y61 (h:G:=by simpa only[aZ0] using this):G:=h
theorem y62 (h:G:=by
 have:=hreps.get off;simp only[List.getD,hs,aZb,aYu (show off<vs.length by omega),Rep,RepP] at this;rw[aYu (show off<vs.length by omega),this.1]):G:=h
theorem y63 (h:G:=by
 rw[if_pos hl] at hJ;refine nv ?_;refine cf (by simp[hl']) ?_
 repeat (first|refine Run.skip ?_|refine Run.opsNil ?_|refine Run.inBlock ?_)
 refine Run.keep [2,3] ?_;refine yr ?_;refine hJ _ ?_ rfl;exact zS):G:=h
theorem y64 (h:G:=by
 simp only[gU,bA1,aZb,Tm.av,aH,List.map];exact Weak.tup (WeakL.cons (Weak.refl _) (WeakL.cons (Weak.own _ _ _) (WeakL.cons (Weak.refl _) (WeakL.cons Weak.zT WeakL.nil))))):G:=h
theorem y65 (h:G:=by
 refine dJ hx ?_;refine IH (j+1) _ _ ⟨by omega,?_⟩ aB ?_ rfl
 ·rw[htk];intro c hc';rcases aZn.1 hc' with h1|h1
  ·exact hall c h1
  ·simp at h1;rw[h1];exact hx
 ·exact zS):G:=h
theorem y66 (h:G:=by
 refine zL (c2 _ (hh.app aA)) ?_
 cases b2<;>cases fb<;>(
  refine zox ?_;refine zF1 hh ?_;exact⟨by rw[hr];simp,rfl⟩)):G:=h
theorem y67 (h:G:=by
 have e:=e2 hEj;subst e;have hl:=hrank hEj;rw[List.drop_append_of_le_length hl] at h4;exact⟨h4 h (List.mem_append_right _ aA),stab_iff.2 fun g hg=>h4 g (bAk _ hg)⟩):G:=h
theorem y68 (h:G:=by
 have hpw:=p.pair;rw[hπ,List.pairwise_append] at hpw;rcases hpw.2.2 j hj i aA with hp|hp
 ·have:=p.below hi hp;rw[(p.mem j (by rw[hπ];simp[hj])).2] at this;cases this
 ·exact hp):G:=h
theorem y69 (h:G:=by
 simp only[Rep];exact⟨⟨some w.heap.size,grownCap w ys.length 0 e,([]:List (List PV)).length+ys.length⟩,by simp,by simp,_,grownCap w ys.length 0 e,by simp,fun _=>⟨rfl,rfl⟩⟩):G:=h
theorem y6a (h:G:=by
 refine yq ?_;refine IH ⟨.mk z0 z1 z2 z3 z4,s',m⟩ _ _ ⟨hgin,by simp only;omega,by simp only;omega,by simp only;omega,hWe⟩ (by simp only;omega) ?_ ?_
 ·exact zS
 ·simp[whG,hGs]):G:=h
theorem y6b (h:G:=by
 simp only[aAd] at hout;obtain⟨v,rfl,hx⟩:=hout;have:=hret x h' hr E' w' _ (s'.put hx o.dst);exact dQ (P:=P) (rd:=rd) (Post.of_fr (Q:=Q) hfr) (.ops all rest::k) _ _ _ this):G:=h
theorem y6c (h:G:=by
 simp only[aAd] at hout;obtain⟨v,rfl,hx⟩:=hout;show K P rd (Post nb Q E h w) k (.panic _) a w';rw[mU];exact⟨E',T,h',D, .panic x,hpan x h' hr,s',hfr.toN _,v,rfl,hx⟩):G:=h
theorem y6d (h:G:=by
 have hh:=jI news (cur.take (es.length*sz)) (cur.drop (es.length*sz)) 0;rw[bA4,aZm,bAb aB,bB6] at hh;exact hh):G:=h
theorem y6e (h:G:=by
 rw[htk,aE4];simp
 repeat' first|exact wn|apply wc
 all_goals first|exact Weak.junk _|exact Weak.refl _|exact Weak.int aB|(refine Weak.int ?_;split<;>omega)):G:=h
theorem y6f (h:G:=by
 have hr2:=hfull (by rw[hrn]);rw[hrn] at hr2;refine zotx ?_;exact Fin.ret' (h0:=B s2') aA (by rw[hlen,hlen]) (hwf _) rfl rfl rfl (Weak.refl _) rfl ⟨rfl,by rw[hr2]⟩):G:=h
theorem y6g (h:G:=by rename_i hc;exact absurd h0 hc):G:=h
theorem y6h (h:G:=by
 rcases p.all i hlt h0 with hm|⟨e,he,hel,hle,hpe⟩
 ·exact .inl hm
 ·rcases hpe with rfl|hpe
  ·exact .inr he
  ·have:=p.below hi hpe;rw[hle] at this;cases this):G:=h
theorem y6i (h:G:=by
 simp only[Rep];exact⟨⟨some w.heap.size,grownCap w (es.length+ys.length) cap e,es.length+ys.length⟩,by simp,aYw _,_,_,rfl,fun _=>⟨rfl,rfl⟩⟩):G:=h
theorem y6j (h:G:=by
 refine IH (j+1,s2) _ _ (by simp only;omega) (by simp only;omega) ?_ aA;exact zS):G:=h
theorem y6k (h:G:=by repeat (first|exact WeakP.refl _|exact WeakP.nil _|exact WeakPs.nil|exact WeakPL.nil|refine WeakP.sl ?_|refine WeakPs.cons ?_ ?_|refine WeakPL.cons ?_ ?_)):G:=h
theorem y6l (h:G:=by
 rw[dL (aH6 (t:=p) (by rw[k8'];decide))] at this;exact this (.inr k8')):G:=h
theorem y6m (h:G:=by
 refine⟨oi,hi,?_⟩;rcases hx with ⟨h1,rfl⟩|⟨h1,h2,h3⟩
 ·exact .inl ⟨h1,by simpa [hE] using hdj⟩
 ·exact .inr (.inl ⟨h1,hE,x,h2,h3,hdj⟩)):G:=h
theorem y6n (h:G:=by
 rcases h6 with h6|⟨id,cap,e1,e2,e3,e4,e5⟩
 ·exact .inl h6
 ·exact .inr ⟨id,cap,e1,by rw[aZk aB];exact e2,e3,e4,e5⟩):G:=h
theorem y6o (h:G:=by
 refine⟨E,w', .skip,undef,by simp[execOp,e1], .inr ⟨rfl,rfl⟩,e2,by rw[e4];exact s.fresh,?_,e3⟩;simp only[Rep,RepL];exact⟨[],rfl,rfl⟩):G:=h
theorem y6p (h:G:=by exact Fin.ret' (h0:=h) (xs:=[.agg zTm,bA false]) aA rfl hh rfl aA rfl (Weak.tup (WeakL.cons Weak.zT (WeakL.refl _))) aA ⟨rfl,rfl⟩):G:=h
theorem y6q (h:G:=by exact Weak.agg (WeakL.cons (Weak.refl _) (WeakL.cons (Weak.refl _) (WeakL.cons (Weak.refl _) (WeakL.cons (Weak.nil _) (WeakL.cons (Weak.nil _) WeakL.nil)))))):G:=h
theorem y6r (h:G:=by exact WeakPL.cons (WeakP.refl _) (WeakPL.cons (WeakP.refl _) (WeakPL.cons (WeakP.refl _) (WeakPL.cons (WeakP.nil _) (WeakPL.cons (WeakP.nil _) WeakPL.nil))))):G:=h
theorem y6s (h:G:=by refine Fin.ret' (h0:=h) (xs:=[.agg zTm,iA 7]) aA rfl hh rfl aA rfl (Weak.tup (WeakL.cons Weak.zT (WeakL.refl _))) aA ⟨rfl,rfl⟩):G:=h
theorem y6t (h:G:=by exact Fin.ret' (h0:=h) (xs:=[iA 0, .p (.prim (.slice none 0 0)),iA 6]) aA rfl hh rfl aA rfl (qW 0 6) (by simp[mtA]) ⟨rfl,rfl⟩):G:=h
theorem y6u (h:G:=by
 refine zot ?_;refine zA ?_;refine zF3 hh ?_;exact⟨⟨_,rfl,fun h=>by cases h⟩,rfl⟩):G:=h
theorem y6v (h:G:=by
 refine zL (c2 _ (hh.app aA)) ?_;refine zox ?_;refine zF1 hh ?_;exact⟨by simp,rfl⟩):G:=h
theorem y6w (h:G:=by
 rw[e] at w1 w2;have s2:=s'.move w2 w1 (by simpa using t3);exact dQ (P:=P) (rd:=rd) (Post.of_fr (Q:=Q) (t2.trans w2)) k _ _ _ (r _ w a s2)):G:=h
theorem y6x (h:G:=by
 cases fb<;>(
  refine aOs ?_;refine zF1 hh ?_;exact⟨by rw[hr];simp,rfl⟩)):G:=h
theorem y6y (h:G:=by simpa using this):G:=h
theorem y6z (h:G:=by exact dQ (P:=P) (rd:=rd) (Post.of_fr (Q:=Q) f2) k _ _ _ (r _ w a ⟨s'.rel,s'.fresh,hset s'.tmps (by rw[hv];exact hx),s'.defers⟩)):G:=h
theorem y70 (h:G:=by
 refine Weak.agg ?_;exact zK):G:=h
theorem y71 (h:G:=by exact⟨v,e1, .ret y,h2.take m,E2.cut m,hR,r2.cut m hh,Fresh.cut E2 hm2,⟨v,rfl,x2.cut hy⟩,(hfr1.trans (g2.toN _)).cut hfresh hm⟩):G:=h
theorem y72 (h:G:=by
 simp only[aZg,aZe,List.not_mem_nil,or_false] at hp;rcases hp with ⟨rfl,rfl⟩|⟨rfl,rfl⟩
 ·exact h1
 ·exact h2):G:=h
theorem y73 (h:G:=by
 rw[hx] at h3;obtain⟨h4,h5,h6⟩:=h3;exact⟨h4,fun hy=>by have h7:=h5 hy;have h8:=k2 h7.1;exact⟨h8.1,by omega⟩,h6⟩):G:=h
theorem y74 (h:G:=by
 obtain⟨j,hj⟩:=bAl hx;obtain⟨e,hej,hek⟩:=hbw j x hj;exact h2 e (aZ9 hej) (by rw[hek,hc])):G:=h
theorem y75 (h:G:=by
 obtain⟨m,rfl⟩:∃m,n=m+1:=⟨n-1,by omega⟩;simp;omega):G:=h
theorem y76 (h:G:=by
 simp only[AOut.panic.injEq] at hv;subst hv;exact Fin.panA (h0:=h.set q (dU env s')) aA (hh.set aA) rfl rfl ⟨rfl,rfl⟩):G:=h
theorem y77 (h:G:=by
 refine IH (j+1) _ _ ⟨by omega,hgo⟩ aB ?_ aA;exact zS):G:=h
theorem y78 (h:G:=by exact Fin.ret' (h0:=h) (xs:=[.agg zTm,bA false]) aA rfl hh rfl aA rfl aEn (aMx _) ⟨rfl,(dO hq).symm⟩):G:=h
theorem y79 (h:G:=by
 rcases Nat.eq_zero_or_pos j with e|e
 ·exact .inr e
 ·exact .inl ⟨_,e,aYu (show j-1<vs.length by omega)⟩):G:=h
theorem y7a (h:G:=by
 simp only[isB] at hb;split at hb
 ·rename_i hk
  injection hb with hb;injection hb with h1 h2
  exact⟨hk,by rw[h1,h2]⟩
 ·cases hb):G:=h
theorem y7b (h:G:=by exact⟨h0,bA6 _,fun h=>absurd rfl h⟩):G:=h
theorem y7c (h:G:=by
 rw[hsame] at hset;exact dQ (P:=P) (rd:=rd) (Post.of_fr (Q:=Q) f2) k _ _ _ (r _ w a ⟨s'.rel,s'.fresh,hset,s'.defers⟩)):G:=h
theorem y7d (h:G:=by
 unfold aS1 at hx;split at hx
 ·exact aZ9 hx
 ·cases hx):G:=h
theorem y7e (h:G:=by
 rw[bAt] at hj;exact⟨(hf j hj).1,by show(if j=id then _ else _)=_;rw[if_neg aB];exact(hf j hj).2⟩):G:=h
theorem y7f (h:G:=by
 obtain⟨a0,a1,a2,a3,a4,a5,a6,a7,a8,a9,a10,a11,a12,b0,b1,b2,b3,b4,b5,b6,b7,hsp⟩:=yI d;rw[hsp];rfl):G:=h
theorem y7g (h:G:=by
 unfold aIn at hfix;simp only[aZ7,aZf,aZh] at hfix;exact hfix.2 _ (aYx hjl)):G:=h
theorem y7h (h:G:=by
 rcases L.ready τ1 i τ2 hτ o ho e he hb with h|h
 ·rcases bAh e.on ops.size with hi|hi<;>simp[hi] at h
 ·exact h):G:=h
theorem y7i (h:G:=by
 simp only[bA0];omega):G:=h
theorem y7j (h:G:=by
 simp only[aYz,aZe] at ho;exact pure (v:=a.eval y) (by simp[execOp]) (aS s y) ho.1.symm ho.2.symm):G:=h
theorem y7k (h:G:=by
 refine zA ?_;refine zF3 hh ?_;exact⟨⟨_,rfl,trivial⟩,rfl⟩):G:=h
theorem y7l (h:G:=by
 rw[aSx] at e;split at e
 ·exact⟨by assumption,e⟩
 ·cases e):G:=h
theorem y7m (h:G:=by
 simp only[Rep,RepL,RepP];exact⟨[u, .bool true],rfl,u,[.bool true],rfl,hu, .bool true,[],rfl,⟨rfl,rfl⟩,rfl⟩):G:=h
theorem y7n (h:G:=by
 simp only[Rep];exact⟨⟨some g,cap,es.length+ys.length⟩,by simp,aYw _,_,_,rfl,fun _=>⟨rfl,rfl⟩⟩):G:=h
theorem y7o (h:G:=by
 refine(aFq env hg hf hA n t 20000 ht aD aD hne q H hw hq).mono fun o h' e=>?_
 rw[e1] at e;exact e):G:=h
theorem y7p (h:G:=by exact Fin.ret' (h0:=G) aA rfl hGw rfl aE rfl (Weak.refl _) aA ⟨by simp[kZ,Tm.av],hG.symm⟩):G:=h
theorem y7q (h:G:=by
 have h1:0<=n:=by omega
 simp[Instr.indexAt,asIntOf,run_underlying hu,Instr.sureAddr,h1,hlt,fL hsz,bL]):G:=h
theorem y7r (h:G:=by
 obtain⟨h1,h2⟩:=s.rel.of_heap (w':= {w with drawn:=w.drawn+1}) rfl rfl rfl;exact⟨s.move h2 h1 s.fresh,h2⟩):G:=h
theorem y7s (h:G:=by
 have:=h0.2 ho;unfold Kt.mu;rw[if_neg (by rw[ho];decide)];omega):G:=h
theorem y7t (h:G:=by
 refine y2k ?_;refine IH (j+1,s2') _ _ ⟨by simp only;omega,hrn,hl2 rfl⟩ (by simp only;omega) ?_ aA;exact zS):G:=h
theorem y7u (h:G:=by
 repeat (first|refine Run.skip ?_|refine Run.opsNil ?_|refine Run.inBlock ?_)
 refine hJ _ ?_;simp[c1,c2,c3];exact zK):G:=h
theorem y7v (h:G:=by
 rw[hd] at hne;have hds:d≠s:=fun e=>hne (by rw[e])
 simp only[tput,fD,List.getD,aZk hds]):G:=h
theorem y7w (h:G:=by exact Fin.ret' aA rfl hh (aZ0 _).symm rfl rfl (Weak.refl _) rfl ⟨by simp[zF,aQd hsn],rfl⟩):G:=h
theorem y7x (h:G:=by exact Fin.ret' (h0:=h) aA rfl hh rfl aE rfl (Weak.refl _) aA ⟨⟨_,rfl,trivial⟩,rfl⟩):G:=h
theorem y7y (h:G:=by exact⟨_,_,E,⟨rfl,rfl⟩,hrel,hfresh,⟨_,rfl,by simp[Rep,RepP,bH,Lib.join_nil]⟩,Fr.refl _ _ _⟩):G:=h
theorem y7z (h:G:=by exact Fin.ret' (h0:=h) aA rfl hh aE aE rfl (Weak.refl _) rfl (.inl ⟨rfl,rfl,rfl⟩)):G:=h
theorem y80 (h:G:=by
 repeat' first|exact wn|apply wc
 all_goals first|exact Weak.junk _|exact Weak.refl _|exact Weak.int aB):G:=h
theorem y81 (h:G:=by exact hstep _ _ 0 (uJ (dY hgi.head 2).1 (fun v hv=>by simp at hv;subst hv;exact(dY hgi.head 1).1))):G:=h
theorem y82 (h:G:=by
 rcases bAh i l.size with h'|h'
 ·simp[h'] at h⊢;exact h
 ·simp[Array.getElem?_eq_none h'] at h⊢):G:=h
theorem y83 (h:G:=by
 repeat (first|refine Run.skip ?_|refine Run.opsNil ?_|refine Run.inBlock ?_)
 refine hJ _ ?_;rw[hbk];exact zS):G:=h
theorem y84 (h:G:=by
 rw[hdc,List.all_map];exact aZf.2 fun _ _=>rfl):G:=h
theorem y85 (h:G:=by exact Fin.ret' (h0:=h) aA rfl hh rfl aE rfl (Weak.refl _) aA ⟨by simp[smA],rfl⟩):G:=h
theorem y86 (h:G:=by exact close x hx ⟨oj,hj, .inr (.inr (.inl ⟨by rw[o1];exact h1,h2,y,h',by rw[o2];exact h3,hn⟩))⟩):G:=h
theorem y87 (h:G:=by
 rcases hO i b' ho with ⟨_,e2⟩|⟨_,_,o⟩
 ·subst e2;exact .inl ⟨id,hown⟩
 ·exact .inl ⟨i,o⟩):G:=h
theorem y88 (h:G:=by
 rcases hs with h|⟨h1,h2⟩
 ·exact .inl h
 ·exact .inr ⟨h1,fun v hv=>h2 v (bA3 hv)⟩):G:=h
theorem y89 (h:G:=by
 refine IH (j+1) _ _ ⟨by omega,by rw[bK,hall,hok];simp[hle]⟩ aB ?_ aA;exact zS):G:=h
theorem y8a (h:G:=by exact Fin.ret' (h0:=h) (xs:=[.agg aWn,bA false]) aA rfl hh rfl aA rfl wk hzu ⟨rfl,rfl⟩):G:=h
theorem y8b (h:G:=by exact WeakL.cons (Weak.refl _) (WeakL.cons (Weak.refl _) (WeakL.cons (WeakP.sl (aRb mm)).av WeakL.nil))):G:=h
theorem y8c (h:G:=by
 have:=mP (List.toArray z) out.length;simp only[List.size_toArray,hzs] at this⊢;exact this):G:=h
theorem y8d (h:G:=by
 simp only[if_neg hz0,Sem.run_bind,hzr,Result.andThen_ok,Sem.run_pure,hzc];rw[hinit,e1];simp[newRow]):G:=h
theorem y8e (h:G:=by exact Fin.ret' (h0:=g) aA rfl hg rfl aE rfl (Weak.refl _) aA ⟨by simp,rfl⟩):G:=h
theorem y8f (h:G:=by exact⟨by decide,by decide,by decide,by decide,by decide,by decide,fun h=>absurd h aD⟩):G:=h
theorem y8g (h:G:=by
 rcases Nat.mul_eq_zero.1 hz0 with h|h
 ·exact h
 ·omega):G:=h
theorem y8h (h:G:=by exact hstep _ _ 1 (uJ (dY hgi.head 1).1 (fun v hv=>(hgi.args v (bA3 hv)).1))):G:=h
theorem y8i (h:G:=by obtain⟨l,h1⟩:=hat _ _ h1;simp only[Env.cut,l,if_true] at h2;exact .inl ⟨c,h1,h3,h2⟩):G:=h
theorem y8j (h:G:=by simp[Instr.fieldAt,run_underlying hu,hfd,Instr.sureAddr,fieldPlace,fL hn,hne,bL,ho]):G:=h
theorem y8k (h:G:=by have:=hw.all;rw[bB8,aZ7,aZ4,hlen] at this;exact this.2):G:=h
theorem y8l (h:G:=by exact Fin.panA (h0:=List.set h q (dU env s')) aA (hh.set aA) rfl rfl ⟨rfl,rfl⟩):G:=h
theorem y8m (h:G:=by exact dr_swap hi hj hap hE (fun hEj=>by simp only[hEj,if_true] at hr;have:=hlo hEj;omega) d1):G:=h
theorem y8n (h:G:=by
 rcases hs with h|⟨h1,h2⟩
 ·exact .inl h
 ·exact .inr ⟨h1,h2 v (aZ9 hi)⟩):G:=h
theorem y8o (h:G:=by exact ops1 h1 h3 fun E' w' a' hs hfr=>hk _ _ _ E' w' a' ⟨[],by simp,by simp[h2]⟩ h5 hs hfr):G:=h
theorem y8p (h:G:=by
 have er:Array.range 0=#[]:=rfl;simp only[hl0,Nat.zero_mul,if_true];simp[e1',newRow,er]):G:=h
theorem y8q (h:G:=by
 by_cases c2:n=[]/\qs=[]
 ·exact c2.2
 ·rw[if_neg c2] at hc;exact absurd hc aD):G:=h
theorem y8r (h:G:=by
 refine IH (j+1,false) _ _ ⟨by simp only;omega,hsn⟩ (by simp only;omega) ?_ rfl;exact zS):G:=h
theorem y8s (h:G:=by exact ops1 h1 h3 fun E' w' a' hs hfr=>hk _ _ _ E' w' a' ⟨[h],rfl,by simp[h2]⟩ h4 hs hfr):G:=h
theorem y8t (h:G:=by exact⟨none,0,rfl,aYw _, .inl trivial⟩):G:=h
theorem y8u (h:G:=by
 simp only[Rep];exact⟨w.heap.size,by simp,rfl⟩):G:=h
theorem y8v (h:G:=by
 simp (maxSteps:=1000000) [x1,x2,x3,x4];refine J _ (hJ _ ?_);simp[x1,x2,x3,x4];exact zK):G:=h
theorem y8w (h:G:=by
 have hlt:v.toNat<vars.length:=by omega
 rw[aYu hlt] at hi;cases hi):G:=h
theorem y8x (h:G:=by rw[aZ8 (by simpa using hql),aZk aB];exact hq):G:=h
theorem y8y (h:G:=by
 simp only[QO.bind] at hWe;exact absurd hWe.symm hne):G:=h
theorem y8z (h:G:=by
 simp only[WO.bind] at hWe;exact absurd hWe.symm hne):G:=h
theorem y90 (h:G:=by
 rw[hc] at h3;simp only[aZb] at h3;have:=aS0 _ _ _ _ _ _ hc;subst h3;omega):G:=h
theorem y91 (h:G:=by
 have:=hpa.1;simp only[Tm.wf,rP,pA] at this;exact this.1.2.2.2.2.2.2.2.2 trivial):G:=h
theorem y92 (h:G:=by
 refine⟨_,cap,rfl,hc,h.imp id ?_⟩;rintro⟨b,rfl,hh⟩;exact⟨b,0,rfl,hh⟩):G:=h
theorem y93 (h:G:=by
 repeat' first|exact wn|apply wc
 all_goals first|exact Weak.refl _|exact Weak.junk _):G:=h
theorem y94 (h:G:=by exact .inr (.inr (.inl ⟨h1,h2,x,h',h3,hn _ _ _ ⟨[h],rfl,by simp[h2]⟩ h4⟩))):G:=h
theorem y95 (h:G:=by exact Fin.pan (h0:=B w2++l) (by simp[hlen]) (hwB w2) aE (by simp[iZ])):G:=h
theorem y96 (h:G:=by
 rw[L.mem,iM];constructor
 ·exact fun h=>h.1
 ·exact fun h=>⟨h,by simp[h]⟩):G:=h
theorem y97 (h:G:=by rw[bAg,bB3,hg];rfl):G:=h
theorem y98 (h:G:=by rw[aZf] at hl0⊢;exact fun o ho=>AO.under_mono aB (hl0 o ho)):G:=h
theorem y99 (h:G:=by
 cases eF pc i o
 ·exact⟨[],by simp,by simp⟩
 ·exact⟨[h],by simp,by simp⟩):G:=h
theorem y9a (h:G:=by exact .inr (.inl ⟨h1,h2,x,h3,h4,hn _ _ _ ⟨[],by simp,by simp[h2]⟩ h5⟩)):G:=h
theorem y9b (h:G:=by
 rw[hsp] at h;have h':(aG t).1.kind=3\/(aG t).1.kind=8:=h;omega):G:=h
theorem y9c (h:G:=by
 unfold Heap.at at hcid⊢;rw[aZk (fun q=>hne q.symm)];exact hcid):G:=h
theorem y9d (h:G:=by
 cases isE o.op
 ·exact⟨[],by simp,by simp⟩
 ·exact⟨[h],by simp,by simp⟩):G:=h
theorem y9e (h:G:=by exact gA (dQ (P:=P) (rd:=rd) (Post.of_fr (Q:=Q) hfr) k) τ _ _ this):G:=h
theorem y9f (h:G:=by
 obtain⟨m,rfl⟩:∃m,n=m+1:=⟨n-1,by omega⟩;exact h2 m aB):G:=h
theorem y9g (h:G:=by rcases h with ⟨o,h,_⟩|⟨n,sz,c,m,h,_⟩<;>(rw[aAk] at h;cases h)):G:=h
theorem y9h (h:G:=by simp only[if_pos hl];exact Ev.const aA):G:=h
theorem y9i (h:G:=by
 rw[he] at hb⊢;simp only[uptoBulk] at hb⊢;have:=aRk hG aB;omega):G:=h
end Go.AI
