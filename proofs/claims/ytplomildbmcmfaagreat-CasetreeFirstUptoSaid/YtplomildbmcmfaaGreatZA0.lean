/- Words for what recurs: each does the tactics that stand in it. -/
import Derived.KernelRfl
namespace Go.AI
structure Bx (Z:Prop):Prop where
 o:Z
variable {G Z:Prop}
theorem aA (h:G:=by simp):G:=h
theorem aB (h:G:=by omega):G:=h
theorem aC (h:G:=by kernel_rfl):G:=h
theorem aD (h:G:=by decide):G:=h
theorem aE (h:G:=by simp;rfl):G:=h
theorem aF (h:G:=by first|rfl|simp):G:=h
theorem bLv:type_of%@List.getElem?_eq_getElem.{0} :=@List.getElem?_eq_getElem
theorem bLw:type_of%@List.getElem?_eq_some_iff.{0} :=@List.getElem?_eq_some_iff
theorem bLx:type_of%@Nat.le_refl:=@Nat.le_refl
theorem bLy:type_of%@List.getElem_mem.{0} :=@List.getElem_mem
theorem bLz:type_of%@List.cons_append.{0} :=@List.cons_append
theorem bM0:type_of%@Option.some.injEq.{0} :=@Option.some.injEq
theorem bM1:type_of%@List.append_nil.{0} :=@List.append_nil
theorem bM2:type_of%@List.length_cons.{0} :=@List.length_cons
theorem bM3:type_of%@List.length_nil.{0} :=@List.length_nil
theorem bM4:type_of%@List.nil_append.{0} :=@List.nil_append
theorem bM5:type_of%@List.length_append.{0} :=@List.length_append
theorem bM6:type_of%@List.take_succ_eq_append_getElem.{0} :=@List.take_succ_eq_append_getElem
theorem bM7:type_of%@List.take_of_length_le.{0} :=@List.take_of_length_le
theorem bM8:type_of%@Bool.and_eq_true:=@Bool.and_eq_true
theorem bM9:type_of%@List.getElem?_append_left.{0} :=@List.getElem?_append_left
theorem bMa:type_of%@List.mem_of_getElem?.{0} :=@List.mem_of_getElem?
theorem bMb:type_of%@Option.map_eq_some_iff.{0,0} :=@Option.map_eq_some_iff
theorem bMc:type_of%@Option.getD_some.{0} :=@Option.getD_some
theorem bMd:type_of%@List.map_cons.{0,0} :=@List.map_cons
theorem bMe:type_of%@Bool.false_eq_true:=@Bool.false_eq_true
theorem bMf:type_of%@Prod.mk.injEq.{0,0} :=@Prod.mk.injEq
theorem bMg:type_of%@List.all_eq_true.{0} :=@List.all_eq_true
theorem bMh:type_of%@List.mem_cons.{0} :=@List.mem_cons
theorem bMi:type_of%@decide_eq_true_eq:=@decide_eq_true_eq
theorem bMj:type_of%@List.append_assoc.{0} :=@List.append_assoc
theorem bMk:type_of%@Int.toNat_natCast:=@Int.toNat_natCast
theorem bMl:type_of%@List.getElem?_set_ne.{0} :=@List.getElem?_set_ne
theorem bMm:type_of%@List.take_length.{0} :=@List.take_length
theorem bMn:type_of%@List.length_take.{0} :=@List.length_take
theorem bMo:type_of%@List.mem_append.{0} :=@List.mem_append
theorem bMp:type_of%@List.length_map.{0,0} :=@List.length_map
theorem bMq:type_of%@List.set_append_left.{0} :=@List.set_append_left
theorem bMr:type_of%@List.mem_map.{0,0} :=@List.mem_map
theorem bMs:type_of%@List.getElem?_cons_succ.{0} :=@List.getElem?_cons_succ
theorem bMt:type_of%@Bool.eq_iff_iff:=@Bool.eq_iff_iff
theorem bMu:type_of%@List.getElem?_cons_zero.{0} :=@List.getElem?_cons_zero
theorem bMv:type_of%@List.take_succ_cons.{0} :=@List.take_succ_cons
theorem bMw:type_of%@Nat.zero_add:=@Nat.zero_add
theorem bMx:type_of%@List.take_append_of_le_length.{0} :=@List.take_append_of_le_length
theorem bMy:type_of%@List.map_append.{0,0} :=@List.map_append
theorem bMz:type_of%@List.cons.injEq.{0} :=@List.cons.injEq
theorem bN0:type_of%@Bool.not_eq_true':=@Bool.not_eq_true'
theorem bN1:type_of%@List.length_drop.{0} :=@List.length_drop
theorem bN2:type_of%@Option.map_some.{0,0} :=@Option.map_some
theorem bN3:type_of%@List.replicate_succ.{0} :=@List.replicate_succ
theorem bN4:type_of%@List.mem_of_mem_take.{0} :=@List.mem_of_mem_take
theorem bN5:type_of%@List.take_append_drop.{0} :=@List.take_append_drop
theorem bN6:type_of%@List.mem_range:=@List.mem_range
theorem bN7:type_of%@Int.le_refl:=@Int.le_refl
theorem bN8:type_of%@List.getElem?_append_right.{0} :=@List.getElem?_append_right
theorem bN9:type_of%@Array.getElem?_eq_some_iff.{0} :=@Array.getElem?_eq_some_iff
theorem bNa:type_of%@List.flatten_cons.{0} :=@List.flatten_cons
theorem bNb:type_of%@List.map_nil.{0,0} :=@List.map_nil
theorem bNc:type_of%@Nat.min_eq_left:=@Nat.min_eq_left
theorem bNd:type_of%@List.nodup_cons.{0} :=@List.nodup_cons
theorem bNe:type_of%@Bool.or_eq_true:=@Bool.or_eq_true
theorem bNf:type_of%@List.set_append_right.{0} :=@List.set_append_right
theorem bNg:type_of%@Option.some.inj.{0} :=@Option.some.inj
theorem bNh:type_of%@List.take_add_one.{0} :=@List.take_add_one
theorem bNi:type_of%@Nat.lt_or_ge:=@Nat.lt_or_ge
theorem bNj:type_of%@List.ext_getElem?.{0} :=@List.ext_getElem?
theorem bNk:type_of%@Nat.mul_le_mul_right:=@Nat.mul_le_mul_right
theorem bNl:type_of%@List.mem_append_left.{0} :=@List.mem_append_left
theorem bNm:type_of%@List.getElem?_of_mem.{0} :=@List.getElem?_of_mem
theorem bNn:type_of%@Bool.or_eq_false_iff:=@Bool.or_eq_false_iff
theorem bNo:type_of%@List.drop_length.{0} :=@List.drop_length
theorem bNp:type_of%@decide_eq_false_iff_not:=@decide_eq_false_iff_not
theorem bNq:type_of%@List.mem_of_mem_drop.{0} :=@List.mem_of_mem_drop
theorem bNr:type_of%@List.mem_cons_of_mem.{0} :=@List.mem_cons_of_mem
theorem bNs:type_of%@Nat.le_trans:=@Nat.le_trans
theorem bNt:type_of%@List.append_of_mem.{0} :=@List.append_of_mem
theorem bNu:type_of%@List.length_set.{0} :=@List.length_set
theorem bNv:type_of%@List.drop_eq_getElem_cons.{0} :=@List.drop_eq_getElem_cons
theorem bNw:type_of%@List.eq_nil_of_length_eq_zero.{0} :=@List.eq_nil_of_length_eq_zero
theorem bNx:type_of%@List.length_pos_iff.{0} :=@List.length_pos_iff
theorem bNy:type_of%@List.length_singleton.{0} :=@List.length_singleton
theorem bNz:type_of%@List.getElem?_eq_none.{0} :=@List.getElem?_eq_none
theorem bO0:type_of%@Nat.add_assoc:=@Nat.add_assoc
theorem bO1:type_of%@List.set_cons_zero.{0} :=@List.set_cons_zero
theorem bO2:type_of%@List.getElem?_take.{0} :=@List.getElem?_take
theorem bO3:type_of%@Nat.add_mul:=@Nat.add_mul
theorem bO4:type_of%@List.getElem?_map.{0,0} :=@List.getElem?_map
theorem bO5:type_of%@List.drop_succ_cons.{0} :=@List.drop_succ_cons
theorem bO6:type_of%@Bool.false_or:=@Bool.false_or
theorem bO7:type_of%@Nat.add_zero:=@Nat.add_zero
theorem bO8:type_of%@Bool.not_false:=@Bool.not_false
theorem bO9:type_of%@List.all_append.{0} :=@List.all_append
theorem bOa:type_of%@List.flatten_append.{0} :=@List.flatten_append
theorem bOb:type_of%@Array.ext'.{0} :=@Array.ext'
theorem bOc:type_of%@List.set_cons_succ.{0} :=@List.set_cons_succ
theorem bOd:type_of%@List.take_zero.{0} :=@List.take_zero
theorem bOe:type_of%@Array.all_eq_true_iff_forall_mem.{0} :=@Array.all_eq_true_iff_forall_mem
theorem bOf:type_of%@List.contains_iff_mem.{0} :=@List.contains_iff_mem
theorem bOg:type_of%@not_true_eq_false:=@not_true_eq_false
theorem bOh:type_of%@List.foldl_append.{0,0} :=@List.foldl_append
theorem bOi:type_of%@List.getElem?_eq_none_iff.{0} :=@List.getElem?_eq_none_iff
theorem bOj:type_of%@Array.getElem?_eq_getElem.{0} :=@Array.getElem?_eq_getElem
theorem bOk:type_of%@List.any_eq_true.{0} :=@List.any_eq_true
theorem bOl:type_of%@Array.length_toList.{0} :=@Array.length_toList
theorem bOm:type_of%@Nat.succ_mul:=@Nat.succ_mul
theorem bOn:type_of%@Nat.add_comm:=@Nat.add_comm
theorem bOo:type_of%@Bool.not_true:=@Bool.not_true
theorem bOp:type_of%@List.mem_replicate.{0} :=@List.mem_replicate
theorem bOq:type_of%@List.length_eq_zero_iff.{0} :=@List.length_eq_zero_iff
theorem bOr:type_of%@List.map_map.{0,0,0} :=@List.map_map
theorem bOs:type_of%@Bool.true_or:=@Bool.true_or
theorem bOt:type_of%@Array.getElem?_toList.{0} :=@Array.getElem?_toList
theorem bOu:type_of%@List.Nodup.length_le_of_subset.{0} :=@List.Nodup.length_le_of_subset
theorem bOv:type_of%@Option.getD_none.{0} :=@Option.getD_none
theorem y6 (g:Z)(h:Bx Z->G:=by
 intro g;simp only[setMany,keepT,keepT.go,List.contains_cons,bOc,bO1];exact g.o):G:=h ⟨g⟩
theorem y7 (g:Z)(h:Bx Z->G:=by
 intro g;try (simp (disch:=omega) only[wrap_id])
 refine J _ ?_;simp;exact g.o):G:=h ⟨g⟩
theorem y8 (g:Z)(h:Bx Z->G:=by
 intro g;change Run _ _ _ _ _ _ _ _;exact g.o):G:=h ⟨g⟩
theorem y9 (g:Z)(h:Bx Z->G:=by
 intro g;refine zp ?_;refine NB.DR.opM rfl rfl (by simp[awanted]) hstill (NB.NStep.buildV (sz:=6) (es:=[[.sl 3 (ptPs (List.replicate N zP)),iP 0,iP x,sP [], .sl 2 (lvPs []), .sl 5 (tmPs [])]]) rfl aA aA) ⟨_,_,rfl,rfl⟩ ?_;exact g.o):G:=h ⟨g⟩
theorem ya (g:Z)(h:Bx Z->G:=by
 intro g;refine nv ?_;refine Run.draw [0,0,0,0,0,0,0,0,0,0,0,0,0,0,0,1,1] [0,0,0,0,0,0,0,0,0,0,0,0,0,0,0,0,0] [0,1,3,7,15,31,63,127,255,511,1023,2047,511,4607,12799,32767,65535] [0,1,2,3,4,5,6,7,8,12,13,14,9,10,11,15,16] aC aC ?_;exact g.o):G:=h ⟨g⟩
theorem yb (g:Z)(h:Bx Z->G:=by
 intro g;simp only[bM4,bO5,List.drop_zero];exact g.o):G:=h ⟨g⟩
theorem yc (g:Z)(h:Bx Z->G:=by
 intro g;refine zp ?_;refine NB.DR.callR rfl rfl (by simp[awanted]) (by simp[acallee]) rfl hstill (c13 _ (hh.app aA)) ⟨_,_,tr0,l0,z0,hR0,rfl,rfl⟩ ?_;exact g.o):G:=h ⟨g⟩
theorem yd (g:Z)(h:Bx Z->G:=by
 intro g;simp only[bMv,bOd];exact g.o):G:=h ⟨g⟩
theorem ye (g:Z)(h:Bx Z->G:=by
 intro g;simp only[Tryz.ntmps40,bM2,bM3,Tm.av,cells_mk,List.map];refine znrr ?_;refine rl (args:=[(Tm.mk k i n ls ks).av]) rfl aF aA rfl (h1 _ (hh.app aA)) ?_;exact g.o):G:=h ⟨g⟩
theorem yg (g:Z)(h:Bx Z->G:=by
 intro g;rw[e1,e2,<-bMj,bMx (by rw[bM5,bMn];omega),bM7 (by rw[bM5,bMn];omega)];exact g.o):G:=h ⟨g⟩
theorem yh (g:Z)(h:Bx Z->G:=by
 intro g;refine Run.cutAt 2 hh rfl aB aA aA aA rfl ?_;exact g.o):G:=h ⟨g⟩
theorem yi (g:Z)(h:Bx Z->G:=by
 intro g;refine zr ?_;refine zx ?_;exact g.o):G:=h ⟨g⟩
theorem yj (g:Z)(h:Bx Z->G:=by
 intro g;refine Run.draw [0,0,0,0] [0,0,0,0] [0,0,1,7] [0,1,2,3] aC aC ?_;refine zd ?_;exact g.o):G:=h ⟨g⟩
theorem yk (g:Z)(h:Bx Z->G:=by
 intro g;simp only[wpListIn];rw[awanted_sound s hw];simp only[if_true];exact g.o):G:=h ⟨g⟩
theorem yl (g:Z)(h:Bx Z->G:=by
 intro g;refine zf ?_;refine zr ?_;exact g.o):G:=h ⟨g⟩
theorem ym (g:Z)(h:Bx Z->G:=by
 intro g;simp only[setMany,keepT,keepT.go,bOc,bO1];simp;refine Run.ret ?_;exact g.o):G:=h ⟨g⟩
theorem yn (g:Z)(h:Bx Z->G:=by
 intro g;refine zo ?_;refine Run.freezeS 4 (id:=h.length+2+G.length) (n:=acc.length) (cap:=cap) (sz:=5) (m:=cap-acc.length) (es:=tmPs acc.reverse) aA (by simp only[Heap.at];rw[hget];rfl) (tmPs_len5 _) aA hcap ?_;rw[hset];refine zsnrx ?_;exact g.o):G:=h ⟨g⟩
theorem yo (g:Z)(h:Bx Z->G:=by
 intro g;simp only[setMany,keepT,keepT.go,List.contains_cons,bOc,bO1,bO5,List.drop_zero];simp;exact g.o):G:=h ⟨g⟩
theorem yp (g:Z)(h:Bx Z->G:=by
 intro g;refine NB.DR.one (x:= .p (.sl 6 (clPs cls))) rfl rfl (by simp[awanted]) aA aA ?_;exact g.o):G:=h ⟨g⟩
theorem yq (g:Z)(h:Bx Z->G:=by
 intro g;refine Run.cutAt 1 hh rfl aB aA aA aA rfl ?_;exact g.o):G:=h ⟨g⟩
theorem yr (g:Z)(h:Bx Z->G:=by
 intro g;rw[awanted_sound s h1];simp only[if_true];exact g.o):G:=h ⟨g⟩
theorem yt (g:Z)(h:Bx Z->G:=by
 intro g;refine nv ?_;refine Run.draw [0,0,0,0,0,0,0,0,0,0,0,0,1] [0,0,0,0,0,0,0,0,0,0,0,0,0] [0,0,2,6,14,30,62,14,142,510,1022,15,4095] [0,1,2,3,11,4,5,6,7,8,9,10,12] aC aC ?_;exact g.o):G:=h ⟨g⟩
theorem yu (g:Z)(h:Bx Z->G:=by
 intro g;simp only[spV,spB,spA];refine znr ?_;refine rl (args:=[.p (.prim (.slice none 0 0))]) rfl aF aA rfl (ACalls.weak (WeakL.cons (Weak.nil 5) WeakL.nil) (reverse_nil _ (hh.app aA))) ?_;refine zorx ?_;exact g.o):G:=h ⟨g⟩
theorem yw (g:Z)(h:Bx Z->G:=by
 intro g;refine zo ?_;refine Run.draw [0,0,0,0,0,0,0,0,0,0,0,1] [0,0,0,0,0,0,0,0,0,0,0,0] [0,1,3,7,7,31,7,7,199,455,1023,2047] [0,1,2,3,4,5,6,7,8,9,10,11] aC aC ?_;exact g.o):G:=h ⟨g⟩
theorem yx (g:Z)(h:Bx Z->G:=by
 intro g;rw[hlA,bMx (by rw[n1];simp),bM7 (by rw[n1];simp),bM4];exact g.o):G:=h ⟨g⟩
theorem yy (g:Z)(h:Bx Z->G:=by
 intro g;change wpOpsIn (fen rd) 0 P ops _ (Region.linearise.go .any ops ops.size t (Array.replicate ops.size false) []) _ _;exact g.o):G:=h ⟨g⟩
theorem yz (g:Z)(h:Bx Z->G:=by
 intro g;refine Run.draw [0,0,0,0,0,0,0,0,0,0,0,0] [0,0,0,0,0,0,0,0,0,0,0,0] [0,0,0,4,0,16,0,112,240,496,1023,2047] [0,1,2,3,4,5,6,7,8,9,10,11] aC aC ?_;exact g.o):G:=h ⟨g⟩
theorem y10 (g:Z)(h:Bx Z->G:=by
 intro g;simp;refine Run.cutAt 0 hh rfl aB aA aA aA rfl ?_;exact g.o):G:=h ⟨g⟩
theorem y11 (g:Z)(h:Bx Z->G:=by
 intro g;refine Fin.ret' (h0:=B w2++l) (xs:=[.agg zTm,bA (k==0)]) aA (by simp[hlen]) (hwB w2) aE (by simp[gl]) rfl (Weak.tup (WeakL.cons Weak.zT (WeakL.refl _))) (by simp[zT]) ?_;exact g.o):G:=h ⟨g⟩
theorem y12 (g:Z)(h:Bx Z->G:=by
 intro g;refine rl (args:=[]) rfl aF aA rfl (haw _) ?_;exact g.o):G:=h ⟨g⟩
theorem y13 (g:Z)(h:Bx Z->G:=by
 intro g;refine znrfrt ?_;refine Run.draw [0,0,0,0,0,0,0,0,1,1] [0,0,0,0,0,0,0,0,0,0] [0,0,2,7,15,0,32,31,255,511] [0,1,2,3,4,7,5,6,8,9] aC aC ?_;exact g.o):G:=h ⟨g⟩
theorem y14 (g:Z)(h:Bx Z->G:=by
 intro g;refine Run.draw [0,0,0,0,0,0,0,0,0,0,1] [0,0,0,0,0,0,0,0,0,0,0] [0,0,2,0,14,30,62,0,128,511,1023] [0,1,2,3,4,5,6,7,8,9,10] aC aC ?_;exact g.o):G:=h ⟨g⟩
theorem y15 (g:Z)(h:Bx Z->G:=by
 intro g;refine zd ?_;refine DR.call rfl rfl rfl aA rfl hvar ?_;refine zd ?_;exact g.o):G:=h ⟨g⟩
theorem y16 (g:Z)(h:Bx Z->G:=by
 intro g;rw[hlA,<-hl1,bMx (bLx _),bM7 (bLx _)];exact g.o):G:=h ⟨g⟩
theorem y17 (g:Z)(h:Bx Z->G:=by
 intro g;simp only[setMany,keepT,keepT.go,List.contains_cons];exact g.o):G:=h ⟨g⟩
theorem y18 (g:Z)(h:Bx Z->G:=by
 intro g;refine Run.draw [0,0,0,0,0,0,0,0,0,1] [0,0,0,0,0,0,0,0,0,0] [0,0,3,7,0,0,48,112,255,511] [0,1,2,3,4,5,6,7,8,9] aC aC ?_;exact g.o):G:=h ⟨g⟩
theorem y19 (g:Z)(h:Bx Z->G:=by
 intro g;refine zofr ?_;refine Run.keep [1,2,3,4,5,8,31,32,33] ?_;simp;refine Run.cutAt 1 (hwf s2) rfl (by rw[hlen];omega) aA (by simp[hlen];omega) aA rfl ?_;exact g.o):G:=h ⟨g⟩
theorem y1a (g:Z)(h:Bx Z->G:=by
 intro g;simp[h2,hdl,<-hdc,htd,hdl',hone,hpa];exact g.o):G:=h ⟨g⟩
theorem y1b (g:Z)(h:Bx Z->G:=by
 intro g;refine Fin.ret' (h0:=h) aA rfl hh rfl aE rfl (Weak.refl _) aA ?_;exact g.o):G:=h ⟨g⟩
theorem y1c (g:Z)(h:Bx Z->G:=by
 intro g;refine zov5 ?_;refine zx ?_;refine Fin.ret' (h0:=h) aA rfl hh rfl aE rfl (Weak.of_eq (y:=(vr i).bare.av) (by simp[vr,Tm.bare])) aA ?_;exact g.o):G:=h ⟨g⟩
theorem y1d (g:Z)(h:Bx Z->G:=by
 intro g;simp[Instr.makeSlice,run_elT hel,asInt,asIntOf,typeInfo,hi,hw,htl,sizeOf,hisz,hz0,zeroValue,hzv,newRow,hzc];rw[if_neg aB];exact g.o):G:=h ⟨g⟩
theorem y1e (g:Z)(h:Bx Z->G:=by
 intro g;simp only[Instr.lookup,Sem.run_bind,run_underlying ht,Result.andThen,MapKept.run_getObj_map hh,MapKept.run_checkKey hd hkey,Sem.run_pure];exact g.o):G:=h ⟨g⟩
theorem y1f (g:Z)(h:Bx Z->G:=by
 intro g;simp only[bLz,bM4];exact g.o):G:=h ⟨g⟩
theorem y1g (g:Z)(h:Bx Z->G:=by
 intro g;refine zd ?_;refine DR.call (args:=[iA k,iA j]) rfl rfl rfl aA rfl (below_any _ (WF.app (WF.set hh aA) aA) k j) ?_;exact g.o):G:=h ⟨g⟩
theorem y1h (g:Z)(h:Bx Z->G:=by
 intro g;rw[bMj];refine this.mono ?_;exact g.o):G:=h ⟨g⟩
theorem y1i (g:Z)(h:Bx Z->G:=by
 intro g;simp only[Tryz.ntmps101,bM2,bM3,List.map];exact g.o):G:=h ⟨g⟩
theorem y1j (g:Z)(h:Bx Z->G:=by
 intro g;unfold aslice;simp only[io_sm,h1,h2,hl,hu,maA];rw[if_pos ⟨trivial,by omega,by omega,by omega,by omega,by simp⟩];exact g.o):G:=h ⟨g⟩
theorem y1k (g:Z)(h:Bx Z->G:=by
 intro g;refine DR.call rfl rfl rfl aA rfl (c4 _ (hh.app aA)) ?_;exact g.o):G:=h ⟨g⟩
theorem y1l (g:Z)(h:Bx Z->G:=by
 intro g;rw[show stOf none= .ready from rfl,hnorm,htk];exact g.o):G:=h ⟨g⟩
theorem y1m (g:Z)(h:Bx Z->G:=by
 intro g;refine Run.drawPanic [0,0,0,1,2] [0,0,0,0,0] [0,1,0,7,15] [0,1,2] 3 aC aC ?_;exact g.o):G:=h ⟨g⟩
theorem y1n (g:Z)(h:Bx Z->G:=by
 intro g;simp;refine Run.cutAt 1 (hwf s2') rfl (by rw[hlen,hlen];omega) aA (by simp[hlen];omega) aA rfl ?_;exact g.o):G:=h ⟨g⟩
theorem y1o (g:Z)(h:Bx Z->G:=by
 intro g;unfold Instr.buildSlice;simp only[Sem.run_bind,run_elT hel,Result.andThen_ok,run_szT hsz];rw[if_neg aB];exact g.o):G:=h ⟨g⟩
theorem y1p (g:Z)(h:Bx Z->G:=by
 intro g;refine Run.draw [0,0,0,1,2] [0,0,0,1,2] [0,1,0,7,15] [0,1,2,3,4] aC aC ?_;exact g.o):G:=h ⟨g⟩
theorem y1q (g:Z)(h:Bx Z->G:=by
 intro g;refine rl (args:=[(Tm.mk k i n ls ks).av]) rfl aF aA rfl (h2 _ (hh.app aA)) ?_;exact g.o):G:=h ⟨g⟩
theorem y1r (g:Z)(h:Bx Z->G:=by
 intro g;rw[awanted_sound s h1];simp only[bMe,if_false];exact g.o):G:=h ⟨g⟩
theorem y1s (g:Z)(h:Bx Z->G:=by
 intro g;simp only[keepT,keepT.go,List.contains_cons];exact g.o):G:=h ⟨g⟩
theorem y1t (g:Z)(h:Bx Z->G:=by
 intro g;rw[List.getElem?_set];exact g.o):G:=h ⟨g⟩
theorem y1u (g:Z)(h:Bx Z->G:=by
 intro g;simp only[Tryz.ntmps287,bM2,bM3,Tm.av,cells_mk,List.map];refine nv ?_;rw[hlen s];exact g.o):G:=h ⟨g⟩
theorem y1v (g:Z)(h:Bx Z->G:=by
 intro g;simp only[hsz,ne_eq,bOg,decide_false,bO6];rw[if_neg (by simpa [hsz] using hbound)];exact g.o):G:=h ⟨g⟩
theorem y1w (g:Z)(h:Bx Z->G:=by
 intro g;simp only[bM0,AV.sm.injEq,true_and,and_true];exact g.o):G:=h ⟨g⟩
theorem y1x (h:G:=by
 repeat' (first|apply And.intro|intro _)
 all_goals
  refine y7 ?_
  repeat' first|exact wn|apply wc
  all_goals first|exact Weak.junk _|(refine Weak.bool ?_;clear J;rw[bMt];simp;done)|(refine Weak.bool ?_;clear J;rw[bMt];simp;omega)|(refine Weak.bool ?_;clear J;simp_all;done)|(refine Weak.bool ?_;clear J;simp[*];done)|(refine Weak.bool ?_;clear J;rw[bMt];simp[*];omega)|exact Weak.refl _):G:=h
theorem y1y (h:G:=by
 refine zA ?_;refine zF2 hh ?_;exact⟨by rw[hr];rfl,rfl⟩):G:=h
theorem y1z (h:G:=by exact Fin.ret' (h0:=h) aA rfl hh rfl rfl rfl (Weak.refl _) rfl ⟨by rw[hr];rfl,rfl⟩):G:=h
theorem y20 (h:G:=by
 have hol:(cur.take (es.length*sz)).length=es.length*sz:=by rw[bMn];omega
 have holds:∀j v,(cur.take (es.length*sz))[j]?=some v->w.cell? ((⟨g,0,none⟩:Addr).add j)=some v:=by
  intro j v hj;rw[addr_add,bMw,hrow.cell];rw[bO2] at hj;split at hj
  ·exact hj
  ·cases hj
 have hrun:=run_append_grow (P:=P) w t o.type e i zv hu hi hzv ⟨g,0,none⟩ es.length cap (cur.take (es.length*sz)) (by rw[hol,hisz]) holds ⟨b,off,none⟩ ys.length cx news (by rw[n1,hisz])
  (fun j v hj=>by rw[addr_add];exact n2 j v hj) aB aB (growslice_fits aB (by rw[hiby];exact hb))
 have hzs:((Builtin.zeroCells zv.cells (grownCap w (es.length+ys.length) cap e-(es.length+ys.length))).toList).length=(grownCap w (es.length+ys.length) cap e-(es.length+ys.length))*sz:=by
  rw[bOl,size_zeroCells,hzc];simp[hzl,hisz]
 have hle:=le_grownCap w (es.length+ys.length) cap e
 have hq:List.toArray (cur.take (es.length*sz)++news++(Builtin.zeroCells zv.cells (grownCap w (es.length+ys.length) cap e-(es.length+ys.length))).toList)=
   (cur.take (es.length*sz)).toArray++news.toArray++Builtin.zeroCells zv.cells (grownCap w (es.length+ys.length) cap e-(es.length+ys.length)):=by
  apply bOb;simp
 rw[<-hq] at hrun
 obtain⟨g1,g2⟩:=st.rel.growG (w':=w.drew.alloc (.cells (List.toArray (cur.take (es.length*sz)++news++(Builtin.zeroCells zv.cells (grownCap w (es.length+ys.length) cap e-(es.length+ys.length))).toList)) e (0,0))) (b:=w.heap.size) (c':=grownCap w (es.length+ys.length) cap e)
  (o':= .vec sz (es++ys)) (m:=ys.length) hid rfl hk' (bLx _) (.inl hpos) (.inr (bLx _)) ⟨e,alloc_new (w:=w.drew) _⟩
  (by rw[bM5,bM5,hol,n1,hzs,<-hadd,<-bO3];congr 1;omega) hle (fun b' _ hb'=>alloc_old (w:=w.drew) _ hb') (fun off ho=>by have:=st.rel.lt _ _ ho;omega) (by rw[alloc_size];show w.heap.size<=w.heap.size+1;omega) ⟨rfl,rfl⟩
  (fun E' hx' _=>by
   have hl1:(cur.take (es.length*sz)++news).length=(es.length+ys.length)*sz:=by rw[bM5,hol];omega
   have hh:=flat_rep (hcr.ext hx') (n3.ext hx');generalize cur.take (es.length*sz)++news=q at hh hl1;refine y16 ?_;exact hh)
 refine⟨_,_,_,_, .slice (some ⟨w.heap.size,0,none⟩) (es.length+ys.length) (grownCap w (es.length+ys.length) cap e),⟨rfl,rfl⟩,?_,g1,vec_fresh st.fresh hlt,?_,g2⟩
 ·exact exec_append ho (by rw[hsv,hxv];exact hrun)
 ·simp only[Rep];exact⟨⟨some w.heap.size,grownCap w (es.length+ys.length) cap e,es.length+ys.length⟩,by simp,bLx _,_,_,rfl,fun _=>⟨rfl,rfl⟩⟩):G:=h
theorem y21 (h:G:=by
 refine Run.tok 4 5 aA ?_;simp;rw[htc]
 refine Run.loopS (ι:=Nat×List Tm×Tm) [1,3] (fun p=>p.2.1.length+p.2.2.size<=t.size/\p.2.2.size<=p.1/\r=allF 6 p.1 p.2.1 p.2.2) (fun p=>p.2.2.size) (fun p=>[(4, .own (h.length+2) 5 (tmPs p.2.1))])
  (fun p=>h++[some (.cells (p.2.2.cells.map .p)),some (.cells zTm),some (.tok p.2.1.length 5)]) (t.size,[],t) ⟨by simp,by simp,hr⟩ ?_ aA ?_
 ·simp[tmPs];exact zK
 rintro⟨N,acc,cur⟩ ⟨hs,hle,hra⟩ IH;simp only at hs hle hra;simp;obtain⟨m,rfl⟩:∃m,N=m+1:=⟨N-1,by have:=cur.size_pos;omega⟩;simp only[allF] at hra;obtain⟨k,i,nm,ls,ks⟩:=cur
 by_cases hk:k=6
 ·subst hk
  by_cases hks:ks.length=2
  ·obtain⟨a,b,rfl⟩:∃a b,ks=[a,b]:=by
    match ks,hks with
    |[a,b],_=>exact⟨a,b,rfl⟩
   simp only[isB,if_true] at hra;simp only[Tm.size,Tm.sizes] at hs hle;have hb1:(acc.length+1)*80<=140737488355328:=by have:=t.size_pos;omega
   have hb2:acc.length+1<=9223372036854775807:=by omega
   refine znrt ?_;refine zrv15 hb1 hb2 ?_;refine zr ?_;refine IH (m,acc++[a],b) _ _ ⟨by simp only[bM5,bNy];have:=a.size_pos;omega,by simp only;have:=a.size_pos;omega,hra⟩ (by simp only[Tm.size,Tm.sizes];have:=a.size_pos;omega) ?_ ?_
   ·simp[tmPs_snoc];exact zK
   ·simp
  ·have hk2:((ks.length:Int)==2)=false:=by simp;omega
   have hib:isB 6 (Tm.mk 6 i nm ls ks)=none:=by
    match ks,hks with
    |[],_=>rfl
    |[_],_=>rfl
    |_::_::_::_,_=>rfl
   rw[hib] at hra;simp only at hra;subst hra;refine znr1fen hk2 ?_;refine yj ?_;refine y8 ?_;refine znx ?_;refine Fin.ret' (h0:=h) (xs:=[.own (h.length+2) 5 (tmPs acc),(Tm.mk 6 i nm ls ks).av]) aA rfl hh rfl aA rfl (Weak.tup (WeakL.cons (Weak.own _ _ _) (WeakL.refl _))) aA ⟨rfl,rfl⟩
 ·have hkb:(k==6)=false:=by simpa using hk
  have hib:isB 6 (Tm.mk k i nm ls ks)=none:=by
   match ks with
   |[]=>rfl
   |[_]=>rfl
   |[_,_]=>simp[isB,hk]
   |_::_::_::_=>rfl
  rw[hib] at hra;simp only at hra;subst hra;refine znr1fen hkb ?_;refine yj ?_;refine y8 ?_;refine znx ?_;refine Fin.ret' (h0:=h) (xs:=[.own (h.length+2) 5 (tmPs acc),(Tm.mk k i nm ls ks).av]) aA rfl hh rfl aA rfl (Weak.tup (WeakL.cons (Weak.own _ _ _) (WeakL.refl _))) aA ⟨rfl,rfl⟩):G:=h
theorem y22 (h:G:=by
 have hmi:=p.mem i (by rw[hπ];simp);have hil:i<listed.size:=by rw[p.size];exact hmi.1
 have hnd:=p.nodup;rw[hπ] at hnd
 have hni:i∉π1++π2:=by
  rw[List.nodup_append] at hnd;obtain⟨h1,h2,h3⟩:=hnd;rw[bNd] at h2;intro hm;rcases bMo.1 hm with hm|hm
  ·exact h3 i hm i aA rfl
  ·exact h2.1 hm
 have hsub:List.Sublist (π1++π2) π:=by rw[hπ];exact List.Sublist.append (List.Sublist.refl _) (List.sublist_cons_self _ _)
 refine⟨by simpa using p.size,fun j hj=>?_,fun j hj hl=>?_,fun e he=>?_,hsub.nodup p.nodup,fun a b ha hl hp=>?_,p.edge,p.pair.sublist hsub,fun e he=>?_,?_,hr⟩
 ·have:=p.mem j (hsub.subset hj);refine⟨this.1,?_⟩;rw[getD_set hil,if_neg (fun e:j=i=>hni (e▸hj))];exact this.2
 ·rw[getD_set hil] at hl;split at hl
  ·cases hl
  ·rename_i hne;rcases p.all j hj hl with hm|⟨e,he,hel,hle,hpe⟩
   ·left;rw[hπ] at hm;rcases bMo.1 hm with hm|hm
    ·exact bNl _ hm
    ·rcases bMh.1 hm with hm|hm
     ·exact absurd hm hne
     ·exact List.mem_append_right _ hm
   ·right;refine⟨e,he,hel,?_,hpe⟩;have hne':e≠i:=fun ee=>(p.last e he).1 (by rw[hπ,ee];simp)
    rw[getD_set hil,if_neg hne'];exact hle
 ·have hne':e≠i:=fun ee=>(p.last e he).1 (by rw[hπ,ee];simp)
  refine⟨(p.finU e he).1,?_⟩;rw[getD_set hil,if_neg hne'];exact(p.finU e he).2
 ·rw[getD_set hil] at hl⊢;split
  ·rfl
  ·split at hl
   ·rename_i e;subst e;exact p.below hi hp
   ·exact p.closed a b ha hl hp
 ·obtain⟨h1,h2⟩:=p.last e he;exact⟨fun hm=>h1 (hsub.subset hm),fun j hj=>h2 j (hsub.subset hj)⟩
 ·intro σ1 k σ2 hk o ho e he hb;rw[getD_setF hil]
  by_cases hei:e.on=i
  ·exact .inl (by simp[hei])
  ·simp only[hei,if_false]
   --where k stood in the whole order
   have:∃τ1 τ2,π++fin.toList=τ1++k::τ2/\∀x∈τ1,x=i\/x∈σ1:=by
    obtain⟨τ1,τ2,h1,h2⟩:=split_insert i k π1 (π2++fin.toList) σ1 σ2 (by simpa using hk);exact⟨τ1,τ2,by rw[hπ];simpa using h1,h2⟩
   obtain⟨τ1,τ2,h1,h2⟩:=this;rcases p.ready τ1 k τ2 h1 o ho e he hb with h3|h3
   ·exact .inl h3
   ·rcases h2 _ h3 with h|h
    ·exact absurd h hei
    ·exact .inr h):G:=h
theorem y23 (h:G:=by
 simp only[okDraw,bM8,bMg,bMi,bN6] at h;obtain⟨⟨⟨⟨⟨⟨h1,h2⟩,h3⟩,h4⟩,h5⟩,h6⟩,h7⟩:=h;obtain⟨h41,h42⟩:=pairB_sound h4;have hun:∀i,i<ops.size->(Array.replicate ops.size false).getD i true=false:=fun i hi=>by simp[hi]
 have hno:∀i,(Array.replicate ops.size false).getD i false≠true:=fun i=>by
  rcases bNi i ops.size with hi|hi<;>simp[hi]
 refine⟨by simp,fun i hi=>⟨h1 i hi,hun i (h1 i hi)⟩,fun i hi _=>?_,fun e he=>?_,h41,fun i j hi hl=>?_,fun i j hi hp=>?_,h42,fun e he=>?_,?_,rankB_sound h7⟩
 ·have:=h2 i hi;simp only[bNe,bOf] at this;rcases this with hm|hm
  ·exact .inl hm
  ·right
   cases hf:fin with
   |none=>rw[hf] at hm;cases hm
   |some e=>
    rw[hf] at hm h5;simp only[lastB,bM8,bMi] at h5;simp only[bNe,beq_iff_eq] at hm;exact⟨e,rfl,h5.1.1,hun e h5.1.1,hm⟩
 ·subst he;simp only[lastB,bM8,bMi] at h5;exact⟨h5.1.1,hun e h5.1.1⟩
 ·rw[hun i hi] at hl;cases hl
 ·have:=h3 i hi;simp only[edgeB,bMg,bN6,bNe,bN0] at this;have hj:j<ops.size:=by simp only[prB,bM8,bMi] at hp;exact hp.1
  have:=(this j hj).resolve_left (by rw[hp];simp);split at this
  ·rename_i o ho;obtain⟨e,he,hc⟩:=Array.any_eq_true'.1 this;simp only[bM8,bNe,beq_iff_eq,bMi] at hc;exact⟨o,e,ho,he,hc.1.1,hc.1.2,hc.2⟩
  ·cases this
 ·subst he;simp only[lastB,bM8,bN0,bMg,bNe] at h5;refine⟨(fun hm=>by have:=h5.1.2;rw[bOf.2 hm] at this;cases this),fun j hj=>(h5.2 j hj).imp id ?_⟩;intro hx;split at hx
  ·rename_i oe oj he hj';simp only[bM8,bN0] at hx;exact⟨oe,oj,he,hj',hx.1,hx.2⟩
  ·cases hx
 ·intro π1 i π2 hs o ho e he hb;rcases readyB_sound h6 π1 i π2 hs o ho e he hb with h'|h'
  ·cases h'
  ·exact .inr h'):G:=h
theorem y24 (h:G:=by
 have hc0:=k2 rfl;have he0:es=[]:=bNw aB;subst he0;subst hc0;have hrun:=run_append_nil (P:=P) w t o.type e i zv hu hi hzv ⟨b,off,none⟩ ys.length cx news (by rw[n1,hisz]) (fun j v hj=>by rw[addr_add];exact n2 j v hj) hpos (by simp at hb2;omega) (by rw[hiby];simp at hb;omega)
 have hzs:((Builtin.zeroCells zv.cells (grownCap w ys.length 0 e-ys.length)).toList).length=(grownCap w ys.length 0 e-ys.length)*sz:=by
  rw[bOl,size_zeroCells,hzc];simp[hzl,hisz]
 have hle:=le_grownCap w ys.length 0 e
 have hq:List.toArray (news++(Builtin.zeroCells zv.cells (grownCap w ys.length 0 e-ys.length)).toList)=news.toArray++Builtin.zeroCells zv.cells (grownCap w ys.length 0 e-ys.length):=by
  apply bOb;simp
 rw[<-hq] at hrun
 obtain⟨g1,g2⟩:=st.rel.growG (w':=w.drew.alloc (.cells (List.toArray (news++(Builtin.zeroCells zv.cells (grownCap w ys.length 0 e-ys.length)).toList)) e (0,0))) (b:=w.heap.size) (c':=grownCap w ys.length 0 e) (vs:=news++(Builtin.zeroCells zv.cells (grownCap w ys.length 0 e-ys.length)).toList)
  (o':= .vec sz ([]++ys)) (m:=ys.length) hid rfl hk' (bLx _) (.inl hpos) (.inr (bLx _)) ⟨e,alloc_new (w:=w.drew) _⟩
  (by rw[bM5,n1,hzs,<-bO3];congr 1;omega) (by simpa using hle) (fun b' _ hb'=>alloc_old (w:=w.drew) _ hb') (fun off ho=>by have:=st.rel.lt _ _ ho;omega) (by rw[alloc_size];show w.heap.size<=w.heap.size+1;omega) ⟨rfl,rfl⟩
  (fun E' hx' _=>by
   refine yx ?_;exact n3.ext hx')
 refine⟨_,_,_,_, .slice (some ⟨w.heap.size,0,none⟩) ys.length (grownCap w ys.length 0 e),⟨rfl,rfl⟩,?_,g1,vec_fresh st.fresh hlt,?_,g2⟩
 ·exact exec_append ho (by rw[hsv,hxv];exact hrun)
 ·simp only[Rep];exact⟨⟨some w.heap.size,grownCap w ys.length 0 e,([]:List (List PV)).length+ys.length⟩,by simp,by simp,_,grownCap w ys.length 0 e,by simp,fun _=>⟨rfl,rfl⟩⟩):G:=h
theorem y25 (h:G:=by
 have hmulle:(es.length+ys.length)*sz<=cap*sz:=bNk _ hroom
 obtain⟨w',hrun,hrow',hsame,hsize,hos,hout⟩:=append_room (P:=P) (ty:=o.type) hu hi hrow (a:=⟨b,off,none⟩) (m:=ys.length) (c:=cx) (news:=news) (n:=es.length) (cap:=cap) (by rw[n1,hisz]) (fun j v hj=>by rw[addr_add];exact n2 j v hj)
  (RepL.one_p n3) hroom (by rw[hisz];omega)
 rw[hisz] at hrow'
 obtain⟨g1,g2⟩:=st.rel.growG (w':=w') (b:=g) (c':=cap) (vs:=patch cur (es.length*sz) news) (o':= .vec sz (es++ys)) (m:=ys.length) hid rfl hk' (bLx _) (.inl hpos) (.inl ⟨_,hL,rfl⟩) hrow'
  (by rw[patch_length];exact hcl) hroom (fun b' hne _=>hsame b' hne) (fun off ho=>absurd ho (hnro off)) aB ⟨hos,hout⟩
  (fun E' hx' _=>by
   rw[hlA]
   have e1:patch cur (es.length*sz) news=cur.take (es.length*sz)++patch (cur.drop (es.length*sz)) 0 news:=by
    have hh:=patch_skip news (cur.take (es.length*sz)) (cur.drop (es.length*sz)) 0;rw[bN5,bMn,bNc aB,bO7] at hh;exact hh
   have e2:patch (cur.drop (es.length*sz)) 0 news=news++(cur.drop (es.length*sz)).drop (ys.length*sz):=by
    have hh:=patch_full news ((cur.drop (es.length*sz)).take (ys.length*sz)) ((cur.drop (es.length*sz)).drop (ys.length*sz)) (by rw[bMn,bN1];omega)
    rwa [bN5] at hh
   refine yg ?_;exact flat_rep (hcr.ext hx') (n3.ext hx'))
 refine⟨_,_,_,w', .slice (some ⟨g,0,none⟩) (es.length+ys.length) cap,⟨rfl,rfl⟩,?_,g1,vec_fresh st.fresh hlt,?_,g2⟩
 ·exact exec_append ho (by rw[hsv,hxv];exact hrun)
 ·simp only[Rep];exact⟨⟨some g,cap,es.length+ys.length⟩,by simp,bLx _,_,_,rfl,fun _=>⟨rfl,rfl⟩⟩):G:=h
theorem y26 (h:G:=by
 refine zL (c1 _ (hh.app aA)) ?_;refine zorfr ?_
 by_cases e3:a1=3
 ·subst e3;rw[if_pos rfl] at hr;refine znrt ?_;refine Run.reg fun K J=>?_
  refine y1a ?_;refine zj ?_;clear J;refine Run.ret ?_;exact Fin.ret' (h0:=h) aA rfl hh rfl (by simp[hdl',htd];rfl) rfl (Weak.refl _) (by simp[hdu]) ⟨by rw[hr];simp only[hdav];rfl,rfl⟩
 rw[if_neg e3] at hr;have e3':(a1==3)=false:=by simp[e3]
 by_cases e4:a1=4
 ·subst e4;rw[if_pos rfl] at hr;refine y13 ?_;refine DR.go fun K J=>?_
  refine y1a ?_;refine zh ?_;clear J;refine y8 ?_;refine znx ?_;exact Fin.ret' (h0:=h) aA rfl hh rfl (by simp[hdl',htd];rfl) rfl (Weak.refl _) (by simp[hdu]) ⟨by rw[hr];simp only[hdav];rfl,rfl⟩
 rw[if_neg e4] at hr;have e4':(a1==4)=false:=by simp[e4]
 by_cases e5:a1=5
 ·subst e5;rw[if_pos rfl] at hr;refine znrfrfrt ?_;refine Run.reg fun K J=>?_
  refine y1a ?_;refine zj ?_;clear J;refine Run.ret ?_;exact Fin.ret' (h0:=h) aA rfl hh rfl (by simp[hdl',htd];rfl) rfl (Weak.refl _) (by simp[hdu]) ⟨by rw[hr];simp only[hdav];rfl,rfl⟩
 rw[if_neg e5] at hr;have e5':(a1==5)=false:=by simp[e5]
 refine znr1fr1fr1frx e3' e4' e5' ?_;refine Fin.ret' (h0:=h) (xs:=[.agg [iA 0, .p (sP []),iA 0,iA 0,iA 0, .p (sP []), .p (.prim (.slice none 0 0)), .p (.prim (.slice none 0 0)),iA 0,iA 0, .p (sP []), .p (.prim (.slice none 0 0)), .p (.prim (.slice none 0 0)),iA 0, .p (.prim (.slice none 0 0)),iA 0,iA 0,iA 0, .p (sP []), .p (.prim (.slice none 0 0)), .p (.prim (.slice none 0 0)), .p (.prim (.slice none 0 0)), .p (.prim (.slice none 0 0))],iA 0,bA false]) aA rfl hh rfl aA rfl (y:= .tup [zDc.av,iA 0,bA false]) (Weak.tup (WeakL.cons dc_weak0 (WeakL.refl _))) (by simp[zDc,Dc.av,Dc.cells,zT]) ⟨by rw[hr],rfl⟩):G:=h
theorem y27 (h:G:=by refine Fin.ret' (h0:=h) (xs:=[.agg [iA 0, .p (sP []),iA 0,iA 0,iA 0, .p (sP []), .p (.prim (.slice none 0 0)), .p (.prim (.slice none 0 0)),iA 0,iA 0, .p (sP []), .p (.prim (.slice none 0 0)), .p (.prim (.slice none 0 0)),iA 0, .p (.prim (.slice none 0 0)),iA 0,iA 0,iA 0, .p (sP []), .p (.prim (.slice none 0 0)), .p (.prim (.slice none 0 0)), .p (.prim (.slice none 0 0)), .p (.prim (.slice none 0 0))],iA 0,bA false]) aA rfl hh rfl aA rfl (y:= .tup [zDc.av,iA 0,bA false]) (Weak.tup (WeakL.cons dc_weak0 (WeakL.refl _))) (by simp[zDc,Dc.av,Dc.cells,zT]) ⟨by rw[hr],rfl⟩):G:=h
theorem y28 (h:G:=by exact Fin.ret' (h0:=h) aA rfl hh rfl aE rfl (Weak.refl _) aA ⟨by rw[hr];rfl,rfl⟩):G:=h
theorem y29 (h:G:=by exact Fin.ret' (h0:=h) aA rfl hh rfl aE rfl (Weak.refl _) aA ⟨rfl,rfl⟩):G:=h
theorem y2a (h:G:=by exact Fin.ret' (h0:=h) aA rfl hh rfl aE rfl (Weak.refl _) aA ⟨by simp,rfl⟩):G:=h
theorem y2b (h:G:=by
 obtain⟨hcap,hpos,hW⟩:=hok;simp only[spA] at hle
 have hget:∀(x y o:Option AO),(h++x::y::(G++[o]))[h.length+2+G.length]?=some o:=fun x y o=>by
  rw[show h++x::y::(G++[o])=(h++[x,y]++G)++[o] by simp,bN8 (by simp<;>omega),show h.length+2+G.length-(h++[x,y]++G).length=0 by simp<;>omega];rfl
 have hset:∀(x y o o':Option AO),(h++x::y::(G++[o])).set (h.length+2+G.length) o'=h++x::y::(G++[o']):=fun x y o o'=>by
  rw[show h++x::y::(G++[o])=(h++[x,y]++G)++[o] by simp,bNf _ _ (by simp<;>omega),show h.length+2+G.length-(h++[x,y]++G).length=0 by simp<;>omega];simp
 have hwf:∀(x y o:Option AO),(∀n,AO.under n x=true)->(∀n,AO.under n y=true)->(∀n,AO.under n o=true)->WF (h++x::y::(G++[o])):=fun x y o hx hy ho=>by
  have:=(hW x y hx hy).app (l:=[o]) (by simp only[List.all_cons,ho,List.all_nil,Bool.and_self]);simpa using this
 simp only[spV,spB,spA];refine znr ?_;have hrv:=fun(x y:Option AO) hx hy=>reverse_any _ (hwf x y (row acc (cap-acc.length)) hx hy (fun n=>row_under n _ _)) acc (h.length+2+G.length) cap (cap-acc.length) aB (hget _ _ _)
 simp only[hset] at hrv;refine rl (args:=[.sm (h.length+2+G.length) 0 acc.length cap 5]) rfl aF aA rfl (hrv _ _ (fun n=>by simp) (fun n=>by simp)) ?_;refine yn ?_;refine Fin.ret' (h0:=h) aA rfl hh rfl aE rfl (Weak.refl _) aA ⟨by simp,rfl⟩):G:=h
theorem y2c (h:G:=by
 obtain⟨t1,t2,t3⟩:=st.rel.newTk st.fresh (tk:= .vec sz []) (sz:=sz) rfl;have hl:=hrep.length;rw[bMp,flat_length hes] at hl;have hid:Heap.at (h++[some (.vec sz [])]) h.length=some (.vec sz []):=by simp
 obtain⟨g1,g2⟩:=t1.growG (w':=w.alloc (.cells (List.toArray vs) T0 (0,0))) (b:=w.heap.size) (c':=es.length) (vs:=vs) (n:=0) (m:=es.length) (k:=0) (k':=0) (o':= .vec sz es) (cs':=es.flatten.map .p)
  hid rfl (by simp[AO.tk]) (bLx _) (.inl hpos) (.inr (bLx _)) ⟨T0,alloc_new _⟩ hl aB (fun b' _ hb'=>alloc_old _ hb') (fun off ho=>by have:=t1.lt _ _ ho;omega) (by rw[alloc_size];omega) ⟨rfl,rfl⟩
  (fun E' hx' _=>by
   rw[bM7 (by rw[bMp,flat_length hes];omega)];exact hrep.ext (t2.ext.trans hx'))
 have hset:(h++[some (AO.vec sz [])]).set h.length (some (.vec sz es))=h++[some (.vec sz es)]:=by simp
 rw[hset] at g1 g2;refine⟨_,_,_,_, .slice (some ⟨w.heap.size,0,none⟩) es.length es.length,⟨rfl,rfl⟩,?_,g1,?_,?_,t2.trans g2⟩
 ·simp[execOp,ho,hrun]
 ·have:=vec_fresh (h:=h++[some (AO.vec sz [])]) (o:=some (AO.vec sz es)) (b:=w.heap.size) (c:=es.length) (n:=0+es.length) (id:=h.length) (R:=fun b' off=>E.ro b' off\/(b'=w.heap.size/\off<0*sz)) (by simpa using t3) aA;rw[hset] at this;exact this
 ·simp only[Rep];exact⟨⟨some w.heap.size,es.length,es.length⟩,by simp,by simp,_,es.length,by simp,fun _=>⟨rfl,rfl⟩⟩):G:=h
theorem y2d (h:G:=by
 have hex:∃i∈π0,listed.getD i true=false:=by
  obtain⟨i,hi⟩:=List.exists_mem_of_ne_nil (unl ops listed) (fun e=>by rw[e] at hl;cases hl);have:=unl_mem.1 hi;exact⟨i,hcov i this.1,this.2⟩
 have hfirst:∀(l r:List Nat),π0=l++r->(∀i∈l,listed.getD i true=true)->(∃i∈r,listed.getD i true=false)->∃i,i∈Region.ready .any ops listed:=by
  intro l r
  induction r generalizing l with
  |nil=>rintro _ _ ⟨i,hi,_⟩;cases hi
  |cons j r ih=>
   intro hπ hall hx
   cases hj:listed.getD j true with
   |false=>
    have hjl:j<ops.size:=hlt j (by rw[hπ];simp);refine⟨j,mem_ready.2 ⟨hj,ops[j],bOj hjl,fun e he hb=>?_⟩⟩;have h1:=hready l j r hπ _ (bOj hjl) e he hb;have h2:=hall _ h1;have h3:e.on<ops.size:=hlt _ (by rw[hπ];exact bNl _ h1);simp only[Array.getD_eq_getD_getElem?,bOj (show e.on<listed.size by omega),bMc] at h2⊢;exact h2
   |true=>
    refine ih (l++[j]) (by rw[hπ];simp) (fun i hi=>?_) ?_
    ·rcases bMo.1 hi with hi|hi
     ·exact hall i hi
     ·simp at hi;subst hi;exact hj
    ·obtain⟨i,hi,hf⟩:=hx;rcases bMh.1 hi with rfl|hi
     ·rw[hj] at hf;cases hf
     ·exact⟨i,hi,hf⟩
 obtain⟨i,hi⟩:=hfirst [] π0 rfl aA hex;exact List.ne_nil_of_mem hi):G:=h
theorem y2e (h:G:=by
 refine zA ?_;refine zF2 hh ?_;exact⟨⟨_,rfl,fun h=>by cases h⟩,rfl⟩):G:=h
theorem y2f (h:G:=by
 simp only[];rw[linearise_go_acc,List.reverse_singleton,List.singleton_append];have hrd:=bMa hi;obtain⟨h0,o,ho,hall⟩:=mem_ready.1 hrd;have hil:=(bN9.1 ho).1;have hiu:i∈unl ops listed:=unl_mem.2 ⟨hil,h0⟩;have hset:=unl_set hs hiu;have L:=lin_spec hcov hlt hready fuel (t/(Region.ready .any ops listed).length) (listed.setIfInBounds i true) (by simpa using hs) aB;generalize Region.linearise.go .any ops fuel (t/(Region.ready .any ops listed).length) (listed.setIfInBounds i true) []=τ at L;have hil':i<listed.size:=by omega
 refine⟨fun j=>?_,bNd.2 ⟨fun hm=>?_,L.nodup⟩,?_⟩
 ·rw[bMh,L.mem,unl_mem,unl_mem,getD_set hil']
  by_cases c:j=i
  ·subst c;simp[hil,h0]
  ·simp[c]
 ·have:=unl_mem.1 ((L.mem i).1 hm);rw[getD_set hil',if_pos rfl] at this
  cases this.2
 ·intro τ1 j τ2 hτ o' ho' e he hb
  cases τ1 with
  |nil=>
   simp only[bM4,bMz] at hτ;obtain⟨rfl,rfl⟩:=hτ;rw[ho] at ho';cases ho';exact .inl (hall e he hb)
  |cons x τ1=>
   simp only[bLz,bMz] at hτ;obtain⟨rfl,hτ⟩:=hτ;rcases L.ready τ1 j τ2 hτ o' ho' e he hb with h1|h1
   ·rw[getD_setF hil'] at h1;split at h1
    ·rename_i c;exact .inr (by simp[c])
    ·exact .inl h1
   ·exact .inr (bNr _ h1)):G:=h
theorem y2g (h:G:=by
 repeat' (first|apply And.intro|intro _)
 all_goals
  refine y7 ?_
  repeat' first|exact wn|apply wc
  all_goals first|exact Weak.junk _|(refine Weak.bool ?_;clear J;rw[bMt];simp[hi];done)|(refine Weak.bool ?_;clear J;rw[bMt];simp[hi];omega)|(refine Weak.bool ?_;clear J;simp_all;done)|(refine Weak.bool ?_;clear J;simp[*];done)|(refine Weak.bool ?_;clear J;rw[bMt];simp[*];omega)|exact Weak.refl _):G:=h
theorem y2h (h:G:=by refine Fin.ret' (h0:=h) aA rfl hh rfl aE rfl (Weak.refl _) aA ⟨rfl,rfl⟩):G:=h
theorem y2i (h:G:=by
 refine yp ?_;refine NB.DR.opR rfl rfl (by simp[awanted]) hstill (NB.NStep.appendA (id:=h.length+2) (e:=54) (sz:=6) (by_:=104) (es:=[[.sl 3 (ptPs (List.replicate N zP)),iP 0,iP x,sP [], .sl 2 (lvPs []), .sl 5 (tmPs [])]]) (ys:=clPs cls) rfl rfl rfl rfl rfl aA aA aA aA aA (by simp[srcSz]) (fun e he=>clPs_six _ e he) (by simp;omega) (by simp;omega)) ⟨_,_,rfl,rfl⟩ ?_;rintro v g ⟨rfl,rfl⟩;refine yc ?_;rintro v g ⟨tr,l,e,hR,rfl,rfl⟩;have hR':=hR;rcases hR with ⟨_,_,rfl,rfl⟩|⟨_,_,rfl,L,_,rfl⟩
 all_goals
  refine zp ?_;exact⟨_,_,_,hR', .inr ⟨rfl,by simp⟩⟩):G:=h
theorem y2j (h:G:=by exact Fin.ret' aA rfl hh (bM1 _).symm rfl rfl (Weak.refl _) rfl ⟨rfl,rfl⟩):G:=h
theorem y2k (h:G:=by
 simp[recA];refine J _ _ ?_;clear J;have hu:Tryz.prog.underlying 20=some (.interface #[]):=by kernel_rfl
 refine znr1f hu ?_;refine Run.nil ?_;refine zF3 hh ?_;exact⟨⟨_,rfl⟩,rfl⟩):G:=h
theorem y2l (h:G:=by exact Fin.ret' (h0:=h) aA rfl hh (bM1 _).symm aE rfl (Weak.refl _) aA ⟨⟨_,rfl,trivial⟩,rfl⟩):G:=h
theorem y2m (h:G:=by
 exfalso
 have hne:π++fin.toList≠[]:=by
  cases hfin:fin with
  |none=>
   have:=hf0 hfin;intro hh;rw[List.append_eq_nil_iff] at hh;rw[hh.1] at this;simp at this
  |some e=>simp
 obtain⟨i,σ,hσ⟩:=List.exists_cons_of_ne_nil hne
 have hlt:i<ops.size/\listed.getD i true=false:=by
  have hm:i∈π++fin.toList:=by rw[hσ];simp
  rcases bMo.1 hm with hm|hm
  ·exact p.mem i hm
  ·cases hfin:fin with
   |none=>rw[hfin] at hm;simp at hm
   |some e=>
    rw[hfin] at hm;simp at hm;subst hm;exact p.finU _ hfin
 have:i∈Region.ready .any ops listed:=by
  refine mem_ready.2 ⟨hlt.2,ops[i],bOj hlt.1,fun e he hb=>?_⟩;rcases p.ready [] i σ (by simpa using hσ) _ (bOj hlt.1) e he hb with h1|h1
  ·exact h1
  ·cases h1
 rw[hnil] at this;cases this):G:=h
theorem y2n (h:G:=by exact Fin.ret' aA rfl hh rfl aE rfl (Weak.refl _) aA ⟨rfl,rfl⟩):G:=h
theorem y2o (h:G:=by simp at hg;(first|(rcases hg with rfl|rfl|rfl|rfl)|(rcases hg with rfl|rfl|rfl)|(rcases hg with rfl|rfl)|subst hg)<;>exact hh.app aA):G:=h
theorem y2p (h:G:=by
 by_cases hk:0<=k/\k<13
 ·have hu:=usesL_at k hk.1 hk.2;have hk0:¬k<0:=by omega
  refine nv ?_;refine ct (by simp[hk]) ?_
  repeat (first|refine Run.skip ?_|refine Run.opsNil ?_|refine Run.inBlock ?_)
  refine zn ?_;refine zq5 gl0 c3 hk hk0 hu ?_
  repeat (first|refine Run.skip ?_|refine Run.opsNil ?_|refine Run.inBlock ?_)
  refine hJ _ ?_;exact zS
 ·have hb:belowK k=-1:=by unfold belowK;split<;>(try split)<;>omega
  have hk2:(decide (0<=k)&& decide (k<13))=false:=by simp;omega
  refine cf (by simp only[aev,tget];rw[hk2]) ?_
  repeat (first|refine Run.skip ?_|refine Run.opsNil ?_|refine Run.inBlock ?_)
  refine hJ _ ?_;rw[hb];exact zS):G:=h
theorem y2q (h:G:=by
 have:=h3 i hi;simp only[edgeM,bMg,bN6,bNe,bN0] at this;have hj:j<ops.size:=by simp only[prB,bM8,bMi] at hp;exact hp.1
 rcases this j hj with (h|h)|h
 ·rw[hp] at h;cases h
 ·left;split at h
  ·rename_i o ho;obtain⟨e,he,hc⟩:=Array.any_eq_true'.1 h;simp only[bM8,bNe,beq_iff_eq] at hc;exact⟨o,e,ho,he,hc.1,hc.2⟩
  ·cases h
 ·right;obtain⟨⟨u,v⟩,hm,hc⟩:=bOk.1 h;simp only[bM8,bNe,beq_iff_eq] at hc;obtain⟨rfl,hc⟩:=hc;exact⟨u,hm,hc⟩):G:=h
theorem y2r (h:G:=by
 refine zA ?_;refine zF2 hh ?_;exact⟨by rw[this];rfl,rfl⟩):G:=h
theorem y2s (h:G:=by refine Fin.ret' (h0:=h) (xs:=[.agg zTm,iA 2]) aA rfl hh rfl aA rfl (Weak.tup (WeakL.cons Weak.zT (WeakL.refl _))) aA ⟨rfl,rfl⟩):G:=h
theorem y2t (h:G:=by
 simp only[AOut.ret.injEq] at hv;subst hv;rw[<-hr];refine zo ?_;refine Run.nil ?_;exact Fin.ret' (h0:=B r.1) aA (by rw[hlen,hlen]) (hwf _) rfl rfl rfl (Weak.refl _) rfl ⟨rfl,rfl⟩):G:=h
theorem y2u (h:G:=by
 refine zA ?_;refine zF2 hh ?_;exact⟨⟨_,rfl,trivial⟩,rfl⟩):G:=h
theorem y2v (h:G:=by
 have hil:=hlt i (by rw[hτ];simp)
 have key:∀u,u∈τ1->(u=j\/pr j u=true)->j∈τ1:=by
  intro u hu hc;rcases hc with rfl|hc
  ·exact hu
  ·obtain⟨a,b,hab⟩:=bNt hu;have:j∈a:=ih a u (b++i::τ2) (by rw[hab] at hn;simp at hn;omega) (by rw[hτ,hab];simp) j hc;rw[hab];exact bNl _ this
 rcases hE i j hil hj with ⟨o,e,ho,he,hb,hc⟩|⟨u,hu,hc⟩
 ·exact key _ (hR τ1 i τ2 hτ o ho e he hb) hc
 ·exact key _ (hA u i hu τ1 τ2 hτ) hc):G:=h
theorem y2w (h:G:=by
 simp[recA];refine J _ _ ?_;clear J;have hu:Tryz.prog.underlying 20=some (.interface #[]):=by kernel_rfl
 refine znr1tr hu ?_;refine Run.call (args:=[.p (errP e)]) rfl rfl aA rfl (caught_any h hh e) ?_ ?_
 ·rintro v h' ⟨hv,rfl⟩;simp only[AOut.ret.injEq] at hv;subst hv;refine zo2 hp hq2 ?_;refine Run.nil ?_;refine Fin.ret' aA aA ((hh.set aA).set aA) (bM1 _).symm rfl rfl (Weak.refl _) rfl ⟨⟨_,rfl⟩,rfl⟩
 ·rintro v h' ⟨hv,_⟩;cases hv):G:=h
theorem y2x (h:G:=by
 by_cases hb:(j:Int)=belowK k
 ·rw[if_pos hb] at hbk;refine nv ?_;refine ct (by simp[hb]) ?_
  repeat (first|refine Run.skip ?_|refine Run.opsNil ?_|refine Run.inBlock ?_)
  refine znq ?_
  repeat (first|refine Run.skip ?_|refine Run.opsNil ?_|refine Run.inBlock ?_)
  refine hJ _ ?_;rw[hbk];exact zS
 ·rw[if_neg hb] at hbk;refine nv ?_;refine cf (by simp[hb]) ?_
  repeat (first|refine Run.skip ?_|refine Run.opsNil ?_|refine Run.inBlock ?_)
  refine hJ _ ?_;rw[hbk];exact zS):G:=h
theorem y2y (h:G:=by
 refine Weak.agg ?_
 repeat' first|exact wn|apply wc
 all_goals first|exact Weak.refl _|exact Weak.nil _):G:=h
theorem y2z (h:G:=by
 refine yr ?_;obtain⟨vs,hrun,hvs⟩:=acallee_sound (P:=P) s h4 h5 h3;refine⟨fun _ _=>trivial,?_⟩;rw[Oper.semAt_eq _ _ _ (fun c hc=>by rw[hc] at h3;cases h3),hrun];refine⟨fun hd=>(by cases hd),callsIn_fen.2 (Calls.mono (h6 E w vs s.rel s.fresh hvs) ?_)⟩;rintro e w' ⟨out,h'',E',⟨rfl,rfl⟩,hrel,hf,hout,hfr⟩;simp only[RepO] at hout;obtain⟨u,rfl,hx⟩:=hout;exact hk _ _ _ E' w' _ ⟨[h],rfl,by simp[h2]⟩ h7 ((s.move hfr hrel hf).put hx o.dst) hfr):G:=h
theorem y30 (h:G:=by
 have hset:=s'.tmps.set hx slot
 have hsame:(a.tmps.toList).set slot (.slice none 0 0)=a.tmps.toList:=by
  apply bNj;intro j;refine y1t ?_;split
  ·rename_i e;subst e;have h1:=hv.1;rcases bNi slot a.tmps.size with l|l
   ·simp[l] at h1⊢;exact h1.symm
   ·have l':¬slot<a.tmps.size:=by omega
    simp[l']
  ·rfl
 rw[hsame] at hset;exact K_mono (P:=P) (rd:=rd) (Post.of_fr (Q:=Q) t2) k _ _ _ (r _ w a ⟨s'.rel,s'.fresh,hset,s'.defers⟩)):G:=h
theorem y31 (h:G:=by
 by_cases e:i=h.length
 ·subst e;left;refine⟨rfl,?_⟩;rcases ho with ⟨o',h1,h3,h2⟩|⟨o',x,c,m,h1,hk,h2⟩
  ·rw[hgn] at h2;cases h2;rfl
  ·rw[hnew] at h1;cases h1;simp[AO.tk] at hk
 ·right;rcases ho with ⟨o',h1,h3,h2⟩|⟨o',x,c,m,h1,hk,h2⟩
  ·obtain⟨q1,q2⟩:=hold i o' e h1;rw[hg' i e] at h2;exact⟨e,q2, .inl ⟨o',q1,h3,h2⟩⟩
  ·obtain⟨q1,q2⟩:=hold i o' e h1;exact⟨e,q2, .inr ⟨o',x,c,m,q1,hk,h2⟩⟩):G:=h
theorem y32 (h:G:=by
 simp
 repeat' (first|apply And.intro|intro _)
 all_goals
  refine y7 ?_
  repeat' first|exact wn|apply wc
  all_goals first|exact Weak.junk _|(refine Weak.bool ?_;clear J;rw[bMt];simp[letterB];done)|(refine Weak.bool ?_;clear J;rw[bMt];simp[letterB];omega)|(refine Weak.bool ?_;clear J;simp_all;done)|(refine Weak.bool ?_;clear J;simp[*];done)|(refine Weak.bool ?_;clear J;rw[bMt];simp[*];omega)|exact Weak.refl _):G:=h
theorem y33 (h:G:=by
 repeat (first|refine Run.skip ?_|refine Run.opsNil ?_|refine Run.inBlock ?_)
 refine hJ _ ?_;exact zS):G:=h
theorem y34 (h:G:=by exact Fin.ret' (h0:=h) aA rfl hh rfl aE rfl (Weak.refl _) aA ⟨by rw[ha aD];rfl,rfl⟩):G:=h
theorem y35 (h:G:=by
 refine⟨hrel,hfresh,?_,rfl⟩;have hl:=hargs.length;have:=hargs.append (RepL.replicate (E:=E) (w:=w) (fn.ntmps-args.length));simpa [hl] using this):G:=h
theorem y36 (h:G:=by
 refine key l hB (fun p hp g hw=>?_) h hh;have:=Pt.size_at hp;obtain⟨k,n,qs⟩:=p;simp only[Pt.size] at this;exact ih qs aB aB g hw):G:=h
theorem y37 (h:G:=by
 simp only[Rep,RepP];refine⟨_,cap,by rw[hn],by omega, .inr ⟨b,0,rfl,?_⟩⟩;refine RepEs.of_row (vs:=vals.take (es.length*sz)) hes (fun j v hj=>⟨.inr rfl,?_⟩) ?_
 ·rw[hrow.cell,bMw];rw[bO2] at hj;split at hj
  ·exact hj
  ·cases hj
 ·have:=(hreps.ext f2.ext).take (es.length*sz);unfold buf at this
  rwa [bMx aB,bM7 aB] at this):G:=h
theorem y38 (h:G:=by
 by_cases e:j=i
 ·subst e;simp[hi]
 ·simp[e,Array.getElem?_setIfInBounds_ne (Ne.symm e)]):G:=h
theorem y39 (h:G:=by
 have h1:(List.range ops.size).length<=π.length:=by
  apply bOu List.nodup_range;intro i hi;rcases p.all i (bN6.1 hi) (by simp[bN6.1 hi]) with hm|⟨e,he,_⟩
  ·exact hm
  ·cases he
 have h2:π.length<=(List.range ops.size).length:=by
  apply bOu p.nodup;intro i hi;exact bN6.2 (p.mem i hi).1
 simp at h1 h2;omega):G:=h
theorem y3a (h:G:=by
 refine⟨by simp,?_⟩;exact Fin.ret' (h0:=h) aA rfl hh aE aE rfl (Weak.refl _) rfl ⟨by rw[hck];rfl,rfl⟩):G:=h
theorem y3b (h:G:=by
 obtain⟨⟨⟨⟨⟨h1,h2⟩,h3⟩,h4⟩,h5⟩,h6⟩:=hok;refine lin_spec (π0:=π) (fun i hi=>bOf.1 (h2 i hi)) h1 (fun π1 i π2 hs o ho e he hb=>?_) ops.size t _ aA ?_
 ·rcases readyB_sound h5 π1 i π2 hs o ho e he hb with h'|h'
  ·cases h'
  ·exact h'
 ·unfold unl;rw[List.filter_eq_self.2 (fun i hi=>by simp[bN6.1 hi]),List.length_range]):G:=h
theorem y3c (h:G:=by first|(rename_i e1 _;cases e1;done)|(rename_i e1 _ _;cases e1;done)|(rename_i e1;cases e1;done)):G:=h
theorem y3d (h:G:=by
 have h1:=unl_mem.1 hi
 have e:unl ops (listed.setIfInBounds i true)=(unl ops listed).erase i:=by
  rw[(unl_nodup listed).erase_eq_filter];unfold unl;rw[List.filter_filter];refine List.filter_congr fun j _=>?_
  rw[getD_set (by rw[hs];exact h1.1)]
  by_cases c:j=i
  ·subst c;simp
  ·simp[c]
 rw[e,List.length_erase_of_mem hi];have:=List.length_pos_of_mem hi;omega):G:=h
theorem y3e (h:G:=by
 refine prims_rep ?_;intro v hv;obtain⟨l,hl,hv⟩:=List.mem_flatten.1 hv;rw[(bOp.1 hl).2] at hv;exact hprim v hv):G:=h
theorem y3f (h:G:=by
 refine wpIn_region_any hm ?_;obtain⟨s',hfr⟩:=s.drew;have p:=okDraw_sound hok;have:=dr_sound (P:=P) (rd:=rd) (nb:=nb) (k:=k) (Q:=Q) (D:=D) (fun _ T h r=>r) (fun e he=>by cases he) ops.size π _ [] T h p d (fun _=>draw_len p) (fun e he=>by cases he) E _ a s';exact wpAny_post (K_mono (P:=P) (rd:=rd) (Post.of_fr (Q:=Q) hfr) k) ops.size _ _ _ this):G:=h
theorem y3g (h:G:=by rw[bOl,size_zeroCells,hzc];simp[hzl,hisz]):G:=h
theorem y3h (h:G:=by
 rw[bO2] at hj;split at hj
 ·exact hj
 ·cases hj):G:=h
theorem y3i (h:G:=by exact exec_append ho (by rw[hsv,hxv];exact hrun)):G:=h
theorem y3j (h:G:=by
 subst hje;rw[bM7 aA] at hall;refine znfen ?_;refine zA ?_;refine zF2 hh ?_;exact⟨by rw[hr,hall];rfl,rfl⟩):G:=h
theorem y3k (h:G:=by exact⟨_,by simp[Builtin.len_,run_underlying hu];rfl,by simp[Rep,RepP,isPrim,goInt]⟩):G:=h
theorem y3l (h:G:=by
 refine IH (j+1,false) _ _ ⟨by simp only;omega,hsn⟩ (by simp only;omega) ?_ rfl;exact zS):G:=h
theorem y3m (h:G:=by
 refine zt ?_;refine yi ?_;exact Fin.ret' (h0:=h) (xs:=[.p (.prim (.slice none 0 0))]) aA rfl hh (bM1 _).symm aA rfl (Weak.nil 5) rfl ⟨rfl,rfl⟩):G:=h
theorem y3n (h:G:=by
 rw[awanted_sound s hw];simp only[if_true];obtain⟨E',w',nn,v,hrun,hn,hr,hf,hx,hfr⟩:=aop_sound hop s;have:=J E' w' _ ((s.move hfr hr hf).put hx o.dst) hfr;refine⟨fun _ _=>trivial,?_⟩;rw[Oper.semAt_eq _ _ _ (fun c hc=>by rw[hc] at hop;simp[aop] at hop),hrun];rcases hn with rfl|⟨rfl,rfl⟩<;>exact this):G:=h
theorem y3o (h:G:=by
 have p':=p.step hi hπ hr';have hlen:π.length=(π1++π2).length+1:=by rw[hπ];simp;omega
 have:=ih (π1++π2) _ (hist++t) T' h' p' dn (fun e=>by have:=hf0 e;omega) (fun e he=>by have:=hf1 e he;omega) E' w' a' s';exact wpAny_post (K_mono (P:=P) (rd:=rd) (Post.of_fr (Q:=Q) hfr) k) fuel _ _ _ this):G:=h
theorem y3p (h:G:=by
 have e:i≠h.length:=fun e=>by subst e;rw[hnew] at hc;cases hc;simp[AO.tk] at hk
 obtain⟨q1,_⟩:=hold i o e hc;obtain⟨blk,cap2,ht,h1,h2,h3⟩:=r.toks i o n s k cs q1 hk;refine⟨blk,cap2,ht,h1,h2,fun b' hb=>?_⟩;obtain⟨us,hr,hl,hp⟩:=h3 b' hb;exact⟨us,hr,hl,hp.ext hx⟩):G:=h
theorem y3q (h:G:=by
 have hπ:π=[]:=bOq.1 (hf0 hfin).symm;subst hπ;refine⟨?_,J hfin T h d E w a s⟩;rw[List.eq_nil_iff_forall_not_mem];intro i hi;obtain⟨h0,o,ho,_⟩:=mem_ready.1 hi;rcases p.all i (bN9.1 ho).1 h0 with hm|⟨e,he,_⟩
 ·cases hm
 ·rw[hfin] at he;cases he):G:=h
theorem y3r (h:G:=by
 obtain⟨h0,o,ho,hall⟩:=mem_ready.1 hi;have hlt:i<ops.size:=(bN9.1 ho).1;obtain⟨o',e,ho',he,hb,hj,hon⟩:=p.edge i j hlt hp;rw[ho] at ho';cases ho';have hl:=listed_true_of_false (hall e he hb);rcases hj with rfl|hj
 ·exact hl
 ·exact p.closed e.on j hon hl hj):G:=h
theorem y3s (h:G:=by
 have hπ1:π1=[]:=by
  cases π1 with
  |nil=>rfl
  |cons j π1=>
   obtain⟨oi,oj,hoi,_,_,hEi,_⟩:=hloose j aA;rw[hoi] at hE;simp only[bN2,bM0,hEi] at hE;cases hE
 subst hπ1;simp only[bM4,Ranked,hE,if_true] at hrk⊢;exact hrk.2):G:=h
theorem y3t (h:G:=by
 rw[bNu,if_neg hne] at this;have e':Heap.at (h.set id none) i=some o:=this▸e;unfold Heap.at at e'⊢
 by_cases c:id=i
 ·subst c;rw[List.getElem?_set_self'] at e'
  cases hh:h[id]?<;>simp[hh] at e'
 ·rw[bMl c] at e';exact⟨e',fun q=>c q.symm⟩):G:=h
theorem y3u (h:G:=by
 refine zA ?_;refine zF2 hh ?_;exact⟨by rw[<-hz];rfl,rfl⟩):G:=h
theorem y3v (h:G:=by
 rcases hG3 with ⟨rfl,_⟩|⟨elems,rest,he,hG⟩
 ·simp
 ·rw[he] at hb;simp only[uptoBulk] at hb;have:=length_le elems;have:=GL_len hG;refine⟨by omega,fun l hl=>?_⟩;obtain⟨d,hd,hg⟩:=GL_mem hG l hl;have:=part_le hd;exact⟨by have:=hg.1;omega,hg.2⟩):G:=h
theorem y3w (h:G:=by
 refine zA ?_;refine zF2 hh ?_;exact⟨by rw[this];rfl,rfl⟩):G:=h
theorem y3x (h:G:=by exact pure (by simp[execOp,e1]) e2 rfl rfl):G:=h
theorem y3y (h:G:=by
 have h0:((xs.length:Int) !=ys.length)=true:=by simp;omega
 have hl':¬(xs.length:Int)=ys.length:=by omega
 refine znt1 hl' ?_;refine zA ?_;refine zF3 hh ?_;exact⟨by simp only[sameLvs,h0];simp,rfl⟩):G:=h
theorem y3z (h:G:=by
 have h0:τ1=[]:=bOq.1 aB;subst h0;have hil:=hlt i (by rw[hτ];simp);rcases hE i j hil hj with ⟨o,e,ho,he,hb,_⟩|⟨u,hu,_⟩
 ·have:=hR [] i τ2 hτ o ho e he hb;cases this
 ·have:=hA u i hu [] τ2 hτ;cases this):G:=h
theorem y40 (h:G:=by
 refine zofr ?_;refine IH (j+1) _ _ aB aB ?_ rfl;exact zS):G:=h
theorem y41 (h:G:=by
 have hk:=K_mono (P:=P) (rd:=rd) (Post.of_fr (Q:=Q) hfr) (.ops all rest::k) _ _ _ this;show wpListIn (fen rd) 0 P all (K P rd (Post nb Q E h w) k) (o::rest) a w;refine yk ?_;refine⟨fun _ _=>trivial,?_⟩;rw[Oper.semAt_eq _ _ _ hnd,hrun];exact hk):G:=h
theorem y42 (h:G:=by exact Fin.ret' aA rfl hh rfl rfl rfl (Weak.refl _) rfl ⟨by rw[c1',c2'];rfl,rfl⟩):G:=h
theorem y43 (h:G:=by
 simp only[Rep];exact⟨⟨none,0,0⟩,by simp,bLx _,none,0,rfl,bLx _, .inl trivial,fun _=>⟨rfl,rfl⟩⟩):G:=h
theorem y44 (h:G:=by exact Fin.ret' aA rfl hh rfl rfl rfl (Weak.refl _) rfl ⟨by rw[<-hH];rfl,rfl⟩):G:=h
theorem y45 (h:G:=by
 rcases hO i b' h1 with ⟨e1,e2⟩|⟨e1,e2,o1⟩<;>rcases hO i' b' h2 with ⟨e3,e4⟩|⟨e3,e4,o2⟩
 ·rw[e1,e3]
 ·subst e2;exact absurd (r.inj _ _ _ o2 hown) e4
 ·subst e4;exact absurd (r.inj _ _ _ o1 hown) e2
 ·exact r.inj i i' b' o1 o2):G:=h
theorem y46 (h:G:=by
 have hπ1:π1=[]:=by
  cases π1 with
  |nil=>rfl
  |cons j π1=>
   obtain⟨oi,oj,hoi,_,_,hEi,_⟩:=hloose j aA;rw[hoi] at hE;simp[hEi] at hE
 subst hπ1;simp only[bM4,Ranked,hE,if_true] at hrk⊢;exact hrk.2):G:=h
theorem y47 (h:G:=by
 rcases ho with ⟨c,h1,h3,h2⟩|⟨c,x,c',m,h1,hk,h2⟩
 ·have e:=hne _ _ h1;rw[hold id' e] at h1;exact⟨e, .inl ⟨c,h1,h3,h2⟩⟩
 ·have e:=hne _ _ h1;rw[hold id' e] at h1;exact⟨e, .inr ⟨c,x,c',m,h1,hk,h2⟩⟩):G:=h
theorem y48 (h:G:=by
 refine znf1r he ?_;refine IH (j+1) _ _ ⟨by omega,hgo he⟩ aB ?_ rfl;exact zS):G:=h
theorem y49 (h:G:=by
 have:k=0\/k=1\/k=2\/k=3\/k=4\/k=5\/k=6\/k=7\/k=8\/k=9\/k=10\/k=11\/k=12:=by omega
 rcases this with rfl|rfl|rfl|rfl|rfl|rfl|rfl|rfl|rfl|rfl|rfl|rfl|rfl<;>rfl):G:=h
theorem y4a (h:G:=by
 simp only[bM4] at he;subst he;rcases List.sublist_cons_iff.1 s2 with s2|⟨r,hr,s2⟩
 ·have:=s2.subset (show j∈[i,j] by simp);rw[bNd] at n2;exact n2.1 this
 ·simp only[bMz] at hr;exact hij hr.1):G:=h
theorem y4b (h:G:=by
 unfold looseB at h;split at h
 ·rename_i oi oj hi hj;simp only[bM8,bN0,bNe,bMi] at h;exact⟨oi,oj,hi,hj,h.1.1,h.1.2,fun he=>h.2.resolve_left (by rw[he];simp)⟩
 ·cases h):G:=h
theorem y4c (h:G:=by
 have:=patch_full dc l [] (by rw[hl',hdl']);simpa only[bM1] using this):G:=h
theorem y4d (h:G:=by
 refine key l hB (fun p hp=>?_) h hh;have:=Pt.size_at hp;have:=p.size_pos;omega):G:=h
theorem y4e (h:G:=by exact Fin.ret' (h0:=h) aA rfl hh rfl aE rfl (Weak.refl _) aA ⟨⟨_,rfl,by simp⟩,rfl⟩):G:=h
theorem y4f (h:G:=by exact Fin.ret' (h0:=h) (xs:=[.agg zDcA,iA 0,bA false]) aA rfl hh rfl aA rfl (y:= .tup [zDc.av,iA 0,bA false]) (Weak.tup (WeakL.cons dc_weak0 (WeakL.refl _))) (by simp[zDc,Dc.av,Dc.cells,zT]) ⟨rfl,rfl⟩):G:=h
theorem y4g (h:G:=by
 have:=h2 ks' (Gl.closed lt _ _ _ _ hG b1 d1);rw[b3] at this;exact this.mono fun x2 T2 h2 D2 e=>e.weaken b1 b2 d1 h1):G:=h
theorem y4h (h:G:=by
 split at h
 ·rename_i hc;rw[if_pos hc];obtain⟨e,h1,rfl⟩:=bMb.1 h;rw[h1];simp
 ·cases h):G:=h
theorem y4i (h:G:=by
 have hje:j=ks.length:=by omega
 subst hje;rw[bMm] at hvj;refine znfen ?_;refine zA ?_;exact Fin.ret' (h0:=B sj) aA (hlen sj) (hwf sj) rfl rfl rfl (Weak.refl _) rfl ⟨by rw[hvj];rfl,by rw[hvj]⟩):G:=h
theorem y4j (h:G:=by
 apply bNj;intro j;refine y1t ?_;split
 ·rename_i e;subst e;rcases bNi slot a.tmps.size with l|l
  ·simp[l] at hv⊢;exact hv.symm
  ·have l':¬slot<a.tmps.size:=by omega
   simp[l']
 ·rfl):G:=h
theorem y4k (h:G:=by
 have hje:j=ks.length:=by omega
 subst hje;rw[bMm];have hd2:=depths_le_sizes ks;refine znfen ?_;refine zA ?_;refine Fin.ret' aA rfl hh rfl rfl rfl (Weak.refl _) rfl ⟨by simp[Tm.depth],rfl⟩):G:=h
theorem y4l (h:G:=by
 repeat (first|refine Run.skip ?_|refine Run.opsNil ?_|refine Run.inBlock ?_)
 refine hJ _ ?_;rw[hrb];exact zS):G:=h
theorem y4m (h:G:=by
 split at h
 ·rename_i e2;simp only[bM0] at h;subst h;simp only[e2,KOR.un,kput_eq hn]
 ·cases h):G:=h
theorem y4n (h:G:=by
 simp only[AOut.ret.injEq] at hv';subst hv';refine zo ?_;refine Run.nil ?_;exact Fin.ret' (h0:=B (vis st s 0 (Tm.mk k i nm ls ks)).1) aA (by rw[hlen,hlen]) (hwf _) rfl rfl rfl (Weak.refl _) rfl ⟨rfl,rfl⟩):G:=h
theorem y4o (h:G:=by
 rw[if_pos hl] at hJ;refine nv ?_;refine cf (by simp[hl']) ?_
 repeat (first|refine Run.skip ?_|refine Run.opsNil ?_|refine Run.inBlock ?_)
 refine Run.keep [2,3] ?_;simp;refine yh ?_;refine hJ _ ?_ rfl;exact zS):G:=h
theorem y4p (h:G:=by refine Fin.ret' (h0:=h) (xs:=[.p (.prim (.slice none 0 0)), .agg zTm,iA 13]) aA rfl hh rfl aA rfl (Weak.tup (WeakL.cons (Weak.nil 5) (WeakL.cons Weak.zT (WeakL.refl _)))) aA ⟨rfl,rfl⟩):G:=h
theorem y4q (h:G:=by
 refine znr ?_;have h2:sameVar (x,y) (x',y')=true:=by simpa [sameVar] using h1
 refine IH (j+1) _ _ ⟨by omega,by rw[allTo_succ,hall];simp only[varsAt,hg,hg',h2];rfl⟩ aB ?_ rfl;exact zS):G:=h
theorem y4r (h:G:=by
 have hje:j=xs.length:=by omega
 subst hje;refine znfen ?_;refine zA ?_;refine zF3 hh ?_;exact⟨by simp only[sameLvs,h0,hall];simp,rfl⟩):G:=h
theorem y4s (h:G:=by
 refine znf1r hx ?_;refine IH (j+1) _ _ ⟨by omega,?_⟩ aB ?_ rfl
 ·rw[htk];intro c hc';rcases bMo.1 hc' with h1|h1
  ·exact hall c h1
  ·simp at h1;rw[h1];exact hx
 ·exact zS):G:=h
theorem y4t (h:G:=by
 simp only[hE,if_false,bO7];exact Ranked.remove hE π1 π2 _ hrk):G:=h
theorem y4u (h:G:=by
 refine zL (c2 _ (hh.app aA)) ?_
 cases b2<;>cases fb<;>(
  refine zox ?_;refine zF1 hh ?_;exact⟨by rw[hr];simp,rfl⟩)):G:=h
theorem y4v (h:G:=by
 have e:=e2 hEj;subst e;have hl:=hrank hEj;rw[List.drop_append_of_le_length hl] at h4;exact⟨h4 h (List.mem_append_right _ aA),stab_iff.2 fun g hg=>h4 g (bNl _ hg)⟩):G:=h
theorem y4w (h:G:=by
 have hpw:=p.pair;rw[hπ,List.pairwise_append] at hpw;rcases hpw.2.2 j hj i aA with hp|hp
 ·have:=p.below hi hp;rw[(p.mem j (by rw[hπ];simp[hj])).2] at this;cases this
 ·exact hp):G:=h
theorem y4x (h:G:=by
 simp only[bMe,if_false] at hvis;refine zo ?_;refine zA ?_;exact Fin.ret' (h0:=B s1) aA (hlen s1) (hwf s1) rfl rfl rfl (Weak.refl _) rfl ⟨by rw[hvis];rfl,by rw[hvis]⟩):G:=h
theorem y4y (h:G:=by
 simp only[RepO] at hout;obtain⟨v,rfl,hx⟩:=hout;have:=hret x h' hr E' w' _ (s'.put hx o.dst);exact K_mono (P:=P) (rd:=rd) (Post.of_fr (Q:=Q) hfr) (.ops all rest::k) _ _ _ this):G:=h
theorem y4z (h:G:=by
 simp only[RepO] at hout;obtain⟨v,rfl,hx⟩:=hout;show K P rd (Post nb Q E h w) k (.panic _) a w';rw[K_panic];exact⟨E',T,h',D, .panic x,hpan x h' hr,s',hfr.toN _,v,rfl,hx⟩):G:=h
theorem y50 (h:G:=by
 split at h
 ·rename_i hc;rw[if_pos hc];simp only[bM0] at h;subst h;simp
 ·cases h):G:=h
theorem y51 (h:G:=by
 have hje:j=l.length:=by omega
 subst hje;refine znfenrx ?_;refine zF4 hh ?_;exact⟨rfl,rfl⟩):G:=h
theorem y52 (h:G:=by
 refine znr ?_;have h2:sameT u v=true:=by simpa using h1
 refine IH (j+1) _ _ ⟨by omega,by rw[allTo_succ,hall];simp only[tmsAt,hg,hg',h2];rfl⟩ aB ?_ rfl;exact zS):G:=h
theorem y53 (h:G:=by
 exfalso;have hlt:t%(Region.ready .any ops listed).length<(Region.ready .any ops listed).length:=Nat.mod_lt _ (bNx.2 hne);rw[bOi] at hi;omega):G:=h
theorem y54 (h:G:=by
 rw[htk,depths_snoc];simp
 repeat' first|exact wn|apply wc
 all_goals first|exact Weak.junk _|exact Weak.refl _|exact Weak.int aB|(refine Weak.int ?_;split<;>omega)):G:=h
theorem y55 (h:G:=by
 simp only[cells_mk,bMd,bNb,RepL,Rep,lvPs,tmPs_eq];exact⟨_,_,rfl,r0,_,_,rfl,r1,_,_,rfl,by simp[RepP,isPrim],_,_,rfl,r3,_,_,rfl,r4,rfl⟩):G:=h
theorem y56 (h:G:=by
 by_cases hi:i<1000
 ·have:pc.contains i=false:=by
   rw[Bool.eq_false_iff];intro hm;have:=h i (bOf.1 hm);omega
  rw[this,Bool.and_false]
 ·simp[hi]):G:=h
theorem y57 (h:G:=by
 have hr2:=hfull (by rw[hrn]);rw[hrn] at hr2;refine zotx ?_;exact Fin.ret' (h0:=B s2') aA (by rw[hlen,hlen]) (hwf _) rfl rfl rfl (Weak.refl _) rfl ⟨rfl,by rw[hr2]⟩):G:=h
theorem y58 (h:G:=by
 obtain⟨y,ey,hy⟩:=hhi x rfl;obtain⟨k,rfl⟩:=intA_rep eu hy;exact .inr ⟨k,ey⟩):G:=h
theorem y59 (h:G:=by
 obtain⟨y,ey,hy⟩:=hlo x rfl;obtain⟨k,rfl⟩:=intA_rep el hy;exact .inr ⟨k,ey⟩):G:=h
theorem y5a (h:G:=by
 have e:i≠h.length:=fun e=>by subst e;rw[hnew] at hc;cases hc;simp[AO.tk] at hk
 obtain⟨q1,_⟩:=hold i o e hc;exact r.sepT i o n s k cs b' c m off q1 hk hg hl hb):G:=h
theorem y5b (h:G:=by
 rw[List.pairwise_append] at hπp;rcases hπp.2.2 j hj i aA with hq|hq
 ·have:=hτ.1 j (hp'.mem_iff.1 (bNl _ hj));rw[hq] at this;cases this
 ·exact hq):G:=h
theorem y5c (h:G:=by
 have e:=keepOk_T hk a1 a2;have:=hn ks' a1 a2;rw[<-tput_io,e.1,e.2] at this;exact this):G:=h
theorem y5d (h:G:=by
 rw[bO2] at hj;split at hj
 ·rw[List.getElem?_drop] at hj;exact hj
 ·cases hj):G:=h
theorem y5e (h:G:=by
 rcases p.all i hlt h0 with hm|⟨e,he,hel,hle,hpe⟩
 ·exact .inl hm
 ·rcases hpe with rfl|hpe
  ·exact .inr he
  ·have:=p.below hi hpe;rw[hle] at this;cases this):G:=h
theorem y5f (h:G:=by
 rw[<-h1];refine aop_congr o.op fun y hy=>?_
 rw[aev_io,aev_io,aev_cut,aev_congr hl hy];have:=bMg.1 hu y (by simpa using hy);unfold cutA;rw[if_pos this]):G:=h
theorem y5g (h:G:=by
 rw[e]
 by_cases h:m%2=0
 ·rw[if_pos h,h];rfl
 ·rw[if_neg h]
  cases hb:Nat.beq (m%2) 0 with
  |true=>exact absurd (Nat.eq_of_beq_eq_true hb) h
  |false=>rfl):G:=h
theorem y5h (h:G:=by
 simp only[AOut.ret.injEq] at hv;subst hv;refine zox ?_;exact Fin.ret' aA rfl hh (bM1 _).symm rfl rfl (Weak.of_eq (by simp[<-hr])) rfl ⟨rfl,rfl⟩):G:=h
theorem y5i (h:G:=by
 have hs3:=hstop hsn;refine zo ?_;refine zA ?_;exact Fin.ret' (h0:=B s2) aA (hlen s2) (hwf s2) rfl rfl rfl (Weak.refl _) rfl ⟨by rw[hs3];rfl,by rw[hs3]⟩):G:=h
theorem y5j (h:G:=by
 unfold Instr.buildSlice;simp only[Sem.run_bind,run_elT he,Result.andThen_ok,run_szT hsz,Nat.zero_mul];simp[Instr.fill,newRow,show Array.range 0=#[] from rfl]):G:=h
theorem y5k (h:G:=by
 refine⟨fun _ _=>trivial,?_⟩;rw[Oper.semAt_eq _ _ _ (fun c hc=>by rw[hc] at h2;simp[aop] at h2),hrun];rcases hn with rfl|⟨rfl,rfl⟩<;>exact this):G:=h
theorem y5l (h:G:=by
 congr 1
 refine List.map_congr_left fun q hq=>?_
 show(if(S (p.fl.getD q 0)||p.fl.getD q 0==i)=true then _ else _)=_;rw[hnofl hf q (bN6.1 hq)]):G:=h
theorem y5m (h:G:=by
 refine⟨E,w', .skip,undef,by simp[execOp,e1], .inr ⟨rfl,rfl⟩,e2,by rw[e4];exact s.fresh,?_,e3⟩;simp only[Rep,RepL];exact⟨[],rfl,rfl⟩):G:=h
theorem y5n (h:G:=by exact Fin.ret' (h0:=h) (xs:=[.agg zTm,bA false]) aA rfl hh rfl aA rfl (Weak.tup (WeakL.cons Weak.zT (WeakL.refl _))) aA ⟨rfl,rfl⟩):G:=h
theorem y5o (h:G:=by refine Fin.ret' (h0:=h) (xs:=[.agg zTm,iA 7]) aA rfl hh rfl aA rfl (Weak.tup (WeakL.cons Weak.zT (WeakL.refl _))) aA ⟨rfl,rfl⟩):G:=h
theorem y5p (h:G:=by refine Fin.ret' (h0:=h) (xs:=[.agg zTm,iA e]) aA rfl hh rfl aA rfl (Weak.tup (WeakL.cons Weak.zT (WeakL.refl _))) aA ⟨rfl,rfl⟩):G:=h
theorem y5q (h:G:=by
 refine zot ?_;refine zA ?_;refine zF3 hh ?_;exact⟨⟨_,rfl,fun h=>by cases h⟩,rfl⟩):G:=h
theorem y5r (h:G:=by
 rcases Nat.mul_eq_zero.1 hz0 with h|h
 ·exact h
 ·omega):G:=h
theorem y5s (h:G:=by
 simp only[bLz,bMz] at he;obtain⟨rfl,he⟩:=he;have hic:i∈c:=s1.subset aA;exact n3 i hic i aA rfl):G:=h
theorem y5t (h:G:=by
 obtain⟨v,h7,h8⟩:=h6;exact .inr (.inr (.inr (.inl ⟨h1,h2,c,f,args,h',h3,h4,h5,v,h7,hn _ _ _ ⟨[h],rfl,by simp[h2]⟩ h8⟩)))):G:=h
theorem y5u (h:G:=by
 cases fb<;>(
  refine znrx ?_;refine zF1 hh ?_;exact⟨by rw[hr];simp,rfl⟩)):G:=h
theorem y5v (h:G:=by exact close x hx ⟨oj,hj, .inr (.inr (.inr (.inl ⟨by rw[o1];exact h1,h2,c,f,args,h',h3,by rw[o3 c h3];exact h4,h5,v,h7,hn⟩)))⟩):G:=h
theorem y5w (h:G:=by
 refine⟨blk,cap,ht,h1,h2,fun b hb=>?_⟩;obtain⟨us,hr,hl,hp⟩:=h3 b hb;exact⟨us,hr.same (alloc_old _ hr.lt),hl,hp.ext hx⟩):G:=h
theorem y5x (h:G:=by exact K_mono (P:=P) (rd:=rd) (Post.of_fr (Q:=Q) f2) k _ _ _ (r _ w a ⟨s'.rel,s'.fresh,hset s'.tmps (by rw[hv];exact hx),s'.defers⟩)):G:=h
theorem y5y (h:G:=by exact⟨v,e1, .ret y,h2.take m,E2.cut m,hR,r2.cut m hh,Fresh.cut E2 hm2,⟨v,rfl,x2.cut hy⟩,(hfr1.trans (g2.toN _)).cut hfresh hm⟩):G:=h
theorem y5z (h:G:=by apply bOb;simp):G:=h
theorem y60 (h:G:=by
 apply bNj;intro j;refine y1t ?_;split
 ·rename_i e;subst e;simp[show off<vs.length by omega] at hv⊢;exact hv.symm
 ·rfl):G:=h
theorem y61 (h:G:=by
 have hd:=r.of_heap (w':=w.drew) rfl rfl rfl;obtain⟨h1,h2,h3⟩:=hd.1.alloc hf hb e;exact⟨_,h1,h3,hd.2.trans h2,if_pos rfl⟩):G:=h
theorem y62 (h:G:=by
 refine(List.perm_ext_iff_of_nodup hnd L.nodup).2 fun i=>?_
 rw[hun];exact⟨fun h=>h1 i h,fun h=>bOf.1 (h2 i h)⟩):G:=h
theorem y63 (h:G:=by
 obtain⟨j,hj⟩:=bNm hx;obtain⟨e,hej,hek⟩:=hbw j x hj;exact h2 e (bMa hej) (by rw[hek,hc])):G:=h
theorem y64 (h:G:=by
 refine⟨xs,y,h0++l,h0.length,hr,Settles.weak hw _,hn,by simp,hy,?_,?_⟩
 ·rw[take_last];exact hh
 ·rw[take_last];exact hR):G:=h
theorem y65 (h:G:=by
 split at h
 ·rename_i hb;split at h<;>first|(cases h;done)|(simp only[bM0] at h;subst h;simp[abin,hb])
 ·cases h):G:=h
theorem y66 (h:G:=by
 obtain⟨q1,_⟩:=hold i o e hc;obtain⟨b',hg,ho⟩:=r.objsO i o q1 hn;exact⟨b',by rw[hg' i e];exact hg,ho.move hx rfl⟩):G:=h
theorem y67 (h:G:=by
 refine IH (j+1) _ _ ⟨by omega,hgo⟩ aB ?_ aA;exact zS):G:=h
theorem y68 (h:G:=by
 rcases Nat.eq_zero_or_pos j with e|e
 ·exact .inr e
 ·exact .inl ⟨_,e,bLv (show j-1<vs.length by omega)⟩):G:=h
theorem y69 (h:G:=by
 subst hn00;have er:Array.range 0=#[]:=rfl;simp[Instr.makeSlice,run_elT hel,asInt,asIntOf,typeInfo,hi,hw,sizeOf,newRow,er]):G:=h
theorem y6a (h:G:=by
 refine zA ?_;refine zF3 hh ?_;exact⟨by simp[nameP,nst_dead hsn],rfl⟩):G:=h
theorem y6b (h:G:=by
 split at e
 ·exact⟨by assumption,e⟩
 ·cases e):G:=h
theorem y6c (h:G:=by
 rw[bNu] at hj;exact⟨(hf j hj).1,by show(if j=id then _ else _)=_;rw[if_neg aB];exact(hf j hj).2⟩):G:=h
theorem y6d (h:G:=by
 rcases L.ready τ1 i τ2 hτ o ho e he hb with h|h
 ·rcases bNi e.on ops.size with hi|hi<;>simp[hi] at h
 ·exact h):G:=h
theorem y6e (h:G:=by
 simp only[bM0,bMf] at ho;exact pure (v:=a.eval y) (by simp[execOp]) (aev_rep s y) ho.1.symm ho.2.symm):G:=h
theorem y6f (h:G:=by
 refine zox ?_;refine zF4 hh ?_;exact⟨rfl,rfl⟩):G:=h
theorem y6g (h:G:=by rw[bOr];exact List.map_congr_left fun y _=>aev_io ks T y):G:=h
theorem y6h (h:G:=by exact⟨E',w',v',by simp[builtin,g1],g2⟩):G:=h
theorem y6i (h:G:=by
 have h1:0<=n:=by omega
 simp[Instr.indexAt,asIntOf,run_underlying hu,Instr.sureAddr,h1,hlt,run_szT hsz,addr_add]):G:=h
theorem y6j (h:G:=by refine Fin.ret' (h0:=h) aA rfl hh rfl aE rfl (Weak.refl _) aA ⟨by rw[hr];simp[c1,c2],rfl⟩):G:=h
theorem y6k (h:G:=by
 obtain⟨h1,h2⟩:=s.rel.of_heap (w':= {w with drawn:=w.drawn+1}) rfl rfl rfl;exact⟨s.move h2 h1 s.fresh,h2⟩):G:=h
theorem y6l (h:G:=by
 rcases hlv with ⟨rfl,rfl⟩|⟨k,rfl⟩
 ·simp[Instr.sliceBounds,em',eu1]
 ·simp[Instr.sliceBounds,em',eu1,el1]):G:=h
theorem y6m (h:G:=by
 refine y1n ?_;refine IH (j+1,s2') _ _ ⟨by simp only;omega,hrn,hl2 rfl⟩ (by simp only;omega) ?_ aA;exact zS):G:=h
theorem y6n (h:G:=by
 repeat (first|refine Run.skip ?_|refine Run.opsNil ?_|refine Run.inBlock ?_)
 refine hJ _ ?_;simp[c1,c2,c3];exact zK):G:=h
theorem y6o (h:G:=by
 rw[hd] at hne;have hds:d≠s:=fun e=>hne (by rw[e])
 simp only[tput,tget_eq,List.getD,bMl hds]):G:=h
theorem y6p (h:G:=by
 split at h
 ·rename_i e3;simp only[bM0] at h;subst h;simp only[e3,if_true,KOR.un,kput_eq hn]
 ·cases h):G:=h
theorem y6q (h:G:=by exact Fin.ret' aA rfl hh (bM1 _).symm rfl rfl (Weak.refl _) rfl ⟨by simp[nameB,nst_dead hsn],rfl⟩):G:=h
theorem y6r (h:G:=by exact Fin.ret' (h0:=h) aA rfl hh rfl aE rfl (Weak.refl _) aA ⟨⟨_,rfl,trivial⟩,rfl⟩):G:=h
theorem y6s (h:G:=by
 have hid':h.length+1<=i:=hi;exact⟨by rw[hg' i aB];exact(hf i aB).1,(hf i aB).2⟩):G:=h
theorem y6t (h:G:=by
 repeat' first|exact wn|apply wc
 all_goals first|exact Weak.junk _|exact Weak.refl _|exact Weak.int aB):G:=h
theorem y6u (h:G:=by
 rcases bNi i l.size with h'|h'
 ·simp[h'] at h⊢;exact h
 ·simp[Array.getElem?_eq_none h'] at h⊢):G:=h
theorem y6v (h:G:=by
 rw[Sem.run_bind,show(Array.map (fun p:Nat×Operand=>(p.1,a.eval p.2)) #[])=#[] from by simp,hrun]
 rfl):G:=h
theorem y6w (h:G:=by
 rw[hdc,List.all_map];exact bMg.2 fun _ _=>rfl):G:=h
theorem y6x (h:G:=by exact close x hx ⟨oj,hj, .inr (.inr (.inl ⟨by rw[o1];exact h1,h2,y,h',by rw[o2];exact h3,hn⟩))⟩):G:=h
theorem y6y (h:G:=by
 rcases hO i b' ho with ⟨_,e2⟩|⟨_,_,o⟩
 ·subst e2;exact .inl ⟨id,hown⟩
 ·exact .inl ⟨i,o⟩):G:=h
theorem y6z (h:G:=by
 refine zA ?_;refine zF2 hh ?_;exact⟨by rw[hrr];rfl,rfl⟩):G:=h
theorem y70 (h:G:=by exact Fin.ret' (h0:=G) aA hGl hGw rfl (by simp[hGl];rfl) rfl (Weak.refl _) aA ⟨rfl,rfl⟩):G:=h
theorem y71 (h:G:=by
 have:=flat_replicate (List.toArray z) out.length;simp only[List.size_toArray,hzs] at this⊢;exact this):G:=h
theorem y72 (h:G:=by
 simp only[if_neg hz0,Sem.run_bind,hzr,Result.andThen_ok,Sem.run_pure,hzc];rw[hinit,e1];simp[newRow]):G:=h
theorem y73 (h:G:=by exact Fin.ret' (h0:=g) aA rfl hg rfl aE rfl (Weak.refl _) aA ⟨by simp,rfl⟩):G:=h
theorem y74 (h:G:=by
 rw[if_neg hk] at hz2;refine cf (by simp[hk]) ?_;refine Run.skip ?_;refine hJ _ ?_;simp[hz,hz2];exact zK):G:=h
theorem y75 (h:G:=by exact⟨rfl,_,_,h',mm,aresX_io hl,by rw[atuple_io];exact s1,s2,s3,s4,s5,⟨_,rfl⟩,s6⟩):G:=h
theorem y76 (h:G:=by
 have:=hn ks (Agree.refl _ _) (fun _=>rfl);rw[<-tput_io,io_tup,bNb] at this;exact this):G:=h
theorem y77 (h:G:=by obtain⟨l,h1⟩:=hat _ _ h1;simp only[Env.cut,l,if_true] at h2;exact .inl ⟨c,h1,h3,h2⟩):G:=h
theorem y78 (h:G:=by simp[Instr.fieldAt,run_underlying hu,hfd,Instr.sureAddr,fieldPlace,run_szT hn,hne,addr_add,ho]):G:=h
theorem y79 (h:G:=by have:=hw.all;rw[bO9,bM8,bM5,hlen] at this;exact this.2):G:=h
theorem y7a (h:G:=by exact dr_swap hi hj hap hE (fun hEj=>by simp only[hEj,if_true] at hr;have:=hlo hEj;omega) d1):G:=h
theorem y7b (h:G:=by rcases hb with hb|hb|hb<;>cases hb):G:=h
theorem y7c (h:G:=by
 subst hp;have:=Weak.own _ _ _ E w v (by simpa using hv);simp only[Rep] at this;exact this.ext hx):G:=h
theorem y7d (h:G:=by exact ops1 h1 h3 fun E' w' a' hs hfr=>hk _ _ _ E' w' a' ⟨[],by simp,by simp[h2]⟩ h5 hs hfr):G:=h
theorem y7e (h:G:=by
 have er:Array.range 0=#[]:=rfl;simp only[hl0,Nat.zero_mul,if_true];simp[e1',newRow,er]):G:=h
theorem y7f (h:G:=by
 split at h
 ·rename_i i hi;split at h
  ·rename_i hz;exact⟨i,hi,hz⟩
  ·cases h
 ·cases h):G:=h
theorem y7g (h:G:=by exact hk _ _ _ E' w' _ ⟨[],by simp,by simp[h2]⟩ h5 ((s.move hfr hrel hf).put hx o.dst) hfr):G:=h
theorem y7h (h:G:=by exact ops1 h1 h3 fun E' w' a' hs hfr=>hk _ _ _ E' w' a' ⟨[h],rfl,by simp[h2]⟩ h4 hs hfr):G:=h
theorem y7i (h:G:=by
 simp only[Rep];exact⟨w.heap.size,by simp,rfl⟩):G:=h
theorem y7j (h:G:=by
 simp (maxSteps:=1000000) [x1,x2,x3,x4];refine J _ (hJ _ ?_);simp[x1,x2,x3,x4];exact zK):G:=h
theorem y7k (h:G:=by
 simp only[bM0,bMf] at h;obtain⟨rfl,rfl,rfl,rfl,rfl⟩:=h
 rfl):G:=h
theorem y7l (h:G:=by
 simp only[bM0,bMf] at h;obtain⟨rfl,rfl,rfl⟩:=h;exact c _ rfl):G:=h
theorem y7m (h:G:=by simp only[bM0,bMf] at e;obtain⟨rfl,rfl⟩:=e;simp[abuiltin]):G:=h
theorem y7n (h:G:=by
 simp only[Rep];exact⟨_,g4,rfl⟩):G:=h
theorem y7o (h:G:=by
 have:=bOe.1 hs oj (Array.mem_of_getElem? hj);simpa using this):G:=h
theorem y7p (h:G:=by
 obtain⟨q1,_⟩:=hold i o e hc;rw[hg' i e] at hg;exact r.sepO i o b' off q1 hn hg hb):G:=h
theorem y7q (h:G:=by
 obtain⟨y,h1,h2⟩:=bMb.1 hx;simp only[bMf] at h2;omega):G:=h
theorem y7r (h:G:=by
 refine⟨_,cap,rfl,hc,h.imp id ?_⟩;rintro⟨b,rfl,hh⟩;exact⟨b,0,rfl,hh⟩):G:=h
theorem y7s (h:G:=by
 repeat' first|exact wn|apply wc
 all_goals first|exact Weak.refl _|exact Weak.junk _):G:=h
theorem y7t (h:G:=by exact .inr (.inr (.inl ⟨h1,h2,x,h',h3,hn _ _ _ ⟨[h],rfl,by simp[h2]⟩ h4⟩))):G:=h
theorem y7u (h:G:=by exact Fin.pan (h0:=B w2++l) (by simp[hlen]) (hwB w2) aE (by simp[VPost])):G:=h
theorem y7v (h:G:=by
 rw[L.mem,unl_mem];constructor
 ·exact fun h=>h.1
 ·exact fun h=>⟨h,by simp[h]⟩):G:=h
theorem y7w (h:G:=by rw[bNh,bO4,hg];rfl):G:=h
theorem y7x (h:G:=by
 rw[vR ((pre_app _ _).trans r2),getD_pre r2 (by simp;omega),<-hHS];simp[List.getD]):G:=h
theorem y7y (h:G:=by rw[bMg] at hl0⊢;exact fun o ho=>AO.under_mono aB (hl0 o ho)):G:=h
theorem y7z (h:G:=by
 cases eF pc i o
 ·exact⟨[],by simp,by simp⟩
 ·exact⟨[h],by simp,by simp⟩):G:=h
theorem y80 (h:G:=by exact .inr (.inl ⟨h1,h2,x,h3,h4,hn _ _ _ ⟨[],by simp,by simp[h2]⟩ h5⟩)):G:=h
theorem y81 (h:G:=by
 cases isE o.op
 ·exact⟨[],by simp,by simp⟩
 ·exact⟨[h],by simp,by simp⟩):G:=h
theorem y82 (h:G:=by exact wpOps_post (K_mono (P:=P) (rd:=rd) (Post.of_fr (Q:=Q) hfr) k) τ _ _ this):G:=h
theorem y83 (h:G:=by
 obtain⟨b,off,rfl,_⟩:=h.resolve_left aA;exact⟨_,_,_,rfl,rfl⟩):G:=h
theorem y84 (h:G:=by rcases h with ⟨o,h,_⟩|⟨n,sz,c,m,h,_⟩<;>(rw[at_nil] at h;cases h)):G:=h
end Go.AI
