/-
  level: a sum, its map and its number: newSum, raise, add, maps.Keys.
-/
import Derived.Shelf.SlIterI.Sorted
import Derived.Test.YtcfcolkbeelegaaGreatLFS
import Derived.Test.YtcfcolkbeelegaaGreatProg
import Derived.KernelRfl
import Derived.Test.YtcfcolkbeelegaaGreatLFR
import Derived.Test.YtcfcolkbeelegaaGreatLFU

namespace Go.AI

open Go Go.Shelf Go.Sort Go.Proofs Go.MapKept Go.Maps Go.WideElems
theorem Rel.below {E : Env} {h : Nat → Option AO} {w w' : World} (r : Rel E h w) (hb : RowKit.Below w.heap.size w w') :
    Rel { E with ro := fun b off => E.ro b off ∨ (w.heap.size ≤ b ∧ b < w'.heap.size) } h w' ∧
    Fr E h w { E with ro := fun b off => E.ro b off ∨ (w.heap.size ≤ b ∧ b < w'.heap.size) } h w' := by
  have hx : Ext E w { E with ro := fun b off => E.ro b off ∨ (w.heap.size ≤ b ∧ b < w'.heap.size) } w' :=
    ⟨fun _ _ h => .inl h, fun b off hb' => cell_of_heap (hb.block b (r.lt b off hb')) off, fun _ _ h => h, fun _ L h => ⟨L, h, Nat.le_refl _, fun _ => rfl⟩⟩
  refine ⟨⟨fun id o hc hn => ?_, fun id o n sz m cs hc hk => ?_, r.inj, fun id o b off hc hn hg => ?_, fun id o n sz k cs b c m off hc hk hg hl => ?_, ?_⟩, ⟨fun b hb' _ => hb.block b hb', hx, ?_, hb.size, fun b hb' => .inl hb', hb.os, hb.output⟩⟩
  · obtain ⟨b, hg, ho⟩ := r.objsO id o hc hn
    exact ⟨b, hg, ho.move hx (hb.block b ho.lt)⟩
  · obtain ⟨blk, cap, ht, h1, h2, h3⟩ := r.toks id o n sz m cs hc hk
    refine ⟨blk, cap, ht, h1, h2, fun b hb' => ?_⟩
    obtain ⟨us, hr, hl, hp⟩ := h3 b hb'
    exact ⟨us, hr.same (hb.block b hr.lt), hl, hp.ext hx⟩
  · rintro (h1 | h1)
    · exact r.sepO id o b off hc hn hg h1
    · have := r.owns_lt (.inl ⟨o, hc, hn, hg⟩); omega
  · rintro (h1 | h1)
    · exact r.sepT id o n sz k cs b c m off hc hk hg hl h1
    · have := r.owns_lt (.inr ⟨o, _, c, m, hc, hk, hg⟩); omega
  · rintro b off (h1 | h1)
    · have := r.lt b off h1; have := hb.size; omega
    · omega
  · rintro b off (h1 | h1)
    · exact .inl h1
    · exact .inr (.inr h1.1)
theorem ownsRow_sl {E : Env} {w : World} {base : Nat} {t : TypeId} {v : Value} {zs : List Int} (h : w.ownsRow base t 1 v zs.length (zs.map encZ)) (hro : ∀ b off, base ≤ b → b < w.heap.size → E.ro b off) :
    RepP E w (.sl 1 (ints zs)) v := by
  obtain ⟨_, ⟨rfl, h0⟩ | ⟨g, cap, cur, rfl, hb, hg, hn, hm, hsz, hcur⟩⟩ := h
  · have : zs = [] := List.eq_nil_of_length_eq_zero h0
    subst this
    simp only [RepP, ints, List.map_nil, List.length_nil]
    exact ⟨none, 0, rfl, Nat.le_refl _, .inl trivial⟩
  · simp only [RepP]
    refine ⟨_, cap, by rw [ints_length], by rw [ints_length]; exact hn, .inr ⟨g, 0, rfl, ?_⟩⟩
    have hgl : g < w.heap.size := (Array.getElem?_eq_some_iff.1 hg).1
    rw [Nat.mul_one] at hcur
    refine RepEs.of_row (vs := zs.map encZ) (ints_len zs) (fun j v hj => ⟨hro g _ hb hgl, ?_⟩) (by rw [ints_flat]; exact repL_ints.2 rfl)
    have hj' : j < zs.length := by have := (List.getElem?_eq_some_iff.1 hj).1; simpa using this
    rw [← hcur, List.getElem?_take_of_lt hj', Array.getElem?_toList] at hj
    simp only [World.cell?, hg, Nat.zero_add]
    simpa using hj
def keyI : Value → Int
  | .int _ a => a
  | _ => 0
theorem sorted_calls {P : Program} {ρ1 ρ2 ρ3 : Ren} (L1 : SlLaysZI.n10 P ρ1) (L2 : SlLaysZI.n6 P ρ2) (L3 : Lays.n189 P ρ3) (h9 : ρ2.f 9 = ρ3.f 189)
    (e9 : ∀ args w, (callFunc (ρ2.f 9) args).run P w = .ok (.enter (ρ2.f 9) args) w) (eg : ∀ args w, (callFunc (ρ1.f 10) args).run P w = .ok (.enter (ρ1.f 10) args) w)
    {h : Heap} {q id : Nat} {om : List (Int × Int)} (hq : h.at q = some (.cells [.mp id])) (hid : h.at id = some (.aux (.map (om.map ikv)))) (hwf : ∀ x ∈ om, (Lit.int .i64 x.1).wf = true) (hl : om.length ≤ 1048576) :
    ACalls P (ρ2.f 6) [.fn (.func (ρ1.f 10)) [] [.ptr q 0]] h fun out h' => out = .ret (.p (.sl 1 (ints ((om.map Prod.fst).mergeSort fun x y => decide (x ≤ y))))) ∧ h' = h := by
  intro E w vs hrel hfresh hargs
  simp only [RepL, Rep] at hargs
  obtain ⟨v, us, rfl, ⟨vs1, us1, rfl, rfl, v1, us2, rfl, ⟨b, hg, rfl⟩, rfl⟩, rfl⟩ := hargs
  obtain ⟨b', cur, hg', hrow, hreps⟩ := hrel.objs q _ hq
  rw [hg] at hg'; cases hg'
  simp only [RepL, Rep] at hreps
  obtain ⟨v2, us3, rfl, ⟨m, hm, rfl⟩, rfl⟩ := hreps
  obtain ⟨m', hm', es, c, hheap, hkv, hst⟩ := hrel.objsO id _ hid rfl
  rw [hm] at hm'; cases hm'
  have hkeys : es.toList.map (·.key) = om.map fun x => encZ x.1 := by
    have := congrArg (List.map Prod.fst) hkv
    simpa [List.map_map, Function.comp_def] using this
  have hlen : es.size = om.length := by
    have := congrArg List.length hkv
    simpa using this
  have hkey : ∀ x ∈ es.toList, ∃ z : Int, x.key = encZ z ∧ (Lit.int .i64 z).wf = true := by
    intro x hx
    have : x.key ∈ es.toList.map (·.key) := List.mem_map.2 ⟨x, hx, rfl⟩
    rw [hkeys] at this
    obtain ⟨y, hy, e⟩ := List.mem_map.1 this
    exact ⟨y.1, e.symm, hwf y hy⟩
  have hrd : ∀ x ∈ es.toList, ∀ z : Int, x.key = encZ z → (Lit.int .i64 z).wf = true → WideElems.rd P (ρ1.t 26) (fun _ => some ((.nil : DataW Unit), [])) x = some (.int .i64 z, .nil) := by
    intro x hx z e hw
    simp [WideElems.rd, e, keyOf, L1.t26, mapKey, hw]
  have hown : w.ownsMap P (ρ1.t 26) (fun _ => some ((.nil : DataW Unit), [])) m om.length (.map ((es.toList.map (WideElems.rg P (ρ1.t 26) (fun _ => some ((.nil : DataW Unit), [])))).foldr DataW.insert [])) :=
    ⟨es, c, hheap, ⟨by rw [hlen]; exact Nat.le_trans hl (by decide), hst, fun x hx => by obtain ⟨z, e, hw⟩ := hkey x hx; exact ⟨_, hrd x hx z e hw⟩⟩, by omega, rfl⟩
  have hblt := hrow.lt
  have hcell : w.cell? ⟨b, 0, none⟩ = some (.map (some m)) := by rw [hrow.cell]; rfl
  have hperm : (intKeys (H := Unit) (.map ((es.toList.map (WideElems.rg P (ρ1.t 26) (fun _ => some ((.nil : DataW Unit), [])))).foldr DataW.insert []))).Perm (om.map Prod.fst) := by
    refine ((WideShapes.sorted_perm _).map _).trans (List.Perm.of_eq ?_)
    rw [List.map_map]
    have h1 : es.toList.map ((fun p => intOf p.1) ∘ WideElems.rg P (ρ1.t 26) (fun _ => some ((.nil : DataW Unit), []))) = es.toList.map fun x => keyI x.key := by
      refine List.map_congr_left fun x hx => ?_
      obtain ⟨z, e, hw⟩ := hkey x hx
      simp only [Function.comp_apply, WideElems.rg_of (hrd x hx z e hw), e]
      rfl
    have h2 : es.toList.map (fun x => keyI x.key) = (es.toList.map (·.key)).map keyI := by simp [List.map_map, Function.comp_def]
    rw [h1, h2, hkeys, List.map_map]
    rfl
  have hseq := AnyZI.keys_gives L1 Fence.wide 5 trivial rfl (by omega) b m om.length _ w hblt hcell hown
  have hsize : Maps.size (.map ((es.toList.map (WideElems.rg P (ρ1.t 26) (fun _ => some ((.nil : DataW Unit), [])))).foldr DataW.insert [])) = om.length := by
    simp [Maps.size, length_sorted, hlen]
  rw [hsize] at hseq
  have hsort : AnyZI.SortsIn P ρ2 Fence.wide 7 := by
    unfold AnyZI.SortsIn
    rw [h9]
    exact ⟨fun blk off cap ss W hH hblk hsz => callsIn_wide.2 (Any.slices_Sort_int L3 blk off cap ss W hH hblk hsz), fun p cap W => callsIn_wide.2 (Any.slices_Sort_int_none L3 p cap W)⟩
  have cS := AnyZI.sorted_in L2 Fence.wide 8 trivial trivial trivial trivial rfl (by omega) hsort e9 (ρ1.f 10) #[.pointer (some ⟨b, 0, none⟩)] trivial eg _ om.length (Nat.le_trans hl (by decide)) (by omega) w hseq
  refine Calls.mono (callsIn_wide.1 cS) ?_
  rintro e w' ⟨v, ss, rfl, hS, hrow', _, hb⟩
  obtain ⟨r1, f1⟩ := hrel.below hb
  have hss : ss.mergeSort (fun x y => decide (x ≤ y)) = (om.map Prod.fst).mergeSort fun x y => decide (x ≤ y) := mergeSort_of_perm_i (hS.trans hperm)
  rw [hss] at hrow'
  have hlen' : ss.length = ((om.map Prod.fst).mergeSort fun x y => decide (x ≤ y)).length := by rw [List.length_mergeSort]; exact (hS.trans hperm).length_eq
  rw [hlen'] at hrow'
  exact ⟨_, _, _, ⟨rfl, rfl⟩, r1, hfresh, ⟨_, rfl, by simp only [Rep]; exact ownsRow_sl hrow' fun b off h1 h2 => .inr ⟨h1, h2⟩⟩, f1⟩

end Go.AI

namespace Go.Proofs.YtcfcolkbeelegaaGreat

open Go.Shelf Go.Proofs
def laysK_ren : Go.Shelf.Ren := ⟨fun | 10 => 197 | n => n, fun | 33 => 259 | 23 => 165 | 0 => 0 | 4 => 4 | 26 => 3 | 3 => 3 | n => n, fun | n => n⟩
theorem laysK : Go.Proofs.SlLaysZI.n10 Tryz.prog laysK_ren where
  mixed := by kernel_rfl
  f10 := ⟨ "maps.Keys[euclid/level.offsets,int,int]$1", by decide, Tryz.func197.trans (congrArg some (by kernel_rfl))⟩
  t0 := Tryz.underlying0
  a0 := Tryz.isAgg0
  z0 := Tryz.sizeOf0
  v0 := Tryz.zeroValue0
  t4 := Tryz.underlying4
  a4 := Tryz.isAgg4
  z4 := Tryz.sizeOf4
  v4 := Tryz.zeroValue4
  t23 := Tryz.underlying165
  a23 := Tryz.isAgg165
  z23 := Tryz.sizeOf165
  v23 := Tryz.zeroValue165
  t26 := Tryz.underlying3
  a26 := Tryz.isAgg3
  z26 := Tryz.sizeOf3
  v26 := Tryz.zeroValue3
  t33 := Tryz.underlying259
  a33 := Tryz.isAgg259
  z33 := Tryz.sizeOf259
  v33 := Tryz.zeroValue259
def laysS_ren : Go.Shelf.Ren := ⟨fun | 6 => 162 | 8 => 195 | 9 => 196 | 11 => 224 | 13 => 226 | 12 => 225 | 23 => 254 | 24 => 255 | 14 => 245 | 15 => 246 | 16 => 247 | 17 => 248 | 18 => 249 | 19 => 250 | 20 => 251 | 21 => 252 | 22 => 253 | 25 => 268 | 26 => 269 | 27 => 270 | 28 => 271 | 29 => 272 | 30 => 273 | 31 => 278 | n => n, fun | 26 => 3 | 28 => 228 | 24 => 187 | 0 => 0 | 3 => 3 | 37 => 245 | 48 => 54 | 50 => 322 | 4 => 4 | 40 => 314 | 39 => 313 | 45 => 79 | 5 => 5 | 9 => 9 | 51 => 332 | 55 => 336 | 57 => 340 | 58 => 176 | 33 => 259 | n => n, fun | n => n⟩
theorem laysS : Go.Proofs.SlLaysZI.n6 Tryz.prog laysS_ren where
  mixed := by kernel_rfl
  f6 := ⟨ "slices.Sorted[int]", by decide, Tryz.func162.trans (congrArg some (by kernel_rfl))⟩
  f8 := ⟨ "slices.Collect[int]", by decide, Tryz.func195.trans (congrArg some (by kernel_rfl))⟩
  f11 := ⟨ "slices.AppendSeq[[]int,int]", by decide, Tryz.func224.trans (congrArg some (by kernel_rfl))⟩
  t0 := Tryz.underlying0
  a0 := Tryz.isAgg0
  z0 := Tryz.sizeOf0
  v0 := Tryz.zeroValue0
  t24 := Tryz.underlying187
  a24 := Tryz.isAgg187
  z24 := Tryz.sizeOf187
  v24 := Tryz.zeroValue187
  t26 := Tryz.underlying3
  a26 := Tryz.isAgg3
  z26 := Tryz.sizeOf3
  v26 := Tryz.zeroValue3
  t28 := Tryz.underlying228
  a28 := Tryz.isAgg228
  z28 := Tryz.sizeOf228
  v28 := Tryz.zeroValue228
  i26 := by kernel_rfl
theorem sorted_keys {h : Go.AI.Heap} {q id : Nat} {om : List (Int × Int)} (hq : h.at q = some (.cells [.mp id])) (hid : h.at id = some (.aux (.map (om.map Go.AI.ikv)))) (hwf : ∀ x ∈ om, (Lit.int .i64 x.1).wf = true) (hl : om.length ≤ 1048576) :
    Go.AI.ACalls Tryz.prog 162 [.fn (.func 197) [] [.ptr q 0]] h fun out h' => out = .ret (.p (.sl 1 (Go.AI.ints ((om.map Prod.fst).mergeSort fun x y => decide (x ≤ y))))) ∧ h' = h :=
  Go.AI.sorted_calls laysK laysS lays189 rfl (enters_of Tryz.func196 (by kernel_rfl) rfl) (enters_of Tryz.func197 (by kernel_rfl) rfl) hq hid hwf hl

end Go.Proofs.YtcfcolkbeelegaaGreat

namespace Go.Proofs.YtcfcolkbeelegaaGreat

open Go Go.AI
theorem im165 : intMap Tryz.prog 165 = true := by kernel_rfl

attribute [simp] alookup amapUpd kvOf_ikv im165
theorem raiseM_none {m : List (Int × Int)} {i : Int} (p : Int) (h : lkI m i = none) : raiseM m i p = setI m i p := by
  induction m with
  | nil => rfl
  | cons x m ih =>
    simp only [lkI] at h
    split at h
    · cases h
    · rename_i c
      simp only [raiseM, setI, if_neg c]
      rw [ih h]
theorem raiseM_some {m : List (Int × Int)} {i v : Int} (p : Int) (h : lkI m i = some v) : raiseM m i p = if v < p then setI m i p else m := by
  induction m with
  | nil => simp [lkI] at h
  | cons x m ih =>
    simp only [lkI] at h
    obtain ⟨a, b⟩ := x
    simp only [raiseM, setI]
    split at h
    · rename_i c
      simp only at c
      cases h
      subst c
      simp only [if_true]
      split
      · rename_i h1; rw [show max b p = p by omega]
      · rename_i h1; rw [show max b p = b by omega]
    · rename_i c
      simp only at c
      rw [if_neg c, if_neg c, ih h]
      split <;> rfl

structure SumH (B : List (Int × Int) → Int → Heap) (id s n : Nat) : Prop where
  len : ∀ om c, (B om c).length = n
  gi : ∀ om c l, (B om c ++ l)[id]? = some (some (.aux (.map (om.map ikv))))
  gs : ∀ om c l, (B om c ++ l)[s]? = some (some (.cells [.mp id, iA c]))
  si : ∀ om c om' l, (B om c ++ l).set id (some (.aux (.map (om'.map ikv)))) = B om' c ++ l
  ss : ∀ om c c' l, (B om c ++ l).set s (some (.cells [.mp id, iA c'])) = B om c' ++ l
  wf : ∀ om c, WF (B om c)
  lt : id < n ∧ s < n
theorem SumH.gl {B : List (Int × Int) → Int → Heap} {id s n : Nat} (hB : SumH B id s n) (om : List (Int × Int)) (c : Int) (l : List (Option AO)) (k : Nat) : (B om c ++ l)[n + k]? = l[k]? := get_lastN (hB.len om c)
theorem SumH.gl0 {B : List (Int × Int) → Int → Heap} {id s n : Nat} (hB : SumH B id s n) (om : List (Int × Int)) (c : Int) (l : List (Option AO)) : (B om c ++ l)[n]? = l[0]? := get_lastN0 (hB.len om c)
theorem SumH.sl {B : List (Int × Int) → Int → Heap} {id s n : Nat} (hB : SumH B id s n) (om : List (Int × Int)) (c : Int) (l : List (Option AO)) (k : Nat) (o : Option AO) : (B om c ++ l).set (n + k) o = B om c ++ l.set k o := set_lastN (hB.len om c)
theorem SumH.sl0 {B : List (Int × Int) → Int → Heap} {id s n : Nat} (hB : SumH B id s n) (om : List (Int × Int)) (c : Int) (l : List (Option AO)) (o : Option AO) : (B om c ++ l).set n o = B om c ++ l.set 0 o := set_lastN0 (hB.len om c)
theorem SumH.wfl {B : List (Int × Int) → Int → Heap} {id s n : Nat} (hB : SumH B id s n) (om : List (Int × Int)) (c : Int) (l : List (Option AO)) (hl : l.all (AO.under (n + l.length)) = true) : WF (B om c ++ l) := (hB.wf om c).app (by rw [hB.len]; exact hl)
set_option maxRecDepth 8000 in
set_option maxHeartbeats 4000000 in
theorem raise_any {B : List (Int × Int) → Int → Heap} {id s n : Nat} (hB : SumH B id s n) (om : List (Int × Int)) (c : Int) (l : List (Option AO)) (i p : Int) (hw : ∀ om', WF (B om' c ++ l)) :
    ACalls Tryz.prog 111 [.mp id, iA i, iA p] (B om c ++ l) fun o h' => o = .ret (.tup []) ∧ h' = B (raiseM om i p) c ++ l := by
  refine ACalls.of_run Tryz.func111 rfl ?_
  simp only [Tryz.ntmps111, List.length_cons, List.length_nil]
  refine nv ?_
  refine Run.reg fun K hK => ?_
  simp [hB.gi]
  try (simp (disch := omega) only [wrap_id])
  refine hK _ _ _ ?_; clear hK K
  refine nv ?_
  cases e : lkI om i with
  | none =>
    refine nv ?_
    refine Run.reg fun K hK => ?_
    simp
    try (simp (disch := omega) only [wrap_id])
    refine hK _ _ _ ?_; clear hK K
    refine nv ?_
    refine Run.cond (b := true) (by simp) ?_
    simp only [if_true]
    refine nv ?_
    refine Run.reg fun K hK => ?_
    simp [hB.gi, hB.si]
    try (simp (disch := omega) only [wrap_id])
    refine hK _ _ _ ?_; clear hK K
    refine nv ?_
    refine Run.nil ?_
    exact Fin.ret' (by simp) (by simp [hB.len]) (hw _) (List.append_nil _).symm rfl rfl (Weak.refl _) rfl ⟨rfl, by rw [raiseM_none p e]⟩
  | some v =>
    refine nv ?_
    refine Run.reg fun K hK => ?_
    simp
    try (simp (disch := omega) only [wrap_id])
    refine hK _ _ _ ?_; clear hK K
    refine nv ?_
    by_cases h1 : v < p
    · refine nv ?_
      refine Run.cond (b := true) (by simp [h1]) ?_
      simp only [if_true]
      refine nv ?_
      refine Run.reg fun K hK => ?_
      simp [hB.gi, hB.si]
      try (simp (disch := omega) only [wrap_id])
      refine hK _ _ _ ?_; clear hK K
      refine nv ?_
      refine Run.nil ?_
      exact Fin.ret' (by simp) (by simp [hB.len]) (hw _) (List.append_nil _).symm rfl rfl (Weak.refl _) rfl ⟨rfl, by rw [raiseM_some p e, if_pos h1]⟩
    · refine nv ?_
      refine Run.cond (b := false) (by simp [h1]) ?_
      simp only [Bool.false_eq_true, if_false]
      refine nv ?_
      refine Run.nil ?_
      exact Fin.ret' (by simp) rfl (hw _) (List.append_nil _).symm rfl rfl (Weak.refl _) rfl ⟨rfl, by rw [raiseM_some p e, if_neg h1]⟩
set_option maxRecDepth 8000 in
theorem newSum_any (h : Heap) (hh : WF h) : ACalls Tryz.prog 110 [] h fun o h' => o = .ret (.ptr (h.length + 1) 0) ∧ h' = h ++ [some (.aux (.map [])), some (.cells [.mp h.length, iA 0])] := by
  refine ACalls.of_run Tryz.func110 rfl ?_
  simp only [Tryz.ntmps110, List.length_nil]
  refine nv ?_
  refine Run.reg fun K hK => ?_
  simp
  try (simp (disch := omega) only [wrap_id])
  refine hK _ _ _ ?_; clear hK K
  refine nv ?_
  refine Run.regPre 0 fun K hK => ?_
  simp only [List.take_zero]
  simp
  try (simp (disch := omega) only [wrap_id])
  refine hK _ _ _ ?_; clear hK K
  simp only [List.nil_append, List.drop_zero]
  refine Run.makeMap rfl rfl ?_
  refine Run.ops fun K hK => ?_
  simp
  try (simp (disch := omega) only [wrap_id])
  refine hK _ _ _ ?_; clear hK K
  refine nv ?_
  refine Run.ret ?_
  exact Fin.retM (h0 := h ++ [some (.aux (.map [])), some (.cells [.mp h.length, iA 0])]) (l := []) (by simp) (by simp) (hh.app (by simp)) (by simp) (by simp; rfl) rfl (Weak.refl _) (by simp) ⟨rfl, rfl⟩
set_option maxRecDepth 8000 in
theorem keys_any (h : Heap) (hh : WF h) (id : Nat) (hid : id < h.length) : ACalls Tryz.prog 163 [.mp id] h fun o h' => o = .ret (.fn (.func 197) [] [.ptr h.length 0]) ∧ h' = h ++ [some (.cells [.mp id])] := by
  refine ACalls.of_run Tryz.func163 rfl ?_
  simp only [Tryz.ntmps163, List.length_cons, List.length_nil]
  refine nv ?_
  refine Run.reg fun K hK => ?_
  simp
  try (simp (disch := omega) only [wrap_id])
  refine hK _ _ _ ?_; clear hK K
  refine nv ?_
  refine Run.reg fun K hK => ?_
  simp
  try (simp (disch := omega) only [wrap_id])
  refine hK _ _ _ ?_; clear hK K
  refine nv ?_
  refine Run.ret ?_
  exact Fin.retM (h0 := h ++ [some (.cells [.mp id])]) (l := []) (by simp) (by simp) (hh.app (by simp; omega)) (by simp) (by simp; rfl) rfl (Weak.refl _) (by simp) ⟨rfl, rfl⟩

end Go.Proofs.YtcfcolkbeelegaaGreat
