/-
  slices.Sort at []int by the kit's contract, over a row that may be written.
-/
import Derived.MapKept
import Derived.Test.YtcfcolkbeelegaaGreatLFG
import Derived.Shelf.Sort.Plain
import Derived.Shelf.Slices.In.SortNone

namespace Go.AI

open Go Go.MapKept

section

variable {P : Program} {rd : Option Nat} {nb : Nat} {k : List It} {T : List AV} {h : Heap} {D : List AD} {Q : AX → List AV → Heap → List AD → Prop} {all : Array Oper} {o : Oper} {rest : List Oper}
theorem runG_pre {all : Array Oper} {K : List Oper → List AV → Heap → Prop} {b : List Oper} (hK : ∀ l T h, K l T h → Run P rd nb (.ops all (l ++ b) :: k) T h D Q) :
    ∀ (l : List Oper) (T : List AV) (h : Heap), runG P all K l T h → Run P rd nb (.ops all (l ++ b) :: k) T h D Q
  | [], T, h, r => hK _ _ _ r
  | o :: l, T, h, r => by
    simp only [runG] at r
    split at r
    · rename_i hg
      have hw : awanted all T o = some true := by simp only [awanted, hg]
      split at r
      · rename_i x h' ho
        exact Run.op hw ho (runG_pre hK l _ _ r)
      · exact hK _ _ _ r
    · rename_i g want hg
      split at r
      · rename_i hd
        have hw : awanted all T o = some false := by simp only [awanted, hg, hd]
        exact Run.off hw (runG_pre hK l _ _ r)
      · rename_i d hd
        split at r
        · rename_i hT
          have hw : awanted all T o = some false := by simp only [awanted, hg, hd, hT]
          exact Run.off hw (runG_pre hK l _ _ r)
        · rename_i b' hT
          have hw := awanted_bool hg hd hT
          have hs := set_tget hT
          by_cases e : b' = want
          · subst e
            have r1 := r.1 rfl
            rw [show T.set d (tv b') = T from hs] at r1
            split at r1
            · rename_i x h' ho
              exact Run.op (by rw [hw]; simp) ho (runG_pre hK l _ _ r1)
            · exact hK _ _ _ r1
          · have e' : b' = !want := bool_ne e
            have r2 := r.2 e'
            rw [← e', show T.set d (tv b') = T from hs] at r2
            exact Run.off (by rw [hw]; simp [e]) (runG_pre hK l _ _ r2)
        · exact hK _ _ _ r
theorem Run.opsPreJ (n : Nat) {l : List Oper} (keep : List Nat) (slot : Nat) (b : Bool)
    (r : ∀ K : List Oper → List AV → Heap → Prop, (∀ T', WeakL T' (setMany (keepT keep T) [(slot, tv b)]) → K [] T' h) → runG P all K (l.take n) T h)
    (next : Run P rd nb (.ops all (l.drop n) :: k) (setMany (keepT keep T) [(slot, tv b)]) h D Q) : Run P rd nb (.ops all l :: k) T h D Q := by
  have := runG_pre (P := P) (rd := rd) (nb := nb) (all := all) (k := k) (D := D) (Q := Q) (b := l.drop n) (K := fun l' T' h' => Run P rd nb (.ops all (l' ++ l.drop n) :: k) T' h' D Q) (fun _ _ _ h => h) (l.take n) T h (r _ fun _ hw => Run.weak hw next)
  rwa [List.take_append_drop] at this
theorem drOps_plain {l0 : List Oper} {lo : List Nat} {Kont : List AV → Heap → Prop} : ∀ (l pre : List Oper) (T : List AV), l0 = pre ++ l → (∀ o ∈ l, isE o.op = false) →
    runOps P l0.toArray (fun l' T' h' => l' = [] ∧ (h' = h → Kont T' h)) l T h → drOps P l0.toArray lo (DR P l0.toArray lo Kont) (List.range' pre.length l.length) [] T h
  | [], pre, T, _, _, r => by
    simp only [runOps] at r
    simp only [List.length_nil, List.range'_zero, drOps, DR]
    simpa using r
  | o :: l, pre, T, e, hE, r => by
    have he := hE o (by simp)
    have hi : l0.toArray[pre.length]? = some o := by rw [e]; simp
    have ih : ∀ T, runOps P l0.toArray (fun l' T' h' => l' = [] ∧ (h' = h → Kont T' h)) l T h → drOps P l0.toArray lo (DR P l0.toArray lo Kont) (List.range' (pre.length + 1) l.length) [] T h := fun T r => by
      have := drOps_plain (Kont := Kont) (lo := lo) l (pre ++ [o]) T (by rw [e, List.append_assoc]; rfl) (fun o' h' => hE o' (by simp [h'])) r
      rwa [List.length_append, List.length_cons, List.length_nil, Nat.zero_add] at this
    simp only [runOps] at r
    simp only [List.length_cons, List.range'_succ, drOps, hi, he]
    split at r
    · rename_i hw
      rw [hw]
      simp only
      split at r
      · rename_i x h' ho
        have := aop_still he ho
        subst this
        simp only [Bool.false_eq_true, if_false, List.drop_nil]
        exact ⟨by simp [stab], ih _ r⟩
      · exact absurd r.1 (by simp)
    · rename_i hw
      rw [hw]
      simp only [Bool.false_eq_true, if_false]
      exact ih _ r
    · exact absurd r.1 (by simp)
theorem Run.drawPlain {id : Nat} {l : List Oper} (lo rk tbl : List Nat) (hm : P.follows .mixedOrders = true) (hok : okDraw l.toArray lo rk tbl none (List.range l.length) = true) (hE : l.all (fun o => !isE o.op) = true)
    (r : ∀ K : List Oper → List AV → Heap → Prop, (∀ T', Run P rd nb k T' h D Q → K [] T' h) → runOps P l.toArray K l T h) : Run P rd nb (.code (.region id l.toArray true) :: k) T h D Q := by
  refine Run.draw lo rk tbl (List.range l.length) hm hok (drOps_sound _ _ _ _ ?_)
  rw [List.range_eq_range']
  refine drOps_plain l [] T (by simp) (fun o ho => by simpa using List.all_eq_true.1 hE o ho) (r _ fun T' h' => ⟨rfl, fun _ => h'⟩)
theorem Run.opU {R : Heap → Prop} (hw : awanted all T o = some true) (hnd : ∀ c, o.op ≠ .defer c)
    (ho : ∀ E w a, St E w a T h D → ∃ h' E' w', R h' ∧ (execOp a.eval o).run P w = .ok .skip w' ∧ Rel E' (Heap.at h') w' ∧ Fresh E' h'.length ∧ Fr E (Heap.at h) w E' (Heap.at h') w')
    (r : ∀ h', R h' → Run P rd nb (.ops all rest :: k) (tput T o.dst (.tup [])) h' D Q) : Run P rd nb (.ops all (o :: rest) :: k) T h D Q := by
  intro E w a s
  obtain ⟨h', E', w', hR, hrun, hr, hf, hfr⟩ := ho E w a s
  have s' : St E' w' (a.put o.dst undef) (tput T o.dst (.tup [])) h' D := (s.move hfr hr hf).put (by simp only [Rep, RepL]; exact ⟨[], rfl, rfl⟩) o.dst
  have := r h' hR E' w' _ s'
  have hk := K_mono (P := P) (rd := rd) (Post.of_fr (Q := Q) hfr) (.ops all rest :: k) _ _ _ this
  show wpListIn (fen rd) 0 P all (K P rd (Post nb Q E h w) k) (o :: rest) a w
  simp only [wpListIn]
  rw [awanted_sound s hw]
  simp only [if_true]
  refine ⟨fun _ _ => trivial, ?_⟩
  rw [Oper.semAt_eq _ _ _ hnd, hrun]
  exact hk
theorem Run.makeMap {t : TypeId} (ho : o.op = .makeMap t none) (hw : awanted all T o = some true)
    (r : Run P rd nb (.ops all rest :: k) (tput T o.dst (.mp h.length)) (h ++ [some (.aux (.map []))]) D Q) : Run P rd nb (.ops all (o :: rest) :: k) T h D Q := by
  refine Run.opR (R := fun x h' => x = .mp h.length ∧ h' = h ++ [some (.aux (.map []))]) hw (fun c hc => by rw [hc] at ho; cases ho) ?_ (by rintro x h' ⟨rfl, rfl⟩; exact r)
  intro E w a s
  obtain ⟨g1, g2, g3⟩ := Rel.allocO s.rel s.fresh (o := .aux (.map [])) (ob := .map #[] 0) rfl (fun _ _ _ e => by cases e) (fun _ => ⟨#[], 0, alloc_new _, rfl, by simp [Stamped]⟩)
  refine ⟨_, _, _, _, .map (some w.heap.size), ⟨rfl, rfl⟩, ?_, g1, by simpa using g3, ?_, g2⟩
  · simp only [execOp, ho]
    rfl
  · simp only [Rep]
    exact ⟨w.heap.size, by simp, rfl⟩
theorem map_keys {es : List MapEntry} {kvs : List (Value × Value)} (he : es.map (fun e => (e.key, e.val)) = kvs) : es.map (·.key) = kvs.map Prod.fst ∧ ∀ e ∈ es, (e.key, e.val) ∈ kvs := by
  subst he
  exact ⟨by simp [List.map_map, Function.comp_def], fun e h => List.mem_map.2 ⟨e, h, rfl⟩⟩
def zeroIs (P : Program) (t : TypeId) (z : Value) : Prop := ∃ i, P.info? t = some i ∧ i.zero = some z
theorem run_zeroIs {P : Program} {t : TypeId} {z : Value} (h : zeroIs P t z) (w : World) : (zeroValue t).run P w = .ok z w := by
  obtain ⟨i, hi, hz⟩ := h
  simp [zeroValue, typeInfo, hi, hz]
def zeroB (P : Program) (t : TypeId) : Bool := match P.info? t with
  | some i => match i.zero with
    | some (.bool false) => true
    | _ => false
  | none => false
def zeroN (P : Program) (t : TypeId) : Bool := match P.info? t with
  | some i => match i.zero with
    | some (.int .i64 0) => true
    | _ => false
  | none => false
def MapSays (kvs : List (Value × Value)) (key z : Value) (v : Value) (b : Bool) : Prop := (b = true ∧ (∀ v', (key, v') ∈ kvs → v' = v) ∧ key ∈ kvs.map Prod.fst) ∨ (b = false ∧ key ∉ kvs.map Prod.fst ∧ v = z)
theorem run_lookup {P : Program} {t kt et : TypeId} {d : TypeDesc} {g : Nat} {kvs : List (Value × Value)} {key z v : Value} {b : Bool} {w : World} {es : Array MapEntry} {c : Nat} (ok : Bool)
    (ht : P.underlying t = some (.map kt et)) (hd : P.underlying kt = some d) (hz : zeroIs P et z) (hh : w.heap[g]? = some (.map es c)) (he : es.toList.map (fun e => (e.key, e.val)) = kvs)
    (hks : ∀ x ∈ kvs, IsKey d x.1) (hkey : IsKey d key) (hf : MapSays kvs key z v b) : (Instr.lookup t (.map (some g)) key ok).run P w = .ok (if ok then .tuple #[v, .bool b] else v) w := by
  obtain ⟨e1, e2⟩ := map_keys he
  have hes : ∀ x ∈ es.toList, IsKey d x.key := fun x hx => hks _ (e2 x hx)
  have hf' : (Instr.findNow d key es.toList 0 = some none ∧ b = false ∧ v = z) ∨ ∃ j, Instr.findNow d key es.toList 0 = some (some (j, v)) ∧ b = true := by
    rcases findNow_spec hkey es.toList 0 hes with ⟨h1, h2⟩ | ⟨j, e, h1, h2, h3⟩
    · rcases hf with ⟨hb, _, hm⟩ | ⟨hb, hm, hv⟩
      · obtain ⟨x, hx, hxk⟩ := List.mem_map.1 (e1 ▸ hm)
        exact absurd hxk (h2 x hx)
      · exact .inl ⟨h1, hb, hv⟩
    · have hmem := List.mem_of_getElem? h2
      rcases hf with ⟨hb, hv, _⟩ | ⟨hb, hm, _⟩
      · have := hv e.val (h3 ▸ e2 e hmem)
        exact .inr ⟨0 + j, by rw [h1, this], hb⟩
      · exact absurd (e1 ▸ List.mem_map.2 ⟨e, hmem, h3⟩) hm
  simp only [Instr.lookup, Sem.run_bind, run_underlying ht, Result.andThen, MapKept.run_getObj_map hh, run_checkKey hd hkey, Sem.run_pure]
  rcases hf' with ⟨h1, rfl, rfl⟩ | ⟨j, h1, rfl⟩
  · simp [run_findKey hd h1, Result.andThen, run_zeroIs hz]
  · simp [run_findKey hd h1]
theorem Run.lookup {t kt et : TypeId} {d : TypeDesc} {m ix : Operand} {id : Nat} {kvs : List (Value × Value)} {key z : Value} (v : Value) (b : Bool) (ho : o.op = .lookup t m ix false) (hw : awanted all T o = some true)
    (ht : P.underlying t = some (.map kt et)) (hd : P.underlying kt = some d) (hz : zeroIs P et z)
    (hm : aev T m = .mp id) (hid : h.at id = some (.aux (.map kvs))) (hks : ∀ x ∈ kvs, IsKey d x.1) (hk : aev T ix = .p (.prim key)) (hkey : IsKey d key) (hf : MapSays kvs key z v b) (hp : isPrim v = true)
    (r : Run P rd nb (.ops all rest :: k) (tput T o.dst (.p (.prim v))) h D Q) : Run P rd nb (.ops all (o :: rest) :: k) T h D Q := by
  refine Run.opR (R := fun x h' => x = .p (.prim v) ∧ h' = h) hw (fun c hc => by rw [hc] at ho; cases ho) ?_ (by rintro x h' ⟨rfl, rfl⟩; exact r)
  intro E w a s
  have hmr := aev_rep s m
  rw [hm] at hmr
  simp only [Rep] at hmr
  obtain ⟨g, hg, hmv⟩ := hmr
  have hkr := aev_rep s ix
  rw [hk] at hkr
  simp only [Rep, RepP] at hkr
  obtain ⟨g', hg', ho'⟩ := s.rel.objsO id _ hid rfl
  rw [hg] at hg'; cases hg'
  obtain ⟨es, c, hh, he, hst⟩ := ho'
  refine ⟨_, _, E, w, v, ⟨rfl, rfl⟩, ?_, s.rel, s.fresh, by simp only [Rep, RepP, true_and]; exact hp, Fr.refl _ _ _⟩
  have hrun := run_lookup (P := P) false ht hd hz hh he hks hkey hf
  simp only [execOp, ho]
  rw [hmv, hkr.1]
  simp [hrun]
theorem Run.mapUpdate {t kt et : TypeId} {d : TypeDesc} {m ix x : Operand} {id : Nat} {kvs : List (Value × Value)} {key v : Value} (ho : o.op = .mapUpdate t m ix x) (hw : awanted all T o = some true)
    (ht : P.underlying t = some (.map kt et)) (hd : P.underlying kt = some d)
    (hm : aev T m = .mp id) (hid : h.at id = some (.aux (.map kvs))) (hks : ∀ x ∈ kvs, IsKey d x.1) (hk : aev T ix = .p (.prim key)) (hkey : IsKey d key) (hb0 : key ∉ kvs.map Prod.fst) (hx : aev T x = .p (.prim v))
    (r : Run P rd nb (.ops all rest :: k) (tput T o.dst (.tup [])) (h.set id (some (.aux (.map (kvs ++ [(key, v)]))))) D Q) : Run P rd nb (.ops all (o :: rest) :: k) T h D Q := by
  refine Run.opU (R := fun h' => h' = h.set id (some (.aux (.map (kvs ++ [(key, v)]))))) hw (fun c hc => by rw [hc] at ho; cases ho) ?_ (by rintro h' rfl; exact r)
  intro E w a s
  have hmr := aev_rep s m
  rw [hm] at hmr
  simp only [Rep] at hmr
  obtain ⟨g, hg, hmv⟩ := hmr
  have hkr := aev_rep s ix
  rw [hk] at hkr
  simp only [Rep, RepP] at hkr
  have hxr := aev_rep s x
  rw [hx] at hxr
  simp only [Rep, RepP] at hxr
  obtain ⟨g', hg', ho'⟩ := s.rel.objsO id _ hid rfl
  rw [hg] at hg'; cases hg'
  obtain ⟨es, c, hh, he, hst⟩ := ho'
  obtain ⟨e1, e2⟩ := map_keys he
  have hes : ∀ x ∈ es.toList, IsKey d x.key := fun x hx => hks _ (e2 x hx)
  obtain ⟨q1, q2⟩ := MapKept.heap_set (o' := .map (es.push { key, val := v, born := c }) (c + 1)) hh
  have hrun : (Instr.mapUpdate t (.map (some g)) key v).run P w = .ok () { w with heap := w.heap.setIfInBounds g (.map (es.push { key, val := v, born := c }) (c + 1)) } := by
    have hf : Instr.findNow d key es.toList 0 = some none := by
      rcases findNow_spec hkey es.toList 0 hes with ⟨h1, h2⟩ | ⟨j, e, h1, h2, h3⟩
      · exact h1
      · exact absurd (e1 ▸ List.mem_map.2 ⟨e, List.mem_of_getElem? h2, h3⟩) hb0
    simp only [Instr.mapUpdate, Sem.run_bind, run_underlying ht, Result.andThen, MapKept.run_getObj_map hh, run_checkKey hd hkey, run_findKey hd hf, MapKept.run_setObj_map _ hh]
  have hst' : Stamped (es.push { key, val := v, born := c }) (c + 1) := by
    obtain ⟨s1, s2, s3⟩ := hst
    refine ⟨fun x hx => ?_, ?_, ?_⟩
    · simp only [Array.toList_push, List.mem_append, List.mem_singleton] at hx
      rcases hx with hx | rfl
      · have := s1 x hx; omega
      · exact Nat.lt_succ_self c
    · simp only [Array.toList_push, List.map_append, List.map_cons, List.map_nil]
      refine List.nodup_append.2 ⟨s2, by simp, fun a ha b hb => ?_⟩
      obtain ⟨x, hx, rfl⟩ := List.mem_map.1 ha
      have := s1 x hx
      simp only [List.mem_singleton] at hb
      omega
    · simp only [Array.toList_push, List.map_append, List.map_cons, List.map_nil]
      refine List.nodup_append.2 ⟨s3, by simp, fun a ha b hb => ?_⟩
      simp only [List.mem_singleton] at hb
      subst hb
      rintro rfl
      exact hb0 (e1 ▸ ha)
  obtain ⟨g1, g2⟩ := s.rel.writeO (w' := { w with heap := w.heap.setIfInBounds g (.map (es.push { key, val := v, born := c }) (c + 1)) }) hid rfl (o' := .aux (.map (kvs ++ [(key, v)]))) rfl hg
    (fun _ => ⟨_, _, q1, by simp [he], hst'⟩) q2 (by simp) rfl rfl
  refine ⟨_, E, _, rfl, ?_, g1, by simpa using s.fresh, g2⟩
  simp only [execOp, ho]
  rw [hmv, hkr.1, hxr.1]
  simp [hrun]

end

end Go.AI

namespace Go.AI

open Go Go.Shelf Go.Sort Go.Proofs
def ints (l : List Int) : List (List PV) := l.map fun z => [.prim (.int .i64 z)]
theorem ints_len (l : List Int) : ∀ e ∈ ints l, e.length = 1 := by
  intro e he
  obtain ⟨z, _, rfl⟩ := List.mem_map.1 he
  rfl
theorem ints_length (l : List Int) : (ints l).length = l.length := by simp [ints]
theorem ints_flat (l : List Int) : (ints l).flatten.map AV.p = l.map fun z => .p (.prim (.int .i64 z)) := by
  induction l with
  | nil => rfl
  | cons z l ih => simp only [ints, List.map_cons, List.flatten_cons, List.cons_append, List.nil_append] at ih ⊢; rw [ih]
theorem repL_ints {E w} : ∀ {l : List Int} {vs : List Value}, RepL E w (l.map fun z => .p (.prim (.int .i64 z))) vs ↔ vs = l.map (Value.int .i64)
  | [], vs => by simp [RepL]
  | z :: l, vs => by
    simp only [List.map_cons, RepL, Rep, RepP]
    constructor
    · rintro ⟨v, us, rfl, ⟨rfl, _⟩, h⟩
      rw [(repL_ints (l := l)).1 h]
    · rintro rfl
      exact ⟨_, _, rfl, ⟨rfl, rfl⟩, (repL_ints (l := l)).2 rfl⟩
theorem Rel.more {E : Env} {h : Nat → Option AO} {w : World} (r : Rel E h w) (os : Array Obj) : Rel E h (Sort.grow w os) ∧ Fr E h w E h (Sort.grow w os) := by
  have old : ∀ b, b < w.heap.size → (Sort.grow w os).heap[b]? = w.heap[b]? := fun b hb => heap_grow_old w os hb
  have hx : Ext E w E (Sort.grow w os) := ⟨fun _ _ h => h, fun b off hb => cell_of_heap (old b (r.lt b off hb)) off, fun _ _ h => h, fun _ L h => ⟨L, h, Nat.le_refl _, fun _ => rfl⟩⟩
  refine ⟨⟨fun id o hc hn => ?_, fun id o n sz m cs hc hk => ?_, r.inj, r.sepO, r.sepT, fun b off hb => Nat.lt_of_lt_of_le (r.lt b off hb) (by simp)⟩, ⟨fun b hb _ => old b hb, hx, fun _ _ h => .inl h, by simp, fun _ h => .inl h, rfl, rfl⟩⟩
  · obtain ⟨b, hg, ho⟩ := r.objsO id o hc hn
    exact ⟨b, hg, ho.move hx (old b ho.lt)⟩
  · obtain ⟨blk, cap, ht, h1, h2, h3⟩ := r.toks id o n sz m cs hc hk
    refine ⟨blk, cap, ht, h1, h2, fun b hb => ?_⟩
    obtain ⟨vs, hr, hl, hp⟩ := h3 b hb
    exact ⟨vs, hr.same (old b hr.lt), hl, hp.ext hx⟩
theorem putCells_list (d : List Int) (c : Array Value) (hl : d.length ≤ c.size) : (putCells (Value.int .i64) 0 d.toArray c).toList = d.map (Value.int .i64) ++ c.toList.drop d.length := by
  apply List.ext_getElem?
  intro j
  rw [Array.getElem?_toList]
  simp only [putCells, Array.getElem?_mapIdx, List.size_toArray, Nat.zero_add, Nat.zero_le, true_and, Nat.sub_zero]
  by_cases hj : j < d.length
  · rw [List.getElem?_append_left (by simpa using hj)]
    simp [hj, show j < c.size by omega]
  · rw [List.getElem?_append_right (by simp; omega), List.getElem?_drop]
    simp only [hj, if_false, List.length_map, Array.getElem?_toList, show d.length + (j - d.length) = j by omega]
    cases c[j]? <;> rfl

end Go.AI
