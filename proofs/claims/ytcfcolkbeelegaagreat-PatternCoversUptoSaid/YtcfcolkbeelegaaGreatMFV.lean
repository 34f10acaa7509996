/-
  Rows that grow and may be written, under one name: laid, appended to, sorted, given up.
-/
import Derived.MapKept
import Derived.Test.YtcfcolkbeelegaaGreatMFG
import Derived.Shelf.Sort.Plain
import Derived.Shelf.Slices.In.SortNone

namespace Go.AI

open Go Go.MapKept

section

variable {P : Program} {rd : Option Nat} {nb : Nat} {k : List It} {T : List AV} {h : Heap} {D : List AD} {Q : AX → List AV → Heap → List AD → Prop} {all : Array Oper} {o : Oper} {rest : List Oper}
theorem runG_pre {all : Array Oper} {K : List Oper → List AV → Heap → Prop} {b : List Oper} (hK : ∀ l T h, K l T h → Run P rd nb (.ops all (l ++ b) :: k) T h D Q) :
  ∀ (l : List Oper) (T : List AV) (h : Heap), runG P all K l T h → Run P rd nb (.ops all (l ++ b) :: k) T h D Q
 | [], T, h, r => hK _ _ _ r
 | o :: l, T, h, r => by
  simp only [runG] at r
  split at r
  ·rename_i hg
   have hw : awanted all T o = some true := by simp only [awanted, hg]
   split at r
   ·rename_i x h' ho
    exact Run.op hw ho (runG_pre hK l _ _ r)
   ·exact hK _ _ _ r
  ·rename_i g want hg
   split at r
   ·rename_i hd
    have hw : awanted all T o = some false := by simp only [awanted, hg, hd]
    exact Run.off hw (runG_pre hK l _ _ r)
   ·rename_i d hd
    split at r
    ·rename_i hT
     have hw : awanted all T o = some false := by simp only [awanted, hg, hd, hT]
     exact Run.off hw (runG_pre hK l _ _ r)
    ·rename_i b' hT
     have hw := awanted_bool hg hd hT
     have hs := set_tget hT
     by_cases e : b' = want
     ·subst e
      have r1 := r.1 rfl
      rw [show T.set d (tv b') = T from hs] at r1
      split at r1
      ·rename_i x h' ho
       exact Run.op (by rw [hw]; simp) ho (runG_pre hK l _ _ r1)
      ·exact hK _ _ _ r1
     ·have e' : b' = !want := bool_ne e
      have r2 := r.2 e'
      rw [← e', show T.set d (tv b') = T from hs] at r2
      exact Run.off (by rw [hw]; simp [e]) (runG_pre hK l _ _ r2)
    ·exact hK _ _ _ r
theorem Run.opsPreJ (n : Nat) {l : List Oper} (keep : List Nat) (slot : Nat) (b : Bool)
  (r : ∀ K : List Oper → List AV → Heap → Prop, (∀ T', WeakL T' (setMany (keepT keep T) [(slot, tv b)]) → K [] T' h) → runG P all K (l.take n) T h)
  (next : Run P rd nb (.ops all (l.drop n) :: k) (setMany (keepT keep T) [(slot, tv b)]) h D Q) : Run P rd nb (.ops all l :: k) T h D Q := by
 have := runG_pre (P := P) (rd := rd) (nb := nb) (all := all) (k := k) (D := D) (Q := Q) (b := l.drop n) (K := fun l' T' h' => Run P rd nb (.ops all (l' ++ l.drop n) :: k) T' h' D Q) (fun _ _ _ h => h) (l.take n) T h (r _ fun _ hw => Run.weak hw next)
 rwa [List.take_append_drop] at this
theorem Run.opU {R : Heap → Prop} (hw : awanted all T o = some true) (hnd : ∀ c, o.op ≠ .defer c)
  (ho : ∀ E w a, St E w a T h D → ∃ h' E' w', R h' ∧ (execOp a.eval o).run P w = .ok .skip w' ∧ Rel E' (Heap.at h') w' ∧ Fresh E' h'.length ∧ Fr E (Heap.at h) w E' (Heap.at h') w')
  (r : ∀ h', R h' → Run P rd nb (.ops all rest :: k) (tput T o.dst (.tup [])) h' D Q) : Run P rd nb (.ops all (o :: rest) :: k) T h D Q := by
 intro E w a s
 obtain ⟨h', E', w', hR, hrun, hr, hf, hfr⟩ := ho E w a s
 have s' : St E' w' (a.put o.dst undef) (tput T o.dst (.tup [])) h' D := (s.move hfr hr hf).put (by simp only [Rep, RepL]; exact ⟨[], rfl, rfl⟩) o.dst
 have := r h' hR E' w' _ s'
 have hk := K_mono (P := P) (rd := rd) (Post.of_fr (Q := Q) hfr) (.ops all rest :: k) _ _ _ this
 show wpListIn (fen rd) 0 P all (K P rd (Post nb Q E h w) k) (o :: rest) a w
 simp only [wpListIn]
 rw [awanted_sound s hw]
 simp only [if_true]
 refine ⟨fun _ _ => trivial, ?_⟩
 rw [Oper.semAt_eq _ _ _ hnd, hrun]
 exact hk
theorem map_keys {es : List MapEntry} {kvs : List (Value × Value)} (he : es.map (fun e => (e.key, e.val)) = kvs) : es.map (·.key) = kvs.map Prod.fst ∧ ∀ e ∈ es, (e.key, e.val) ∈ kvs := by
 subst he
 exact ⟨by simp [List.map_map, Function.comp_def], fun e h => List.mem_map.2 ⟨e, h, rfl⟩⟩
def zeroIs (P : Program) (t : TypeId) (z : Value) : Prop := ∃ i, P.info? t = some i ∧ i.zero = some z
theorem run_zeroIs {P : Program} {t : TypeId} {z : Value} (h : zeroIs P t z) (w : World) : (zeroValue t).run P w = .ok z w := by
 obtain ⟨i, hi, hz⟩ := h
 simp [zeroValue, typeInfo, hi, hz]
def zeroB (P : Program) (t : TypeId) : Bool := match P.info? t with
 | some i => match i.zero with
  | some (.bool false) => true
  | _ => false
 | none => false
def zeroN (P : Program) (t : TypeId) : Bool := match P.info? t with
 | some i => match i.zero with
  | some (.int .i64 0) => true
  | _ => false
 | none => false
def MapSays (kvs : List (Value × Value)) (key z : Value) (v : Value) (b : Bool) : Prop := (b = true ∧ (∀ v', (key, v') ∈ kvs → v' = v) ∧ key ∈ kvs.map Prod.fst) ∨ (b = false ∧ key ∉ kvs.map Prod.fst ∧ v = z)
theorem run_lookup {P : Program} {t kt et : TypeId} {d : TypeDesc} {g : Nat} {kvs : List (Value × Value)} {key z v : Value} {b : Bool} {w : World} {es : Array MapEntry} {c : Nat} (ok : Bool)
  (ht : P.underlying t = some (.map kt et)) (hd : P.underlying kt = some d) (hz : zeroIs P et z) (hh : w.heap[g]? = some (.map es c)) (he : es.toList.map (fun e => (e.key, e.val)) = kvs)
  (hks : ∀ x ∈ kvs, IsKey d x.1) (hkey : IsKey d key) (hf : MapSays kvs key z v b) : (Instr.lookup t (.map (some g)) key ok).run P w = .ok (if ok then .tuple #[v, .bool b] else v) w := by
 obtain ⟨e1, e2⟩ := map_keys he
 have hes : ∀ x ∈ es.toList, IsKey d x.key := fun x hx => hks _ (e2 x hx)
 have hf' : (Instr.findNow d key es.toList 0 = some none ∧ b = false ∧ v = z) ∨ ∃ j, Instr.findNow d key es.toList 0 = some (some (j, v)) ∧ b = true := by
  rcases findNow_spec hkey es.toList 0 hes with ⟨h1, h2⟩ | ⟨j, e, h1, h2, h3⟩
  ·rcases hf with ⟨hb, _, hm⟩ | ⟨hb, hm, hv⟩
   ·obtain ⟨x, hx, hxk⟩ := List.mem_map.1 (e1 ▸ hm)
    exact absurd hxk (h2 x hx)
   ·exact .inl ⟨h1, hb, hv⟩
  ·have hmem := List.mem_of_getElem? h2
   rcases hf with ⟨hb, hv, _⟩ | ⟨hb, hm, _⟩
   ·have := hv e.val (h3 ▸ e2 e hmem)
    exact .inr ⟨0 + j, by rw [h1, this], hb⟩
   ·exact absurd (e1 ▸ List.mem_map.2 ⟨e, hmem, h3⟩) hm
 simp only [Instr.lookup, Sem.run_bind, run_underlying ht, Result.andThen, MapKept.run_getObj_map hh, run_checkKey hd hkey, Sem.run_pure]
 rcases hf' with ⟨h1, rfl, rfl⟩ | ⟨j, h1, rfl⟩
 ·simp [run_findKey hd h1, Result.andThen, run_zeroIs hz]
 ·simp [run_findKey hd h1]
theorem Run.lookup {t kt et : TypeId} {d : TypeDesc} {m ix : Operand} {id : Nat} {kvs : List (Value × Value)} {key z : Value} (v : Value) (b : Bool) (ho : o.op = .lookup t m ix false) (hw : awanted all T o = some true)
  (ht : P.underlying t = some (.map kt et)) (hd : P.underlying kt = some d) (hz : zeroIs P et z)
  (hm : aev T m = .mp id) (hid : h.at id = some (.aux (.map kvs))) (hks : ∀ x ∈ kvs, IsKey d x.1) (hk : aev T ix = .p (.prim key)) (hkey : IsKey d key) (hf : MapSays kvs key z v b) (hp : isPrim v = true)
  (r : Run P rd nb (.ops all rest :: k) (tput T o.dst (.p (.prim v))) h D Q) : Run P rd nb (.ops all (o :: rest) :: k) T h D Q := by
 refine Run.opR (R := fun x h' => x = .p (.prim v) ∧ h' = h) hw (fun c hc => by rw [hc] at ho; cases ho) ?_ (by rintro x h' ⟨rfl, rfl⟩; exact r)
 intro E w a s
 have hmr := aev_rep s m
 rw [hm] at hmr
 simp only [Rep] at hmr
 obtain ⟨g, hg, hmv⟩ := hmr
 have hkr := aev_rep s ix
 rw [hk] at hkr
 simp only [Rep, RepP] at hkr
 obtain ⟨g', hg', ho'⟩ := s.rel.objsO id _ hid rfl
 rw [hg] at hg'; cases hg'
 obtain ⟨es, c, hh, he, hst⟩ := ho'
 refine ⟨_, _, E, w, v, ⟨rfl, rfl⟩, ?_, s.rel, s.fresh, by simp only [Rep, RepP, true_and]; exact hp, Fr.refl _ _ _⟩
 have hrun := run_lookup (P := P) false ht hd hz hh he hks hkey hf
 simp only [execOp, ho]
 rw [hmv, hkr.1]
 simp [hrun]
theorem Run.mapUpdate {t kt et : TypeId} {d : TypeDesc} {m ix x : Operand} {id : Nat} {kvs : List (Value × Value)} {key v : Value} (ho : o.op = .mapUpdate t m ix x) (hw : awanted all T o = some true)
  (ht : P.underlying t = some (.map kt et)) (hd : P.underlying kt = some d)
  (hm : aev T m = .mp id) (hid : h.at id = some (.aux (.map kvs))) (hks : ∀ x ∈ kvs, IsKey d x.1) (hk : aev T ix = .p (.prim key)) (hkey : IsKey d key) (hb0 : key ∉ kvs.map Prod.fst) (hx : aev T x = .p (.prim v))
  (r : Run P rd nb (.ops all rest :: k) (tput T o.dst (.tup [])) (h.set id (some (.aux (.map (kvs ++ [(key, v)]))))) D Q) : Run P rd nb (.ops all (o :: rest) :: k) T h D Q := by
 refine Run.opU (R := fun h' => h' = h.set id (some (.aux (.map (kvs ++ [(key, v)]))))) hw (fun c hc => by rw [hc] at ho; cases ho) ?_ (by rintro h' rfl; exact r)
 intro E w a s
 have hmr := aev_rep s m
 rw [hm] at hmr
 simp only [Rep] at hmr
 obtain ⟨g, hg, hmv⟩ := hmr
 have hkr := aev_rep s ix
 rw [hk] at hkr
 simp only [Rep, RepP] at hkr
 have hxr := aev_rep s x
 rw [hx] at hxr
 simp only [Rep, RepP] at hxr
 obtain ⟨g', hg', ho'⟩ := s.rel.objsO id _ hid rfl
 rw [hg] at hg'; cases hg'
 obtain ⟨es, c, hh, he, hst⟩ := ho'
 obtain ⟨e1, e2⟩ := map_keys he
 have hes : ∀ x ∈ es.toList, IsKey d x.key := fun x hx => hks _ (e2 x hx)
 obtain ⟨q1, q2⟩ := MapKept.heap_set (o' := .map (es.push { key, val := v, born := c }) (c + 1)) hh
 have hrun : (Instr.mapUpdate t (.map (some g)) key v).run P w = .ok () { w with heap := w.heap.setIfInBounds g (.map (es.push { key, val := v, born := c }) (c + 1)) } := by
  have hf : Instr.findNow d key es.toList 0 = some none := by
   rcases findNow_spec hkey es.toList 0 hes with ⟨h1, h2⟩ | ⟨j, e, h1, h2, h3⟩
   ·exact h1
   ·exact absurd (e1 ▸ List.mem_map.2 ⟨e, List.mem_of_getElem? h2, h3⟩) hb0
  simp only [Instr.mapUpdate, Sem.run_bind, run_underlying ht, Result.andThen, MapKept.run_getObj_map hh, run_checkKey hd hkey, run_findKey hd hf, MapKept.run_setObj_map _ hh]
 have hst' : Stamped (es.push { key, val := v, born := c }) (c + 1) := by
  obtain ⟨s1, s2, s3⟩ := hst
  refine ⟨fun x hx => ?_, ?_, ?_⟩
  ·simp only [Array.toList_push, List.mem_append, List.mem_singleton] at hx
   rcases hx with hx | rfl
   ·have := s1 x hx; omega
   ·exact Nat.lt_succ_self c
  ·simp only [Array.toList_push, List.map_append, List.map_cons, List.map_nil]
   refine List.nodup_append.2 ⟨s2, by simp, fun a ha b hb => ?_⟩
   obtain ⟨x, hx, rfl⟩ := List.mem_map.1 ha
   have := s1 x hx
   simp only [List.mem_singleton] at hb
   omega
  ·simp only [Array.toList_push, List.map_append, List.map_cons, List.map_nil]
   refine List.nodup_append.2 ⟨s3, by simp, fun a ha b hb => ?_⟩
   simp only [List.mem_singleton] at hb
   subst hb
   rintro rfl
   exact hb0 (e1 ▸ ha)
 obtain ⟨g1, g2⟩ := s.rel.writeO (w' := { w with heap := w.heap.setIfInBounds g (.map (es.push { key, val := v, born := c }) (c + 1)) }) hid rfl (o' := .aux (.map (kvs ++ [(key, v)]))) rfl hg
  (fun _ => ⟨_, _, q1, by simp [he], hst'⟩) q2 (by simp) rfl rfl
 refine ⟨_, E, _, rfl, ?_, g1, by simpa using s.fresh, g2⟩
 simp only [execOp, ho]
 rw [hmv, hkr.1, hxr.1]
 simp [hrun]

end

end Go.AI

namespace Go.AI

open Go Go.Shelf Go.Sort Go.Proofs
def ints (l : List Int) : List (List PV) := l.map fun z => [.prim (.int .i64 z)]
theorem ints_len (l : List Int) : ∀ e ∈ ints l, e.length = 1 := by
 intro e he
 obtain ⟨z, _, rfl⟩ := List.mem_map.1 he
 rfl
theorem ints_length (l : List Int) : (ints l).length = l.length := by simp [ints]
theorem ints_flat (l : List Int) : (ints l).flatten.map AV.p = l.map fun z => .p (.prim (.int .i64 z)) := by
 induction l with
 | nil => rfl
 | cons z l ih => simp only [ints, List.map_cons, List.flatten_cons, List.cons_append, List.nil_append] at ih ⊢; rw [ih]
theorem repL_ints {E w} : ∀ {l : List Int} {vs : List Value}, RepL E w (l.map fun z => .p (.prim (.int .i64 z))) vs ↔ vs = l.map (Value.int .i64)
 | [], vs => by simp [RepL]
 | z :: l, vs => by
  simp only [List.map_cons, RepL, Rep, RepP]
  constructor
  ·rintro ⟨v, us, rfl, ⟨rfl, _⟩, h⟩
   rw [(repL_ints (l := l)).1 h]
  ·rintro rfl
   exact ⟨_, _, rfl, ⟨rfl, rfl⟩, (repL_ints (l := l)).2 rfl⟩
theorem Rel.more {E : Env} {h : Nat → Option AO} {w : World} (r : Rel E h w) (os : Array Obj) : Rel E h (Sort.grow w os) ∧ Fr E h w E h (Sort.grow w os) := by
 have old : ∀ b, b < w.heap.size → (Sort.grow w os).heap[b]? = w.heap[b]? := fun b hb => heap_grow_old w os hb
 have hx : Ext E w E (Sort.grow w os) := ⟨fun _ _ h => h, fun b off hb => cell_of_heap (old b (r.lt b off hb)) off, fun _ _ h => h, fun _ L h => ⟨L, h, Nat.le_refl _, fun _ => rfl⟩⟩
 refine ⟨⟨fun id o hc hn => ?_, fun id o n sz m cs hc hk => ?_, r.inj, r.sepO, r.sepT, fun b off hb => Nat.lt_of_lt_of_le (r.lt b off hb) (by simp)⟩, ⟨fun b hb _ => old b hb, hx, fun _ _ h => .inl h, by simp, fun _ h => .inl h, rfl, rfl⟩⟩
 ·obtain ⟨b, hg, ho⟩ := r.objsO id o hc hn
  exact ⟨b, hg, ho.move hx (old b ho.lt)⟩
 ·obtain ⟨blk, cap, ht, h1, h2, h3⟩ := r.toks id o n sz m cs hc hk
  refine ⟨blk, cap, ht, h1, h2, fun b hb => ?_⟩
  obtain ⟨vs, hr, hl, hp⟩ := h3 b hb
  exact ⟨vs, hr.same (old b hr.lt), hl, hp.ext hx⟩
theorem putCells_list (d : List Int) (c : Array Value) (hl : d.length ≤ c.size) : (putCells (Value.int .i64) 0 d.toArray c).toList = d.map (Value.int .i64) ++ c.toList.drop d.length := by
 apply List.ext_getElem?
 intro j
 rw [Array.getElem?_toList]
 simp only [putCells, Array.getElem?_mapIdx, List.size_toArray, Nat.zero_add, Nat.zero_le, true_and, Nat.sub_zero]
 by_cases hj : j < d.length
 ·rw [List.getElem?_append_left (by simpa using hj)]
  simp [hj, show j < c.size by omega]
 ·rw [List.getElem?_append_right (by simp; omega), List.getElem?_drop]
  simp only [hj, if_false, List.length_map, Array.getElem?_toList, show d.length + (j - d.length) = j by omega]
  cases c[j]? <;> rfl

end Go.AI

namespace Go.AI

open Go

section

variable {P : Program} {rd : Option Nat} {nb : Nat} {k : List It} {T : List AV} {h : Heap} {D : List AD} {Q : AX → List AV → Heap → List AD → Prop} {all : Array Oper} {o : Oper} {rest : List Oper}
theorem Rel.forget {E : Env} {h : Heap} {w : World} (r : Rel E h.at w) {id : Nat} : Rel E (Heap.at (h.set id none)) w ∧ Fr E h.at w E (Heap.at (h.set id none)) w := by
 have hat : ∀ id' o, Heap.at (h.set id none) id' = some o → h.at id' = some o := by
  intro id' o e
  unfold Heap.at at e ⊢
  by_cases e' : id = id'
  ·subst e'
   rw [List.getElem?_set_self'] at e
   cases hh : h[id]? <;> simp [hh] at e
  ·rwa [List.getElem?_set_ne e'] at e
 have hO : ∀ id' b', Owns E (Heap.at (h.set id none)) id' b' → Owns E h.at id' b' := by
  intro id' b' ho
  rcases ho with ⟨c, h1, h3, h2⟩ | ⟨c, x, c', m, h1, hk, h2⟩
  ·exact .inl ⟨c, hat _ _ h1, h3, h2⟩
  ·exact .inr ⟨c, x, c', m, hat _ _ h1, hk, h2⟩
 exact ⟨⟨fun id' c hc hm => r.objsO id' c (hat _ _ hc) hm, fun id' c n sz k cs hc hk => r.toks id' c n sz k cs (hat _ _ hc) hk, fun i i' b' h1 h2 => r.inj i i' b' (hO _ _ h1) (hO _ _ h2), fun id' c b' off hc hm => r.sepO id' c b' off (hat _ _ hc) hm,
  fun id' c n sz k cs b' c' m off hc => r.sepT id' c n sz k cs b' c' m off (hat _ _ hc), r.lt⟩,
  ⟨fun _ _ _ => rfl, Ext.refl _ _, fun _ _ h => .inl h, Nat.le_refl _, fun b' ⟨i, ho⟩ => .inl ⟨i, hO _ _ ho⟩, Kp.refl w⟩⟩
theorem flat_rep {E w} {es ys : List (List PV)} {vs us : List Value} (h1 : RepL E w (es.flatten.map .p) vs) (h2 : RepL E w (ys.flatten.map .p) us) : RepL E w ((es ++ ys).flatten.map .p) (vs ++ us) := by
 rw [List.flatten_append, List.map_append]; exact h1.append h2
theorem vec_fresh {E : Env} {id b c n : Nat} {R : Nat → Nat → Prop} {o : Option AO} (hf : Fresh E h.length) (hlt : id < h.length) :
  Fresh { E with ro := R, t := fun j => if j = id then some ⟨some b, c, n⟩ else E.t j } (h.set id o).length := by
 intro j hj
 rw [List.length_set] at hj
 exact ⟨(hf j hj).1, by show (if j = id then _ else _) = _; rw [if_neg (by omega)]; exact (hf j hj).2⟩
theorem Run.appendV {s x : Operand} {t e : TypeId} {es ys : List (List PV)} {id sz by_ : Nat} {z : List Value} (ho : o.op = .call ⟨.builtin .append, #[s, x], #[t, t]⟩) (hw : awanted all T o = some true) (he : elT P t = some e) (hsz : szT P e = some sz) (hby : byT P e = some by_) (hz : zeroT P e = some z)
  (hs : aev T s = .vec id es.length) (hid : h.at id = some (.vec sz es)) (hes : ∀ e ∈ es, e.length = sz) (hx : srcA (aev T x) = some ys) (hx2 : srcSz sz (aev T x) = true) (hpos : 0 < ys.length)
  (hb : (es.length + ys.length) * by_ ≤ 140737488355328) (hb2 : es.length + ys.length ≤ 9223372036854775807)
  (r : Run P rd nb (.ops all rest :: k) (tput T o.dst (.vec id (es.length + ys.length))) (h.set id (some (.vec sz (es ++ ys)))) D Q) : Run P rd nb (.ops all (o :: rest) :: k) T h D Q := by
 refine Run.opR (R := fun x h' => x = .vec id (es.length + ys.length) ∧ h' = h.set id (some (.vec sz (es ++ ys)))) hw (fun c hc => by rw [hc] at ho; cases ho) ?_ (by rintro x h' ⟨rfl, rfl⟩; exact r)
 intro E w a st
 have hlt := lt_of_at hid
 have hsr := aev_rep st s
 rw [hs] at hsr
 simp only [Rep] at hsr
 obtain ⟨L, hL, _, ad0, cap0, hsv, hcur⟩ := hsr
 obtain ⟨blk, cap, ht, k1, k2, k3⟩ := st.rel.toks id _ _ _ _ _ hid rfl
 rw [hL] at ht; cases ht
 obtain ⟨ha0, hc0⟩ := hcur rfl
 simp only at hc0
 rw [ha0, hc0] at hsv
 have hX := src_rep hx hx2 (aev_rep st x)
 simp only [RepP] at hX
 obtain ⟨ad, cx, hxv, _, hX⟩ := hX
 have hne : ys ≠ [] := by intro h0; rw [h0] at hpos; simp at hpos
 obtain ⟨b, off, rfl, hr⟩ := hX.resolve_left hne
 have hu := und_elT he
 obtain ⟨i, zv, hi, hzv, hzc, hzl, _⟩ := zeroT_parts hz
 have hisz : i.size = sz := by unfold szT at hsz; rw [hi] at hsz; simpa using hsz
 have hiby : i.bytes = by_ := by unfold byT at hby; rw [hi] at hby; simpa using hby
 have hyl := hr.length
 obtain ⟨news, n1, n2, n3⟩ := hr.values
 have hlY : (ys.flatten.map AV.p).length = ys.length * sz := by rw [List.length_map, flat_length hyl]
 have hlE : (es.flatten.map AV.p).length = es.length * sz := by rw [List.length_map, flat_length hes]
 have hadd : (es.length + ys.length) * sz = es.length * sz + ys.length * sz := Nat.add_mul _ _ _
 have hlA : ((es ++ ys).flatten.map AV.p).length = (es.length + ys.length) * sz := by rw [List.flatten_append, List.map_append, List.length_append, hlE, hlY, hadd]
 have hk' : (AO.vec sz (es ++ ys)).tk = some (es.length + ys.length, sz, 0, (es ++ ys).flatten.map .p) := by simp [AO.tk]
 cases blk with
 | none =>
  have hc0 := k2 rfl
  have he0 : es = [] := List.eq_nil_of_length_eq_zero (by omega)
  subst he0
  subst hc0
  have hrun := run_append_nil (P := P) w t o.type e i zv hu hi hzv ⟨b, off, none⟩ ys.length cx news (by rw [n1, hisz]) (fun j v hj => by rw [addr_add]; exact n2 j v hj) hpos (by simp at hb2; omega) (by rw [hiby]; simp at hb; omega)
  have hzs : ((Builtin.zeroCells zv.cells (grownCap w ys.length 0 e - ys.length)).toList).length = (grownCap w ys.length 0 e - ys.length) * sz := by
   rw [Array.length_toList, size_zeroCells, hzc]; simp [hzl, hisz]
  have hle := le_grownCap w ys.length 0 e
  have hq : List.toArray (news ++ (Builtin.zeroCells zv.cells (grownCap w ys.length 0 e - ys.length)).toList) = news.toArray ++ Builtin.zeroCells zv.cells (grownCap w ys.length 0 e - ys.length) := by
   apply Array.ext'; simp
  rw [← hq] at hrun
  obtain ⟨g1, g2⟩ := st.rel.growG (w' := w.drew.alloc (.cells (List.toArray (news ++ (Builtin.zeroCells zv.cells (grownCap w ys.length 0 e - ys.length)).toList)) e (0, 0))) (b := w.heap.size) (c' := grownCap w ys.length 0 e) (vs := news ++ (Builtin.zeroCells zv.cells (grownCap w ys.length 0 e - ys.length)).toList)
   (o' := .vec sz ([] ++ ys)) (m := ys.length) hid rfl hk' (Nat.le_refl _) (.inl hpos) (.inr (Nat.le_refl _)) ⟨e, alloc_new (w := w.drew) _⟩
   (by rw [List.length_append, n1, hzs, ← Nat.add_mul]; congr 1; omega) (by simpa using hle) (fun b' _ hb' => alloc_old (w := w.drew) _ hb') (fun off ho => by have := st.rel.lt _ _ ho; omega) (by rw [alloc_size]; show w.heap.size ≤ w.heap.size + 1; omega) ⟨rfl, rfl⟩
   (fun E' hx' _ => by
    rw [hlA, List.take_append_of_le_length (by rw [n1]; simp), List.take_of_length_le (by rw [n1]; simp), List.nil_append]
    exact n3.ext hx')
  refine ⟨_, _, _, _, .slice (some ⟨w.heap.size, 0, none⟩) ys.length (grownCap w ys.length 0 e), ⟨rfl, rfl⟩, ?_, g1, vec_fresh st.fresh hlt, ?_, g2⟩
  ·exact exec_append ho (by rw [hsv, hxv]; exact hrun)
  ·simp only [Rep]
   exact ⟨⟨some w.heap.size, grownCap w ys.length 0 e, ([] : List (List PV)).length + ys.length⟩, by simp, by simp, _, grownCap w ys.length 0 e, by simp, fun _ => ⟨rfl, rfl⟩⟩
 | some g =>
  obtain ⟨cur, hrow, hcl, hcr⟩ := k3 g rfl
  have hnro : ∀ off, ¬ E.ro g off := fun off => st.rel.sepT id _ _ _ _ _ g _ _ off hid rfl hL (by omega)
  have hlec : es.length * sz ≤ cap * sz := Nat.mul_le_mul_right _ k1
  rw [hlE] at hcr
  by_cases hroom : es.length + ys.length ≤ cap
  ·have hmulle : (es.length + ys.length) * sz ≤ cap * sz := Nat.mul_le_mul_right _ hroom
   obtain ⟨w', hrun, hrow', hsame, hsize, hos, hout⟩ := append_room (P := P) (ty := o.type) hu hi hrow (a := ⟨b, off, none⟩) (m := ys.length) (c := cx) (news := news) (n := es.length) (cap := cap) (by rw [n1, hisz]) (fun j v hj => by rw [addr_add]; exact n2 j v hj)
    (RepL.one_p n3) hroom (by rw [hisz]; omega)
   rw [hisz] at hrow'
   obtain ⟨g1, g2⟩ := st.rel.growG (w' := w') (b := g) (c' := cap) (vs := patch cur (es.length * sz) news) (o' := .vec sz (es ++ ys)) (m := ys.length) hid rfl hk' (Nat.le_refl _) (.inl hpos) (.inl ⟨_, hL, rfl⟩) hrow'
    (by rw [patch_length]; exact hcl) hroom (fun b' hne _ => hsame b' hne) (fun off ho => absurd ho (hnro off)) (by omega) ⟨hos, hout⟩
    (fun E' hx' _ => by
     rw [hlA]
     have e1 : patch cur (es.length * sz) news = cur.take (es.length * sz) ++ patch (cur.drop (es.length * sz)) 0 news := by
      have hh := patch_skip news (cur.take (es.length * sz)) (cur.drop (es.length * sz)) 0
      rw [List.take_append_drop, List.length_take, Nat.min_eq_left (by omega), Nat.add_zero] at hh
      exact hh
     have e2 : patch (cur.drop (es.length * sz)) 0 news = news ++ (cur.drop (es.length * sz)).drop (ys.length * sz) := by
      have hh := patch_full news ((cur.drop (es.length * sz)).take (ys.length * sz)) ((cur.drop (es.length * sz)).drop (ys.length * sz)) (by rw [List.length_take, List.length_drop]; omega)
      rwa [List.take_append_drop] at hh
     rw [e1, e2, ← List.append_assoc, List.take_append_of_le_length (by rw [List.length_append, List.length_take]; omega), List.take_of_length_le (by rw [List.length_append, List.length_take]; omega)]
     exact flat_rep (hcr.ext hx') (n3.ext hx'))
   refine ⟨_, _, _, w', .slice (some ⟨g, 0, none⟩) (es.length + ys.length) cap, ⟨rfl, rfl⟩, ?_, g1, vec_fresh st.fresh hlt, ?_, g2⟩
   ·exact exec_append ho (by rw [hsv, hxv]; exact hrun)
   ·simp only [Rep]
    exact ⟨⟨some g, cap, es.length + ys.length⟩, by simp, Nat.le_refl _, _, _, rfl, fun _ => ⟨rfl, rfl⟩⟩
  ·have hol : (cur.take (es.length * sz)).length = es.length * sz := by rw [List.length_take]; omega
   have holds : ∀ j v, (cur.take (es.length * sz))[j]? = some v → w.cell? ((⟨g, 0, none⟩ : Addr).add j) = some v := by
    intro j v hj
    rw [addr_add, Nat.zero_add, hrow.cell]
    rw [List.getElem?_take] at hj
    split at hj
    ·exact hj
    ·cases hj
   have hrun := run_append_grow (P := P) w t o.type e i zv hu hi hzv ⟨g, 0, none⟩ es.length cap (cur.take (es.length * sz)) (by rw [hol, hisz]) holds ⟨b, off, none⟩ ys.length cx news (by rw [n1, hisz])
    (fun j v hj => by rw [addr_add]; exact n2 j v hj) (by omega) (by omega) (growslice_fits (by omega) (by rw [hiby]; exact hb))
   have hzs : ((Builtin.zeroCells zv.cells (grownCap w (es.length + ys.length) cap e - (es.length + ys.length))).toList).length = (grownCap w (es.length + ys.length) cap e - (es.length + ys.length)) * sz := by
    rw [Array.length_toList, size_zeroCells, hzc]; simp [hzl, hisz]
   have hle := le_grownCap w (es.length + ys.length) cap e
   have hq : List.toArray (cur.take (es.length * sz) ++ news ++ (Builtin.zeroCells zv.cells (grownCap w (es.length + ys.length) cap e - (es.length + ys.length))).toList) =
     (cur.take (es.length * sz)).toArray ++ news.toArray ++ Builtin.zeroCells zv.cells (grownCap w (es.length + ys.length) cap e - (es.length + ys.length)) := by
    apply Array.ext'; simp
   rw [← hq] at hrun
   obtain ⟨g1, g2⟩ := st.rel.growG (w' := w.drew.alloc (.cells (List.toArray (cur.take (es.length * sz) ++ news ++ (Builtin.zeroCells zv.cells (grownCap w (es.length + ys.length) cap e - (es.length + ys.length))).toList)) e (0, 0))) (b := w.heap.size) (c' := grownCap w (es.length + ys.length) cap e)
    (o' := .vec sz (es ++ ys)) (m := ys.length) hid rfl hk' (Nat.le_refl _) (.inl hpos) (.inr (Nat.le_refl _)) ⟨e, alloc_new (w := w.drew) _⟩
    (by rw [List.length_append, List.length_append, hol, n1, hzs, ← hadd, ← Nat.add_mul]; congr 1; omega) hle (fun b' _ hb' => alloc_old (w := w.drew) _ hb') (fun off ho => by have := st.rel.lt _ _ ho; omega) (by rw [alloc_size]; show w.heap.size ≤ w.heap.size + 1; omega) ⟨rfl, rfl⟩
    (fun E' hx' _ => by
     have hl1 : (cur.take (es.length * sz) ++ news).length = (es.length + ys.length) * sz := by rw [List.length_append, hol]; omega
     have hh := flat_rep (hcr.ext hx') (n3.ext hx')
     generalize cur.take (es.length * sz) ++ news = q at hh hl1
     rw [hlA, ← hl1, List.take_append_of_le_length (Nat.le_refl _), List.take_of_length_le (Nat.le_refl _)]
     exact hh)
   refine ⟨_, _, _, _, .slice (some ⟨w.heap.size, 0, none⟩) (es.length + ys.length) (grownCap w (es.length + ys.length) cap e), ⟨rfl, rfl⟩, ?_, g1, vec_fresh st.fresh hlt, ?_, g2⟩
   ·exact exec_append ho (by rw [hsv, hxv]; exact hrun)
   ·simp only [Rep]
    exact ⟨⟨some w.heap.size, grownCap w (es.length + ys.length) cap e, es.length + ys.length⟩, by simp, Nat.le_refl _, _, _, rfl, fun _ => ⟨rfl, rfl⟩⟩
theorem Run.freezeV (slot : Nat) {id n sz : Nat} {es : List (List PV)} (hs : tget T slot = .vec id n) (hat : h.at id = some (.vec sz es)) (hes : ∀ e ∈ es, e.length = sz) (hn : es.length = n)
  (r : Run P rd nb k (T.set slot (.p (.sl sz es))) (h.set id none) D Q) : Run P rd nb k T h D Q := by
 intro E w a s
 have hv := s.tmps.get slot
 rw [← tget_eq, hs] at hv
 simp only [Rep] at hv
 obtain ⟨L, hL, _, ad, cap0, hv, hcur⟩ := hv
 obtain ⟨blk, cap, ht, k1, k2, k3⟩ := s.rel.toks id _ _ _ _ _ hat rfl
 rw [hL] at ht; cases ht
 subst hn
 obtain ⟨ha0, hc0⟩ := hcur rfl
 simp only at hc0
 rw [ha0, hc0] at hv
 have hset : ∀ {E' : Env} {x : AV}, RepL E' w T a.tmps.toList → Rep E' w x (a.tmps.toList.getD slot undef) → RepL E' w (T.set slot x) a.tmps.toList := by
  intro E' x hT hx
  have hset := hT.set hx slot
  have hsame : (a.tmps.toList).set slot (a.tmps.toList.getD slot undef) = a.tmps.toList := by
   apply List.ext_getElem?
   intro j
   rw [List.getElem?_set]
   split
   ·rename_i e; subst e
    rcases Nat.lt_or_ge slot a.tmps.size with l | l
    ·simp [l]
    ·have l' : ¬ slot < a.tmps.size := by omega
     simp [l']
   ·rfl
  rwa [hsame] at hset
 cases blk with
 | none =>
  have hc0 := k2 rfl
  have he0 : es = [] := List.eq_nil_of_length_eq_zero (by omega)
  subst he0
  obtain ⟨f1, f2⟩ := s.rel.forget (id := id)
  have s' := s.move f2 f1 (fun i hi => s.fresh i (by simpa using hi))
  have hx : Rep E w (.p (.sl sz [])) (.slice none 0 cap) := by
   simp only [Rep, RepP]
   exact ⟨_, cap, rfl, k1, .inl trivial⟩
  exact K_mono (P := P) (rd := rd) (Post.of_fr (Q := Q) f2) k _ _ _ (r _ w a ⟨s'.rel, s'.fresh, hset s'.tmps (by rw [hv]; exact hx), s'.defers⟩)
 | some b =>
  obtain ⟨vals, hrow, hcl, hcr⟩ := k3 b rfl
  obtain ⟨f1, f2⟩ := s.rel.freezeG (b := b) hat (.inr ⟨_, _, _, _, hat, rfl, hL⟩)
  have s' := s.move f2 f1 (fun i hi => s.fresh i (by simpa using hi))
  have hel : (es.flatten.map AV.p).length = es.length * sz := by rw [List.length_map, flat_length hes]
  have hx : Rep { E with ro := fun b' off => E.ro b' off ∨ b' = b } w (.p (.sl sz es)) (.slice (some ⟨b, 0, none⟩) es.length cap) := by
   simp only [Rep, RepP]
   refine ⟨_, cap, rfl, k1, .inr ⟨b, 0, rfl, ?_⟩⟩
   rw [hel] at hcr
   refine RepEs.of_row (vs := vals.take (es.length * sz)) hes (fun j v hj => ⟨.inr rfl, ?_⟩) (hcr.ext f2.ext)
   rw [hrow.cell, Nat.zero_add]
   rw [List.getElem?_take] at hj
   split at hj
   ·exact hj
   ·cases hj
  exact K_mono (P := P) (rd := rd) (Post.of_fr (Q := Q) f2) k _ _ _ (r _ w a ⟨s'.rel, s'.fresh, hset s'.tmps (by rw [hv]; exact hx), s'.defers⟩)

end

section

open Go.Shelf Go.Sort Go.Proofs
theorem sort_vec {P : Program} {ρ : Ren} (Ly : Lays.n189 P ρ) {h : Heap} {id n : Nat} {zs : List Int} (hid : h.at id = some (.vec 1 (ints zs))) (hn : n = zs.length) (hsz : zs.length < 4611686018427387904) :
  ACalls P (ρ.f 189) [.vec id n] h fun out h' => out = .ret (.tup []) ∧ h' = h.set id (some (.vec 1 (ints (zs.mergeSort fun x y => decide (x ≤ y))))) := by
 intro E w vs hrel hfresh hargs
 subst hn
 simp only [RepL, Rep] at hargs
 obtain ⟨v, us, rfl, ⟨L, hL, _, ad0, cap0, rfl, hcur⟩, rfl⟩ := hargs
 obtain ⟨blk, cap, ht, k1, k2, k3⟩ := hrel.toks id _ _ _ _ _ hid rfl
 rw [hL] at ht; cases ht
 obtain ⟨ha0, hc0⟩ := hcur (by simp [ints_length])
 simp only at hc0
 rw [ints_length] at k1
 have hlt := lt_of_at hid
 have hms : (zs.mergeSort fun x y => decide (x ≤ y)).length = zs.length := by simp
 cases blk with
 | none =>
  have hcz := k2 rfl
  have hz : zs = [] := List.eq_nil_of_length_eq_zero (by omega)
  subst hz
  refine Calls.mono (Any.slices_Sort_int_none Ly _ _ w) ?_
  rintro e w' ⟨rfl, rfl⟩
  have hset : h.set id (some (.vec 1 (ints (([] : List Int).mergeSort fun x y => decide (x ≤ y))))) = h := by
   have e1 : ([] : List Int).mergeSort (fun x y => decide (x ≤ y)) = [] := by simp
   rw [e1]
   apply List.ext_getElem?
   intro j
   rw [List.getElem?_set]
   split
   ·rename_i e; subst e
    unfold Heap.at at hid
    rw [List.getElem?_eq_getElem hlt] at hid ⊢
    simp only [Option.getD_some] at hid
    simp [hid]
   ·rfl
  exact ⟨_, _, E, ⟨rfl, rfl⟩, by rw [hset]; exact hrel, by rw [hset]; exact hfresh, ⟨_, rfl, by simp [Rep, RepL]⟩, by rw [hset]; exact Fr.refl _ _ _⟩
 | some b =>
  obtain ⟨cur, hrow, hcl, hcr⟩ := k3 b rfl
  rw [Nat.mul_one] at hcl
  have hnro : ∀ off, ¬ E.ro b off := fun off => hrel.sepT id _ _ _ _ _ b _ _ off hid rfl hL (by omega)
  rw [ints_flat, List.length_map, repL_ints] at hcr
  obtain ⟨T, hheap⟩ := hrow
  have hcu : cur = zs.map (Value.int .i64) ++ cur.drop zs.length := by rw [← hcr, List.take_append_drop]
  have hH : Holds (Value.int .i64) w b 0 zs.toArray := by
   intro j hj
   have hj' : j < zs.length := by simpa using hj
   refine ⟨?_, by simp [World.frozen?, hheap]⟩
   rw [World.cell?, hheap, hcu]
   simp [hj', List.getElem?_append_left]
  rw [ha0]
  refine Calls.mono (Any.slices_Sort_int Ly b 0 cap0 zs w hH (lt_of_heap hheap) hsz) ?_
  rintro e w' ⟨rfl, n, os, rfl⟩
  obtain ⟨r1, f1⟩ := hrel.of_heap (w' := Sort.ahead w n) rfl rfl rfl
  have hheap1 : (Sort.ahead w n).heap[b]? = some (.cells (List.toArray cur) T (0, 0)) := hheap
  obtain ⟨r2, f2⟩ := r1.growG (w' := putRow (Value.int .i64) (Sort.ahead w n) b 0 (zs.mergeSort fun x y => decide (x ≤ y)).toArray) (b := b) (c' := cap) (m := 0) (k := 0) (k' := 0)
   (vs := (putCells (Value.int .i64) 0 (zs.mergeSort fun x y => decide (x ≤ y)).toArray (List.toArray cur)).toList)
   (o' := .vec 1 (ints (zs.mergeSort fun x y => decide (x ≤ y)))) (cs' := (ints (zs.mergeSort fun x y => decide (x ≤ y))).flatten.map .p) hid rfl (by simp [AO.tk, ints_length]) (Nat.le_refl _) (.inr hL) (.inl ⟨_, hL, rfl⟩)
   ⟨T, by simp only [putRow, mapBlock, Array.getElem?_modify, hheap1, if_true, Option.map_some, onCells, Array.toArray_toList]⟩
   (by rw [putCells_list _ _ (by simp; omega)]; simp; omega) (by rw [ints_length]; omega)
   (fun b' hne _ => by simp [putRow, mapBlock, Array.getElem?_modify, Ne.symm hne]) (fun off ho => absurd ho (hnro off)) (by simp [putRow, mapBlock]) ⟨rfl, rfl⟩
   (fun E' _ _ => by
    rw [putCells_list _ _ (by simp; omega), ints_flat, repL_ints, List.length_map, List.take_append_of_le_length (by simp), List.take_of_length_le (by simp)])
  obtain ⟨r3, f3⟩ := r2.more os
  exact ⟨_, _, _, ⟨rfl, rfl⟩, r3, vec_fresh hfresh hlt, ⟨_, rfl, by simp [Rep, RepL]⟩, (f1.trans f2).trans f3⟩

end

end Go.AI
