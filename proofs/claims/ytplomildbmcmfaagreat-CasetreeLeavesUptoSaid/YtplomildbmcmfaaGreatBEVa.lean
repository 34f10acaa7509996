/-
  Concrete runs: values in which the room of rows that grew and the numbers of loops are letters.
-/
import Derived.MapKept
import Derived.Test.YtplomildbmcmfaaGreatBFG
import Derived.Test.YtplomildbmcmfaaGreatBFF
import Derived.Test.YtplomildbmcmfaaGreatBFL

namespace Go.AI

open Go Go.MapKept

section

variable {P : Program} {rd : Option Nat} {nb : Nat} {k : List It} {T : List AV} {h : Heap} {D : List AD} {Q : AX → List AV → Heap → List AD → Prop} {all : Array Oper} {o : Oper} {rest : List Oper}
theorem Run.opU {R : Heap → Prop} (hw : awanted all T o = some true) (hnd : ∀ c, o.op ≠ .defer c)
    (ho : ∀ E w a, St E w a T h D → ∃ h' E' w', R h' ∧ (execOp a.eval o).run P w = .ok .skip w' ∧ Rel E' (Heap.at h') w' ∧ Fresh E' h'.length ∧ Fr E (Heap.at h) w E' (Heap.at h') w')
    (r : ∀ h', R h' → Run P rd nb (.ops all rest :: k) (tput T o.dst (.tup [])) h' D Q) : Run P rd nb (.ops all (o :: rest) :: k) T h D Q := by
  intro E w a s
  obtain ⟨h', E', w', hR, hrun, hr, hf, hfr⟩ := ho E w a s
  have s' : St E' w' (a.put o.dst undef) (tput T o.dst (.tup [])) h' D := (s.move hfr hr hf).put (by simp only [Rep, RepL]; exact ⟨[], rfl, rfl⟩) o.dst
  have := r h' hR E' w' _ s'
  have hk := K_mono (P := P) (rd := rd) (Post.of_fr (Q := Q) hfr) (.ops all rest :: k) _ _ _ this
  show wpListIn (fen rd) 0 P all (K P rd (Post nb Q E h w) k) (o :: rest) a w
  simp only [wpListIn]
  rw [awanted_sound s hw]
  simp only [if_true]
  refine ⟨fun _ _ => trivial, ?_⟩
  rw [Oper.semAt_eq _ _ _ hnd, hrun]
  exact hk
theorem map_keys {es : List MapEntry} {kvs : List (Value × Value)} (he : es.map (fun e => (e.key, e.val)) = kvs) : es.map (·.key) = kvs.map Prod.fst ∧ ∀ e ∈ es, (e.key, e.val) ∈ kvs := by
  subst he
  exact ⟨by simp [List.map_map, Function.comp_def], fun e h => List.mem_map.2 ⟨e, h, rfl⟩⟩
def zeroIs (P : Program) (t : TypeId) (z : Value) : Prop := ∃ i, P.info? t = some i ∧ i.zero = some z
theorem run_zeroIs {P : Program} {t : TypeId} {z : Value} (h : zeroIs P t z) (w : World) : (zeroValue t).run P w = .ok z w := by
  obtain ⟨i, hi, hz⟩ := h
  simp [zeroValue, typeInfo, hi, hz]
def zeroB (P : Program) (t : TypeId) : Bool := match P.info? t with
  | some i => match i.zero with
    | some (.bool false) => true
    | _ => false
  | none => false
theorem zeroB_is {P : Program} {t : TypeId} (h : zeroB P t = true) : zeroIs P t (.bool false) := by
  unfold zeroB at h
  split at h
  · rename_i i hi
    split at h
    · rename_i hz
      exact ⟨i, hi, hz⟩
    · cases h
  · cases h
def zeroN (P : Program) (t : TypeId) : Bool := match P.info? t with
  | some i => match i.zero with
    | some (.int .i64 0) => true
    | _ => false
  | none => false
theorem zeroN_is {P : Program} {t : TypeId} (h : zeroN P t = true) : zeroIs P t (.int .i64 0) := by
  unfold zeroN at h
  split at h
  · rename_i i hi
    split at h
    · rename_i hz
      exact ⟨i, hi, hz⟩
    · cases h
  · cases h
def MapSays (kvs : List (Value × Value)) (key z : Value) (v : Value) (b : Bool) : Prop := (b = true ∧ (∀ v', (key, v') ∈ kvs → v' = v) ∧ key ∈ kvs.map Prod.fst) ∨ (b = false ∧ key ∉ kvs.map Prod.fst ∧ v = z)
theorem run_lookup {P : Program} {t kt et : TypeId} {d : TypeDesc} {g : Nat} {kvs : List (Value × Value)} {key z v : Value} {b : Bool} {w : World} {es : Array MapEntry} {c : Nat} (ok : Bool)
    (ht : P.underlying t = some (.map kt et)) (hd : P.underlying kt = some d) (hz : zeroIs P et z) (hh : w.heap[g]? = some (.map es c)) (he : es.toList.map (fun e => (e.key, e.val)) = kvs)
    (hks : ∀ x ∈ kvs, IsKey d x.1) (hkey : IsKey d key) (hf : MapSays kvs key z v b) : (Instr.lookup t (.map (some g)) key ok).run P w = .ok (if ok then .tuple #[v, .bool b] else v) w := by
  obtain ⟨e1, e2⟩ := map_keys he
  have hes : ∀ x ∈ es.toList, IsKey d x.key := fun x hx => hks _ (e2 x hx)
  have hf' : (Instr.findNow d key es.toList 0 = some none ∧ b = false ∧ v = z) ∨ ∃ j, Instr.findNow d key es.toList 0 = some (some (j, v)) ∧ b = true := by
    rcases findNow_spec hkey es.toList 0 hes with ⟨h1, h2⟩ | ⟨j, e, h1, h2, h3⟩
    · rcases hf with ⟨hb, _, hm⟩ | ⟨hb, hm, hv⟩
      · obtain ⟨x, hx, hxk⟩ := List.mem_map.1 (e1 ▸ hm)
        exact absurd hxk (h2 x hx)
      · exact .inl ⟨h1, hb, hv⟩
    · have hmem := List.mem_of_getElem? h2
      rcases hf with ⟨hb, hv, _⟩ | ⟨hb, hm, _⟩
      · have := hv e.val (h3 ▸ e2 e hmem)
        exact .inr ⟨0 + j, by rw [h1, this], hb⟩
      · exact absurd (e1 ▸ List.mem_map.2 ⟨e, hmem, h3⟩) hm
  simp only [Instr.lookup, Sem.run_bind, run_underlying ht, Result.andThen, MapKept.run_getObj_map hh, run_checkKey hd hkey, Sem.run_pure]
  rcases hf' with ⟨h1, rfl, rfl⟩ | ⟨j, h1, rfl⟩
  · simp [run_findKey hd h1, Result.andThen, run_zeroIs hz]
  · simp [run_findKey hd h1]
theorem Run.lookup {t kt et : TypeId} {d : TypeDesc} {m ix : Operand} {id : Nat} {kvs : List (Value × Value)} {key z : Value} (v : Value) (b : Bool) (ho : o.op = .lookup t m ix false) (hw : awanted all T o = some true)
    (ht : P.underlying t = some (.map kt et)) (hd : P.underlying kt = some d) (hz : zeroIs P et z)
    (hm : aev T m = .mp id) (hid : h.at id = some (.aux (.map kvs))) (hks : ∀ x ∈ kvs, IsKey d x.1) (hk : aev T ix = .p (.prim key)) (hkey : IsKey d key) (hf : MapSays kvs key z v b) (hp : isPrim v = true)
    (r : Run P rd nb (.ops all rest :: k) (tput T o.dst (.p (.prim v))) h D Q) : Run P rd nb (.ops all (o :: rest) :: k) T h D Q := by
  refine Run.opR (R := fun x h' => x = .p (.prim v) ∧ h' = h) hw (fun c hc => by rw [hc] at ho; cases ho) ?_ (by rintro x h' ⟨rfl, rfl⟩; exact r)
  intro E w a s
  have hmr := aev_rep s m
  rw [hm] at hmr
  simp only [Rep] at hmr
  obtain ⟨g, hg, hmv⟩ := hmr
  have hkr := aev_rep s ix
  rw [hk] at hkr
  simp only [Rep, RepP] at hkr
  obtain ⟨g', hg', ho'⟩ := s.rel.objsO id _ hid rfl
  rw [hg] at hg'; cases hg'
  obtain ⟨es, c, hh, he, hst⟩ := ho'
  refine ⟨_, _, E, w, v, ⟨rfl, rfl⟩, ?_, s.rel, s.fresh, by simp only [Rep, RepP, true_and]; exact hp, Fr.refl _ _ _⟩
  have hrun := run_lookup (P := P) false ht hd hz hh he hks hkey hf
  simp only [execOp, ho]
  rw [hmv, hkr.1]
  simp [hrun]
theorem Run.mapUpdate {t kt et : TypeId} {d : TypeDesc} {m ix x : Operand} {id : Nat} {kvs : List (Value × Value)} {key v : Value} (ho : o.op = .mapUpdate t m ix x) (hw : awanted all T o = some true)
    (ht : P.underlying t = some (.map kt et)) (hd : P.underlying kt = some d)
    (hm : aev T m = .mp id) (hid : h.at id = some (.aux (.map kvs))) (hks : ∀ x ∈ kvs, IsKey d x.1) (hk : aev T ix = .p (.prim key)) (hkey : IsKey d key) (hb0 : key ∉ kvs.map Prod.fst) (hx : aev T x = .p (.prim v))
    (r : Run P rd nb (.ops all rest :: k) (tput T o.dst (.tup [])) (h.set id (some (.aux (.map (kvs ++ [(key, v)]))))) D Q) : Run P rd nb (.ops all (o :: rest) :: k) T h D Q := by
  refine Run.opU (R := fun h' => h' = h.set id (some (.aux (.map (kvs ++ [(key, v)]))))) hw (fun c hc => by rw [hc] at ho; cases ho) ?_ (by rintro h' rfl; exact r)
  intro E w a s
  have hmr := aev_rep s m
  rw [hm] at hmr
  simp only [Rep] at hmr
  obtain ⟨g, hg, hmv⟩ := hmr
  have hkr := aev_rep s ix
  rw [hk] at hkr
  simp only [Rep, RepP] at hkr
  have hxr := aev_rep s x
  rw [hx] at hxr
  simp only [Rep, RepP] at hxr
  obtain ⟨g', hg', ho'⟩ := s.rel.objsO id _ hid rfl
  rw [hg] at hg'; cases hg'
  obtain ⟨es, c, hh, he, hst⟩ := ho'
  obtain ⟨e1, e2⟩ := map_keys he
  have hes : ∀ x ∈ es.toList, IsKey d x.key := fun x hx => hks _ (e2 x hx)
  obtain ⟨q1, q2⟩ := MapKept.heap_set (o' := .map (es.push { key, val := v, born := c }) (c + 1)) hh
  have hrun : (Instr.mapUpdate t (.map (some g)) key v).run P w = .ok () { w with heap := w.heap.setIfInBounds g (.map (es.push { key, val := v, born := c }) (c + 1)) } := by
    have hf : Instr.findNow d key es.toList 0 = some none := by
      rcases findNow_spec hkey es.toList 0 hes with ⟨h1, h2⟩ | ⟨j, e, h1, h2, h3⟩
      · exact h1
      · exact absurd (e1 ▸ List.mem_map.2 ⟨e, List.mem_of_getElem? h2, h3⟩) hb0
    simp only [Instr.mapUpdate, Sem.run_bind, run_underlying ht, Result.andThen, MapKept.run_getObj_map hh, run_checkKey hd hkey, run_findKey hd hf, MapKept.run_setObj_map _ hh]
  have hst' : Stamped (es.push { key, val := v, born := c }) (c + 1) := by
    obtain ⟨s1, s2, s3⟩ := hst
    refine ⟨fun x hx => ?_, ?_, ?_⟩
    · simp only [Array.toList_push, List.mem_append, List.mem_singleton] at hx
      rcases hx with hx | rfl
      · have := s1 x hx; omega
      · exact Nat.lt_succ_self c
    · simp only [Array.toList_push, List.map_append, List.map_cons, List.map_nil]
      refine List.nodup_append.2 ⟨s2, by simp, fun a ha b hb => ?_⟩
      obtain ⟨x, hx, rfl⟩ := List.mem_map.1 ha
      have := s1 x hx
      simp only [List.mem_singleton] at hb
      omega
    · simp only [Array.toList_push, List.map_append, List.map_cons, List.map_nil]
      refine List.nodup_append.2 ⟨s3, by simp, fun a ha b hb => ?_⟩
      simp only [List.mem_singleton] at hb
      subst hb
      rintro rfl
      exact hb0 (e1 ▸ ha)
  obtain ⟨g1, g2⟩ := s.rel.writeO (w' := { w with heap := w.heap.setIfInBounds g (.map (es.push { key, val := v, born := c }) (c + 1)) }) hid rfl (o' := .aux (.map (kvs ++ [(key, v)]))) rfl hg
    (fun _ => ⟨_, _, q1, by simp [he], hst'⟩) q2 (by simp) rfl rfl
  refine ⟨_, E, _, rfl, ?_, g1, by simpa using s.fresh, g2⟩
  simp only [execOp, ho]
  rw [hmv, hkr.1, hxr.1]
  simp [hrun]

end

end Go.AI

namespace Go.AI.EV

open Go Go.AI

structure LD where
  T : List AV
  ps : Array Tmp
  asg : Code
  bd : Code
abbrev Ks := Nat → Nat × LD
def iof (ks : Ks) : Fn → Fn
  | .yield j => .yield (ks j).1
  | f => f
def icap (ks : Ks) (c : Nat) : Nat := if c % 2 = 0 then c / 2 else c / 2 % 1048576 + (ks (c / 2 / 1048576)).1

mutual
def io (ks : Ks) : AV → AV
  | .p x => .p x
  | .agg cs => .agg (ioL ks cs)
  | .tup cs => .tup (ioL ks cs)
  | .ptr a b => .ptr a b
  | .sm id off len cap sz => .sm id off len (icap ks cap) sz
  | .own a b c => .own a b c
  | .fn f xs ys => .fn (iof ks f) (ioL ks xs) (ioL ks ys)
  | .ifc t x => .ifc t (io ks x)
  | .mp a => .mp a
  | .vec a b => .vec a b
  | .junk => .junk
def ioL (ks : Ks) : List AV → List AV
  | [] => []
  | x :: l => io ks x :: ioL ks l
end
theorem ioL_eq (ks : Ks) : ∀ l : List AV, ioL ks l = l.map (io ks)
  | [] => by simp only [ioL, List.map_nil]
  | x :: l => by simp only [ioL, List.map_cons, ioL_eq ks l]
theorem io_p (ks : Ks) (x : PV) : io ks (.p x) = .p x := by simp only [io]
theorem io_junk (ks : Ks) : io ks .junk = .junk := by simp only [io]
theorem io_agg (ks : Ks) (l : List AV) : io ks (.agg l) = .agg (l.map (io ks)) := by simp only [io, ioL_eq]
theorem io_tup (ks : Ks) (l : List AV) : io ks (.tup l) = .tup (l.map (io ks)) := by simp only [io, ioL_eq]
theorem io_ptr (ks : Ks) (a b : Nat) : io ks (.ptr a b) = .ptr a b := by simp only [io]
theorem io_sm (ks : Ks) (a b c d e : Nat) : io ks (.sm a b c d e) = .sm a b c (icap ks d) e := by simp only [io]
theorem io_own (ks : Ks) (a b : Nat) (c) : io ks (.own a b c) = .own a b c := by simp only [io]
theorem io_fn (ks : Ks) (f : Fn) (a b : List AV) : io ks (.fn f a b) = .fn (iof ks f) (a.map (io ks)) (b.map (io ks)) := by simp only [io, ioL_eq]
theorem io_ifc (ks : Ks) (t : TypeId) (x : AV) : io ks (.ifc t x) = .ifc t (io ks x) := by simp only [io]
theorem io_mp (ks : Ks) (a : Nat) : io ks (.mp a) = .mp a := by simp only [io]
theorem io_vec (ks : Ks) (a b : Nat) : io ks (.vec a b) = .vec a b := by simp only [io]

attribute [simp] io_p io_junk io_agg io_tup io_ptr io_sm io_own io_fn io_ifc io_mp io_vec
theorem io_prims' (ks : Ks) (l : List Value) : (prims l).map (io ks) = prims l := by simp [prims]
theorem io_ofVal (ks : Ks) (v : Value) : io ks (ofVal v) = ofVal v := by
  unfold ofVal
  split
  · split
    · simp
    · simp
  · split <;> simp
  · split <;> simp
theorem tget_io (ks : Ks) : ∀ (T : List AV) (n : Nat), tget (T.map (io ks)) n = io ks (tget T n)
  | [], n => by simp [tget]
  | x :: T, 0 => by simp [tget]
  | x :: T, n + 1 => by simp only [List.map_cons, tget, tget_io ks T n]
theorem aev_io (ks : Ks) (T : List AV) (x : Operand) : aev (T.map (io ks)) x = io ks (aev T x) := by
  cases x with
  | tmp t => simp only [aev, tget_io]
  | const v => simp only [aev, io_ofVal]
  | global g => simp [aev]
  | func f => simp [aev]
theorem tput_io (ks : Ks) (T : List AV) (d : Option Tmp) (x : AV) : tput (T.map (io ks)) d (io ks x) = (tput T d x).map (io ks) := by
  cases d <;> simp [tput, List.map_set]
theorem cellsA_io (ks : Ks) (x : AV) : cellsA (io ks x) = (cellsA x).map (List.map (io ks)) := by
  cases x <;> simp [cellsA]
theorem oneA_io (ks : Ks) (x : AV) : oneA (io ks x) = oneA x := by
  cases x <;> simp [oneA]
theorem toPV_io (ks : Ks) : ∀ (x : AV), toPV (io ks x) = toPV x
  | .p x => by simp
  | .agg cs => by simp [toPV]
  | .tup cs => by simp [toPV]
  | .ptr a b => by simp
  | .sm id off len cap sz => by simp [toPV]
  | .own a b c => by simp
  | .fn f xs ys => by simp [toPV]
  | .ifc t x => by simp only [io_ifc, toPV, toPV_io ks x]
  | .mp a => by simp
  | .vec a b => by simp
  | .junk => by simp
theorem toPVs_io (ks : Ks) : ∀ (l : List AV), toPVs (l.map (io ks)) = toPVs l
  | [] => rfl
  | x :: l => by simp only [List.map_cons, toPVs, toPV_io, toPVs_io ks l]
theorem patch_map {α β : Type} (f : α → β) : ∀ (us l : List α) (off : Nat), (patch l off us).map f = patch (l.map f) off (us.map f)
  | [], l, off => rfl
  | u :: us, l, off => by simp only [patch, List.map_cons, patch_map f us, List.map_set]
theorem intA_io (ks : Ks) (x : AV) : intA (io ks x) = intA x := by
  cases x <;> simp [intA]
theorem afill_io (ks : Ks) (pl : List (Nat × Nat)) : ∀ (parts : List (Nat × AV)) (cells : List AV), afill pl (cells.map (io ks)) (parts.map fun p => (p.1, io ks p.2)) = (afill pl cells parts).map (List.map (io ks))
  | [], cells => by simp [afill]
  | (i, x) :: rest, cells => by
    simp only [List.map_cons, afill, cellsA_io]
    cases pl[i]? with
    | none => simp
    | some q =>
      cases cellsA x with
      | none => simp
      | some us =>
        simp only [Option.map_some, List.length_map]
        split
        · rw [← patch_map, afill_io ks pl rest]
        · rfl
theorem afillS_io (ks : Ks) (sz : Nat) : ∀ (parts : List (Nat × AV)) (es : List (List PV)), afillS sz es (parts.map fun p => (p.1, io ks p.2)) = afillS sz es parts
  | [], es => by simp [afillS]
  | (i, x) :: rest, es => by
    have e : (cellsA (io ks x)).bind toPVs = (cellsA x).bind toPVs := by
      rw [cellsA_io]
      cases cellsA x with
      | none => rfl
      | some us => simp only [Option.map_some, Option.bind_some, toPVs_io]
    simp only [List.map_cons, afillS, e, afillS_io ks sz rest]
theorem aifc_io (ks : Ks) (t : TypeId) (x : AV) : aifc t (io ks x) = io ks (aifc t x) := by
  cases x <;> simp [aifc]
theorem nonNil_io (ks : Ks) (x : AV) : nonNil (io ks x) = nonNil x := by
  cases x with
  | p x => simp
  | _ => simp [nonNil]

end Go.AI.EV
