/-
  Maps from keys to true: made, asked for a key, given a key that is not there.
-/
import Derived.MapKept
import Derived.Test.YtppgpabjcenjdaaTFG
namespace Go.AI

open Go Go.MapKept

section

variable {P : Program} {rd : Option Nat} {nb : Nat} {k : List It} {T : List AV} {h : Heap} {D : List AD} {Q : AX → List AV → Heap → List AD → Prop} {all : Array Oper} {o : Oper} {rest : List Oper}

theorem runG_pre {all : Array Oper} {K : List Oper → List AV → Heap → Prop} {b : List Oper} (hK : ∀ l T h, K l T h → Run P rd nb (.ops all (l ++ b) :: k) T h D Q) :
    ∀ (l : List Oper) (T : List AV) (h : Heap), runG P all K l T h → Run P rd nb (.ops all (l ++ b) :: k) T h D Q
  | [], T, h, r => hK _ _ _ r
  | o :: l, T, h, r => by
    simp only [runG] at r
    split at r
    · rename_i hg
      have hw : awanted all T o = some true := by simp only [awanted, hg]
      split at r
      · rename_i x h' ho
        exact Run.op hw ho (runG_pre hK l _ _ r)
      · exact hK _ _ _ r
    · rename_i g want hg
      split at r
      · rename_i hd
        have hw : awanted all T o = some false := by simp only [awanted, hg, hd]
        exact Run.off hw (runG_pre hK l _ _ r)
      · rename_i d hd
        split at r
        · rename_i hT
          have hw : awanted all T o = some false := by simp only [awanted, hg, hd, hT]
          exact Run.off hw (runG_pre hK l _ _ r)
        · rename_i b' hT
          have hw := awanted_bool hg hd hT
          have hs := set_tget hT
          by_cases e : b' = want
          · subst e
            have r1 := r.1 rfl
            rw [show T.set d (tv b') = T from hs] at r1
            split at r1
            · rename_i x h' ho
              exact Run.op (by rw [hw]; simp) ho (runG_pre hK l _ _ r1)
            · exact hK _ _ _ r1
          · have e' : b' = !want := bool_ne e
            have r2 := r.2 e'
            rw [← e', show T.set d (tv b') = T from hs] at r2
            exact Run.off (by rw [hw]; simp [e]) (runG_pre hK l _ _ r2)
        · exact hK _ _ _ r

/-- The operations ahead of a place leave one slot that is told once for all their ways. -/
theorem Run.opsPreJ (n : Nat) {l : List Oper} (keep : List Nat) (slot : Nat) (b : Bool)
    (r : ∀ K : List Oper → List AV → Heap → Prop, (∀ T', WeakL T' (setMany (keepT keep T) [(slot, tv b)]) → K [] T' h) → runG P all K (l.take n) T h)
    (next : Run P rd nb (.ops all (l.drop n) :: k) (setMany (keepT keep T) [(slot, tv b)]) h D Q) : Run P rd nb (.ops all l :: k) T h D Q := by
  have := runG_pre (P := P) (rd := rd) (nb := nb) (all := all) (k := k) (D := D) (Q := Q) (b := l.drop n) (K := fun l' T' h' => Run P rd nb (.ops all (l' ++ l.drop n) :: k) T' h' D Q) (fun _ _ _ h => h) (l.take n) T h (r _ fun _ hw => Run.weak hw next)
  rwa [List.take_append_drop] at this

theorem Run.regPreJ {id : Nat} (n : Nat) {l : List Oper} (keep : List Nat) (slot : Nat) (b : Bool)
    (r : ∀ K : List Oper → List AV → Heap → Prop, (∀ T', WeakL T' (setMany (keepT keep T) [(slot, tv b)]) → K [] T' h) → runG P l.toArray K (l.take n) T h)
    (next : Run P rd nb (.ops l.toArray (l.drop n) :: k) (setMany (keepT keep T) [(slot, tv b)]) h D Q) : Run P rd nb (.code (.region id l.toArray false) :: k) T h D Q :=
  Run.region (Run.opsPreJ n keep slot b r next)

/-- One operation that yields nothing. -/
theorem Run.opU {R : Heap → Prop} (hw : awanted all T o = some true) (hnd : ∀ c, o.op ≠ .defer c)
    (ho : ∀ E w a, St E w a T h D → ∃ h' E' w', R h' ∧ (execOp a.eval o).run P w = .ok .skip w' ∧ Rel E' (Heap.at h') w' ∧ Fresh E' h'.length ∧ Fr E (Heap.at h) w E' (Heap.at h') w')
    (r : ∀ h', R h' → Run P rd nb (.ops all rest :: k) (tput T o.dst (.tup [])) h' D Q) : Run P rd nb (.ops all (o :: rest) :: k) T h D Q := by
  intro E w a s
  obtain ⟨h', E', w', hR, hrun, hr, hf, hfr⟩ := ho E w a s
  have s' : St E' w' (a.put o.dst undef) (tput T o.dst (.tup [])) h' D := (s.move hfr hr hf).put (by simp only [Rep, RepL]; exact ⟨[], rfl, rfl⟩) o.dst
  have := r h' hR E' w' _ s'
  have hk := K_mono (P := P) (rd := rd) (Post.of_fr (Q := Q) hfr) (.ops all rest :: k) _ _ _ this
  show wpListIn (fen rd) 0 P all (K P rd (Post nb Q E h w) k) (o :: rest) a w
  simp only [wpListIn]
  rw [awanted_sound s hw]
  simp only [if_true]
  refine ⟨fun _ _ => trivial, ?_⟩
  rw [Oper.semAt_eq _ _ _ hnd, hrun]
  exact hk

/-- A new map. -/
theorem Run.makeMap {t : TypeId} (ho : o.op = .makeMap t none) (hw : awanted all T o = some true)
    (r : Run P rd nb (.ops all rest :: k) (tput T o.dst (.mp h.length)) (h ++ [some (.aux (.map []))]) D Q) : Run P rd nb (.ops all (o :: rest) :: k) T h D Q := by
  refine Run.opR (R := fun x h' => x = .mp h.length ∧ h' = h ++ [some (.aux (.map []))]) hw (fun c hc => by rw [hc] at ho; cases ho) ?_ (by rintro x h' ⟨rfl, rfl⟩; exact r)
  intro E w a s
  obtain ⟨g1, g2, g3⟩ := Rel.allocO s.rel s.fresh (o := .aux (.map [])) (ob := .map #[] 0) rfl (fun _ _ _ e => by cases e) (fun _ => ⟨#[], 0, alloc_new _, rfl⟩)
  refine ⟨_, _, _, _, .map (some w.heap.size), ⟨rfl, rfl⟩, ?_, g1, by simpa using g3, ?_, g2⟩
  · simp only [execOp, ho]
    rfl
  · simp only [Rep]
    exact ⟨w.heap.size, by simp, rfl⟩

theorem map_keys {es : List MapEntry} {ks : List Value} (he : es.map (fun e => (e.key, e.val)) = ks.map (fun k => (k, Value.bool true))) : es.map (·.key) = ks ∧ ∀ e ∈ es, e.val = .bool true := by
  constructor
  · have := congrArg (List.map Prod.fst) he
    simpa [List.map_map, Function.comp_def] using this
  · intro e h
    have : (e.key, e.val) ∈ ks.map (fun k => (k, Value.bool true)) := he ▸ List.mem_map.2 ⟨e, h, rfl⟩
    obtain ⟨k, _, hk⟩ := List.mem_map.1 this
    exact (congrArg Prod.snd hk).symm

/-- A type whose zero value is false. -/
def zeroB (P : Program) (t : TypeId) : Bool := match P.info? t with
  | some i => match i.zero with
    | some (.bool false) => true
    | _ => false
  | none => false

theorem run_zeroB {P : Program} {t : TypeId} (h : zeroB P t = true) (w : World) : (zeroValue t).run P w = .ok (.bool false) w := by
  unfold zeroB at h
  split at h
  · rename_i i hi
    split at h
    · rename_i hz
      simp [zeroValue, typeInfo, hi, hz]
    · cases h
  · cases h

/-- A map is asked for a key. -/
theorem Run.lookup {t kt et : TypeId} {d : TypeDesc} {m ix : Operand} {id : Nat} {ks : List Value} {key : Value} (b : Bool) (ho : o.op = .lookup t m ix false) (hw : awanted all T o = some true)
    (ht : P.underlying t = some (.map kt et)) (hd : P.underlying kt = some d) (hz : zeroB P et = true)
    (hm : aev T m = .mp id) (hid : h.at id = some (.aux (.map ks))) (hks : ∀ x ∈ ks, IsKey d x) (hk : aev T ix = .p (.prim key)) (hkey : IsKey d key) (hb : b = true ↔ key ∈ ks)
    (r : Run P rd nb (.ops all rest :: k) (tput T o.dst (.p (.prim (.bool b)))) h D Q) : Run P rd nb (.ops all (o :: rest) :: k) T h D Q := by
  refine Run.opR (R := fun x h' => x = .p (.prim (.bool b)) ∧ h' = h) hw (fun c hc => by rw [hc] at ho; cases ho) ?_ (by rintro x h' ⟨rfl, rfl⟩; exact r)
  intro E w a s
  have hmr := aev_rep s m
  rw [hm] at hmr
  simp only [Rep] at hmr
  obtain ⟨g, hg, hmv⟩ := hmr
  have hkr := aev_rep s ix
  rw [hk] at hkr
  simp only [Rep, RepP] at hkr
  obtain ⟨g', hg', ho'⟩ := s.rel.objsO id _ hid rfl
  rw [hg] at hg'; cases hg'
  obtain ⟨es, c, hh, he⟩ := ho'
  obtain ⟨e1, e2⟩ := map_keys he
  have hes : ∀ x ∈ es.toList, IsKey d x.key := fun x hx => hks _ (e1 ▸ List.mem_map.2 ⟨x, hx, rfl⟩)
  refine ⟨_, _, E, w, .bool b, ⟨rfl, rfl⟩, ?_, s.rel, s.fresh, by simp [Rep, RepP, isPrim], Fr.refl _ _ _⟩
  have hrun : (Instr.lookup t (.map (some g)) key false).run P w = .ok (.bool b) w := by
    have hf : (Instr.findNow d key es.toList 0 = some none ∧ b = false) ∨ ∃ j, Instr.findNow d key es.toList 0 = some (some (j, .bool true)) ∧ b = true := by
      rcases findNow_spec hkey es.toList 0 hes with ⟨h1, h2⟩ | ⟨j, e, h1, h2, h3⟩
      · refine .inl ⟨h1, ?_⟩
        cases b with
        | false => rfl
        | true =>
          obtain ⟨x, hx, hxk⟩ := List.mem_map.1 (e1.symm ▸ hb.1 rfl)
          exact absurd hxk (h2 x hx)
      · have hmem := List.mem_of_getElem? h2
        exact .inr ⟨0 + j, by rw [h1, e2 e hmem], hb.2 (e1 ▸ List.mem_map.2 ⟨e, hmem, h3⟩)⟩
    simp only [Instr.lookup, Sem.run_bind, run_underlying ht, Result.andThen, MapKept.run_getObj_map hh, run_checkKey hd hkey, Sem.run_pure]
    rcases hf with ⟨h1, rfl⟩ | ⟨j, h1, rfl⟩
    · simp [run_findKey hd h1, run_zeroB hz]
    · simp [run_findKey hd h1]
  simp only [execOp, ho]
  rw [hmv, hkr.1]
  simp [hrun]

/-- A map is given a key that is not there. -/
theorem Run.mapUpdate {t kt et : TypeId} {d : TypeDesc} {m ix x : Operand} {id : Nat} {ks : List Value} {key : Value} (ho : o.op = .mapUpdate t m ix x) (hw : awanted all T o = some true)
    (ht : P.underlying t = some (.map kt et)) (hd : P.underlying kt = some d)
    (hm : aev T m = .mp id) (hid : h.at id = some (.aux (.map ks))) (hks : ∀ x ∈ ks, IsKey d x) (hk : aev T ix = .p (.prim key)) (hkey : IsKey d key) (hb : key ∉ ks) (hx : aev T x = .p (.prim (.bool true)))
    (r : Run P rd nb (.ops all rest :: k) (tput T o.dst (.tup [])) (h.set id (some (.aux (.map (ks ++ [key]))))) D Q) : Run P rd nb (.ops all (o :: rest) :: k) T h D Q := by
  refine Run.opU (R := fun h' => h' = h.set id (some (.aux (.map (ks ++ [key]))))) hw (fun c hc => by rw [hc] at ho; cases ho) ?_ (by rintro h' rfl; exact r)
  intro E w a s
  have hmr := aev_rep s m
  rw [hm] at hmr
  simp only [Rep] at hmr
  obtain ⟨g, hg, hmv⟩ := hmr
  have hkr := aev_rep s ix
  rw [hk] at hkr
  simp only [Rep, RepP] at hkr
  have hxr := aev_rep s x
  rw [hx] at hxr
  simp only [Rep, RepP] at hxr
  obtain ⟨g', hg', ho'⟩ := s.rel.objsO id _ hid rfl
  rw [hg] at hg'; cases hg'
  obtain ⟨es, c, hh, he⟩ := ho'
  obtain ⟨e1, e2⟩ := map_keys he
  have hes : ∀ x ∈ es.toList, IsKey d x.key := fun x hx => hks _ (e1 ▸ List.mem_map.2 ⟨x, hx, rfl⟩)
  obtain ⟨q1, q2⟩ := MapKept.heap_set (o' := .map (es.push { key, val := .bool true, born := c }) (c + 1)) hh
  have hrun : (Instr.mapUpdate t (.map (some g)) key (.bool true)).run P w = .ok () { w with heap := w.heap.setIfInBounds g (.map (es.push { key, val := .bool true, born := c }) (c + 1)) } := by
    have hf : Instr.findNow d key es.toList 0 = some none := by
      rcases findNow_spec hkey es.toList 0 hes with ⟨h1, h2⟩ | ⟨j, e, h1, h2, h3⟩
      · exact h1
      · exact absurd (e1 ▸ List.mem_map.2 ⟨e, List.mem_of_getElem? h2, h3⟩) hb
    simp only [Instr.mapUpdate, Sem.run_bind, run_underlying ht, Result.andThen, MapKept.run_getObj_map hh, run_checkKey hd hkey, run_findKey hd hf, MapKept.run_setObj_map _ hh]
  obtain ⟨g1, g2⟩ := s.rel.writeO (w' := { w with heap := w.heap.setIfInBounds g (.map (es.push { key, val := .bool true, born := c }) (c + 1)) }) hid rfl (o' := .aux (.map (ks ++ [key]))) rfl hg
    (fun _ => ⟨_, _, q1, by simp [he]⟩) q2 (by simp) rfl rfl
  refine ⟨_, E, _, rfl, ?_, g1, by simpa using s.fresh, g2⟩
  simp only [execOp, ho]
  rw [hmv, hkr.1, hxr.1]
  simp [hrun]

end

end Go.AI
