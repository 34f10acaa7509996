/-
  Maps over letters.
-/
import Derived.Test.YtplomildbmcmfaaGreatBEVf
import Derived.Test.YtplomildbmcmfaaGreatBEVa

namespace Go.AI.EV

open Go Go.AI Go.MapKept
def isKeyN (n : Int) : Value → Bool
  | .int .i64 a => decide (a = n)
  | _ => false
def isI64 : Value → Bool
  | .int .i64 _ => true
  | _ => false
def zval (P : Program) (t : TypeId) : Option Value := if zeroB P t = true then some (.bool false) else if zeroN P t = true then some (.int .i64 0) else none
def packL (ok : Bool) (v : Value) (b : Bool) : AV := if ok = true then .tup [.p (.prim v), .p (.prim (.bool b))] else .p (.prim v)
def xlook (P : Program) (t : TypeId) (m ix : AV) (ok : Bool) (H : HX) : Option AV :=
  match P.underlying t with
  | some (.map kt et) => match P.underlying kt with
    | some (.int .i64) => match zval P et with
      | some z => match m, ix with
        | .mp id, .p (.prim (.int .i64 n)) => match H[id]? with
          | some (.map kvs) => if kvs.all (fun e => isI64 e.1) = true then (match kvs.filter (fun e => isKeyN n e.1) with
            | [] => some (packL ok z false)
            | [e] => if isPrim e.2 = true then some (packL ok e.2 true) else none
            | _ => none) else none
          | _ => none
        | _, _ => none
      | none => none
    | _ => none
  | _ => none
def xupd (P : Program) (t : TypeId) (m ix x : AV) (H : HX) : Option HX :=
  match P.underlying t with
  | some (.map kt _) => match P.underlying kt with
    | some (.int .i64) => match m, ix, x with
      | .mp id, .p (.prim (.int .i64 n)), .p (.prim v) => match H[id]? with
        | some (.map kvs) => if kvs.all (fun e => isI64 e.1) = true then (match kvs.filter (fun e => isKeyN n e.1) with
          | [] => some (H.set id (.map (kvs ++ [(.int .i64 n, v)])))
          | _ => none) else none
        | _ => none
      | _, _, _ => none
    | _ => none
  | _ => none
def xupdI (P : Program) (t : TypeId) (m ix x : AV) (H : HX) : Option HX :=
  if intMap P t = true then match m, ix, x with
    | .mp id, .p (.prim (.int .i64 n)), .p (.prim (.int .i64 v)) => match H[id]? with
      | some (.map kvs) => (kvOf kvs).map fun om => H.set id (.map ((setI om n v).map ikv))
      | _ => none
    | _, _, _ => none
  else none
def xsrcC (H : HX) (sz k : Nat) (x : AV) : Option (List PV) := match x with
  | .sm id off len _ s => if s = sz ∧ k ≤ len then (match (H[id]?).bind cellsOf with
    | some cs => if off + k * sz ≤ cs.length then (match flatP ((cs.drop off).take (k * sz)) with
      | some l => if l.length = k * sz then some l else none
      | none => none) else none
    | none => none) else none
  | x => match srcA x with
    | some ys => if srcSz sz x = true ∧ k ≤ ys.length then some (ys.take k).flatten else none
    | none => none
def putX (H : HX) (id off : Nat) (l : List PV) : Option HX := match H[id]? with
  | some o => match cellsOf o with
    | some cs => if off + l.length ≤ cs.length then some (H.set id (putCells o (patch cs off (l.map .p)))) else none
    | none => none
  | none => none
def xcopy (P : Program) (t : TypeId) (d x : AV) (H : HX) : Option (AV × HX) :=
  match elT P t with
  | some e => match szT P e with
    | some sz => match d, lenA x with
      | .sm id off n _ s, some m => if s = sz then (match xsrcC H sz (Nat.min m n) x with
        | some l => (putX H id off l).map fun H' => (.p (.prim (.int .i64 (Nat.min m n : Nat))), H')
        | none => none) else none
      | _, _ => none
    | none => none
  | none => none
def xclear (P : Program) (t : TypeId) (d : AV) (H : HX) : Option (AV × HX) :=
  match elT P t with
  | some e => match szT P e, zeroT P e with
    | some sz, some z => match d with
      | .sm id off n _ s => if s = sz ∧ 0 < n then (putX H id off (List.replicate n (z.map .prim)).flatten).map fun H' => (.tup [], H') else none
      | _ => none
    | _, _ => none
  | none => none

section

variable {P : Program} {ks : Ks} {E : Env} {w : World} {H : HX} {o : Oper} {T T2 : List AV} {D : List AD} {a : Act}
theorem isI64_key {kvs : List (Value × Value)} (h : kvs.all (fun e => isI64 e.1) = true) : ∀ x ∈ kvs, IsKey (.int .i64) x.1 := by
  intro x hx
  have := List.all_eq_true.1 h x hx
  unfold isI64 at this
  split at this
  · rename_i e; rw [e]; rfl
  · cases this
theorem filter_says {kvs : List (Value × Value)} {n : Int} {z v : Value} {b : Bool} (h : (kvs.filter (fun e => isKeyN n e.1) = [] ∧ b = false ∧ v = z) ∨ ∃ e, kvs.filter (fun e => isKeyN n e.1) = [e] ∧ b = true ∧ v = e.2) : MapSays kvs (.int .i64 n) z v b := by
  have mem : ∀ v', (Value.int .i64 n, v') ∈ kvs → (Value.int .i64 n, v') ∈ kvs.filter (fun e => isKeyN n e.1) := fun v' hv => List.mem_filter.2 ⟨hv, by simp [isKeyN]⟩
  rcases h with ⟨h1, rfl, rfl⟩ | ⟨e, h1, rfl, rfl⟩
  · refine .inr ⟨rfl, fun hm => ?_, rfl⟩
    obtain ⟨x, hx, hk⟩ := List.mem_map.1 hm
    have := mem x.2 (by rw [← hk]; exact hx)
    rw [h1] at this; cases this
  · have he : e ∈ kvs.filter (fun e => isKeyN n e.1) := by rw [h1]; simp
    obtain ⟨m1, m2⟩ := List.mem_filter.1 he
    have hk : e.1 = .int .i64 n := by
      simp only [isKeyN] at m2
      split at m2
      · rename_i q; rw [q, of_decide_eq_true m2]
      · cases m2
    refine .inl ⟨rfl, fun v' hv => ?_, List.mem_map.2 ⟨e, m1, hk⟩⟩
    have := mem v' hv
    rw [h1, List.mem_singleton] at this
    rw [← this]
theorem zval_is {t : TypeId} {z : Value} (h : zval P t = some z) : zeroIs P t z ∧ isPrim z = true := by
  unfold zval at h
  split at h
  · rename_i hb
    simp only [Option.some.injEq] at h
    subst h
    exact ⟨zeroB_is hb, rfl⟩
  · split at h
    · rename_i hb
      simp only [Option.some.injEq] at h
      subst h
      exact ⟨zeroN_is hb, rfl⟩
    · cases h
theorem map_out {h : Heap} {t : TypeId} (st : St E w a T2 h D) (ho : o.op = .makeMap t none) : Out P o E w a h (.mp h.length) (h ++ [some (.aux (.map []))]) := by
  obtain ⟨g1, g2, g3⟩ := Rel.allocO st.rel st.fresh (o := .aux (.map [])) (ob := .map #[] 0) rfl (fun _ _ _ e => by cases e) (fun _ => ⟨#[], 0, alloc_new _, rfl, by simp [Stamped]⟩)
  refine ⟨_, _, .map (some w.heap.size), ?_, g1, by simpa using g3, ?_, g2⟩
  · simp only [execOp, ho]
    rfl
  · simp only [Rep]
    exact ⟨w.heap.size, by simp, rfl⟩
theorem look_out {t : TypeId} {m ix : Operand} {ok : Bool} {x : AV} (hr : ∀ y ∈ o.op.operands, aev T2 y = io ks (aev T y)) (st : St E w a T2 (iH ks H) D) (ho : o.op = .lookup t m ix ok) (h : xlook P t (aev T m) (aev T ix) ok H = some x) :
    Out P o E w a (iH ks H) (io ks x) (iH ks H) := by
  unfold xlook at h
  split at h
  · rename_i kt et ht
    split at h
    · rename_i hd
      split at h
      · rename_i z hz
        split at h
        · rename_i id n hm hk
          split at h
          · rename_i kvs hid
            split at h
            · rename_i hall
              have key : ∀ v b, MapSays kvs (.int .i64 n) z v b → isPrim v = true → Out P o E w a (iH ks H) (io ks (packL ok v b)) (iH ks H) := by
                intro v b hf hp
                have hmr := aev_rep st m
                rw [hr m (by rw [ho]; simp [Op.operands]), hm] at hmr
                simp only [io, Rep] at hmr
                obtain ⟨g, hg, hmv⟩ := hmr
                have hkr := aev_rep st ix
                rw [hr ix (by rw [ho]; simp [Op.operands]), hk, io_p] at hkr
                simp only [Rep, RepP] at hkr
                have hid' : (iH ks H).at id = some (.aux (.map kvs)) := iH_at hid
                obtain ⟨g', hg', ho'⟩ := st.rel.objsO id _ hid' rfl
                rw [hg] at hg'; cases hg'
                obtain ⟨es, c, hh, he, hst⟩ := ho'
                have hrun := run_lookup (P := P) ok ht hd (zval_is hz).1 hh he (isI64_key hall) (key := .int .i64 n) rfl hf
                refine ⟨E, w, if ok = true then .tuple #[v, .bool b] else v, ?_, st.rel, st.fresh, ?_, Fr.refl _ _ _⟩
                · simp only [execOp, ho]
                  rw [hmv, hkr.1]
                  simp [hrun]
                · unfold packL
                  cases ok
                  · simp only [Bool.false_eq_true, if_false, io_p, Rep, RepP, true_and]; exact hp
                  · simp only [if_true, io_tup, List.map_cons, List.map_nil, io_p, Rep, RepL, RepP]
                    exact ⟨_, rfl, _, _, rfl, ⟨rfl, hp⟩, _, _, rfl, ⟨rfl, rfl⟩, rfl⟩
              split at h
              · rename_i hfl
                simp only [Option.some.injEq] at h
                subst h
                exact key z false (filter_says (.inl ⟨hfl, rfl, rfl⟩)) (zval_is hz).2
              · rename_i e hfl
                split at h
                · rename_i hp
                  simp only [Option.some.injEq] at h
                  subst h
                  exact key e.2 true (filter_says (.inr ⟨e, hfl, rfl, rfl⟩)) hp
                · cases h
              · cases h
            · cases h
          · cases h
        · cases h
      · cases h
    · cases h
  · cases h
theorem xupdI_io {t : TypeId} {m ix x : AV} {H' : HX} (h : xupdI P t m ix x H = some H') : amapUpd P t (io ks m) (io ks ix) (io ks x) (iH ks H) = some (iH ks H') := by
  unfold xupdI at h
  unfold amapUpd
  split at h
  · rename_i hi
    rw [hi]
    simp only [if_true]
    split at h
    · rename_i id n v
      split at h
      · rename_i kvs hid
        obtain ⟨om, h1, h2⟩ := Option.map_eq_some_iff.1 h
        subst h2
        have hid' : (iH ks H).at id = some (.aux (.map kvs)) := iH_at hid
        simp only [io, hid', h1, Option.map_some]
        rw [← iH_set]; rfl
      · cases h
    · cases h
  · cases h
theorem xupd_run {rd : Option Nat} {nb : Nat} {k : List It} {all : Array Oper} {rest : List Oper} {Q : AX → List AV → Heap → List AD → Prop} {t : TypeId} {m ix x : Operand} {H' : HX} (ho : o.op = .mapUpdate t m ix x) (hw : awanted all (T.map (io ks)) o = some true) (h : xupd P t (aev T m) (aev T ix) (aev T x) H = some H')
    (r : Run P rd nb (.ops all rest :: k) (tput (T.map (io ks)) o.dst (.tup [])) (iH ks H') D Q) : Run P rd nb (.ops all (o :: rest) :: k) (T.map (io ks)) (iH ks H) D Q := by
  unfold xupd at h
  split at h
  · rename_i kt et ht
    split at h
    · rename_i hd
      split at h
      · rename_i id n v hm hk hx
        split at h
        · rename_i kvs hid
          split at h
          · rename_i hall
            split at h
            · rename_i hfl
              simp only [Option.some.injEq] at h
              subst h
              have hid' : (iH ks H).at id = some (.aux (.map kvs)) := iH_at hid
              refine Run.mapUpdate ho hw ht hd (by rw [aev_io, hm]; rfl) hid' (isI64_key hall) (by rw [aev_io, hk, io_p]) (key := .int .i64 n) rfl ?_ (by rw [aev_io, hx, io_p]) ?_
              · intro hmem
                obtain ⟨e, he, hk⟩ := List.mem_map.1 hmem
                have : e ∈ kvs.filter (fun e => isKeyN n e.1) := List.mem_filter.2 ⟨he, by rw [hk]; simp [isKeyN]⟩
                rw [hfl] at this; cases this
              · rw [← iH_set] at r
                exact r
            · cases h
          · cases h
        · cases h
      · cases h
    · cases h
  · cases h
theorem lenA_io (x : AV) : lenA (io ks x) = lenA x := by
  cases x <;> simp only [io] <;> rfl
theorem xsrcC_io {sz k : Nat} {x : AV} {l : List PV} (h : xsrcC H sz k x = some l) : srcCells (iH ks H) sz k (io ks x) = some l := by
  unfold xsrcC at h
  split at h
  · rename_i id off len code s
    split at h
    · rename_i hc
      split at h
      · rename_i cs hb
        split at h
        · rename_i ho
          split at h
          · rename_i l' hf
            split at h
            · rename_i hl
              simp only [Option.some.injEq] at h
              subst h
              obtain ⟨o, h1, h2⟩ := bind_cells hb
              obtain ⟨R, h3, _⟩ := iO_cells (ks := ks) h2
              have e1 := flatP_eq hf
              have e2 : (((cs.map (io ks) ++ R).drop off).take (k * sz)) = (cs.drop off).take (k * sz) := by
                rw [take_map_app ho, e1, List.map_map]
                exact List.map_congr_left fun y _ => io_p ks y
              unfold srcCells
              rw [io_sm]
              simp only [iH_at h1, h3, e2, hf, hl, if_true]
              rw [if_pos hc]
            · cases h
          · cases h
        · cases h
      · cases h
    · cases h
  · rename_i hn
    have : srcCells (iH ks H) sz k (io ks x) = match srcA (io ks x) with
        | some ys => if srcSz sz (io ks x) = true ∧ k ≤ ys.length then some (ys.take k).flatten else none
        | none => none := by
      unfold srcCells
      split
      · rename_i e
        cases x <;> simp only [io] at e <;> try (cases e; done)
        exact absurd rfl (hn _ _ _ _ _)
      · rfl
    rw [this, srcA_io, srcSz_io]
    exact h
theorem putX_io {id off : Nat} {l : List PV} {H' : HX} (h : putX H id off l = some H') : putA (iH ks H) id off l = some (iH ks H') := by
  unfold putX at h
  cases h1 : H[id]? with
  | none => rw [h1] at h; cases h
  | some o =>
    cases h2 : cellsOf o with
    | none => simp only [h1, h2] at h; cases h
    | some cs =>
      simp only [h1, h2] at h
      split at h
      · rename_i hc
        simp only [Option.some.injEq] at h
        subst h
        obtain ⟨R, h4, h5⟩ := iO_cells (ks := ks) h2
        unfold putA
        simp only [iH_at h1, h4]
        have e1 : (l.map AV.p).map (io ks) = l.map AV.p := by rw [List.map_map]; exact List.map_congr_left fun y _ => io_p ks y
        rw [if_pos (by simp; omega), ← iH_set, h5 _ (by rw [patch_length]), patch_app _ _ _ _ (by simp; exact hc)]
        have e2 := patch_map (io ks) (l.map AV.p) cs off
        rw [e1] at e2
        rw [e2]
      · cases h
theorem xcopy_io {t : TypeId} {d x y : AV} {H' : HX} (h : xcopy P t d x H = some (y, H')) : acopy P t (io ks d) (io ks x) (iH ks H) = some (io ks y, iH ks H') := by
  unfold xcopy at h
  unfold acopy
  cases h1 : elT P t with
  | none => simp only [h1] at h; cases h
  | some e =>
    cases h2 : szT P e with
    | none => simp only [h1, h2] at h; cases h
    | some sz =>
      simp only [h1, h2, lenA_io] at h ⊢
      split at h
      · rename_i id off n code s m hm
        simp only [io_sm, hm]
        split at h
        · rename_i hs
          rw [if_pos hs]
          split at h
          · rename_i l hl
            obtain ⟨H2, h3, h4⟩ := Option.map_eq_some_iff.1 h
            simp only [Prod.mk.injEq] at h4
            obtain ⟨rfl, rfl⟩ := h4
            simp only [xsrcC_io hl, putX_io h3, Option.map_some, io_p]
          · cases h
        · cases h
      · cases h
theorem xclear_io {t : TypeId} {d y : AV} {H' : HX} (h : xclear P t d H = some (y, H')) : aclear P t (io ks d) (iH ks H) = some (io ks y, iH ks H') := by
  unfold xclear at h
  unfold aclear
  cases h1 : elT P t with
  | none => simp only [h1] at h; cases h
  | some e =>
    cases h2 : szT P e with
    | none => simp only [h1, h2] at h; cases h
    | some sz =>
      cases h3 : zeroT P e with
      | none => simp only [h1, h2, h3] at h; cases h
      | some z =>
        simp only [h1, h2, h3] at h ⊢
        split at h
        · simp only [io_sm]
          split at h
          · rename_i hc
            rw [if_pos hc]
            obtain ⟨H2, h4, h5⟩ := Option.map_eq_some_iff.1 h
            simp only [Prod.mk.injEq] at h5
            obtain ⟨rfl, rfl⟩ := h5
            simp only [putX_io h4, Option.map_some, io_tup, List.map_nil]
          · cases h
        · cases h

end

end Go.AI.EV
