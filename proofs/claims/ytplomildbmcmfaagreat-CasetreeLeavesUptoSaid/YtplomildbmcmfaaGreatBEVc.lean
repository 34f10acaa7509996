/-
  The heap over letters; operations that change it, told by the operations over abstract values.
-/
import Derived.Test.YtplomildbmcmfaaGreatBEVb

namespace Go.AI.EV

open Go Go.AI

inductive XO where
  | cells (cs : List AV)
  | row (n0 j sz : Nat) (cs : List AV)
  | tok (n sz : Nat)
  | map (kvs : List (Value × Value))
  | loop (j : Nat) (st : LoopState) (pend : Option Code)
  | dblk
  | dead
def iO (ks : Ks) : XO → Option AO
  | .cells cs => some (.cells (cs.map (io ks)))
  | .row n0 j sz cs => some (.cells (cs.map (io ks) ++ List.replicate ((n0 + (ks j).1) * sz - cs.length) .junk))
  | .tok n sz => some (.tok n sz)
  | .map kvs => some (.aux (.map kvs))
  | .loop j st pend => some (.aux (.loop (ks j).1 st pend (ks j).2.T (ks j).2.ps (ks j).2.asg (ks j).2.bd))
  | .dblk => some (.aux .dblk)
  | .dead => none
abbrev HX := List XO
def iH (ks : Ks) (H : HX) : Heap := H.map (iO ks)
theorem iH_len (ks : Ks) (H : HX) : (iH ks H).length = H.length := by simp [iH]
theorem iH_app (ks : Ks) (H G : HX) : iH ks (H ++ G) = iH ks H ++ iH ks G := by simp [iH]
theorem iH_set (ks : Ks) (H : HX) (i : Nat) (o : XO) : (iH ks H).set i (iO ks o) = iH ks (H.set i o) := by simp [iH, List.map_set]
theorem iH_at {ks : Ks} {H : HX} {i : Nat} {o : XO} (h : H[i]? = some o) : (iH ks H).at i = iO ks o := by
  unfold Heap.at iH
  simp [h]
def cellsOf : XO → Option (List AV)
  | .cells cs => some cs
  | .row _ _ _ cs => some cs
  | _ => none
def putCells : XO → List AV → XO
  | .row n0 j sz _, cs => .row n0 j sz cs
  | _, cs => .cells cs
theorem iO_cells {ks : Ks} {o : XO} {cs : List AV} (h : cellsOf o = some cs) : ∃ R, iO ks o = some (.cells (cs.map (io ks) ++ R)) ∧ ∀ cs', cs'.length = cs.length → iO ks (putCells o cs') = some (.cells (cs'.map (io ks) ++ R)) := by
  cases o <;> simp only [cellsOf, Option.some.injEq] at h <;> try (cases h; done)
  · subst h; exact ⟨[], by simp [iO], fun cs' _ => by simp [iO, putCells]⟩
  · subst h; exact ⟨_, rfl, fun cs' hl => by simp [iO, putCells, hl]⟩

section

variable {P : Program} {ks : Ks}
def xload (P : Program) (t : TypeId) (a : AV) (H : HX) : Option AV :=
  match aggT P t, szT P t with
  | some ag, some n => match a with
    | .ptr id off => match (H[id]?).bind cellsOf with
      | some cs => if ag then (if off + n ≤ cs.length then some (.agg ((cs.drop off).take n)) else none) else cs[off]?
      | none => none
    | .p (.ro cs) => if ag then (if n ≤ cs.length then some (.agg ((cs.take n).map .p)) else none) else (cs[0]?).map .p
    | _ => none
  | _, _ => none
theorem bind_cells {H : HX} {id : Nat} {cs : List AV} (h : (H[id]?).bind cellsOf = some cs) : ∃ o, H[id]? = some o ∧ cellsOf o = some cs := by
  cases e : H[id]? with
  | none => rw [e] at h; cases h
  | some o => rw [e] at h; exact ⟨o, rfl, h⟩
theorem take_map_app {f : AV → AV} {cs R : List AV} {off n : Nat} (h : off + n ≤ cs.length) : ((cs.map f ++ R).drop off).take n = ((cs.drop off).take n).map f := by
  rw [List.drop_append_of_le_length (by simp; omega), List.take_append_of_le_length (by simp; omega), List.map_take, List.map_drop]
theorem xload_io {t : TypeId} {a x : AV} {H : HX} (h : xload P t a H = some x) : aload P t (io ks a) (iH ks H) = some (io ks x) := by
  unfold xload at h
  unfold aload
  cases hg : aggT P t with
  | none => simp [hg] at h
  | some ag =>
    cases hs : szT P t with
    | none => simp [hg, hs] at h
    | some n =>
      simp only [hg, hs] at h ⊢
      cases a with
      | ptr id off =>
        simp only [io_ptr] at h ⊢
        cases hb : (H[id]?).bind cellsOf with
        | none => simp only [hb] at h; cases h
        | some cs =>
          simp only [hb] at h
          obtain ⟨o, h1, h2⟩ := bind_cells hb
          obtain ⟨R, h3, _⟩ := iO_cells (ks := ks) h2
          rw [iH_at h1, h3]
          cases ag with
          | true =>
            simp only [if_true] at h ⊢
            split at h
            · rename_i hc
              simp only [Option.some.injEq] at h
              subst h
              rw [if_pos (by simp; omega), take_map_app hc, io_agg]
            · cases h
          | false =>
            simp only [Bool.false_eq_true, if_false] at h ⊢
            have hlt : off < cs.length := (List.getElem?_eq_some_iff.1 h).1
            rw [List.getElem?_append_left (by simpa using hlt)]
            simp [h]
      | p x => cases x with
        | ro cs =>
          simp only [io_p] at h ⊢
          cases ag with
          | true =>
            simp only [if_true] at h ⊢
            split at h
            · rename_i hc
              rw [if_pos hc]
              simp only [Option.some.injEq] at h
              subst h
              rw [io_agg, List.map_map, show io ks ∘ AV.p = AV.p from funext (io_p ks)]
            · cases h
          | false =>
            simp only [Bool.false_eq_true, if_false] at h ⊢
            obtain ⟨y, h1, rfl⟩ := Option.map_eq_some_iff.1 h
            rw [h1]; simp
        | _ => cases h
      | _ => cases h
def xstore (P : Program) (t : TypeId) (a v : AV) (H : HX) : Option HX :=
  match a with
  | .ptr id off => match H[id]?, cellsA v with
    | some o, some us => match cellsOf o with
      | some cs => if szT P t = some us.length ∧ off + us.length ≤ cs.length ∧ us.all oneA = true then some (H.set id (putCells o (patch cs off us))) else none
      | none => none
    | _, _ => none
  | _ => none
theorem patch_app {α : Type} : ∀ (us l R : List α) (off : Nat), off + us.length ≤ l.length → patch (l ++ R) off us = patch l off us ++ R
  | [], _, _, _, _ => rfl
  | u :: us, l, R, off, h => by
    simp only [List.length_cons] at h
    simp only [patch]
    rw [List.set_append_left _ _ (by omega), patch_app us _ R _ (by simp; omega)]
theorem all_one_io (us : List AV) : (us.map (io ks)).all oneA = us.all oneA := by
  rw [List.all_map]
  congr 1
  funext x
  exact oneA_io ks x
theorem xstore_io {t : TypeId} {a v : AV} {H H' : HX} (h : xstore P t a v H = some H') : astore P t (io ks a) (io ks v) (iH ks H) = some (iH ks H') := by
  unfold xstore at h
  cases a with
  | ptr id off =>
    simp only at h
    cases h1 : H[id]? with
    | none => rw [h1] at h; cases h
    | some o =>
      cases h2 : cellsA v with
      | none => rw [h1, h2] at h; cases h
      | some us =>
        cases h3 : cellsOf o with
        | none => simp only [h1, h2, h3] at h; cases h
        | some cs =>
          simp only [h1, h2, h3] at h
          split at h
          · rename_i hc
            obtain ⟨c1, c2, c3⟩ := hc
            simp only [Option.some.injEq] at h
            subst h
            obtain ⟨R, h4, h5⟩ := iO_cells (ks := ks) h3
            unfold astore
            simp only [io_ptr, iH_at h1, h4, cellsA_io, h2, Option.map_some]
            rw [if_pos ⟨by simpa using c1, by simp; omega, by rw [all_one_io]; exact c3⟩]
            rw [← iH_set, h5 _ (by rw [patch_length]), patch_app _ _ _ _ (by simp; exact c2), patch_map]
          · cases h
  | _ => cases h
theorem prims_map (z : List Value) : (prims z).map (io ks) = prims z := io_prims' ks z
def xmake (P : Program) (t : TypeId) (l c : AV) (H : HX) : Option (AV × HX) :=
  match elT P t, intA l, intA c with
  | some e, some n, some m => match szT P e, byT P e, zeroT P e with
    | some sz, some by_, some z => if 0 ≤ n ∧ n = m ∧ n.toNat * by_ ≤ 140737488355328 ∧ n.toNat ≤ 1099511627776 ∧ 0 < sz then
        some (.sm H.length 0 n.toNat (2 * n.toNat) sz, H ++ [.cells (List.replicate n.toNat (prims z)).flatten]) else none
    | _, _, _ => none
  | _, _, _ => none
theorem flat_prims (z : List Value) (n : Nat) : ((List.replicate n (prims z)).flatten).map (io ks) = (List.replicate n (prims z)).flatten := by
  rw [List.map_flatten, List.map_replicate, io_prims']
theorem icap_even (ks : Ks) (n : Nat) : icap ks (2 * n) = n := by unfold icap; rw [if_pos (by omega)]; omega
theorem xmake_io {t : TypeId} {l c x : AV} {H H' : HX} (h : xmake P t l c H = some (x, H')) : amake P t (io ks l) (io ks c) (iH ks H) = some (io ks x, iH ks H') := by
  unfold xmake at h
  unfold amake
  rw [intA_io, intA_io]
  cases h1 : elT P t with
  | none => simp only [h1] at h; cases h
  | some e =>
    cases h2 : intA l with
    | none => simp only [h1, h2] at h; cases h
    | some n =>
      cases h3 : intA c with
      | none => simp only [h1, h2, h3] at h; cases h
      | some m =>
        cases h4 : szT P e with
        | none => simp only [h1, h2, h3, h4] at h; cases h
        | some sz =>
          cases h5 : byT P e with
          | none => simp only [h1, h2, h3, h4, h5] at h; cases h
          | some by_ =>
            cases h6 : zeroT P e with
            | none => simp only [h1, h2, h3, h4, h5, h6] at h; cases h
            | some z =>
              simp only [h1, h2, h3, h4, h5, h6] at h ⊢
              split at h
              · rename_i hc
                rw [if_pos hc]
                simp only [Option.some.injEq, Prod.mk.injEq] at h
                obtain ⟨rfl, rfl⟩ := h
                have e1 : iH ks [XO.cells (List.replicate n.toNat (prims z)).flatten] = [some (.cells (List.replicate n.toNat (prims z)).flatten)] := by
                  show [some (AO.cells _)] = _
                  rw [flat_prims]
                rw [iH_app, iH_len, io_sm, icap_even, e1]
              · cases h
def xslice (P : Program) (t : TypeId) (x : AV) (lo hi mx : Option AV) : Option AV :=
  match x with
  | .sm id off len code s => if code % 2 = 0 then (match aslice P t (.sm id off len (code / 2) s) lo hi mx with
      | some (.sm a b c d e) => some (.sm a b c (2 * d) e)
      | _ => none)
    else match elT P t with
      | some e => match szT P e with
        | some sz => match loA lo, hiA len hi with
          | some l, some u => match mx with
            | none => if s = sz ∧ 0 ≤ l ∧ l ≤ u ∧ u.toNat ≤ code / 2 % 1048576 then
                (if l = 0 then some (.sm id off u.toNat code s)
                 else if l.toNat < code / 2 % 1048576 then some (.sm id (off + l.toNat * sz) (u.toNat - l.toNat) (2 * ((code / 2 % 1048576 - l.toNat) + 1048576 * (code / 2 / 1048576)) + 1) s) else none) else none
            | some mv => match intA mv with
              | some m => if s = sz ∧ 0 ≤ l ∧ l ≤ u ∧ u ≤ m ∧ m.toNat ≤ code / 2 % 1048576 ∧ hi.isSome = true then some (.sm id (if m.toNat = l.toNat then off else off + l.toNat * sz) (u.toNat - l.toNat) (2 * (m.toNat - l.toNat)) s) else none
              | none => none
          | _, _ => none
        | none => none
      | none => none
  | .p (.sl s es) => aslice P t (.p (.sl s es)) lo hi mx
  | .p (.prim (.slice none 0 0)) => (match aslice P t (.p (.prim (.slice none 0 0))) lo hi mx with
      | some (.p (.prim (.slice none 0 0))) => some (.p (.prim (.slice none 0 0)))
      | _ => none)
  | .own k s es => aslice P t (.own k s es) lo hi mx
  | _ => none
theorem loA_io (o : Option AV) : loA (o.map (io ks)) = loA o := by cases o with
  | none => rfl
  | some v => exact intA_io ks v
theorem hiA_io (n : Nat) (o : Option AV) : hiA n (o.map (io ks)) = hiA n o := by cases o with
  | none => rfl
  | some v => exact intA_io ks v
theorem maA_io (n : Nat) (o : Option AV) : maA n (o.map (io ks)) = maA n o := by cases o with
  | none => rfl
  | some v => exact intA_io ks v
theorem aslice_opt {t : TypeId} {x : AV} {lo hi mx : Option AV} : aslice P t x (lo.map (io ks)) (hi.map (io ks)) (mx.map (io ks)) = aslice P t x lo hi mx := by
  unfold aslice
  simp only [loA_io, hiA_io, maA_io, Option.isSome_map, Option.isNone_map]
theorem aslice_pv {t : TypeId} {x y : AV} {s : Nat} {es : List (List PV)} {lo hi mx : Option AV} (hx : x = .p (.sl s es) ∨ ∃ k, x = .own k s es) (h : aslice P t x lo hi mx = some y) : ∃ s' es', y = .p (.sl s' es') := by
  unfold aslice at h
  cases h1 : elT P t with
  | none => simp only [h1] at h; cases h
  | some e =>
    cases h2 : szT P e with
    | none => simp only [h1, h2] at h; cases h
    | some sz =>
      simp only [h1, h2] at h
      rcases hx with rfl | ⟨k, rfl⟩
      all_goals
        simp only at h
        split at h
        · split at h
          · simp only [Option.some.injEq] at h; exact ⟨_, _, h.symm⟩
          · cases h
        · cases h
theorem xslice_io {t : TypeId} {x y : AV} {lo hi mx : Option AV} (h : xslice P t x lo hi mx = some y) : aslice P t (io ks x) (lo.map (io ks)) (hi.map (io ks)) (mx.map (io ks)) = some (io ks y) := by
  rw [aslice_opt]
  unfold xslice at h
  split at h
  · rename_i id off len code s
    split at h
    · rename_i hev
      split at h
      · rename_i a b c d e h1
        simp only [Option.some.injEq] at h
        subst h
        rw [io_sm, io_sm, icap_even, show icap ks code = code / 2 by unfold icap; rw [if_pos hev]]
        exact h1
      · cases h
    · rename_i hod
      cases h1 : elT P t with
      | none => simp only [h1] at h; cases h
      | some e =>
        cases h2 : szT P e with
        | none => simp only [h1, h2] at h; cases h
        | some sz =>
          simp only [h1, h2] at h
          have hcap : icap ks code = code / 2 % 1048576 + (ks (code / 2 / 1048576)).1 := by unfold icap; rw [if_neg hod]
          split at h
          · rename_i l u hl hu
            split at h
            · split at h
              · rename_i hc
                obtain ⟨rfl, c2, c3, c4⟩ := hc
                split at h
                · rename_i hl0
                  subst hl0
                  simp only [Option.some.injEq] at h
                  subst h
                  unfold aslice
                  simp only [io_sm, h1, h2, hl, hu, maA]
                  rw [if_pos ⟨trivial, by omega, by omega, by omega, by omega, by simp⟩]
                  simp only [Option.some.injEq, AV.sm.injEq, true_and, and_true]
                  refine ⟨by split <;> simp, by omega, by omega⟩
                · split at h
                  · rename_i hlt
                    simp only [Option.some.injEq] at h
                    subst h
                    unfold aslice
                    simp only [io_sm, h1, h2, hl, hu, maA]
                    rw [if_pos ⟨trivial, by omega, by omega, by omega, by omega, by simp⟩]
                    have hcap2 : icap ks (2 * ((code / 2 % 1048576 - l.toNat) + 1048576 * (code / 2 / 1048576)) + 1) = (code / 2 % 1048576 - l.toNat) + (ks (code / 2 / 1048576)).1 := by
                      have q1 : (2 * ((code / 2 % 1048576 - l.toNat) + 1048576 * (code / 2 / 1048576)) + 1) / 2 = (code / 2 % 1048576 - l.toNat) + 1048576 * (code / 2 / 1048576) := by omega
                      have q2 : ((code / 2 % 1048576 - l.toNat) + 1048576 * (code / 2 / 1048576)) % 1048576 = code / 2 % 1048576 - l.toNat := by omega
                      have q3 : ((code / 2 % 1048576 - l.toNat) + 1048576 * (code / 2 / 1048576)) / 1048576 = code / 2 / 1048576 := by omega
                      unfold icap
                      rw [if_neg (by omega), q1, q2, q3]
                    simp only [Option.some.injEq, AV.sm.injEq, true_and, and_true]
                    refine ⟨by rw [if_neg (by omega)], by rw [hcap2]; omega⟩
                  · cases h
              · cases h
            · split at h
              · rename_i mv m hm
                split at h
                · rename_i hc
                  obtain ⟨rfl, c2, c3, c4, c5, c6⟩ := hc
                  simp only [Option.some.injEq] at h
                  subst h
                  unfold aslice
                  simp only [io_sm, h1, h2, hl, hu, maA, hm]
                  rw [if_pos ⟨trivial, by omega, by omega, by omega, by omega, by simp [c6]⟩]
                  simp only [Option.some.injEq, AV.sm.injEq, true_and, and_true]
                  rw [icap_even]
                · cases h
              · cases h
          · cases h
  · obtain ⟨s', es', rfl⟩ := aslice_pv (.inl rfl) h
    rw [io_p, io_p]; exact h
  · split at h
    · rename_i h1
      simp only [Option.some.injEq] at h
      subst h
      rw [io_p]; exact h1
    · cases h
  · obtain ⟨s', es', rfl⟩ := aslice_pv (.inr ⟨_, rfl⟩) h
    rw [io_own, io_p]; exact h
  · cases h

end

end Go.AI.EV
