/-
  The operations over letters: appends, slices held against nil, a slice without elements.
-/
import Derived.Test.YtplomildbmcmfaaGreatBEVe
import Derived.Test.YtplomildbmcmfaaGreatBFF

namespace Go.AI.EV

open Go Go.AI
def codeOf (n0 j : Nat) : Nat := 2 * (n0 + 1048576 * j) + 1
theorem icap_code (ks : Ks) {n0 : Nat} (j : Nat) (h : n0 < 1048576) : icap ks (codeOf n0 j) = n0 + (ks j).1 := by
  unfold icap codeOf
  have e1 : (2 * (n0 + 1048576 * j) + 1) / 2 = n0 + 1048576 * j := by omega
  rw [if_neg (by omega), e1]
  have e2 : (n0 + 1048576 * j) % 1048576 = n0 := by omega
  have e3 : (n0 + 1048576 * j) / 1048576 = j := by omega
  rw [e2, e3]
def isSm : AV → Bool
  | .sm _ _ _ _ _ => true
  | _ => false
def srcX (sz : Nat) (x : AV) (H : HX) : Option (Nat × List AV) :=
  match x with
  | .sm id off len _ s => if s = sz then (match (H[id]?).bind cellsOf with
      | some cs => if off + len * sz ≤ cs.length ∧ ((cs.drop off).take (len * sz)).all oneA = true then some (len, (cs.drop off).take (len * sz)) else none
      | none => none) else none
  | x => if srcSz sz x = true then (srcA x).map fun es => (es.length, es.flatten.map .p) else none

section

variable {P : Program} {ks : Ks} {E : Env} {w : World} {H : HX}
theorem srcA_io (x : AV) : srcA (io ks x) = srcA x := by
  cases x with
  | p x => simp only [io_p]
  | own a b c => simp only [io_own]
  | _ => simp [srcA]
theorem srcSz_io (sz : Nat) (x : AV) : srcSz sz (io ks x) = srcSz sz x := by
  cases x with
  | p x => simp only [io_p]
  | own a b c => simp only [io_own]
  | _ => simp [srcSz]
theorem srcX_src {sz m : Nat} {x : AV} {us : List AV} {v : Value} (h : srcX sz x H = some (m, us)) (hm : 0 < m) (r : Rel E (iH ks H).at w) (hx : Rep E w (io ks x) v) : Src E w v m sz (us.map (io ks)) := by
  have pv : ∀ x, (if srcSz sz x = true then (srcA x).map fun es => (es.length, es.flatten.map AV.p) else none) = some (m, us) → Rep E w (io ks x) v → Src E w v m sz (us.map (io ks)) := by
    intro x h hx
    split at h
    · rename_i h2
      obtain ⟨es, h1, h3⟩ := Option.map_eq_some_iff.1 h
      simp only [Prod.mk.injEq] at h3
      obtain ⟨rfl, rfl⟩ := h3
      rw [List.map_map, show io ks ∘ AV.p = AV.p from funext (io_p ks)]
      exact src_pv (by rw [srcA_io]; exact h1) (by rw [srcSz_io]; exact h2) hx hm
    · cases h
  unfold srcX at h
  split at h
  · rename_i id off len cap s
    split at h
    · rename_i hs
      subst hs
      split at h
      · rename_i cs hb
        split at h
        · rename_i hc
          simp only [Option.some.injEq, Prod.mk.injEq] at h
          obtain ⟨rfl, rfl⟩ := h
          obtain ⟨o, h2, h3⟩ := bind_cells hb
          obtain ⟨R, h4, _⟩ := iO_cells (ks := ks) h3
          have hat := iH_at (ks := ks) h2
          rw [h4] at hat
          have he := take_map_app (f := io ks) (R := R) hc.1
          rw [← he]
          refine src_sm r hat (by simpa using hx) (by simp; omega) ?_
          rw [he, all_one_io]; exact hc.2
        · cases h
      · cases h
    · cases h
  · exact pv _ h hx
theorem srcX_zero {sz : Nat} {x : AV} {us : List AV} {v : Value} (h : srcX sz x H = some (0, us)) (hx : Rep E w (io ks x) v) : ∃ a c, v = .slice a 0 c := by
  unfold srcX at h
  split at h
  · rename_i id off len cap s
    split at h
    · split at h
      · split at h
        · simp only [Option.some.injEq, Prod.mk.injEq] at h
          obtain ⟨rfl, rfl⟩ := h
          simp only [io_sm, Rep] at hx
          obtain ⟨b, _, rfl⟩ := hx
          exact ⟨_, _, rfl⟩
        · cases h
      · cases h
    · cases h
  · split at h
    · rename_i h2
      obtain ⟨es, h1, h3⟩ := Option.map_eq_some_iff.1 h
      simp only [Prod.mk.injEq] at h3
      have hX := src_rep (by rw [srcA_io]; exact h1) (by rw [srcSz_io]; exact h2) hx
      simp only [RepP] at hX
      obtain ⟨a, c, rfl, _⟩ := hX
      rw [h3.1]
      exact ⟨a, c, rfl⟩
    · cases h
def xown (P : Program) (t : TypeId) (s x : AV) (H : HX) : Option (AV × HX) :=
  match elT P t with
  | some e => match szT P e, byT P e, zeroT P e, srcA x with
    | some sz, some by_, some _, some ys => if srcSz sz x = true ∧ 0 < sz then
        match s with
        | .p (.prim (.slice none 0 0)) => if ys.length * by_ ≤ 140737488355328 ∧ ys.length ≤ 9223372036854775807 then some (.own H.length sz ys, H ++ [.tok ys.length sz]) else none
        | .own tok s' es => match H[tok]? with
          | some (.tok n s2) => if s' = sz ∧ s2 = sz ∧ n = es.length ∧ (es.length + ys.length) * by_ ≤ 140737488355328 ∧ es.length + ys.length ≤ 9223372036854775807 then
              some (.own tok sz (es ++ ys), H.set tok (.tok (es.length + ys.length) sz)) else none
          | _ => none
        | _ => none
      else none
    | _, _, _, _ => none
  | none => none
theorem xown_new {t : TypeId} {s x : AV} {H H' : HX} {sz : Nat} {ys : List (List PV)} (h : xown P t s x H = some (.own H.length sz ys, H')) (hl : H'.length = H.length + 1) : ∃ n, H' = H ++ [.tok n sz] := by
  unfold xown at h
  cases h1 : elT P t with
  | none => simp only [h1] at h; cases h
  | some e =>
    simp only [h1] at h
    split at h
    · split at h
      · split at h
        · split at h
          · simp only [Option.some.injEq, Prod.mk.injEq, AV.own.injEq] at h
            obtain ⟨⟨_, rfl, rfl⟩, rfl⟩ := h
            exact ⟨_, rfl⟩
          · cases h
        · split at h
          · split at h
            · simp only [Option.some.injEq, Prod.mk.injEq] at h
              obtain ⟨_, rfl⟩ := h
              rw [List.length_set] at hl
              omega
            · cases h
          · cases h
        · cases h
      · cases h
    · cases h
theorem xown_io {t : TypeId} {s x y : AV} {H' : HX} (h : xown P t s x H = some (y, H')) : aappend P t (io ks s) (io ks x) (iH ks H) = some (io ks y, iH ks H') := by
  unfold xown at h
  unfold aappend
  rw [srcA_io]
  cases h1 : elT P t with
  | none => simp only [h1] at h; cases h
  | some e =>
    cases h2 : szT P e with
    | none => simp only [h1, h2] at h; cases h
    | some sz =>
      cases h3 : byT P e with
      | none => simp only [h1, h2, h3] at h; cases h
      | some by_ =>
        cases h4 : zeroT P e with
        | none => simp only [h1, h2, h3, h4] at h; cases h
        | some z =>
          cases h5 : srcA x with
          | none => simp only [h1, h2, h3, h4, h5] at h; cases h
          | some ys =>
            simp only [h1, h2, h3, h4, h5, srcSz_io] at h ⊢
            split at h
            · rename_i hc
              rw [if_pos hc]
              cases s with
              | p q => cases q with
                | prim v =>
                  cases v with
                  | slice a b c =>
                    cases a with
                    | none => cases b with
                      | zero => cases c with
                        | zero =>
                          simp only [io_p] at h ⊢
                          split at h
                          · rename_i hc2
                            rw [if_pos hc2]
                            simp only [Option.some.injEq, Prod.mk.injEq] at h
                            obtain ⟨rfl, rfl⟩ := h
                            rw [iH_app, iH_len, io_own]; rfl
                          · cases h
                        | succ c => simp at h
                      | succ b => simp at h
                    | some a => simp at h
                  | _ => simp at h
                | _ => simp at h
              | own tok s' es =>
                simp only [io_own] at h ⊢
                cases h6 : H[tok]? with
                | none => rw [h6] at h; cases h
                | some o =>
                  rw [h6] at h
                  cases o with
                  | tok n s2 =>
                    simp only at h
                    have hat := iH_at (ks := ks) h6
                    rw [hat]
                    simp only [iO]
                    split at h
                    · rename_i hc2
                      rw [if_pos hc2]
                      simp only [Option.some.injEq, Prod.mk.injEq] at h
                      obtain ⟨rfl, rfl⟩ := h
                      rw [io_own, ← iH_set]; rfl
                    · cases h
                  | _ => cases h
              | _ => simp at h
            · cases h
def xapp (P : Program) (rows : Bool) (t : TypeId) (s x : AV) (H : HX) (j : Nat) : Option (AV × HX × Nat) :=
  match elT P t with
  | some e => match szT P e, byT P e, zeroT P e with
    | some sz, some by_, some _ => match srcX sz x H with
      | some (m, us) =>
        match s with
        | .p (.prim (.slice none 0 0)) =>
          if (rows || isSm x) = true ∧ 0 < m ∧ us.length = m * sz ∧ m < 1048576 ∧ m * by_ ≤ 140737488355328 then
            some (.sm H.length 0 m (codeOf m j) sz, H ++ [.row m j sz us], j + 1) else none
        | .sm id off len code s' =>
          if s' = sz ∧ len ≤ room code then
            if m = 0 then some (s, H, j)
            else match H[id]? with
              | some o => match cellsOf o with
                | some cs =>
                  if off = 0 ∧ len + m ≤ room code ∧ len * sz + us.length ≤ cs.length then some (.sm id 0 (len + m) code sz, H.set id (putCells o (patch cs (len * sz) us)), j)
                  else if code % 2 = 0 then
                    if off + len * sz ≤ cs.length ∧ room code < len + m ∧ us.length = m * sz ∧ len + m < 1048576 ∧ (len + m) * by_ ≤ 140737488355328 then
                      some (.sm H.length 0 (len + m) (codeOf (len + m) j) sz, H ++ [.row (len + m) j sz ((cs.drop off).take (len * sz) ++ us)], j + 1) else none
                  else match o with
                    | .row n0 i s2 cs => if s2 = sz ∧ off = 0 ∧ code = codeOf n0 i ∧ n0 < 1048576 ∧ cs.length = n0 * sz ∧ us.length = m * sz ∧ len + m < 1048576 ∧ (len + m) * by_ ≤ 140737488355328 then
                        some (.sm H.length 0 (len + m) (codeOf (len + m) j) sz, H.set id .dead ++ [.row (len + m) j sz (cs.take (len * sz) ++ us)], j + 1) else none
                    | _ => none
                | none => none
              | none => none
          else none
        | .p (.sl s' es) => if m = 0 then some (.p (.sl s' es), H, j) else none
        | _ => none
      | none => none
    | _, _, _ => none
  | none => none
def updL (ks : Ks) (j c : Nat) (l : LD) : Ks := fun i => if i = j then (c, l) else ks i
def upd (ks : Ks) (j c : Nat) : Ks := updL ks j c (ks j).2
theorem updL_agree (ks : Ks) (j c : Nat) (l : LD) : Agree j ks (updL ks j c l) := fun i hi => by unfold updL; rw [if_neg (by omega)]
theorem upd_agree (ks : Ks) (j c : Nat) : Agree j ks (upd ks j c) := updL_agree ks j c _
theorem updL_at (ks : Ks) (j c : Nat) (l : LD) : updL ks j c l j = (c, l) := if_pos rfl
theorem upd_at (ks : Ks) (j c : Nat) : (upd ks j c j).1 = c := by unfold upd; rw [updL_at]
def OutX (P : Program) (o : Oper) (E : Env) (w : World) (a : Act) (ks : Ks) (H : HX) (j : Nat) (x : AV) (H' : HX) (j' : Nat) : Prop :=
  ∃ ks', Agree j ks ks' ∧ (j' = j → ks' = ks) ∧ j ≤ j' ∧ Out P o E w a (iH ks H) (io ks' x) (iH ks' H')
theorem cells_jok {j id : Nat} {cs : List AV} (hj : H.all (jokO j) = true) {o : XO} (h1 : H[id]? = some o) (h2 : cellsOf o = some cs) : jokL j cs = true := by
  have hjo := List.all_eq_true.1 hj o (List.mem_of_getElem? h1)
  cases o <;> simp only [cellsOf, Option.some.injEq] at h2 <;> try (cases h2; done)
  · subst h2; exact hjo
  · subst h2; simp only [jokO, Bool.and_eq_true] at hjo; exact hjo.2
theorem srcX_congr {sz m j : Nat} {x : AV} {us : List AV} {ks' : Ks} (h5 : srcX sz x H = some (m, us)) (hj : H.all (jokO j) = true) (ha : Agree j ks ks') : us.map (io ks') = us.map (io ks) := by
  unfold srcX at h5
  split at h5
  · split at h5
    · split at h5
      · rename_i cs hb
        split at h5
        · simp only [Option.some.injEq, Prod.mk.injEq] at h5
          obtain ⟨rfl, rfl⟩ := h5
          obtain ⟨o', q1, q2⟩ := bind_cells hb
          rw [List.map_take, List.map_drop, map_congr ha (cells_jok hj q1 q2), List.map_take, List.map_drop]
        · cases h5
      · cases h5
    · cases h5
  · split at h5
    · obtain ⟨es, _, q3⟩ := Option.map_eq_some_iff.1 h5
      simp only [Prod.mk.injEq] at q3
      obtain ⟨_, rfl⟩ := q3
      rw [List.map_map, List.map_map, show io ks ∘ AV.p = AV.p from funext (io_p ks), show io ks' ∘ AV.p = AV.p from funext (io_p _)]
    · cases h5
theorem iO_row {ks : Ks} {n0 j sz c : Nat} (cs : List AV) (hc : n0 ≤ c) : iO (upd ks j (c - n0)) (.row n0 j sz cs) = some (.cells (cs.map (io (upd ks j (c - n0))) ++ List.replicate (c * sz - cs.length) .junk)) := by
  simp only [iO, upd_at, show n0 + (c - n0) = c by omega]
theorem xapp_out {rows : Bool} {t : TypeId} {s x : Operand} {o : Oper} {T T2 : List AV} {D : List AD} {a : Act} {y : AV} {H' : HX} {j j' : Nat} (st : St E w a T2 (iH ks H) D) (ho : o.op = .call ⟨.builtin .append, #[s, x], #[t, t]⟩) (hr : ∀ y ∈ o.op.operands, aev T2 y = io ks (aev T y))
    (hj : j' = j ∨ H.all (jokO j) = true) (h : xapp P rows t (aev T s) (aev T x) H j = some (y, H', j')) : OutX P o E w a ks H j y H' j' := by
  unfold xapp at h
  cases h1 : elT P t with
  | none => simp only [h1] at h; cases h
  | some e =>
    cases h2 : szT P e with
    | none => simp only [h1, h2] at h; cases h
    | some sz =>
      cases h3 : byT P e with
      | none => simp only [h1, h2, h3] at h; cases h
      | some by_ =>
        cases h4 : zeroT P e with
        | none => simp only [h1, h2, h3, h4] at h; cases h
        | some z =>
          cases h5 : srcX sz (aev T x) H with
          | none => simp only [h1, h2, h3, h4, h5] at h; cases h
          | some q =>
            obtain ⟨m, us⟩ := q
            simp only [h1, h2, h3, h4, h5] at h
            have hxr := aev_rep st x
            rw [hr x (by rw [ho]; simp [Op.operands, Call.operands])] at hxr
            have hsx : aev T2 s = io ks (aev T s) := hr s (by rw [ho]; simp [Op.operands, Call.operands])
            obtain ⟨i, zv, hi, _⟩ := zeroT_parts h4
            have husj : H.all (jokO j) = true → ∀ c, us.map (io (upd ks j c)) = us.map (io ks) := fun hj c => srcX_congr h5 hj (upd_agree ks j c)
            have hHj : H.all (jokO j) = true → ∀ c, iH (upd ks j c) H = iH ks H := fun hj c => iH_congr (upd_agree ks j c) hj
            split at h
            · -- nil
              rename_i hs
              split at h
              · rename_i hc
                obtain ⟨_, c2, c3, c4, c5⟩ := hc
                simp only [Option.some.injEq, Prod.mk.injEq] at h
                obtain ⟨rfl, rfl, rfl⟩ := h
                replace hj := hj.resolve_left (by omega)
                replace husj := husj hj
                replace hHj := hHj hj
                have src := srcX_src (ks := ks) h5 c2 st.rel hxr
                obtain ⟨c', k1, k2⟩ := app_nil st ho h1 h2 h3 h4 (by rw [hsx, hs, io_p]) src c2 c5 (by omega)
                refine ⟨upd ks j (c' - m), upd_agree _ _ _, fun e => by omega, by omega, ?_⟩
                have e1 : iH (upd ks j (c' - m)) (H ++ [XO.row m j sz us]) = iH ks H ++ [some (.cells (us.map (io ks) ++ List.replicate (c' * sz - (us.map (io ks)).length) .junk))] := by
                  rw [iH_app, hHj]
                  congr 1
                  show [iO _ _] = _
                  rw [iO_row us k1, husj, List.length_map]
                rw [e1, io_sm, icap_code _ _ c4, upd_at, show m + (c' - m) = c' by omega, ← iH_len ks H]
                exact k2
              · cases h
            · -- a named row
              rename_i id off len code s' hs
              have hs0 : aev T2 s = .sm id off len (icap ks code) s' := by rw [hsx, hs, io_sm]
              split at h
              · rename_i hc0
                obtain ⟨rfl, hroom⟩ := hc0
                have hle : len ≤ icap ks code := Nat.le_trans hroom (room_le ks code)
                split at h
                · -- nothing
                  rename_i hm0
                  subst hm0
                  simp only [Option.some.injEq, Prod.mk.injEq] at h
                  obtain ⟨rfl, rfl, rfl⟩ := h
                  obtain ⟨ad2, c2, hv2⟩ := srcX_zero (ks := ks) h5 hxr
                  have hsr := aev_rep st s
                  have hsr' := hsr
                  rw [hs0] at hsr
                  simp only [Rep] at hsr
                  obtain ⟨b, _, hv⟩ := hsr
                  refine ⟨ks, Agree.refl _ _, fun _ => rfl, Nat.le_refl _, E, w, a.eval s, ?_, st.rel, st.fresh, by rw [hs, io_sm, ← hs0]; exact hsr', Fr.refl _ _ _⟩
                  refine exec_append ho ?_
                  rw [hv, hv2]
                  exact append_zero (und_elT h1) hi _ ad2 len _ c2 hle
                · rename_i hm0
                  have hm : 0 < m := by omega
                  have src := srcX_src (ks := ks) h5 hm st.rel hxr
                  cases h6 : H[id]? with
                  | none => rw [h6] at h; cases h
                  | some ob =>
                    simp only [h6] at h
                    cases h7 : cellsOf ob with
                    | none => rw [h7] at h; cases h
                    | some cs =>
                      simp only [h7] at h
                      obtain ⟨R, h8, h9⟩ := iO_cells (ks := ks) h7
                      have hat := iH_at (ks := ks) h6
                      have hat' := hat
                      rw [h8] at hat
                      split at h
                      · -- in its room
                        rename_i hc
                        obtain ⟨rfl, c2, c3⟩ := hc
                        simp only [Option.some.injEq, Prod.mk.injEq] at h
                        obtain ⟨rfl, rfl, rfl⟩ := h
                        have k := app_room st ho h1 h2 h4 hs0 hat src (by simp; omega) (Nat.le_trans c2 (room_le ks code))
                        refine ⟨ks, Agree.refl _ _, fun _ => rfl, Nat.le_refl _, ?_⟩
                        rw [io_sm, ← iH_set, h9 _ (by rw [patch_length]), patch_map, ← patch_app _ _ _ _ (by simp; exact c3)]
                        exact k
                      · split at h
                        · -- a new row for sure
                          rename_i hev
                          split at h
                          · rename_i hc
                            obtain ⟨c1, c2, c3, c4, c5⟩ := hc
                            simp only [Option.some.injEq, Prod.mk.injEq] at h
                            obtain ⟨rfl, rfl, rfl⟩ := h
                            replace hj := hj.resolve_left (by omega)
                            replace husj := husj hj
                            replace hHj := hHj hj
                            have hcap : icap ks code = room code := by unfold icap room; rw [if_pos hev, if_pos hev]
                            obtain ⟨c', k1, k2⟩ := app_move st ho h1 h2 h3 h4 hs0 hat (by simp; omega) src hm (by omega) c5 (by omega) hle
                            refine ⟨upd ks j (c' - (len + m)), upd_agree _ _ _, fun e => by omega, by omega, ?_⟩
                            have hcj := cells_jok hj h6 h7
                            have e0 : (((cs.map (io ks) ++ R).drop off).take (len * s')) = ((cs.drop off).take (len * s')).map (io ks) := take_map_app c1
                            rw [e0] at k2
                            have e1 : iH (upd ks j (c' - (len + m))) (H ++ [XO.row (len + m) j s' ((cs.drop off).take (len * s') ++ us)]) = iH ks H ++ [some (.cells (((cs.drop off).take (len * s')).map (io ks) ++ us.map (io ks) ++ List.replicate (c' * s' - (len + m) * s') .junk))] := by
                              rw [iH_app, hHj]
                              congr 1
                              show [iO _ _] = _
                              rw [iO_row _ k1, List.map_append, husj]
                              have e2 : ((cs.drop off).take (len * s')).map (io (upd ks j (c' - (len + m)))) = ((cs.drop off).take (len * s')).map (io ks) := by
                                rw [List.map_take, List.map_drop, map_congr (upd_agree ks j _) hcj, List.map_take, List.map_drop]
                              have e3 : ((cs.drop off).take (len * s') ++ us).length = (len + m) * s' := by
                                rw [List.length_append, c3, List.length_take, List.length_drop, Nat.add_mul]; omega
                              rw [e2, e3]
                            rw [e1, io_sm, icap_code _ _ c4, upd_at, show len + m + (c' - (len + m)) = c' by omega, ← iH_len ks H]
                            exact k2
                          · cases h
                        · -- it goes on under a new name
                          split at h
                          · rename_i n0 i' s2 cs'
                            simp only [cellsOf, Option.some.injEq] at h7
                            subst h7
                            split at h
                            · rename_i hc
                              obtain ⟨rfl, rfl, c3, c4, c5, c6, c7, c8⟩ := hc
                              simp only [Option.some.injEq, Prod.mk.injEq] at h
                              obtain ⟨rfl, rfl, rfl⟩ := h
                              replace hj := hj.resolve_left (by omega)
                              replace husj := husj hj
                              replace hHj := hHj hj
                              subst c3
                              have hcap : icap ks (codeOf n0 i') = n0 + (ks i').1 := icap_code ks i' c4
                              rw [hcap] at hs0 hle
                              have hat2 : (iH ks H).at id = some (.cells (cs'.map (io ks) ++ List.replicate ((n0 + (ks i').1) * s2 - cs'.length) .junk)) := by rw [hat']; rfl
                              have hle2 : n0 * s2 ≤ (n0 + (ks i').1) * s2 := Nat.mul_le_mul_right _ (by omega)
                              obtain ⟨c', k1, k2⟩ := app_grow st ho h1 h2 h3 h4 hs0 hat2 (by simp; omega) hle src hm c8 (by omega)
                              refine ⟨upd ks j (c' - (len + m)), upd_agree _ _ _, fun e => by omega, by omega, ?_⟩
                              have hcj := cells_jok (o := .row n0 i' s2 cs') hj h6 rfl
                              have hln : len ≤ n0 := by
                                unfold room codeOf at hroom
                                rw [if_neg (by omega)] at hroom
                                omega
                              have hlc : len * s2 ≤ cs'.length := by rw [c5]; exact Nat.mul_le_mul_right _ hln
                              have e0 : (cs'.map (io ks) ++ List.replicate ((n0 + (ks i').1) * s2 - cs'.length) AV.junk).take (len * s2) = (cs'.take (len * s2)).map (io ks) := by
                                rw [List.take_append_of_le_length (by simp; exact hlc), List.map_take]
                              rw [e0] at k2
                              have e1 : iH (upd ks j (c' - (len + m))) (H.set id .dead ++ [XO.row (len + m) j s2 (cs'.take (len * s2) ++ us)]) = (iH ks H).set id none ++ [some (.cells ((cs'.take (len * s2)).map (io ks) ++ us.map (io ks) ++ List.replicate (c' * s2 - (len + m) * s2) .junk))] := by
                                rw [iH_app, ← iH_set, hHj]
                                congr 1
                                show [iO _ _] = _
                                rw [iO_row _ k1, List.map_append, husj]
                                have e2 : (cs'.take (len * s2)).map (io (upd ks j (c' - (len + m)))) = (cs'.take (len * s2)).map (io ks) := by
                                  rw [List.map_take, map_congr (upd_agree ks j _) hcj, List.map_take]
                                have e3 : (cs'.take (len * s2) ++ us).length = (len + m) * s2 := by
                                  rw [List.length_append, c6, List.length_take, Nat.add_mul]; omega
                                rw [e2, e3]
                              rw [e1, io_sm, icap_code _ _ c7, upd_at, show len + m + (c' - (len + m)) = c' by omega, ← iH_len ks H]
                              exact k2
                            · cases h
                          · cases h
              · cases h
            · -- a slice that is only read
              rename_i s' es hs
              split at h
              · rename_i hm0
                subst hm0
                simp only [Option.some.injEq, Prod.mk.injEq] at h
                obtain ⟨rfl, rfl, rfl⟩ := h
                obtain ⟨ad2, c2, hv2⟩ := srcX_zero (ks := ks) h5 hxr
                have hsr := aev_rep st s
                have hsr' := hsr
                rw [hsx, hs, io_p] at hsr hsr'
                simp only [Rep, RepP] at hsr
                obtain ⟨ad, cap, hv, hc, _⟩ := hsr
                refine ⟨ks, Agree.refl _ _, fun _ => rfl, Nat.le_refl _, E, w, a.eval s, ?_, st.rel, st.fresh, by rw [io_p]; exact hsr', Fr.refl _ _ _⟩
                refine exec_append ho ?_
                rw [hv, hv2]
                exact append_zero (und_elT h1) hi ad ad2 es.length cap c2 hc
              · cases h
            · cases h

end

end Go.AI.EV
