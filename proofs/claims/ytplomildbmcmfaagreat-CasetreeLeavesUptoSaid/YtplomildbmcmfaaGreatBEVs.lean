/-
  A function's run by calls that are known.
-/
import Derived.Test.YtplomildbmcmfaaGreatBEVt

namespace Go.AI.EV

open Go Go.AI
def evG (S : Seat) (P : Program) (cf : Bool → LT → CallF) (yf : YieldF) (keep : Bool) (lt : LT) : CallF := fun f args H j => relet j (match S.fn f with
    | some fn => match fn.body with
      | some c => match ev S P f cf yf lt false 100000 [.code c] (slots args fn.ntmps) H j [] with
        | some (x, T, H1, j1, D) => if H.length ≤ H1.length then (match D with
          | (.func d, cap, dargs) :: [] => match x with
            | .exit _ => none
            | x => if (S.fn d).isSome = true then (match evDef S P cf yf lt d (dargs ++ cap) (match x with | .panic v => some v | _ => none) H1 j1 with
              | some H2 => if H.length ≤ H2.length then (match aresX P T H2 fn.results.toList with
                | some l => (settle lt keep H.length (atuple l) H2).map fun q => (.ret q.1, q.2, j1)
                | none => none) else none
              | none => none) else none
          | D => match unmark D H1 with
            | some H2 => match x with
              | .exit _ => none
              | .panic v => (settle lt keep H.length v H2).map fun q => (.panic q.1, q.2, j1)
              | _ => match aresX P T H2 fn.results.toList with
                | some l => (settle lt keep H.length (atuple l) H2).map fun q => (.ret q.1, q.2, j1)
                | none => none
            | none => none) else none
        | none => none
      | none => none
    | none => none)
theorem evG_ok {S : Seat} {P : Program} (hS : SeatOk P S) {cf : Bool → LT → CallF} {yf : YieldF} {keep : Bool} {lt : LT} (hlt : LTok S lt) (hcf : ∀ b lt, LTok S lt → CallOk P (Gl lt) (cf b lt)) (hyf : YieldOk P (Gl lt) yf) : CallOk P (Gl lt) (evG S P cf yf keep lt) := by
  intro f args H j out H' j' h
  simp only [evG] at h
  refine relet_ok h fun j' h => ?_
  split at h
  · rename_i fn hfn
    obtain ⟨hf, hen⟩ := hS.fns f fn hfn
    split at h
    · rename_i c hb
      split at h
      · rename_i x T H1 j1 D hev
        obtain ⟨b1, b2⟩ := ev_sound (S := S) (rd := none) (nb := H.length) hS.mixed hlt hcf hyf (fun _ => rfl) _ _ _ _ _ _ _ _ _ _ _ hev ((hS.draws f fn _ hfn hb).sub fun e he => by simpa [itsD] using he)
        split at h
        · rename_i hlen
          split at h
          · -- a deferred call
            rename_i d cap dargs
            split at h
            · cases h
            · rename_i hne
              split at h
              · rename_i hd
                obtain ⟨fnd, hfnd⟩ := Option.isSome_iff_exists.1 hd
                split at h
                · rename_i H2 hdef
                  split at h
                  · rename_i hlen2
                    split at h
                    · rename_i l hl
                      obtain ⟨q, hs, hq⟩ := Option.map_eq_some_iff.1 h
                      obtain ⟨y, H3⟩ := q
                      simp only [Prod.mk.injEq] at hq
                      obtain ⟨rfl, rfl, rfl⟩ := hq
                      refine ⟨hen, b1, fun ks hG => ACalls.of_runD hf hb ?_⟩
                      rw [← slots_io, iH_len]
                      refine (b2 ks hG).mono ?_
                      rintro x2 T2' h2 D2 ⟨ks', a1, a2, rfl, rfl, rfl, rfl⟩
                      have hG' := Gl.closed lt _ _ _ _ hG a1 b1
                      have hdd := evDef_sound hS hlt hcf hyf hdef hG'
                      obtain ⟨h', mm, s1, s2, s3, s4, s5, s6⟩ := settle_spec hlen2 hs hG'
                      simp only [List.map_cons, List.map_nil, ioD, FinD]
                      refine ⟨fun i e => ?_, (hS.fns d fnd hfnd).2, iH ks' H2, ?_, ?_⟩
                      · cases x <;> simp [ioX] at e
                        exact hne _ rfl
                      · rw [List.map_append] at hdd
                        cases x <;> first | exact hdd | exact (hne _ rfl).elim
                      · exact ⟨rfl, _, _, h', mm, aresX_io hl, by rw [atuple_io]; exact s1, s2, s3, s4, s5, ks', a1, a2, rfl, s6⟩
                    · cases h
                  · cases h
                · cases h
              · cases h
          · rename_i hnd
            split at h
            · rename_i H2 hun
              have hl2 := unmark_len hun
              split at h
              · cases h
              · rename_i v
                obtain ⟨q, hs, hq⟩ := Option.map_eq_some_iff.1 h
                obtain ⟨y, H3⟩ := q
                simp only [Prod.mk.injEq] at hq
                obtain ⟨rfl, rfl, rfl⟩ := hq
                refine ⟨hen, b1, fun ks hG => ACalls.of_runM hf hb ?_⟩
                rw [← slots_io, iH_len]
                refine (b2 ks hG).mono ?_
                rintro x2 T2' h2 D2 ⟨ks', a1, a2, rfl, rfl, rfl, rfl⟩
                have hG' := Gl.closed lt _ _ _ _ hG a1 b1
                obtain ⟨h', mm, s1, s2, s3, s4, s5, s6⟩ := settle_spec (by omega) hs hG'
                exact finM_of hun ⟨rfl, _, h', mm, s1, s2, s3, s4, s5, ks', a1, a2, rfl, s6⟩
              · rename_i hne1 hne2
                split at h
                · rename_i l hl
                  obtain ⟨q, hs, hq⟩ := Option.map_eq_some_iff.1 h
                  obtain ⟨y, H3⟩ := q
                  simp only [Prod.mk.injEq] at hq
                  obtain ⟨rfl, rfl, rfl⟩ := hq
                  refine ⟨hen, b1, fun ks hG => ACalls.of_runM hf hb ?_⟩
                  rw [← slots_io, iH_len]
                  refine (b2 ks hG).mono ?_
                  rintro x2 T2' h2 D2 ⟨ks', a1, a2, rfl, rfl, rfl, rfl⟩
                  have hG' := Gl.closed lt _ _ _ _ hG a1 b1
                  obtain ⟨h', mm, s1, s2, s3, s4, s5, s6⟩ := settle_spec (by omega) hs hG'
                  refine finM_of hun ?_
                  cases x with
                  | normal => exact ⟨rfl, _, _, h', mm, aresX_io hl, by rw [atuple_io]; exact s1, s2, s3, s4, s5, ks', a1, a2, rfl, s6⟩
                  | ret => exact ⟨rfl, _, _, h', mm, aresX_io hl, by rw [atuple_io]; exact s1, s2, s3, s4, s5, ks', a1, a2, rfl, s6⟩
                  | panic v => exact (hne2 _ rfl).elim
                  | exit i => exact (hne1 _ rfl).elim
                · cases h
            · cases h
        · cases h
      · cases h
    · cases h
  · cases h
def evYG (S : Seat) (P : Program) (cfk : FuncId → Bool → LT → CallF) (yf : YieldF) (lt : LT) : YieldF := fun i args H j => match findLE lt i, findLoop H 0 i with
    | some e, some id => match H[id]? with
      | some (.loop i1 .ready none) => if (Nat.beq i1 i && Nat.beq args.length e.ps.size) = true then
          (match ev S P e.fid (cfk e.fid) yf lt true 100000 [.code e.asg] (putMany e.T e.ps.toList args) H j [] with
          | some (.normal, T1, H1, j1, []) => match H1[id]? with
            | some (.loop i2 .ready none) => if Nat.beq i2 i = true then
                (match ev S P e.fid (cfk e.fid) yf lt true 100000 [.code e.bd] T1 (H1.set id (.loop i .busy none)) j1 [] with
                | some (x, _, H2, j2, []) => match jumpOf x, H2[id]? with
                  | some jj, some (.loop i3 .busy none) => if (Nat.beq i3 i && decide (H.length ≤ H2.length)) = true then
                      (if ((H2.set id (.loop i (stOf jj) jj)).take H.length).all (xunder lt H.length) = true then some (.ret (.p (.prim (.bool jj.isNone))), (H2.set id (.loop i (stOf jj) jj)).take H.length, j2)
                      else if (H2.set id (.loop i (stOf jj) jj)).all (xunder lt H2.length) = true then some (.ret (.p (.prim (.bool jj.isNone))), H2.set id (.loop i (stOf jj) jj), j2) else none) else none
                  | _, _ => none
                | _ => none) else none
            | _ => none
          | _ => none) else none
      | _ => none
    | _, _ => none
theorem evYG_ok {S : Seat} {P : Program} (hS : SeatOk P S) {cfk : FuncId → Bool → LT → CallF} {yf : YieldF} {lt : LT} (hlt : LTok S lt) (hcf : ∀ g b lt, LTok S lt → CallOk P (Gl lt) (cfk g b lt)) (hyf : YieldOk P (Gl lt) yf) : YieldOk P (Gl lt) (evYG S P cfk yf lt) := by
  intro i args H j out H' j' h
  simp only [evYG] at h
  split at h
  · rename_i e id he hid
    obtain ⟨hem, rfl⟩ := findLE_mem he
    have hcf := hcf e.fid
    split at h
    · rename_i i1 h1
      split at h
      · rename_i hc
        simp only [Bool.and_eq_true] at hc
        obtain ⟨hi1, hargs⟩ := hc
        have hi1 := Nat.eq_of_beq_eq_true hi1
        have hargs := Nat.eq_of_beq_eq_true hargs
        subst hi1
        split at h
        · rename_i T1 H1 j1 hev1
          split at h
          · rename_i i2 h2
            split at h
            · rename_i hi2
              have hi2 := Nat.eq_of_beq_eq_true hi2
              subst hi2
              split at h
              · rename_i x T3 H2 j2 hev2
                split at h
                · rename_i jj i3 hjj h3
                  split at h
                  · rename_i hc3
                    simp only [Bool.and_eq_true, decide_eq_true_eq] at hc3
                    obtain ⟨hi3, hlen⟩ := hc3
                    have hi3 := Nat.eq_of_beq_eq_true hi3
                    subst hi3
                    have g1 := (ev_sound (S := S) (fid := e.fid) (rd := some 0) (nb := 0) hS.mixed hlt hcf hyf (fun q => by cases q) _ _ _ _ _ _ _ _ _ _ _ hev1 ((hlt e hem).1.sub fun e he => by simpa [itsD] using he)).1
                    have g2 := (ev_sound (S := S) (fid := e.fid) (rd := some 0) (nb := 0) hS.mixed hlt hcf hyf (fun q => by cases q) _ _ _ _ _ _ _ _ _ _ _ hev2 ((hlt e hem).2.sub fun e he => by simpa [itsD] using he)).1
                    -- where the round ends
                    have main : ∀ (m : Nat) (H3 : HX), H.length ≤ m → m ≤ H2.length → H3 = (H2.set id (.loop e.j (stOf jj) jj)).take m → H3.all (xunder lt m) = true → out = .ret (.p (.prim (.bool jj.isNone))) → H' = H3 → j' = j2 →
                        j ≤ j' ∧ ∀ ks, Gl lt j ks → AYield P (ks e.j).1 (args.map (io ks)) (iH ks H) (After ks j out H' j') := by
                      rintro m H3 hm1 hm2 rfl hun rfl rfl rfl
                      refine ⟨Nat.le_trans g1 g2, fun ks hG => ?_⟩
                      obtain ⟨q1, q2, q3⟩ := hG e hem
                      have hat : ∀ {ks' : Ks} {G : HX} {st : LoopState} {pend : Option Code}, ks' e.j = ks e.j → G[id]? = some (.loop e.j st pend) → (iH ks' G).at id = some (.aux (.loop (ks e.j).1 st pend (e.T.map (io ks)) e.ps e.asg e.bd)) := by
                        intro ks' G st pend hk hg
                        rw [iH_at hg]
                        simp only [iO, hk, q3]
                      have hset : ∀ {ks' : Ks} {G : HX} (st : LoopState) (pend : Option Code), ks' e.j = ks e.j → (iH ks' G).set id (some (.aux (.loop (ks e.j).1 st pend (e.T.map (io ks)) e.ps e.asg e.bd))) = iH ks' (G.set id (.loop e.j st pend)) := by
                        intro ks' G st pend hk
                        rw [← iH_set]
                        simp only [iO, hk, q3]
                      refine AYield.of_run (hat rfl h1) (by rw [List.length_map]; exact hargs) ?_
                      obtain ⟨_, r1⟩ := ev_sound (S := S) (fid := e.fid) (rd := some (ks e.j).1) (nb := (iH ks H).length) hS.mixed hlt hcf hyf (fun q => by cases q) _ _ _ _ _ _ _ _ _ _ _ hev1 ((hlt e hem).1.sub fun e he => by simpa [itsD] using he)
                      have hpm : ∀ (ps : List Tmp) (xs T : List AV), putMany (T.map (io ks)) ps (xs.map (io ks)) = (putMany T ps xs).map (io ks) := by
                        intro ps
                        induction ps with
                        | nil => intro xs T; cases xs <;> simp [putMany]
                        | cons p ps ih =>
                          intro xs T
                          cases xs with
                          | nil => simp [putMany]
                          | cons x xs => simp only [List.map_cons, putMany]; rw [← List.map_set, ih]
                      rw [hpm]
                      refine (r1 ks hG).mono ?_
                      rintro x2 T2' h2' D2 ⟨ks1, a1, a2, rfl, rfl, rfl, rfl⟩
                      have k1 : ks1 e.j = ks e.j := a1 _ q1
                      refine ⟨rfl, rfl, hat k1 h2, ?_⟩
                      rw [hset .busy none k1]
                      obtain ⟨_, r2⟩ := ev_sound (S := S) (fid := e.fid) (rd := some (ks e.j).1) (nb := (iH ks H).length) hS.mixed hlt hcf hyf (fun q => by cases q) _ _ _ _ _ _ _ _ _ _ _ hev2 ((hlt e hem).2.sub fun e he => by simpa [itsD] using he)
                      have hG1 := Gl.closed lt _ _ _ _ hG a1 g1
                      refine (r2 ks1 hG1).mono ?_
                      rintro x3 T3' h3' D3 ⟨ks2, b1, b2, rfl, rfl, rfl, rfl⟩
                      have hG2 := Gl.closed lt _ _ _ _ hG1 b1 g2
                      have k2 : ks2 e.j = ks e.j := (b1 _ (by omega)).trans k1
                      have hjx : jumpOf (ioX ks2 x) = some jj := by
                        cases x with
                        | panic v => simp [jumpOf] at hjj
                        | _ => exact hjj
                      have htk : (iH ks2 (H2.set id (.loop e.j (stOf jj) jj))).take m = iH ks2 ((H2.set id (.loop e.j (stOf jj) jj)).take m) := by simp [iH, List.map_take]
                      refine ⟨jj, m, hjx, rfl, by rw [iH_len]; exact hm1, by rw [iH_len]; exact hm2, hat k2 h3, ?_, ?_⟩
                      · rw [hset (stOf jj) jj k2, htk]; exact xunder_iH hG2 hun
                      · rw [hset (stOf jj) jj k2, htk]
                        refine ⟨ks2, a1.trans g1 b1, fun q => ?_, by simp [ioR], rfl⟩
                        have e1 : j1 = j := by omega
                        rw [b2 (by omega), a2 e1]
                    split at h
                    · rename_i hun
                      simp only [Option.some.injEq, Prod.mk.injEq] at h
                      obtain ⟨rfl, rfl, rfl⟩ := h
                      exact main H.length _ (Nat.le_refl _) hlen rfl hun rfl rfl rfl
                    · split at h
                      · rename_i hun
                        simp only [Option.some.injEq, Prod.mk.injEq] at h
                        obtain ⟨rfl, rfl, rfl⟩ := h
                        have e1 : (H2.set id (.loop e.j (stOf jj) jj)).take H2.length = H2.set id (.loop e.j (stOf jj) jj) := by
                          rw [List.take_of_length_le (by simp)]
                        exact main H2.length _ hlen (Nat.le_refl _) e1.symm hun rfl rfl rfl
                      · cases h
                  · cases h
                · cases h
              · cases h
            · cases h
          · cases h
        · cases h
      · cases h
    · cases h
  · cases h

structure Ent where
  f : FuncId
  args : List AV
  H : HX
  j : Nat
  out : AOut
  H' : HX
  j' : Nat
def look : List Ent → CallF
  | [], _, _, _, _ => none
  | e :: l, f, args, H, j => if (Nat.beq e.f f && Nat.beq e.j j && Nat.beq e.H.length H.length && eqAL e.args args && eqH e.H H) = true then some (e.out, e.H', e.j') else look l f args H j

end Go.AI.EV
