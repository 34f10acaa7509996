/-
  Regions that draw their order and make blocks whose place is open, over slots in a trie.
-/
import Derived.Test.YtplomildbmcmfaaGreatBEVy

namespace Go.AI.EV

open Go Go.AI

noncomputable def kstableB (n : Nat) (P : Program) (T : Tr) (op : Op) (x : AV) (G : HX) : Bool :=
  match op with
  | .load t a => match xload P t (kev n T a) G with
    | some y => eqA y x
    | none => false
  | _ => true
theorem kstableB_eq (n : Nat) (P : Program) (T : Tr) (op : Op) (x : AV) (G : HX) : kstableB n P T op x G = stableB P (toL n T) op x G := by
  unfold kstableB stableB
  rw [kev_eq]
  rfl

noncomputable def kevDraw (n : Nat) (P : Program) (rows : Bool) (cf : CallF) (ops : Array Oper) (lo : List Nat) (D : List AD) : List Nat → List HX → Tr → HX → Nat → Option (Tr × HX × Nat)
  | [], _, T, H, j => some (T, H, j)
  | i :: π, hist, T, H, j => match ops[i]? with
    | none => none
    | some o => match kwanted ops n T o with
      | none => none
      | some false => kevDraw n P rows cf ops lo D π (if isE o.op = true then hist ++ [H] else hist) (kput n T o.dst (.tup [])) H j
      | some true => if isE o.op = true then
          (match o.op with
          | .call ⟨.value f, args, types⟩ => match kcallee n T ⟨.value f, args, types⟩ with
            | some (f, args) => match cf f args H j with
              | some (.ret v, H', j') => if keepD j j' (toL n T) D (hist ++ [H]) = true then kevDraw n P rows cf ops lo D π (hist ++ [H]) (kput n T o.dst v) H' j' else none
              | _ => none
            | none => none
          | .defer _ => none
          | op => match xsp P rows (kev n T) H j op with
            | some (x, H', j') => if keepD j j' (toL n T) D (hist ++ [H]) = true then kevDraw n P rows cf ops lo D π (hist ++ [H]) (kput n T o.dst x) H' j' else none
            | none => match xaop P (kev n T) H op with
              | some (x, H') => kevDraw n P rows cf ops lo D π (hist ++ [H]) (kput n T o.dst x) H' j
              | none => none)
        else match xaop P (kev n T) H o.op with
          | some (x, _) => if (hist.drop (lo.getD i 0)).all (fun G => kstableB n P T o.op x G) = true then kevDraw n P rows cf ops lo D π hist (kput n T o.dst x) H j else none
          | none => match xrd P (kev n T) o.op with
            | some x => if hist.length < lo.getD i 0 then kevDraw n P rows cf ops lo D π hist (kput n T o.dst x) H j else none
            | none => none
theorem kevDraw_of {n : Nat} (hn : n < 4095) {P : Program} {rows : Bool} {cf : CallF} {ops : Array Oper} {lo : List Nat} {D : List AD} : ∀ {π : List Nat} {hist : List HX} {T : Tr} {H : HX} {j : Nat} {T' : Tr} {H' : HX} {j' : Nat}, kevDraw n P rows cf ops lo D π hist T H j = some (T', H', j') →
    evDraw P rows cf ops lo D π hist (toL n T) H j = some (toL n T', H', j')
  | [], hist, T, H, j, T', H', j', h => by
    simp only [kevDraw, Option.some.injEq, Prod.mk.injEq] at h
    obtain ⟨rfl, rfl, rfl⟩ := h
    rfl
  | i :: π, hist, T, H, j, T', H', j', h => by
    simp only [kevDraw, kwanted_eq, kcallee_eq, kev_eq, kstableB_eq] at h
    simp only [evDraw]
    split at h
    · cases h
    · rename_i o ho
      simp only [ho]
      split at h
      · cases h
      · rename_i hw
        simp only [hw]
        rw [← kput_eq hn]
        exact kevDraw_of hn h
      · rename_i hw
        simp only [hw]
        split at h
        · rename_i hE
          rw [if_pos hE]
          split at h
          · rename_i hop
            rw [hop]
            split at h
            · rename_i e1
              simp only [e1]
              split at h
              · rename_i e2
                simp only [e2]
                split at h
                · rename_i e3
                  rw [if_pos e3, ← kput_eq hn]
                  exact kevDraw_of hn h
                · cases h
              · cases h
            · cases h
          · cases h
          · rename_i n1 n2
            split
            · rename_i hop; exact (n1 _ _ _ hop).elim
            · rename_i hop; exact (n2 _ hop).elim
            split at h
            · rename_i e1
              simp only [e1]
              split at h
              · rename_i e3
                rw [if_pos e3, ← kput_eq hn]
                exact kevDraw_of hn h
              · cases h
            · rename_i e1
              simp only [e1]
              split at h
              · rename_i e2
                simp only [e2]
                rw [← kput_eq hn]
                exact kevDraw_of hn h
              · cases h
        · rename_i hE
          rw [if_neg hE]
          split at h
          · rename_i e1
            simp only [e1]
            split at h
            · rename_i e3
              rw [if_pos e3, ← kput_eq hn]
              exact kevDraw_of hn h
            · cases h
          · rename_i e1
            simp only [e1]
            split at h
            · rename_i e2
              simp only [e2]
              split at h
              · rename_i e3
                rw [if_pos e3, ← kput_eq hn]
                exact kevDraw_of hn h
              · cases h
            · cases h

inductive KDRes where
  | nrm (T : Tr) (H : HX) (j : Nat)
  | pan (i : Nat) (f : FuncId) (args : List AV) (H : HX) (j : Nat) (v : AV) (H' : HX) (j' : Nat)

noncomputable def KDRes.un (n : Nat) : KDRes → DRes
  | .nrm T H j => .nrm (toL n T) H j
  | .pan i f args H j v H' j' => .pan i f args H j v H' j'

noncomputable def kevDr (n : Nat) (P : Program) (rows : Bool) (cf : CallF) (ops : Array Oper) (lo : List Nat) (D : List AD) : List Nat → List HX → Tr → HX → Nat → Option KDRes
  | [], _, T, H, j => some (.nrm T H j)
  | i :: π, hist, T, H, j => match ops[i]? with
    | none => none
    | some o => match kwanted ops n T o with
      | none => none
      | some false => kevDr n P rows cf ops lo D π (if isE o.op = true then hist ++ [H] else hist) (kput n T o.dst (.tup [])) H j
      | some true => if isE o.op = true then
          (match o.op with
          | .call ⟨.value f, args, types⟩ => match kcallee n T ⟨.value f, args, types⟩ with
            | some (f, args) => match cf f args H j with
              | some (.ret v, H', j') => if keepD j j' (toL n T) D (hist ++ [H]) = true then kevDr n P rows cf ops lo D π (hist ++ [H]) (kput n T o.dst v) H' j' else none
              | some (.panic v, H', j') => some (.pan i f args H j v H' j')
              | none => none
            | none => none
          | .defer _ => none
          | op => match xsp P rows (kev n T) H j op with
            | some (x, H', j') => if keepD j j' (toL n T) D (hist ++ [H]) = true then kevDr n P rows cf ops lo D π (hist ++ [H]) (kput n T o.dst x) H' j' else none
            | none => match xaop P (kev n T) H op with
              | some (x, H') => kevDr n P rows cf ops lo D π (hist ++ [H]) (kput n T o.dst x) H' j
              | none => none)
        else match xaop P (kev n T) H o.op with
          | some (x, _) => if (hist.drop (lo.getD i 0)).all (fun G => kstableB n P T o.op x G) = true then kevDr n P rows cf ops lo D π hist (kput n T o.dst x) H j else none
          | none => match xrd P (kev n T) o.op with
            | some x => if hist.length < lo.getD i 0 then kevDr n P rows cf ops lo D π hist (kput n T o.dst x) H j else none
            | none => none
theorem kevDr_of {n : Nat} (hn : n < 4095) {P : Program} {rows : Bool} {cf : CallF} {ops : Array Oper} {lo : List Nat} {D : List AD} : ∀ {π : List Nat} {hist : List HX} {T : Tr} {H : HX} {j : Nat} {r : KDRes}, kevDr n P rows cf ops lo D π hist T H j = some r →
    evDr P rows cf ops lo D π hist (toL n T) H j = some (r.un n)
  | [], hist, T, H, j, r, h => by
    simp only [kevDr, Option.some.injEq] at h
    subst h
    rfl
  | i :: π, hist, T, H, j, r, h => by
    simp only [kevDr, kwanted_eq, kcallee_eq, kev_eq, kstableB_eq] at h
    simp only [evDr]
    split at h
    · cases h
    · rename_i o ho
      simp only [ho]
      split at h
      · cases h
      · rename_i hw
        simp only [hw]
        rw [← kput_eq hn]
        exact kevDr_of hn h
      · rename_i hw
        simp only [hw]
        split at h
        · rename_i hE
          rw [if_pos hE]
          split at h
          · rename_i hop
            rw [hop]
            split at h
            · rename_i e1
              simp only [e1]
              split at h
              · rename_i e2
                simp only [e2]
                split at h
                · rename_i e3
                  rw [if_pos e3, ← kput_eq hn]
                  exact kevDr_of hn h
                · cases h
              · rename_i e2
                simp only [e2]
                simp only [Option.some.injEq] at h
                subst h
                rfl
              · cases h
            · cases h
          · cases h
          · rename_i n1 n2
            split
            · rename_i hop; exact (n1 _ _ _ hop).elim
            · rename_i hop; exact (n2 _ hop).elim
            split at h
            · rename_i e1
              simp only [e1]
              split at h
              · rename_i e3
                rw [if_pos e3, ← kput_eq hn]
                exact kevDr_of hn h
              · cases h
            · rename_i e1
              simp only [e1]
              split at h
              · rename_i e2
                simp only [e2]
                rw [← kput_eq hn]
                exact kevDr_of hn h
              · cases h
        · rename_i hE
          rw [if_neg hE]
          split at h
          · rename_i e1
            simp only [e1]
            split at h
            · rename_i e3
              rw [if_pos e3, ← kput_eq hn]
              exact kevDr_of hn h
            · cases h
          · rename_i e1
            simp only [e1]
            split at h
            · rename_i e2
              simp only [e2]
              split at h
              · rename_i e3
                rw [if_pos e3, ← kput_eq hn]
                exact kevDr_of hn h
              · cases h
            · cases h

noncomputable def kjunkO (n : Nat) : List Oper → Tr → Tr
  | [], T => T
  | o :: l, T => kjunkO n l (kput n T o.dst .junk)
theorem kjunkO_eq {n : Nat} (hn : n < 4095) : ∀ (l : List Oper) (T : Tr), toL n (kjunkO n l T) = junkO l (toL n T)
  | [], T => rfl
  | o :: l, T => by
    have e : ∀ T, junkO (o :: l) T = junkO l (tput T o.dst .junk) := fun _ => rfl
    rw [e, ← kput_eq hn]
    exact kjunkO_eq hn l _

end Go.AI.EV

namespace Go.AI.EV

open Go Go.AI

noncomputable def kevR1 (n : Nat) (P : Program) (cf : CallF) (m : Nat) (o : Oper) (T : Tr) (G : HX) (j : Nat) : Option (AV × HX) :=
  match o.op with
  | .call ⟨.value f, args, types⟩ => match kcallee n T ⟨.value f, args, types⟩ with
    | some (f, args) => if AV.underL m args = true then (match cf f args G j with
      | some (.ret v, H', j') => if (Nat.beq j' j && Nat.beq H'.length G.length) = true then some (v, H') else none
      | _ => none) else none
    | none => none
  | op => if op.operands.toList.all (fun y => (kev n T y).under m) = true then (match xapN P (kev n T) G op with
    | some (sz, ys) => some (.p (.sl sz ys), G)
    | none => match xaop P (kev n T) G op with
      | some (x, H') => if Nat.beq H'.length G.length = true then some (x, H') else none
      | none => none) else none

noncomputable def kregLoop (n : Nat) (P : Program) (cf : CallF) (ops : Array Oper) (p : Pl) (N j : Nat) : List Nat → Tr → HX → List AV → List HX → List XO → List (Nat × List AV × Op × AV) → Option (RS × Tr)
  | [], T, _, xs, HS, inits, pend => some (⟨xs, HS, inits, toL n T, pend⟩, T)
  | i :: is, T, V, xs, HS, inits, pend => match ops[i]? with
    | none => none
    | some o => match kwanted ops n T o with
      | none => none
      | some false => if p.fl.contains i = true then none else kregLoop n P cf ops p N j is (kput n T o.dst (.tup [])) V (xs ++ [.tup []]) (if p.chain ops i = true then HS ++ [V] else HS) inits pend
      | some true => if p.fl.contains i = true then
          (match fobj P (kev n T) (N + inits.length) o.op with
          | some (x, cs) => if p.fl[inits.length]? = some i then kregLoop n P cf ops p N j is (kput n T o.dst x) V (xs ++ [x]) HS (inits ++ [.cells cs]) pend else none
          | none => none)
        else match kevR1 n P cf (N + p.pc i) o T (gfill N inits (p.pc i) V) j with
          | some (x, H') => if p.pc i ≤ inits.length then (if p.chain ops i = true then
              (if (H'.drop N).all alive = true then kregLoop n P cf ops p N j is (kput n T o.dst x) (H' ++ V.drop (N + p.pc i)) (xs ++ [x]) (HS ++ [H' ++ V.drop (N + p.pc i)]) inits pend else none)
            else kregLoop n P cf ops p N j is (kput n T o.dst x) V (xs ++ [x]) HS inits (pend ++ [(i, toL n T, o.op, x)])) else none
          | none => none

noncomputable def kevReg (n : Nat) (P : Program) (cf : CallF) (lt : LT) (ops : Array Oper) (p : Pl) (T : Tr) (H : HX) (j : Nat) (D : List AD) : Option (Tr × HX) :=
  match kregLoop n P cf ops p H.length j (List.range ops.size) T (H ++ List.replicate p.fl.length .dead) [] [H ++ List.replicate p.fl.length .dead] [] [] with
  | some (R, T1) => if (Nat.beq R.inits.length p.fl.length && underD H.length D && R.HS.all (fun V => Nat.beq V.length (H.length + p.fl.length) && (List.range (p.fl.length + 1)).all fun k => (gfill H.length R.inits k V).all (xunder lt (H.length + k))) && pendOk P ops p H.length R && deadOk ops p H.length R) = true then
      some (T1, gfill H.length R.inits p.fl.length (R.HS.getD (cnt ops p fun _ => true) [])) else none
  | none => none
theorem kevR1_eq (n : Nat) (P : Program) (cf : CallF) (m : Nat) (o : Oper) (T : Tr) (G : HX) (j : Nat) : kevR1 n P cf m o T G j = evR1 P cf m o (toL n T) G j := by
  unfold kevR1 evR1
  simp only [kcallee_eq, kev_eq]
  rfl
theorem kregLoop_of {n : Nat} (hn : n < 4095) {P : Program} {cf : CallF} {ops : Array Oper} {p : Pl} {N j : Nat} : ∀ {l : List Nat} {T : Tr} {V : HX} {xs : List AV} {HS : List HX} {inits : List XO} {pend : List (Nat × List AV × Op × AV)} {R : RS} {T1 : Tr},
    kregLoop n P cf ops p N j l T V xs HS inits pend = some (R, T1) → regLoop P cf ops p N j l (toL n T) V xs HS inits pend = some R ∧ R.T = toL n T1
  | [], T, V, xs, HS, inits, pend, R, T1, h => by
    simp only [kregLoop, Option.some.injEq, Prod.mk.injEq] at h
    obtain ⟨rfl, rfl⟩ := h
    exact ⟨rfl, rfl⟩
  | i :: l, T, V, xs, HS, inits, pend, R, T1, h => by
    simp only [kregLoop, kwanted_eq, kev_eq, kevR1_eq] at h
    simp only [regLoop]
    split at h
    · cases h
    · rename_i o ho
      simp only [ho]
      split at h
      · cases h
      · rename_i hw
        simp only [hw]
        split at h
        · cases h
        · rename_i hf
          rw [if_neg hf, ← kput_eq hn]
          exact kregLoop_of hn h
      · rename_i hw
        simp only [hw]
        split at h
        · rename_i hf
          rw [if_pos hf]
          split at h
          · rename_i e1
            simp only [e1]
            split at h
            · rename_i e2
              rw [if_pos e2, ← kput_eq hn]
              exact kregLoop_of hn h
            · cases h
          · cases h
        · rename_i hf
          rw [if_neg hf]
          split at h
          · rename_i e1
            simp only [e1]
            split at h
            · rename_i e2
              rw [if_pos e2]
              split at h
              · rename_i e3
                rw [if_pos e3]
                split at h
                · rename_i e4
                  rw [if_pos e4, ← kput_eq hn]
                  exact kregLoop_of hn h
                · cases h
              · rename_i e3
                rw [if_neg e3, ← kput_eq hn]
                exact kregLoop_of hn h
            · cases h
          · cases h
theorem kevReg_of {n : Nat} (hn : n < 4095) {P : Program} {cf : CallF} {lt : LT} {ops : Array Oper} {p : Pl} {T T' : Tr} {H H' : HX} {j : Nat} {D : List AD} (h : kevReg n P cf lt ops p T H j D = some (T', H')) : evReg P cf lt ops p (toL n T) H j D = some (toL n T', H') := by
  unfold kevReg at h
  unfold evReg
  split at h
  · rename_i R T1 e1
    obtain ⟨q1, q2⟩ := kregLoop_of hn e1
    simp only [q1]
    split at h
    · rename_i e2
      simp only [Option.some.injEq, Prod.mk.injEq] at h
      obtain ⟨rfl, rfl⟩ := h
      rw [if_pos e2, q2]
    · cases h
  · cases h

end Go.AI.EV
