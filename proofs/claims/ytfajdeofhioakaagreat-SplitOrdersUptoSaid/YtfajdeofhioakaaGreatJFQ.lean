import Derived.Test.YtfajdeofhioakaaGreatJA0
import Derived.Test.YtfajdeofhioakaaGreatJEVy
import Derived.Test.YtfajdeofhioakaaGreatJYE

namespace Go.AI.EV

open Go Go.AI

noncomputable def oB (n : Nat) (P : Program) (T : Tr) (op : Op) (x : AV) (G : HX) : Bool :=
 match op with
 | .load t a => match aBo P t (kev n T a) G with
  | some y => eqA y x
  | none => false
 | _ => true
theorem pO (n : Nat) (P : Program) (T : Tr) (op : Op) (x : AV) (G : HX) : oB n P T op x G = fE P (toL n T) op x G := by
 unfold oB fE;rw [lE]
 rfl

noncomputable def eH (n : Nat) (P : Program) (rows : TypeId -> Bool) (cf : aX) (ops : Array Oper) (lo : List Nat) (D : List AD) : List Nat -> List HX -> Tr -> HX -> Nat -> Option (Tr × HX × Nat)
 | [], _, T, H, j => some (T, H, j)
 | i :: π, hist, T, H, j => match ops[i]? with
  | none => none
  | some o => match mM ops n T o with
   | none => none
   | some false => eH n P rows cf ops lo D π (if isE o.op = true then hist ++ [H] else hist) (nF n T o.dst (.tup [])) H j
   | some true => if isE o.op = true then
     (match o.op with
     | .call ⟨.value f, args, types⟩ => match mK n T ⟨.value f, args, types⟩ with
      | some (f, args) => match cf f args H j with
       | some (.ret v, H', j') => if mL j j' (toL n T) D (hist ++ [H]) = true then eH n P rows cf ops lo D π (hist ++ [H]) (nF n T o.dst v) H' j' else none
       | _ => none
      | none => none
     | .defer _ => none
     | op => match xsp P rows (kev n T) H j op with
      | some (x, H', j') => if mL j j' (toL n T) D (hist ++ [H]) = true then eH n P rows cf ops lo D π (hist ++ [H]) (nF n T o.dst x) H' j' else none
      | none => match rA P (kev n T) H op with
       | some (x, H') => eH n P rows cf ops lo D π (hist ++ [H]) (nF n T o.dst x) H' j
       | none => none)
    else match rA P (kev n T) H o.op with
     | some (x, _) => if (hist.drop (lo.getD i 0)).all (fun G => oB n P T o.op x G) = true then eH n P rows cf ops lo D π hist (nF n T o.dst x) H j else none
     | none => match xrd P (kev n T) o.op with
      | some x => if hist.length < lo.getD i 0 then eH n P rows cf ops lo D π hist (nF n T o.dst x) H j else none
      | none => none
theorem cK {n : Nat} (hn : n < 4095) {P : Program} {rows : TypeId -> Bool} {cf : aX} {ops : Array Oper} {lo : List Nat} {D : List AD} : ∀ {π : List Nat} {hist : List HX} {T : Tr} {H : HX} {j : Nat} {T' : Tr} {H' : HX} {j' : Nat}, eH n P rows cf ops lo D π hist T H j = some (T', H', j') ->
  dV P rows cf ops lo D π hist (toL n T) H j = some (toL n T', H', j')
 | [], hist, T, H, j, T', H', j', h => by
  simp only [eH, bBk, bBz] at h;obtain ⟨rfl, rfl, rfl⟩ := h
  rfl
 | i :: π, hist, T, H, j, T', H', j', h => by
  simp only [eH, jJ, jI, lE, pO] at h;simp only [dV];split at h
  ·cases h
  ·rename_i o ho;simp only [ho];split at h
   ·cases h
   ·rename_i hw;simp only [hw];rw [<- kput_eq hn];exact cK hn h
   ·rename_i hw;simp only [hw];split at h
    ·rename_i hE;rw [if_pos hE];split at h
     ·rename_i hop;rw [hop];split at h
      ·rename_i e1;simp only [e1];split at h
       ·rename_i e2;simp only [e2];split at h
        ·rename_i e3;rw [if_pos e3, <- kput_eq hn];exact cK hn h
        ·cases h
       ·cases h
      ·cases h
     ·cases h
     ·rename_i n1 n2;split
      ·rename_i hop; exact (n1 _ _ _ hop).elim
      ·rename_i hop; exact (n2 _ hop).elim
      split at h
      ·rename_i e1;simp only [e1];split at h
       ·rename_i e3;rw [if_pos e3, <- kput_eq hn];exact cK hn h
       ·cases h
      ·rename_i e1;simp only [e1];split at h
       ·rename_i e2;simp only [e2];rw [<- kput_eq hn];exact cK hn h
       ·cases h
    ·rename_i hE;rw [if_neg hE];split at h
     ·rename_i e1;simp only [e1];split at h
      ·rename_i e3;rw [if_pos e3, <- kput_eq hn];exact cK hn h
      ·cases h
     ·rename_i e1;simp only [e1];split at h
      ·rename_i e2;simp only [e2];split at h
       ·rename_i e3;rw [if_pos e3, <- kput_eq hn];exact cK hn h
       ·cases h
      ·cases h

inductive KDRes where
 | nrm (T : Tr) (H : HX) (j : Nat)
 | pan (i : Nat) (f : FuncId) (args : List AV) (H : HX) (j : Nat) (v : AV) (H' : HX) (j' : Nat)

noncomputable def KDRes.un (n : Nat) : KDRes -> DRes
 | .nrm T H j => .nrm (toL n T) H j
 | .pan i f args H j v H' j' => .pan i f args H j v H' j'

noncomputable def rJ (n : Nat) (P : Program) (rows : TypeId -> Bool) (cf : aX) (ops : Array Oper) (lo : List Nat) (D : List AD) : List Nat -> List HX -> Tr -> HX -> Nat -> Option KDRes
 | [], _, T, H, j => some (.nrm T H j)
 | i :: π, hist, T, H, j => match ops[i]? with
  | none => none
  | some o => match mM ops n T o with
   | none => none
   | some false => rJ n P rows cf ops lo D π (if isE o.op = true then hist ++ [H] else hist) (nF n T o.dst (.tup [])) H j
   | some true => if isE o.op = true then
     (match o.op with
     | .call ⟨.value f, args, types⟩ => match mK n T ⟨.value f, args, types⟩ with
      | some (f, args) => match cf f args H j with
       | some (.ret v, H', j') => if mL j j' (toL n T) D (hist ++ [H]) = true then rJ n P rows cf ops lo D π (hist ++ [H]) (nF n T o.dst v) H' j' else none
       | some (.panic v, H', j') => some (.pan i f args H j v H' j')
       | none => none
      | none => none
     | .defer _ => none
     | op => match xsp P rows (kev n T) H j op with
      | some (x, H', j') => if mL j j' (toL n T) D (hist ++ [H]) = true then rJ n P rows cf ops lo D π (hist ++ [H]) (nF n T o.dst x) H' j' else none
      | none => match rA P (kev n T) H op with
       | some (x, H') => rJ n P rows cf ops lo D π (hist ++ [H]) (nF n T o.dst x) H' j
       | none => none)
    else match rA P (kev n T) H o.op with
     | some (x, _) => if (hist.drop (lo.getD i 0)).all (fun G => oB n P T o.op x G) = true then rJ n P rows cf ops lo D π hist (nF n T o.dst x) H j else none
     | none => match xrd P (kev n T) o.op with
      | some x => if hist.length < lo.getD i 0 then rJ n P rows cf ops lo D π hist (nF n T o.dst x) H j else none
      | none => none
theorem fI {n : Nat} (hn : n < 4095) {P : Program} {rows : TypeId -> Bool} {cf : aX} {ops : Array Oper} {lo : List Nat} {D : List AD} : ∀ {π : List Nat} {hist : List HX} {T : Tr} {H : HX} {j : Nat} {r : KDRes}, rJ n P rows cf ops lo D π hist T H j = some r ->
  aAb P rows cf ops lo D π hist (toL n T) H j = some (r.un n)
 | [], hist, T, H, j, r, h => by
  simp only [rJ, bBk] at h;subst h
  rfl
 | i :: π, hist, T, H, j, r, h => by
  simp only [rJ, jJ, jI, lE, pO] at h;simp only [aAb];split at h
  ·cases h
  ·rename_i o ho;simp only [ho];split at h
   ·cases h
   ·rename_i hw;simp only [hw];rw [<- kput_eq hn];exact fI hn h
   ·rename_i hw;simp only [hw];split at h
    ·rename_i hE;rw [if_pos hE];split at h
     ·rename_i hop;rw [hop];split at h
      ·rename_i e1;simp only [e1];split at h
       ·rename_i e2;simp only [e2];split at h
        ·rename_i e3;rw [if_pos e3, <- kput_eq hn];exact fI hn h
        ·cases h
       ·rename_i e2;simp only [e2];simp only [bBk] at h;subst h
        rfl
       ·cases h
      ·cases h
     ·cases h
     ·rename_i n1 n2;split
      ·rename_i hop; exact (n1 _ _ _ hop).elim
      ·rename_i hop; exact (n2 _ hop).elim
      split at h
      ·rename_i e1;simp only [e1];split at h
       ·rename_i e3;rw [if_pos e3, <- kput_eq hn];exact fI hn h
       ·cases h
      ·rename_i e1;simp only [e1];split at h
       ·rename_i e2;simp only [e2];rw [<- kput_eq hn];exact fI hn h
       ·cases h
    ·rename_i hE;rw [if_neg hE];split at h
     ·rename_i e1;simp only [e1];split at h
      ·rename_i e3;rw [if_pos e3, <- kput_eq hn];exact fI hn h
      ·cases h
     ·rename_i e1;simp only [e1];split at h
      ·rename_i e2;simp only [e2];split at h
       ·rename_i e3;rw [if_pos e3, <- kput_eq hn];exact fI hn h
       ·cases h
      ·cases h

noncomputable def aGw (n : Nat) : List Oper -> Tr -> Tr
 | [], T => T
 | o :: l, T => aGw n l (nF n T o.dst .junk)
theorem xU {n : Nat} (hn : n < 4095) : ∀ (l : List Oper) (T : Tr), toL n (aGw n l T) = lC l (toL n T)
 | [], T => rfl
 | o :: l, T => by
  have e : ∀ T, lC (o :: l) T = lC l (tput T o.dst .junk) := fun _ => rfl
  rw [e, <- kput_eq hn];exact xU hn l _


open Go Go.AI

noncomputable def aP1 (n : Nat) (P : Program) (cf : aX) (m : Nat) (o : Oper) (T : Tr) (G : HX) (j : Nat) : Option (AV × HX) :=
 match o.op with
 | .call ⟨.value f, args, types⟩ => match mK n T ⟨.value f, args, types⟩ with
  | some (f, args) => if AV.underL m args = true then (match cf f args G j with
   | some (.ret v, H', j') => if (Nat.beq j' j && Nat.beq H'.length G.length) = true then some (v, H') else none
   | _ => none) else none
  | none => none
 | op => if op.operands.toList.all (fun y => (kev n T y).under m) = true then (match aMm P (kev n T) G op with
  | some (sz, ys) => some (.p (.sl sz ys), G)
  | none => match rA P (kev n T) G op with
   | some (x, H') => if Nat.beq H'.length G.length = true then some (x, H') else none
   | none => none) else none

noncomputable def fJ (n : Nat) (P : Program) (cf : aX) (ops : Array Oper) (p : Pl) (N j : Nat) : List Nat -> Tr -> HX -> List AV -> List HX -> List XO -> List (Nat × List AV × Op × AV) -> Option (RS × Tr)
 | [], T, _, xs, HS, inits, pend => some (⟨xs, HS, inits, toL n T, pend⟩, T)
 | i :: is, T, V, xs, HS, inits, pend => match ops[i]? with
  | none => none
  | some o => match mM ops n T o with
   | none => none
   | some false => if p.fl.contains i = true then none else fJ n P cf ops p N j is (nF n T o.dst (.tup [])) V (xs ++ [.tup []]) (if p.chain ops i = true then HS ++ [V] else HS) inits pend
   | some true => if p.fl.contains i = true then
     (match aGd P (kev n T) (N + inits.length) o.op with
     | some (x, cs) => if p.fl[inits.length]? = some i then fJ n P cf ops p N j is (nF n T o.dst x) V (xs ++ [x]) HS (inits ++ [.cells cs]) pend else none
     | none => none)
    else match aP1 n P cf (N + p.pc i) o T (dW N inits (p.pc i) V) j with
     | some (x, H') => if p.pc i <= inits.length then (if p.chain ops i = true then
       (if (H'.drop N).all alive = true then fJ n P cf ops p N j is (nF n T o.dst x) (H' ++ V.drop (N + p.pc i)) (xs ++ [x]) (HS ++ [H' ++ V.drop (N + p.pc i)]) inits pend else none)
      else fJ n P cf ops p N j is (nF n T o.dst x) V (xs ++ [x]) HS inits (pend ++ [(i, toL n T, o.op, x)])) else none
     | none => none

noncomputable def aGt (n : Nat) (P : Program) (cf : aX) (lt : LT) (ops : Array Oper) (p : Pl) (T : Tr) (H : HX) (j : Nat) (D : List AD) : Option (Tr × HX) :=
 match fJ n P cf ops p H.length j (List.range ops.size) T (H ++ List.replicate p.fl.length .dead) [] [H ++ List.replicate p.fl.length .dead] [] [] with
 | some (R, T1) => if (Nat.beq R.inits.length p.fl.length && dJ H.length D && R.HS.all (fun V => Nat.beq V.length (H.length + p.fl.length) && (List.range (p.fl.length + 1)).all fun k => (dW H.length R.inits k V).all (fG lt (H.length + k))) && aHe P ops p H.length R && aFr ops p H.length R) = true then
   some (T1, dW H.length R.inits p.fl.length (R.HS.getD (cnt ops p fun _ => true) [])) else none
 | none => none
theorem aK3 (n : Nat) (P : Program) (cf : aX) (m : Nat) (o : Oper) (T : Tr) (G : HX) (j : Nat) : aP1 n P cf m o T G j = aG7 P cf m o (toL n T) G j := by
 unfold aP1 aG7;simp only [jI, lE]
 rfl
theorem eZ {n : Nat} (hn : n < 4095) {P : Program} {cf : aX} {ops : Array Oper} {p : Pl} {N j : Nat} : ∀ {l : List Nat} {T : Tr} {V : HX} {xs : List AV} {HS : List HX} {inits : List XO} {pend : List (Nat × List AV × Op × AV)} {R : RS} {T1 : Tr},
  fJ n P cf ops p N j l T V xs HS inits pend = some (R, T1) -> fQ P cf ops p N j l (toL n T) V xs HS inits pend = some R /\ R.T = toL n T1
 | [], T, V, xs, HS, inits, pend, R, T1, h => by
  simp only [fJ, bBk, bBz] at h;obtain ⟨rfl, rfl⟩ := h;exact ⟨rfl, rfl⟩
 | i :: l, T, V, xs, HS, inits, pend, R, T1, h => by
  simp only [fJ, jJ, lE, aK3] at h;simp only [fQ];split at h
  ·cases h
  ·rename_i o ho;simp only [ho];split at h
   ·cases h
   ·rename_i hw;simp only [hw];split at h
    ·cases h
    ·rename_i hf;rw [if_neg hf, <- kput_eq hn];exact eZ hn h
   ·rename_i hw;simp only [hw];split at h
    ·rename_i hf;rw [if_pos hf];split at h
     ·rename_i e1;simp only [e1];split at h
      ·rename_i e2;rw [if_pos e2, <- kput_eq hn];exact eZ hn h
      ·cases h
     ·cases h
    ·rename_i hf;rw [if_neg hf];split at h
     ·rename_i e1;simp only [e1];split at h
      ·rename_i e2;rw [if_pos e2];split at h
       ·rename_i e3;rw [if_pos e3];split at h
        ·rename_i e4;rw [if_pos e4, <- kput_eq hn];exact eZ hn h
        ·cases h
       ·rename_i e3;rw [if_neg e3, <- kput_eq hn];exact eZ hn h
      ·cases h
     ·cases h
theorem aGu {n : Nat} (hn : n < 4095) {P : Program} {cf : aX} {lt : LT} {ops : Array Oper} {p : Pl} {T T' : Tr} {H H' : HX} {j : Nat} {D : List AD} (h : aGt n P cf lt ops p T H j D = some (T', H')) : aG9 P cf lt ops p (toL n T) H j D = some (toL n T', H') := by
 unfold aGt at h;unfold aG9;split at h
 ·rename_i R T1 e1;obtain ⟨q1, q2⟩ := eZ hn e1;simp only [q1];split at h
  ·rename_i e2;simp only [bBk, bBz] at h;obtain ⟨rfl, rfl⟩ := h;rw [if_pos e2, q2]
  ·cases h
 ·cases h


open Go Go.AI

noncomputable def sS (m : Nat) (S : Seat) (P : Program) (fid : FuncId) (cf : Bool -> LT -> aX) (yf : cA) (lt : LT) (rnd : Bool) : Nat -> List It -> Tr -> HX -> Nat -> List AD -> Option (AX × Tr × HX × Nat × List AD)
 | 0, _, _, _, _, _ => none
 | n + 1, k, T, H, j, D => match k with
  | [] => some (.normal, T, H, j, D)
  | .inBlock _ :: k => sS m S P fid cf yf lt rnd n k T H j D
  | .ops all l :: k => match nE m P (S.rows fid) (cf true lt) yf rnd all l T H j D with
   | some (.norm T' H' j' D') => sS m S P fid cf yf lt rnd n k T' H' j' D'
   | some (.pan v T' H' j' D') => some (.panic v, T', H', j', D')
   | none => none
  | .code c :: k => match c with
   | .skip => sS m S P fid cf yf lt rnd n k T H j D
   | .label _ => sS m S P fid cf yf lt rnd n k T H j D
   | .scope c => sS m S P fid cf yf lt rnd n (.code c :: k) T H j D
   | .seq a b => sS m S P fid cf yf lt rnd n (.code a :: .code b :: k) T H j D
   | .block id b => sS m S P fid cf yf lt rnd n (.code b :: .inBlock id :: k) T H j D
   | .loop b => sS m S P fid cf yf lt rnd n (.code b :: .code (.loop b) :: k) T H j D
   | .cond c a b => match kev m T c with
    | .p (.prim (.bool t)) => sS m S P fid cf yf lt rnd n (.code (if t = true then a else b) :: k) T H j D
    | _ => none
   | .exit id => match unw id k with
    | some k' => sS m S P fid cf yf lt rnd n k' T H j D
    | none => some (.exit id, T, H, j, D)
   | .ret => some (.ret, T, H, j, D)
   | .region rid ops draw => if draw = true then
     (match S.plan fid rid with
     | some (lo, _, _, π) =>
       (match rJ m P (S.rows fid) (cf true lt) ops lo D π [] T H j with
       | some (.nrm T' H' j') => sS m S P fid cf yf lt rnd n k T' H' j' D
       | some (.pan i f args H0 j0 v H1 j1) => (match aOt (S.planE fid rid) i with
        | some q => (match eH m P (S.rows fid) (cf true lt) ops q.2.1 D q.2.2.2.2 [] T H j with
         | some (T2, H2, j2) => if aKs ops i (toL m T2) H2 j2 f args H0 j0 j1 D = true then some (.panic v, aGw m ops.toList T2, H1, j1, D) else none
         | none => none)
        | none => none)
       | none => none)
     | none => match S.planF fid rid with
      | some p =>
        (match aGt m P (cf false lt) lt ops p T H j D with
        | some (T', H') => sS m S P fid cf yf lt rnd n k T' H' j D
        | none => none)
      | none => match S.plan2 fid rid with
       | some p =>
         (match eH m P (S.rows fid) (cf true lt) ops p.lo1 D p.π1 [] T H j, eH m P (S.rows fid) (cf true lt) ops p.lo2 D p.π2 [] T H j with
         | some (T', H', j'), some (T2, H2, j2) => if (zN (toL m T') (toL m T2) && eqH H' H2 && Nat.beq j' j2) = true then sS m S P fid cf yf lt rnd n k T' H' j' D else none
         | _, _ => none)
       | none => none)
    else match nE m P (S.rows fid) (cf true lt) yf rnd ops ops.toList T H j D with
     | some (.norm T' H' j' D') => sS m S P fid cf yf lt rnd n k T' H' j' D'
     | some (.pan v T' H' j' D') => some (.panic v, T', H', j', D')
     | none => none
   | .rangeFunc g ps asg bd => if rnd = true then none else match kev m T g with
    | .fn (.func gf) [] cap => if (pM j (toL m T) && H.all (aAl j) && aOy j D && pM j cap) = true then
      (match cf true (⟨j, fid, toL m T, ps, asg, bd⟩ :: lt) gf (.fn (.yield j) [] [] :: cap) (H ++ [.dblk, .loop j .ready none]) (j + 1) with
      | some (.ret _, H2, j2) => match H2[H.length + 1]? with
       | some (.loop i st pend) => if (Nat.beq i j && aBf st && oD pend) = true then
         sS m S P fid cf yf lt rnd n (match pend with | none => k | some c => .code c :: k) T (H2.set (H.length + 1) .dead) j2 ((.yield H.length, [], []) :: D) else none
       | _ => none
      | _ => none) else none
    | _ => none
   | _ => none
theorem aGs {m : Nat} (hm : m < 4095) {S : Seat} {P : Program} {fid : FuncId} {cf : Bool -> LT -> aX} {yf : cA} {lt : LT} {rnd : Bool} : ∀ {n : Nat} {k : List It} {T : Tr} {H : HX} {j : Nat} {D : List AD} {x : AX} {T' : Tr} {H' : HX} {j' : Nat} {D' : List AD}, sS m S P fid cf yf lt rnd n k T H j D = some (x, T', H', j', D') ->
  ev S P fid cf yf lt rnd n k (toL m T) H j D = some (x, toL m T', H', j', D')
 | 0, k, T, H, j, D, x, T', H', j', D', h => by simp [sS] at h
 | n + 1, k, T, H, j, D, x, T', H', j', D', h => by
  have ih := @aGs m hm S P fid cf yf lt rnd n
  have opsCase : ∀ (all : Array Oper) (l : List Oper) (k : List It), (match nE m P (S.rows fid) (cf true lt) yf rnd all l T H j D with
    | some (.norm T' H' j' D') => sS m S P fid cf yf lt rnd n k T' H' j' D'
    | some (.pan v T' H' j' D') => some (.panic v, T', H', j', D')
    | none => none) = some (x, T', H', j', D') -> (match pC P (S.rows fid) (cf true lt) yf rnd all l (toL m T) H j D with
    | some (.norm T' H' j' D') => ev S P fid cf yf lt rnd n k T' H' j' D'
    | some (.pan v T' H' j' D') => some (.panic v, T', H', j', D')
    | none => none) = some (x, toL m T', H', j', D') := by
   intro all l k h;split at h
   ·rename_i e1;simp only [lD hm e1, KOR.un];exact ih h
   ·rename_i e1;simp only [bBk, bBz] at h;obtain ⟨rfl, rfl, rfl, rfl, rfl⟩ := h;simp only [lD hm e1, KOR.un]
   ·cases h
  simp only [sS, lE] at h;simp only [ev];split at h
  ·exact y67
  ·exact ih h
  ·exact opsCase _ _ _ h
  ·split at h
   ·exact ih h
   ·exact ih h
   ·exact ih h
   ·exact ih h
   ·exact ih h
   ·exact ih h
   ·split at h
    ·rename_i e1;simp only [e1];exact ih h
    ·cases h
   ·split at h
    ·rename_i e1;simp only [e1];exact ih h
    ·rename_i e1;simp only [bBk, bBz] at h;obtain ⟨rfl, rfl, rfl, rfl, rfl⟩ := h;simp only [e1]
   ·exact y67
   ·split at h
    ·rename_i e0
     dsimp only
     rw [if_pos e0];split at h
     ·rename_i e1;simp only [e1];split at h
      ·rename_i e2;simp only [fI hm e2, KDRes.un];exact ih h
      ·rename_i e2;simp only [fI hm e2, KDRes.un];split at h
       ·rename_i e3;simp only [e3];split at h
        ·rename_i e4;simp only [cK hm e4];split at h
         ·rename_i e5;rw [if_pos e5];simp only [bBk, bBz] at h;obtain ⟨rfl, rfl, rfl, rfl, rfl⟩ := h;rw [xU hm]
          rfl
         ·cases h
        ·cases h
       ·cases h
      ·cases h
     ·rename_i e1;simp only [e1];split at h
      ·rename_i e2;simp only [e2];split at h
       ·rename_i e3;simp only [aGu hm e3];exact ih h
       ·cases h
      ·rename_i e2;simp only [e2];split at h
       ·rename_i e4;simp only [e4];split at h
        ·rename_i e5 e6;simp only [cK hm e5, cK hm e6];split at h
         ·rename_i e7;rw [if_pos e7];exact ih h
         ·cases h
        ·cases h
       ·cases h
    ·rename_i e0
     dsimp only
     rw [if_neg e0];exact opsCase _ _ _ h
   ·split at h
    ·cases h
    ·rename_i e0
     dsimp only
     rw [if_neg e0];split at h
     ·rename_i e1;simp only [e1];split at h
      ·rename_i e2;rw [if_pos e2];split at h
       ·rename_i e3;simp only [e3];split at h
        ·rename_i e4;simp only [e4];split at h
         ·rename_i e5;rw [if_pos e5];exact ih h
         ·cases h
        ·cases h
       ·cases h
      ·cases h
     ·cases h
   ·cases h


open Go Go.AI

noncomputable def aJs (l : List AV) : Nat -> Tr -> Tr := List.rec (motive := fun _ => Nat -> Tr -> Tr) (fun _ t => t) (fun x _ ih i t => ih (Nat.add i 1) (Tr.put x 12 t i)) l
theorem xG : ∀ (l : List AV) (i : Nat) (t : Tr) (e : Nat), i + l.length < 4095 -> (aJs l i t).get e = if i <= e /\ e < i + l.length then l.getD (e - i) (.tup []) else t.get e
 | [], i, t, e, _ => by
  rw [if_neg (by simp only [bBn]; omega)]; rfl
 | x :: l, i, t, e, h => by
  have h12 : (2 : Nat) ^ 12 = 4096 := rfl;simp only [bBm] at h;show (aJs l (i + 1) (Tr.put x 12 t i)).get e = _;rw [xG l (i + 1) _ e aB, Tr.get_put x 12 t i e (by rw [h12]; omega)];simp only [bBm]
  by_cases h1 : e = i
  ·subst h1;rw [if_neg aB, if_pos rfl, if_pos aB];simp
  ·by_cases h2 : i + 1 <= e /\ e < i + 1 + l.length
   ·rw [if_pos h2, if_pos aB];obtain ⟨q, rfl⟩ : ∃ q, e = i + 1 + q := ⟨e - (i + 1), by omega⟩;rw [show i + 1 + q - (i + 1) = q by omega, show i + 1 + q - i = q + 1 by omega];simp
   ·rw [if_neg h2, if_neg h1, if_neg aB]

noncomputable def aAp (n : Nat) (P : Program) (T : Tr) (H : HX) : List ResultVar -> Option (List AV)
 | [] => some []
 | .tmp t :: rs => (aAp n P T H rs).map fun l => aRq n T t :: l
 | .cell a t :: rs => match aBo P t (aRq n T a) H, aAp n P T H rs with
  | some x, some l => some (x :: l)
  | _, _ => none
theorem vB (n : Nat) (P : Program) (T : Tr) (H : HX) : ∀ rs : List ResultVar, aAp n P T H rs = kP P (toL n T) H rs
 | [] => rfl
 | .tmp t :: rs => by simp only [aAp, kP, vA, vB n P T H rs]
 | .cell a t :: rs => by
  simp only [aAp, kP, vA, vB n P T H rs]
  rfl


open Go Go.AI
theorem aEx {args : List AV} {n : Nat} (h : args.length <= n) (hn : n < 4095) : toL n (aJs args 0 .nil) = slots args n := by
 apply bD3;intro i;simp only [toL, bDo, slots]
 by_cases hi : i < n
 ·rw [List.getElem?_range hi, bCm, xG args 0 .nil i aB]
  by_cases h2 : i < args.length
  ·rw [if_pos aB, bBt h2];simp [h2]
  ·rw [if_neg aB, bCs aB, List.getElem?_replicate, if_pos aB]
   rfl
 ·rw [bDj (by simpa using hi), bDj (by simp; omega)]; rfl
def aGj (S : Seat) (P : Program) (cf : Bool -> LT -> aX) (yf : cA) (keep : Bool) (lt : LT) : aX := fun f args H j => match S.fn f with
    | some fn => match fn.body with
     | some c => match ev S P f cf yf lt false 100000 [.code c] (slots args fn.ntmps) H j [] with
      | some (x, T, H1, j1, D) => if H.length <= H1.length then (match D with
       | (.func d, cap, dargs) :: [] => match x with
        | .exit _ => none
        | x => if (S.fn d).isSome = true then (match aG5 S P cf yf lt d (dargs ++ cap) (match x with | .panic v => some v | _ => none) H1 j1 with
         | some H2 => if H.length <= H2.length then (match kP P T H2 fn.results.toList with
          | some l => (settle lt keep H.length (bO l) H2).map fun q => (.ret q.1, q.2, j1)
          | none => none) else none
         | none => none) else none
       | D => match gY D H1 with
        | some H2 => match x with
         | .exit _ => none
         | .panic v => (settle lt keep H.length v H2).map fun q => (.panic q.1, q.2, j1)
         | _ => match kP P T H2 fn.results.toList with
          | some l => (settle lt keep H.length (bO l) H2).map fun q => (.ret q.1, q.2, j1)
          | none => none
        | none => none) else none
      | none => none
     | none => none
    | none => none

noncomputable def sU (S : Seat) (P : Program) (cf : Bool -> LT -> aX) (yf : cA) (keep : Bool) (lt : LT) : aX := fun f args H j => match S.fn f with
  | some fn => match fn.body with
   | some c => if (Nat.ble args.length fn.ntmps && Nat.blt fn.ntmps 4095) = true then (match sS fn.ntmps S P f cf yf lt false 100000 [.code c] (aJs args 0 .nil) H j [] with
    | some (x, T, H1, j1, D) => if H.length <= H1.length then (match D with
     | (.func d, cap, dargs) :: [] => match x with
      | .exit _ => none
      | x => if (S.fn d).isSome = true then (match aG5 S P cf yf lt d (dargs ++ cap) (match x with | .panic v => some v | _ => none) H1 j1 with
       | some H2 => if H.length <= H2.length then (match aAp fn.ntmps P T H2 fn.results.toList with
        | some l => (settle lt keep H.length (bO l) H2).map fun q => (.ret q.1, q.2, j1)
        | none => none) else none
       | none => none) else none
     | D => match gY D H1 with
      | some H2 => match x with
       | .exit _ => none
       | .panic v => (settle lt keep H.length v H2).map fun q => (.panic q.1, q.2, j1)
       | _ => match aAp fn.ntmps P T H2 fn.results.toList with
        | some l => (settle lt keep H.length (bO l) H2).map fun q => (.ret q.1, q.2, j1)
        | none => none
      | none => none) else none
    | none => none) else none
   | none => none
  | none => none
theorem aG6 (S : Seat) (P : Program) (cf : Bool -> LT -> aX) (yf : cA) (keep : Bool) (lt : LT) (f : FuncId) (args : List AV) (H : HX) (j : Nat) : evG S P cf yf keep lt f args H j = aB3 j (aGj S P cf yf keep lt f args H j) := rfl
theorem aGv {S : Seat} {P : Program} {cf : Bool -> LT -> aX} {yf : cA} {keep : Bool} {lt : LT} {f : FuncId} {args : List AV} {H : HX} {j : Nat} {r : AOut × HX × Nat} (h : sU S P cf yf keep lt f args H j = some r) : aGj S P cf yf keep lt f args H j = some r := by
 unfold sU at h;unfold aGj
 cases e1 : S.fn f with
 | none => rw [e1] at h; cases h
 | some fn =>
  rw [e1] at h
  dsimp only at h ⊢
  cases e2 : fn.body with
  | none => rw [e2] at h; cases h
  | some c =>
   rw [e2] at h
   dsimp only at h ⊢
   split at h
   ·rename_i hc;simp only [bBs] at hc;have h1 := Nat.le_of_ble_eq_true hc.1;have h2 : fn.ntmps < 4095 := Nat.le_of_ble_eq_true hc.2;split at h
    ·rename_i x T H1 j1 D e3;have e4 := aGs h2 e3;rw [aEx h1 h2] at e4;simp only [e4];simp only [vB] at h;exact h
    ·cases h
   ·cases h


open Go Go.AI
theorem xV {S : Seat} {P : Program} {cf : Bool -> LT -> aX} {yf : cA} {keep : Bool} {lt : LT} {f : FuncId} {args : List AV} {H : HX} {j : Nat} {r : AOut × HX × Nat} (h : aB3 j (sU S P cf yf keep lt f args H j) = some r) : evG S P cf yf keep lt f args H j = some r := by
 rw [aG6]
 cases e : sU S P cf yf keep lt f args H j with
 | none => rw [e] at h; cases h
 | some q => rw [aGv e, <- e]; exact h

end Go.AI.EV

namespace Go.AI

open Go

mutual
theorem RepP.roMono {E E' : Env} {w : World} (h : ∀ b off, E.ro b off -> E'.ro b off) : ∀ {x : PV} {v : Value}, RepP E w x v -> RepP E' w x v
 | .prim _, _, r => by simpa only [RepP] using r
 | .sl sz es, v, r => by
  simp only [RepP] at r ⊢;obtain ⟨a, cap, e, hc, r⟩ := r;refine ⟨a, cap, e, hc, r.imp id ?_⟩;rintro ⟨b, off, ea, r⟩;exact ⟨b, off, ea, RepEs.roMono h r⟩
 | .ro cs, v, r => by
  simp only [RepP] at r ⊢;obtain ⟨b, off, e, r⟩ := r;exact ⟨b, off, e, RepAt.roMono h r⟩
 | .ifc t x, v, r => by
  simp only [RepP] at r ⊢; obtain ⟨u, e, r⟩ := r; exact ⟨u, e, RepP.roMono h r⟩
theorem RepAt.roMono {E E' : Env} {w : World} (h : ∀ b off, E.ro b off -> E'.ro b off) {b : Nat} : ∀ {xs : List PV} {off : Nat}, RepAt E w b off xs -> RepAt E' w b off xs
 | [], _, _ => by simp only [RepAt]
 | x :: xs, off, r => by
  simp only [RepAt] at r ⊢;obtain ⟨v, ho, e, r1, r2⟩ := r;exact ⟨v, h _ _ ho, e, RepP.roMono h r1, RepAt.roMono h r2⟩
theorem RepEs.roMono {E E' : Env} {w : World} (h : ∀ b off, E.ro b off -> E'.ro b off) {b sz : Nat} : ∀ {es : List (List PV)} {off : Nat}, RepEs E w b sz off es -> RepEs E' w b sz off es
 | [], _, _ => by simp only [RepEs]
 | e :: es, off, r => by
  simp only [RepEs] at r ⊢;exact ⟨r.1, RepAt.roMono h r.2.1, RepEs.roMono h r.2.2⟩
end
def roW (W : World) : Env := { ro := fun b _ => b < W.heap.size, g := fun _ => none, t := fun _ => none }
theorem Rel.later {E : Env} {h : Nat -> Option AO} {w w' : World} (r : Rel E h w) (hs : ∀ b, b < w.heap.size -> w'.heap[b]? = w.heap[b]?) (hsz : w.heap.size <= w'.heap.size) (kp : Kp w w') : Rel E h w' /\ Fr E h w E h w' := by
 have hx : Ext E w E w' := ⟨fun _ _ h => h, fun b off hb => bI (hs b (r.lt b off hb)) off, fun _ _ h => h, fun _ L h => ⟨L, h, bBh _, fun _ => rfl⟩⟩;refine ⟨⟨fun id o h1 h2 => ?_, fun id o n sz m cs h1 h2 => ?_, r.inj, r.sepO, r.sepT, fun b off hb => Nat.lt_of_lt_of_le (r.lt b off hb) hsz⟩, ⟨fun b hb _ => hs b hb, hx, fun _ _ h => .inl h, hsz, fun _ h => .inl h, kp⟩⟩
 ·obtain ⟨b, g, hb⟩ := r.objsO id o h1 h2;exact ⟨b, g, hb.move hx (hs b hb.lt)⟩
 ·obtain ⟨blk, cap, g1, g2, g3, g4⟩ := r.toks id o n sz m cs h1 h2;refine ⟨blk, cap, g1, g2, g3, fun b hb => ?_⟩;obtain ⟨vs, k1, k2, k3⟩ := g4 b hb;exact ⟨vs, k1.same (hs b k1.lt), k2, k3.ext hx⟩
def Lend (h : Heap) (x y : AV) : Prop := ∀ E w v, Rel E h.at w -> Rep E w x v -> Rep (roW w) w y v
def LendL (h : Heap) (xs ys : List AV) : Prop := ∀ E w vs, Rel E h.at w -> RepL E w xs vs -> RepL (roW w) w ys vs
theorem LendL.nil {h : Heap} : LendL h [] [] := fun E w vs _ r => by simpa only [RepL] using r
theorem LendL.cons {h : Heap} {x y : AV} {xs ys : List AV} (a : Lend h x y) (b : LendL h xs ys) : LendL h (x :: xs) (y :: ys) := fun E w vs hr r => by
 simp only [RepL] at r ⊢;obtain ⟨v, us, e, r1, r2⟩ := r;exact ⟨v, us, e, a E w v hr r1, b E w us hr r2⟩
theorem Lend.p {h : Heap} (x : PV) : Lend h (.p x) (.p x) := fun E w v hr r => by
 simp only [Rep] at r ⊢;exact r.roMono fun b off hb => hr.lt b off hb

end Go.AI
