import Derived.Test.YtfajdeofhioakaaGreatAEVz

namespace Go.AI.EV

open Go Go.AI

noncomputable def kevR1 (n : Nat) (P : Program) (cf : CallF) (m : Nat) (o : Oper) (T : Tr) (G : HX) (j : Nat) : Option (AV × HX) :=
 match o.op with
 | .call ⟨.value f, args, types⟩ => match kcallee n T ⟨.value f, args, types⟩ with
  | some (f, args) => if AV.underL m args = true then (match cf f args G j with
   | some (.ret v, H', j') => if (Nat.beq j' j && Nat.beq H'.length G.length) = true then some (v, H') else none
   | _ => none) else none
  | none => none
 | op => if op.operands.toList.all (fun y => (kev n T y).under m) = true then (match xapN P (kev n T) G op with
  | some (sz, ys) => some (.p (.sl sz ys), G)
  | none => match xaop P (kev n T) G op with
   | some (x, H') => if Nat.beq H'.length G.length = true then some (x, H') else none
   | none => none) else none

noncomputable def kregLoop (n : Nat) (P : Program) (cf : CallF) (ops : Array Oper) (p : Pl) (N j : Nat) : List Nat → Tr → HX → List AV → List HX → List XO → List (Nat × List AV × Op × AV) → Option (RS × Tr)
 | [], T, _, xs, HS, inits, pend => some (⟨xs, HS, inits, toL n T, pend⟩, T)
 | i :: is, T, V, xs, HS, inits, pend => match ops[i]? with
  | none => none
  | some o => match kwanted ops n T o with
   | none => none
   | some false => if p.fl.contains i = true then none else kregLoop n P cf ops p N j is (kput n T o.dst (.tup [])) V (xs ++ [.tup []]) (if p.chain ops i = true then HS ++ [V] else HS) inits pend
   | some true => if p.fl.contains i = true then
     (match fobj P (kev n T) (N + inits.length) o.op with
     | some (x, cs) => if p.fl[inits.length]? = some i then kregLoop n P cf ops p N j is (kput n T o.dst x) V (xs ++ [x]) HS (inits ++ [.cells cs]) pend else none
     | none => none)
    else match kevR1 n P cf (N + p.pc i) o T (gfill N inits (p.pc i) V) j with
     | some (x, H') => if p.pc i ≤ inits.length then (if p.chain ops i = true then
       (if (H'.drop N).all alive = true then kregLoop n P cf ops p N j is (kput n T o.dst x) (H' ++ V.drop (N + p.pc i)) (xs ++ [x]) (HS ++ [H' ++ V.drop (N + p.pc i)]) inits pend else none)
      else kregLoop n P cf ops p N j is (kput n T o.dst x) V (xs ++ [x]) HS inits (pend ++ [(i, toL n T, o.op, x)])) else none
     | none => none

noncomputable def kevReg (n : Nat) (P : Program) (cf : CallF) (lt : LT) (ops : Array Oper) (p : Pl) (T : Tr) (H : HX) (j : Nat) (D : List AD) : Option (Tr × HX) :=
 match kregLoop n P cf ops p H.length j (List.range ops.size) T (H ++ List.replicate p.fl.length .dead) [] [H ++ List.replicate p.fl.length .dead] [] [] with
 | some (R, T1) => if (Nat.beq R.inits.length p.fl.length && underD H.length D && R.HS.all (fun V => Nat.beq V.length (H.length + p.fl.length) && (List.range (p.fl.length + 1)).all fun k => (gfill H.length R.inits k V).all (xunder lt (H.length + k))) && pendOk P ops p H.length R && deadOk ops p H.length R) = true then
   some (T1, gfill H.length R.inits p.fl.length (R.HS.getD (cnt ops p fun _ => true) [])) else none
 | none => none
theorem kevR1_eq (n : Nat) (P : Program) (cf : CallF) (m : Nat) (o : Oper) (T : Tr) (G : HX) (j : Nat) : kevR1 n P cf m o T G j = evR1 P cf m o (toL n T) G j := by
 unfold kevR1 evR1
 simp only [kcallee_eq, kev_eq]
 rfl
theorem kregLoop_of {n : Nat} (hn : n < 4095) {P : Program} {cf : CallF} {ops : Array Oper} {p : Pl} {N j : Nat} : ∀ {l : List Nat} {T : Tr} {V : HX} {xs : List AV} {HS : List HX} {inits : List XO} {pend : List (Nat × List AV × Op × AV)} {R : RS} {T1 : Tr},
  kregLoop n P cf ops p N j l T V xs HS inits pend = some (R, T1) → regLoop P cf ops p N j l (toL n T) V xs HS inits pend = some R ∧ R.T = toL n T1
 | [], T, V, xs, HS, inits, pend, R, T1, h => by
  simp only [kregLoop, Option.some.injEq, Prod.mk.injEq] at h
  obtain ⟨rfl, rfl⟩ := h
  exact ⟨rfl, rfl⟩
 | i :: l, T, V, xs, HS, inits, pend, R, T1, h => by
  simp only [kregLoop, kwanted_eq, kev_eq, kevR1_eq] at h
  simp only [regLoop]
  split at h
  ·cases h
  ·rename_i o ho
   simp only [ho]
   split at h
   ·cases h
   ·rename_i hw
    simp only [hw]
    split at h
    ·cases h
    ·rename_i hf
     rw [if_neg hf, ← kput_eq hn]
     exact kregLoop_of hn h
   ·rename_i hw
    simp only [hw]
    split at h
    ·rename_i hf
     rw [if_pos hf]
     split at h
     ·rename_i e1
      simp only [e1]
      split at h
      ·rename_i e2
       rw [if_pos e2, ← kput_eq hn]
       exact kregLoop_of hn h
      ·cases h
     ·cases h
    ·rename_i hf
     rw [if_neg hf]
     split at h
     ·rename_i e1
      simp only [e1]
      split at h
      ·rename_i e2
       rw [if_pos e2]
       split at h
       ·rename_i e3
        rw [if_pos e3]
        split at h
        ·rename_i e4
         rw [if_pos e4, ← kput_eq hn]
         exact kregLoop_of hn h
        ·cases h
       ·rename_i e3
        rw [if_neg e3, ← kput_eq hn]
        exact kregLoop_of hn h
      ·cases h
     ·cases h
theorem kevReg_of {n : Nat} (hn : n < 4095) {P : Program} {cf : CallF} {lt : LT} {ops : Array Oper} {p : Pl} {T T' : Tr} {H H' : HX} {j : Nat} {D : List AD} (h : kevReg n P cf lt ops p T H j D = some (T', H')) : evReg P cf lt ops p (toL n T) H j D = some (toL n T', H') := by
 unfold kevReg at h
 unfold evReg
 split at h
 ·rename_i R T1 e1
  obtain ⟨q1, q2⟩ := kregLoop_of hn e1
  simp only [q1]
  split at h
  ·rename_i e2
   simp only [Option.some.injEq, Prod.mk.injEq] at h
   obtain ⟨rfl, rfl⟩ := h
   rw [if_pos e2, q2]
  ·cases h
 ·cases h


open Go Go.AI

noncomputable def kevC (m : Nat) (S : Seat) (P : Program) (fid : FuncId) (cf : Bool → LT → CallF) (yf : YieldF) (lt : LT) (rnd : Bool) : Nat → List It → Tr → HX → Nat → List AD → Option (AX × Tr × HX × Nat × List AD)
 | 0, _, _, _, _, _ => none
 | n + 1, k, T, H, j, D => match k with
  | [] => some (.normal, T, H, j, D)
  | .inBlock _ :: k => kevC m S P fid cf yf lt rnd n k T H j D
  | .ops all l :: k => match kevOps m P (S.rows fid) (cf true lt) yf rnd all l T H j D with
   | some (.norm T' H' j' D') => kevC m S P fid cf yf lt rnd n k T' H' j' D'
   | some (.pan v T' H' j' D') => some (.panic v, T', H', j', D')
   | none => none
  | .code c :: k => match c with
   | .skip => kevC m S P fid cf yf lt rnd n k T H j D
   | .label _ => kevC m S P fid cf yf lt rnd n k T H j D
   | .scope c => kevC m S P fid cf yf lt rnd n (.code c :: k) T H j D
   | .seq a b => kevC m S P fid cf yf lt rnd n (.code a :: .code b :: k) T H j D
   | .block id b => kevC m S P fid cf yf lt rnd n (.code b :: .inBlock id :: k) T H j D
   | .loop b => kevC m S P fid cf yf lt rnd n (.code b :: .code (.loop b) :: k) T H j D
   | .cond c a b => match kev m T c with
    | .p (.prim (.bool t)) => kevC m S P fid cf yf lt rnd n (.code (if t = true then a else b) :: k) T H j D
    | _ => none
   | .exit id => match unw id k with
    | some k' => kevC m S P fid cf yf lt rnd n k' T H j D
    | none => some (.exit id, T, H, j, D)
   | .ret => some (.ret, T, H, j, D)
   | .region rid ops draw => if draw = true then
     (match S.plan fid rid with
     | some (lo, _, _, π) =>
       (match kevDraw m P (S.rows fid) (cf true lt) ops lo D π [] T H j with
       | some (T', H', j') => kevC m S P fid cf yf lt rnd n k T' H' j' D
       | none => none)
     | none => match S.planF fid rid with
      | some p =>
        (match kevReg m P (cf false lt) lt ops p T H j D with
        | some (T', H') => kevC m S P fid cf yf lt rnd n k T' H' j D
        | none => none)
      | none => none)
    else match kevOps m P (S.rows fid) (cf true lt) yf rnd ops ops.toList T H j D with
     | some (.norm T' H' j' D') => kevC m S P fid cf yf lt rnd n k T' H' j' D'
     | some (.pan v T' H' j' D') => some (.panic v, T', H', j', D')
     | none => none
   | .rangeFunc g ps asg bd => if rnd = true then none else match kev m T g with
    | .fn (.func gf) [] cap => if (jokL j (toL m T) && H.all (jokO j) && jokD j D && jokL j cap) = true then
      (match cf true (⟨j, fid, toL m T, ps, asg, bd⟩ :: lt) gf (.fn (.yield j) [] [] :: cap) (H ++ [.dblk, .loop j .ready none]) (j + 1) with
      | some (.ret _, H2, j2) => match H2[H.length + 1]? with
       | some (.loop i st pend) => if (Nat.beq i j && stopped st && pendCalm pend) = true then
         kevC m S P fid cf yf lt rnd n (match pend with | none => k | some c => .code c :: k) T (H2.set (H.length + 1) .dead) j2 ((.yield H.length, [], []) :: D) else none
       | _ => none
      | _ => none) else none
    | _ => none
   | _ => none
theorem kevC_of {m : Nat} (hm : m < 4095) {S : Seat} {P : Program} {fid : FuncId} {cf : Bool → LT → CallF} {yf : YieldF} {lt : LT} {rnd : Bool} : ∀ {n : Nat} {k : List It} {T : Tr} {H : HX} {j : Nat} {D : List AD} {x : AX} {T' : Tr} {H' : HX} {j' : Nat} {D' : List AD}, kevC m S P fid cf yf lt rnd n k T H j D = some (x, T', H', j', D') →
  ev S P fid cf yf lt rnd n k (toL m T) H j D = some (x, toL m T', H', j', D')
 | 0, k, T, H, j, D, x, T', H', j', D', h => by simp [kevC] at h
 | n + 1, k, T, H, j, D, x, T', H', j', D', h => by
  have ih := @kevC_of m hm S P fid cf yf lt rnd n
  have opsCase : ∀ (all : Array Oper) (l : List Oper) (k : List It), (match kevOps m P (S.rows fid) (cf true lt) yf rnd all l T H j D with
    | some (.norm T' H' j' D') => kevC m S P fid cf yf lt rnd n k T' H' j' D'
    | some (.pan v T' H' j' D') => some (.panic v, T', H', j', D')
    | none => none) = some (x, T', H', j', D') → (match evOps P (S.rows fid) (cf true lt) yf rnd all l (toL m T) H j D with
    | some (.norm T' H' j' D') => ev S P fid cf yf lt rnd n k T' H' j' D'
    | some (.pan v T' H' j' D') => some (.panic v, T', H', j', D')
    | none => none) = some (x, toL m T', H', j', D') := by
   intro all l k h
   split at h
   ·rename_i e1
    simp only [kevOps_of hm e1, KOR.un]
    exact ih h
   ·rename_i e1
    simp only [Option.some.injEq, Prod.mk.injEq] at h
    obtain ⟨rfl, rfl, rfl, rfl, rfl⟩ := h
    simp only [kevOps_of hm e1, KOR.un]
   ·cases h
  simp only [kevC, kev_eq] at h
  simp only [ev]
  split at h
  ·simp only [Option.some.injEq, Prod.mk.injEq] at h
   obtain ⟨rfl, rfl, rfl, rfl, rfl⟩ := h
   rfl
  ·exact ih h
  ·exact opsCase _ _ _ h
  ·split at h
   ·exact ih h
   ·exact ih h
   ·exact ih h
   ·exact ih h
   ·exact ih h
   ·exact ih h
   ·split at h
    ·rename_i e1
     simp only [e1]
     exact ih h
    ·cases h
   ·split at h
    ·rename_i e1
     simp only [e1]
     exact ih h
    ·rename_i e1
     simp only [Option.some.injEq, Prod.mk.injEq] at h
     obtain ⟨rfl, rfl, rfl, rfl, rfl⟩ := h
     simp only [e1]
   ·simp only [Option.some.injEq, Prod.mk.injEq] at h
    obtain ⟨rfl, rfl, rfl, rfl, rfl⟩ := h
    rfl
   ·split at h
    ·rename_i e0
     dsimp only
     rw [if_pos e0]
     split at h
     ·rename_i e1
      simp only [e1]
      split at h
      ·rename_i e2
       simp only [kevDraw_of hm e2]
       exact ih h
      ·cases h
     ·rename_i e1
      simp only [e1]
      split at h
      ·rename_i e2
       simp only [e2]
       split at h
       ·rename_i e3
        simp only [kevReg_of hm e3]
        exact ih h
       ·cases h
      ·cases h
    ·rename_i e0
     dsimp only
     rw [if_neg e0]
     exact opsCase _ _ _ h
   ·split at h
    ·cases h
    ·rename_i e0
     dsimp only
     rw [if_neg e0]
     split at h
     ·rename_i e1
      simp only [e1]
      split at h
      ·rename_i e2
       rw [if_pos e2]
       split at h
       ·rename_i e3
        simp only [e3]
        split at h
        ·rename_i e4
         simp only [e4]
         split at h
         ·rename_i e5
          rw [if_pos e5]
          exact ih h
         ·cases h
        ·cases h
       ·cases h
      ·cases h
     ·cases h
   ·cases h


open Go Go.AI

noncomputable def fromL (l : List AV) : Nat → Tr → Tr := List.rec (motive := fun _ => Nat → Tr → Tr) (fun _ t => t) (fun x _ ih i t => ih (Nat.add i 1) (Tr.put x 12 t i)) l
theorem fromL_get : ∀ (l : List AV) (i : Nat) (t : Tr) (e : Nat), i + l.length < 4095 → (fromL l i t).get e = if i ≤ e ∧ e < i + l.length then l.getD (e - i) (.tup []) else t.get e
 | [], i, t, e, _ => by
  rw [if_neg (by simp only [List.length_nil]; omega)]; rfl
 | x :: l, i, t, e, h => by
  have h12 : (2 : Nat) ^ 12 = 4096 := rfl
  simp only [List.length_cons] at h
  show (fromL l (i + 1) (Tr.put x 12 t i)).get e = _
  rw [fromL_get l (i + 1) _ e (by omega), Tr.get_put x 12 t i e (by rw [h12]; omega)]
  simp only [List.length_cons]
  by_cases h1 : e = i
  ·subst h1
   rw [if_neg (by omega), if_pos rfl, if_pos (by omega)]
   simp
  ·by_cases h2 : i + 1 ≤ e ∧ e < i + 1 + l.length
   ·rw [if_pos h2, if_pos (by omega)]
    obtain ⟨q, rfl⟩ : ∃ q, e = i + 1 + q := ⟨e - (i + 1), by omega⟩
    rw [show i + 1 + q - (i + 1) = q by omega, show i + 1 + q - i = q + 1 by omega]
    simp
   ·rw [if_neg h2, if_neg h1, if_neg (by omega)]

noncomputable def kresX (n : Nat) (P : Program) (T : Tr) (H : HX) : List ResultVar → Option (List AV)
 | [] => some []
 | .tmp t :: rs => (kresX n P T H rs).map fun l => kget n T t :: l
 | .cell a t :: rs => match xload P t (kget n T a) H, kresX n P T H rs with
  | some x, some l => some (x :: l)
  | _, _ => none
theorem kresX_eq (n : Nat) (P : Program) (T : Tr) (H : HX) : ∀ rs : List ResultVar, kresX n P T H rs = aresX P (toL n T) H rs
 | [] => rfl
 | .tmp t :: rs => by simp only [kresX, aresX, kget_eq, kresX_eq n P T H rs]
 | .cell a t :: rs => by
  simp only [kresX, aresX, kget_eq, kresX_eq n P T H rs]
  rfl


open Go Go.AI
theorem slots_from {args : List AV} {n : Nat} (h : args.length ≤ n) (hn : n < 4095) : toL n (fromL args 0 .nil) = slots args n := by
 apply List.ext_getElem?
 intro i
 simp only [toL, List.getElem?_map, slots]
 by_cases hi : i < n
 ·rw [List.getElem?_range hi, Option.map_some, fromL_get args 0 .nil i (by omega)]
  by_cases h2 : i < args.length
  ·rw [if_pos (by omega), List.getElem?_append_left h2]
   simp [h2]
  ·rw [if_neg (by omega), List.getElem?_append_right (by omega), List.getElem?_replicate, if_pos (by omega)]
   rfl
 ·rw [List.getElem?_eq_none (by simpa using hi), List.getElem?_eq_none (by simp; omega)]; rfl
def ginner (S : Seat) (P : Program) (cf : Bool → LT → CallF) (yf : YieldF) (keep : Bool) (lt : LT) : CallF := fun f args H j => match S.fn f with
    | some fn => match fn.body with
     | some c => match ev S P f cf yf lt false 100000 [.code c] (slots args fn.ntmps) H j [] with
      | some (x, T, H1, j1, D) => if H.length ≤ H1.length then (match D with
       | (.func d, cap, dargs) :: [] => match x with
        | .exit _ => none
        | x => if (S.fn d).isSome = true then (match evDef S P cf yf lt d (dargs ++ cap) (match x with | .panic v => some v | _ => none) H1 j1 with
         | some H2 => if H.length ≤ H2.length then (match aresX P T H2 fn.results.toList with
          | some l => (settle lt keep H.length (atuple l) H2).map fun q => (.ret q.1, q.2, j1)
          | none => none) else none
         | none => none) else none
       | D => match unmark D H1 with
        | some H2 => match x with
         | .exit _ => none
         | .panic v => (settle lt keep H.length v H2).map fun q => (.panic q.1, q.2, j1)
         | _ => match aresX P T H2 fn.results.toList with
          | some l => (settle lt keep H.length (atuple l) H2).map fun q => (.ret q.1, q.2, j1)
          | none => none
        | none => none) else none
      | none => none
     | none => none
    | none => none

noncomputable def kinner (S : Seat) (P : Program) (cf : Bool → LT → CallF) (yf : YieldF) (keep : Bool) (lt : LT) : CallF := fun f args H j => match S.fn f with
  | some fn => match fn.body with
   | some c => if (Nat.ble args.length fn.ntmps && Nat.blt fn.ntmps 4095) = true then (match kevC fn.ntmps S P f cf yf lt false 100000 [.code c] (fromL args 0 .nil) H j [] with
    | some (x, T, H1, j1, D) => if H.length ≤ H1.length then (match D with
     | (.func d, cap, dargs) :: [] => match x with
      | .exit _ => none
      | x => if (S.fn d).isSome = true then (match evDef S P cf yf lt d (dargs ++ cap) (match x with | .panic v => some v | _ => none) H1 j1 with
       | some H2 => if H.length ≤ H2.length then (match kresX fn.ntmps P T H2 fn.results.toList with
        | some l => (settle lt keep H.length (atuple l) H2).map fun q => (.ret q.1, q.2, j1)
        | none => none) else none
       | none => none) else none
     | D => match unmark D H1 with
      | some H2 => match x with
       | .exit _ => none
       | .panic v => (settle lt keep H.length v H2).map fun q => (.panic q.1, q.2, j1)
       | _ => match kresX fn.ntmps P T H2 fn.results.toList with
        | some l => (settle lt keep H.length (atuple l) H2).map fun q => (.ret q.1, q.2, j1)
        | none => none
      | none => none) else none
    | none => none) else none
   | none => none
  | none => none
theorem evG_inner (S : Seat) (P : Program) (cf : Bool → LT → CallF) (yf : YieldF) (keep : Bool) (lt : LT) (f : FuncId) (args : List AV) (H : HX) (j : Nat) : evG S P cf yf keep lt f args H j = relet j (ginner S P cf yf keep lt f args H j) := rfl
theorem kinner_of {S : Seat} {P : Program} {cf : Bool → LT → CallF} {yf : YieldF} {keep : Bool} {lt : LT} {f : FuncId} {args : List AV} {H : HX} {j : Nat} {r : AOut × HX × Nat} (h : kinner S P cf yf keep lt f args H j = some r) : ginner S P cf yf keep lt f args H j = some r := by
 unfold kinner at h
 unfold ginner
 cases e1 : S.fn f with
 | none => rw [e1] at h; cases h
 | some fn =>
  rw [e1] at h
  dsimp only at h ⊢
  cases e2 : fn.body with
  | none => rw [e2] at h; cases h
  | some c =>
   rw [e2] at h
   dsimp only at h ⊢
   split at h
   ·rename_i hc
    simp only [Bool.and_eq_true] at hc
    have h1 := Nat.le_of_ble_eq_true hc.1
    have h2 : fn.ntmps < 4095 := Nat.le_of_ble_eq_true hc.2
    split at h
    ·rename_i x T H1 j1 D e3
     have e4 := kevC_of h2 e3
     rw [slots_from h1 h2] at e4
     simp only [e4]
     simp only [kresX_eq] at h
     exact h
    ·cases h
   ·cases h


open Go Go.AI
theorem krelet_of {S : Seat} {P : Program} {cf : Bool → LT → CallF} {yf : YieldF} {keep : Bool} {lt : LT} {f : FuncId} {args : List AV} {H : HX} {j : Nat} {r : AOut × HX × Nat} (h : relet j (kinner S P cf yf keep lt f args H j) = some r) : evG S P cf yf keep lt f args H j = some r := by
 rw [evG_inner]
 cases e : kinner S P cf yf keep lt f args H j with
 | none => rw [e] at h; cases h
 | some q => rw [kinner_of e, ← e]; exact h

end Go.AI.EV
