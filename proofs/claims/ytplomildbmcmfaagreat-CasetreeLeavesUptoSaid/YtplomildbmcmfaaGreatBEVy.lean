/-
  One operation, and a list of them, over slots in a trie.
-/
import Derived.Test.YtplomildbmcmfaaGreatBEVs

namespace Go.AI.EV

open Go Go.AI

inductive Tr where
  | nil
  | nd (x : AV) (l r : Tr)

noncomputable def Tr.get (t : Tr) : Nat → AV :=
  Tr.rec (motive := fun _ => Nat → AV) (fun _ => .tup [])
    (fun x _ _ il ir n => Nat.rec (motive := fun _ => AV) x (fun m _ => Bool.rec (motive := fun _ => AV) (ir (Nat.div m 2)) (il (Nat.div m 2)) (Nat.beq (Nat.mod m 2) 0)) n) t

noncomputable def Tr.put (y : AV) (fuel : Nat) : Tr → Nat → Tr :=
  Nat.rec (motive := fun _ => Tr → Nat → Tr) (fun t _ => t) (fun _ ih t n => Tr.rec (motive := fun _ => Tr)
    (Nat.rec (motive := fun _ => Tr) (.nd y .nil .nil) (fun m _ => Bool.rec (motive := fun _ => Tr) (.nd (.tup []) .nil (ih .nil (Nat.div m 2))) (.nd (.tup []) (ih .nil (Nat.div m 2)) .nil) (Nat.beq (Nat.mod m 2) 0)) n)
    (fun x l r _ _ => Nat.rec (motive := fun _ => Tr) (.nd y l r) (fun m _ => Bool.rec (motive := fun _ => Tr) (.nd x l (ih r (Nat.div m 2))) (.nd x (ih l (Nat.div m 2)) r) (Nat.beq (Nat.mod m 2) 0)) n) t) fuel
theorem Tr.get_nil (n : Nat) : Tr.get .nil n = .tup [] := rfl
theorem Tr.get_succ (x : AV) (l r : Tr) (m : Nat) : Tr.get (.nd x l r) (m + 1) = if m % 2 = 0 then l.get (m / 2) else r.get (m / 2) := by
  have e : Tr.get (.nd x l r) (m + 1) = Bool.rec (motive := fun _ => AV) (r.get (m / 2)) (l.get (m / 2)) (Nat.beq (m % 2) 0) := rfl
  rw [e]
  by_cases h : m % 2 = 0
  · rw [if_pos h, h]; rfl
  · rw [if_neg h]
    cases hb : Nat.beq (m % 2) 0 with
    | true => exact absurd (Nat.eq_of_beq_eq_true hb) h
    | false => rfl
def Tr.val : Tr → AV
  | .nil => .tup []
  | .nd x _ _ => x
def Tr.lt : Tr → Tr
  | .nil => .nil
  | .nd _ l _ => l
def Tr.rt : Tr → Tr
  | .nil => .nil
  | .nd _ _ r => r
theorem Tr.put_zero (y : AV) (k : Nat) (t : Tr) : Tr.put y (k + 1) t 0 = .nd y t.lt t.rt := by cases t <;> rfl
theorem Tr.put_succ (y : AV) (k : Nat) (t : Tr) (m : Nat) : Tr.put y (k + 1) t (m + 1) = if m % 2 = 0 then .nd t.val (Tr.put y k t.lt (m / 2)) t.rt else .nd t.val t.lt (Tr.put y k t.rt (m / 2)) := by
  have e : Tr.put y (k + 1) t (m + 1) = Bool.rec (motive := fun _ => Tr) (.nd t.val t.lt (Tr.put y k t.rt (m / 2))) (.nd t.val (Tr.put y k t.lt (m / 2)) t.rt) (Nat.beq (m % 2) 0) := by cases t <;> rfl
  rw [e]
  by_cases h : m % 2 = 0
  · rw [if_pos h, h]; rfl
  · rw [if_neg h]
    cases hb : Nat.beq (m % 2) 0 with
    | true => exact absurd (Nat.eq_of_beq_eq_true hb) h
    | false => rfl
theorem Tr.get_eq (t : Tr) (n : Nat) : t.get n = match n with | 0 => t.val | m + 1 => if m % 2 = 0 then t.lt.get (m / 2) else t.rt.get (m / 2) := by
  cases t with
  | nil => cases n <;> simp [Tr.get_nil, Tr.val, Tr.lt, Tr.rt]
  | nd x l r => cases n with
    | zero => rfl
    | succ m => rw [Tr.get_succ]; rfl
theorem Tr.get_put (y : AV) : ∀ (k : Nat) (t : Tr) (d e : Nat), d + 1 < 2 ^ k → (Tr.put y k t d).get e = if e = d then y else t.get e
  | 0, t, d, e, h => by simp at h
  | k + 1, t, 0, e, _ => by
    rw [Tr.put_zero, Tr.get_eq, Tr.get_eq t e]
    cases e with
    | zero => rfl
    | succ m => simp [Tr.lt, Tr.rt]
  | k + 1, t, d + 1, e, h => by
    have hd : d / 2 + 1 < 2 ^ k := by rw [Nat.pow_succ] at h; omega
    rw [Tr.put_succ, Tr.get_eq t e]
    cases e with
    | zero => split <;> rw [Tr.get_eq] <;> simp [Tr.val]
    | succ m =>
      have ih := fun t => Tr.get_put y k t (d / 2) (m / 2) hd
      simp only [Nat.add_right_cancel_iff]
      split
      · rename_i hp
        rw [Tr.get_eq]
        simp only [Tr.lt, Tr.rt, ih]
        by_cases hm : m % 2 = 0
        · simp only [hm, if_true]
          by_cases e1 : m = d
          · subst e1; simp
          · rw [if_neg e1, if_neg (by omega)]
        · simp only [hm, if_false]
          rw [if_neg (by omega)]
      · rename_i hp
        rw [Tr.get_eq]
        simp only [Tr.lt, Tr.rt, ih]
        by_cases hm : m % 2 = 0
        · simp only [hm, if_true]
          rw [if_neg (by omega)]
        · simp only [hm, if_false]
          by_cases e1 : m = d
          · subst e1; simp
          · rw [if_neg e1, if_neg (by omega)]

noncomputable def toL (n : Nat) (t : Tr) : List AV := (List.range n).map t.get
theorem toL_len (n : Nat) (t : Tr) : (toL n t).length = n := by simp [toL]
theorem toL_get (n : Nat) (t : Tr) {d : Nat} (h : d < n) : tget (toL n t) d = t.get d := by
  rw [tget_eq]
  simp [toL, List.getD, h]
theorem toL_put (n : Nat) (t : Tr) (y : AV) {d k : Nat} (h : d + 1 < 2 ^ k) : toL n (Tr.put y k t d) = (toL n t).set d y := by
  apply List.ext_getElem?
  intro i
  rw [List.getElem?_set]
  simp only [toL, List.getElem?_map, List.length_map, List.length_range]
  by_cases hi : i < n
  · rw [List.getElem?_range hi]
    simp only [Option.map_some, Tr.get_put y k t d i h]
    by_cases e : d = i
    · subst e; simp [hi]
    · rw [if_neg e, if_neg (fun q => e q.symm)]
  · rw [List.getElem?_eq_none (by simpa using hi)]
    by_cases e : d = i
    · subst e; simp [hi]
    · rw [if_neg e]; rfl

noncomputable def kget (n : Nat) (T : Tr) (d : Nat) : AV := Bool.rec (motive := fun _ => AV) .junk (T.get d) (Nat.blt d n)
theorem kget_eq (n : Nat) (T : Tr) (d : Nat) : kget n T d = tget (toL n T) d := by
  unfold kget
  cases h : Nat.blt d n with
  | true =>
    have : d < n := by simpa [Nat.blt_eq] using h
    rw [toL_get n T this]
  | false =>
    have hn : ¬ d < n := fun q => by rw [← Nat.blt_eq, h] at q; cases q
    rw [tget_eq]
    simp [toL, List.getD, hn]

noncomputable def kput (n : Nat) (T : Tr) (dst : Option Nat) (x : AV) : Tr := Option.rec (motive := fun _ => Tr) T (fun d => Bool.rec (motive := fun _ => Tr) T (Tr.put x 12 T d) (Nat.blt d n)) dst
theorem kput_eq {n : Nat} (hn : n < 4095) (T : Tr) (dst : Option Nat) (x : AV) : toL n (kput n T dst x) = tput (toL n T) dst x := by
  cases dst with
  | none => rfl
  | some d =>
    show toL n (Bool.rec (motive := fun _ => Tr) T (Tr.put x 12 T d) (Nat.blt d n)) = (toL n T).set d x
    cases h : Nat.blt d n with
    | true =>
      have hd : d + 1 ≤ n := Nat.le_of_ble_eq_true h
      have h12 : (2 : Nat) ^ 12 = 4096 := rfl
      exact toL_put n T x (by rw [h12]; omega)
    | false =>
      have hd : ¬ d + 1 ≤ n := fun q => by
        have := Nat.ble_eq_true_of_le q
        rw [show Nat.ble (d + 1) n = Nat.blt d n from rfl, h] at this; cases this
      rw [List.set_eq_of_length_le (by rw [toL_len]; omega)]

noncomputable def kev (n : Nat) (T : Tr) : Operand → AV
  | .tmp t => kget n T t
  | .const v => ofVal v
  | .global _ => .junk
  | .func f => .p (.prim (.func (.func f) #[] #[]))
theorem kev_eq (n : Nat) (T : Tr) : kev n T = aev (toL n T) := by
  funext y
  cases y with
  | tmp t => exact kget_eq n T t
  | _ => rfl

noncomputable def kwanted (all : Array Oper) (n : Nat) (T : Tr) (o : Oper) : Option Bool :=
  match o.guard with
  | none => some true
  | some (j, want) => match (all[j]?).bind (·.dst) with
    | some d => match kget n T d with
      | .p (.prim (.bool b)) => some (b == want)
      | .tup [] => some false
      | _ => none
    | none => some false
theorem kwanted_eq (all : Array Oper) (n : Nat) (T : Tr) (o : Oper) : kwanted all n T o = awanted all (toL n T) o := by
  unfold kwanted awanted
  simp only [kget_eq]
  rfl

noncomputable def kcallee (n : Nat) (T : Tr) (c : Call) : Option (FuncId × List AV) :=
  match c.callee with
  | .value f => match kev n T f with
    | .p (.prim (.func (.func i) _ _)) => some (i, c.args.toList.map (kev n T))
    | .fn (.func i) first cap => some (i, first ++ c.args.toList.map (kev n T) ++ cap)
    | _ => none
  | _ => none
theorem kcallee_eq (n : Nat) (T : Tr) (c : Call) : kcallee n T c = acallee (toL n T) c := by
  unfold kcallee acallee
  rw [kev_eq]
  rfl

noncomputable def kcalleeY (n : Nat) (T : Tr) (c : Call) : Option (Nat × List AV) :=
  match c.callee with
  | .value f => match kev n T f with
    | .fn (.yield l) [] [] => some (l, c.args.toList.map (kev n T))
    | _ => none
  | _ => none
theorem kcalleeY_eq (n : Nat) (T : Tr) (c : Call) : kcalleeY n T c = acalleeY (toL n T) c := by
  unfold kcalleeY acalleeY
  rw [kev_eq]
  rfl

end Go.AI.EV

namespace Go.AI.EV

open Go Go.AI

inductive KOR where
  | norm (T : Tr) (H : HX) (j : Nat) (D : List AD)
  | pan (v : AV) (T : Tr) (H : HX) (j : Nat) (D : List AD)

noncomputable def KOR.un (n : Nat) : KOR → OR
  | .norm T H j D => .norm (toL n T) H j D
  | .pan v T H j D => .pan v (toL n T) H j D

noncomputable def kevOp (n : Nat) (P : Program) (rows : Bool) (cf : CallF) (yf : YieldF) (rnd : Bool) (o : Oper) (T : Tr) (H : HX) (j : Nat) (D : List AD) : Option KOR :=
  match o.op with
  | .call ⟨.value f, args, types⟩ => match kcallee n T ⟨.value f, args, types⟩ with
    | some (f, args) => match cf f args H j with
      | some (.ret v, H', j') => if keepOk j j' (toL n T) D = true then some (.norm (kput n T o.dst v) H' j' D) else none
      | some (.panic v, H', j') => if keepOk j j' (toL n T) D = true then some (.pan v T H' j' D) else none
      | none => none
    | none => match kcalleeY n T ⟨.value f, args, types⟩ with
      | some (i, args) => match yf i args H j with
        | some (.ret v, H', j') => if keepOk j j' (toL n T) D = true then some (.norm (kput n T o.dst v) H' j' D) else none
        | _ => none
      | none => none
  | .panic x => match kev n T x with
    | .p (.ifc t y) => some (.pan (.p (.ifc t y)) T H j D)
    | _ => none
  | .defer ⟨.value f, args, _⟩ => if rnd = true then none else match kev n T f with
    | .fn (.func i) first cap => some (.norm (kput n T o.dst (.tup [])) H j ((.func i, cap, first ++ args.toList.map (kev n T)) :: D))
    | _ => none
  | .mapUpdate t m ix x => match xupd P t (kev n T m) (kev n T ix) (kev n T x) H with
    | some H' => some (.norm (kput n T o.dst (.tup [])) H' j D)
    | none => match xupdI P t (kev n T m) (kev n T ix) (kev n T x) H with
      | some H' => some (.norm (kput n T o.dst (.tup [])) H' j D)
      | none => none
  | op => match xsp P rows (kev n T) H j op with
    | some (x, H', j') => if keepOk j j' (toL n T) D = true then some (.norm (kput n T o.dst x) H' j' D) else none
    | none => match xaop P (kev n T) H op with
      | some (x, H') => some (.norm (kput n T o.dst x) H' j D)
      | none => none

noncomputable def kevOps (n : Nat) (P : Program) (rows : Bool) (cf : CallF) (yf : YieldF) (rnd : Bool) (all : Array Oper) : List Oper → Tr → HX → Nat → List AD → Option KOR
  | [], T, H, j, D => some (.norm T H j D)
  | o :: l, T, H, j, D => match kwanted all n T o with
    | none => none
    | some false => kevOps n P rows cf yf rnd all l (kput n T o.dst (.tup [])) H j D
    | some true => match kevOp n P rows cf yf rnd o T H j D with
      | some (.norm T' H' j' D') => kevOps n P rows cf yf rnd all l T' H' j' D'
      | some (.pan v T' H' j' D') => some (.pan v T' H' j' D')
      | none => none
theorem kevOp_of {n : Nat} (hn : n < 4095) {P : Program} {rows : Bool} {cf : CallF} {yf : YieldF} {rnd : Bool} {o : Oper} {T : Tr} {H : HX} {j : Nat} {D : List AD} {r : KOR} (h : kevOp n P rows cf yf rnd o T H j D = some r) :
    evOp P rows cf yf rnd o (toL n T) H j D = some (r.un n) := by
  unfold kevOp at h
  simp only [kcallee_eq, kcalleeY_eq, kev_eq] at h
  unfold evOp
  split at h
  · rename_i ho
    rw [ho]
    split at h
    · rename_i e1
      simp only [e1]
      split at h
      · rename_i e2
        simp only [e2]
        split at h
        · rename_i e3
          simp only [Option.some.injEq] at h
          subst h
          simp only [e3, if_true, KOR.un, kput_eq hn]
        · cases h
      · rename_i e2
        simp only [e2]
        split at h
        · rename_i e3
          simp only [Option.some.injEq] at h
          subst h
          simp only [e3, if_true, KOR.un]
        · cases h
      · cases h
    · rename_i e1
      simp only [e1]
      split at h
      · rename_i e2
        simp only [e2]
        split at h
        · rename_i e3
          simp only [e3]
          split at h
          · rename_i e4
            simp only [Option.some.injEq] at h
            subst h
            simp only [e4, if_true, KOR.un, kput_eq hn]
          · cases h
        · cases h
      · cases h
  · rename_i ho
    rw [ho]
    split at h
    · rename_i e1
      simp only [Option.some.injEq] at h
      subst h
      simp only [e1, KOR.un]
    · cases h
  · rename_i ho
    rw [ho]
    split at h
    · cases h
    · rename_i e1
      simp only [e1, if_false, Bool.false_eq_true]
      split at h
      · rename_i e2
        simp only [Option.some.injEq] at h
        subst h
        simp only [e2, KOR.un, kput_eq hn]
      · cases h
  · rename_i ho
    rw [ho]
    split at h
    · rename_i e1
      simp only [Option.some.injEq] at h
      subst h
      simp only [e1, KOR.un, kput_eq hn]
    · rename_i e1
      simp only [e1]
      split at h
      · rename_i e2
        simp only [Option.some.injEq] at h
        subst h
        simp only [e2, KOR.un, kput_eq hn]
      · cases h
  · rename_i n1 n2 n3 n4
    split
    · rename_i ho; exact (n1 _ _ _ ho).elim
    · rename_i ho; exact (n2 _ ho).elim
    · rename_i ho; exact (n3 _ _ _ ho).elim
    · rename_i ho; exact (n4 _ _ _ _ ho).elim
    split at h
    · rename_i e1
      simp only [e1]
      split at h
      · rename_i e3
        simp only [Option.some.injEq] at h
        subst h
        simp only [e3, if_true, KOR.un, kput_eq hn]
      · cases h
    · rename_i e1
      simp only [e1]
      split at h
      · rename_i e2
        simp only [Option.some.injEq] at h
        subst h
        simp only [e2, KOR.un, kput_eq hn]
      · cases h
theorem kevOps_of {n : Nat} (hn : n < 4095) {P : Program} {rows : Bool} {cf : CallF} {yf : YieldF} {rnd : Bool} {all : Array Oper} : ∀ {l : List Oper} {T : Tr} {H : HX} {j : Nat} {D : List AD} {r : KOR}, kevOps n P rows cf yf rnd all l T H j D = some r →
    evOps P rows cf yf rnd all l (toL n T) H j D = some (r.un n)
  | [], T, H, j, D, r, h => by
    simp only [kevOps, Option.some.injEq] at h
    subst h
    rfl
  | o :: l, T, H, j, D, r, h => by
    simp only [kevOps, kwanted_eq] at h
    simp only [evOps]
    split at h
    · cases h
    · rename_i hw
      simp only [hw]
      rw [← kput_eq hn]
      exact kevOps_of hn h
    · rename_i hw
      simp only [hw]
      split at h
      · rename_i e1
        simp only [kevOp_of hn e1, KOR.un]
        exact kevOps_of hn h
      · rename_i e1
        simp only [Option.some.injEq] at h
        subst h
        simp only [kevOp_of hn e1, KOR.un]
      · cases h

end Go.AI.EV
