/-
  Regions that draw their order and make blocks whose places in the order are open: the run of one order stands for all.
-/
import Derived.Test.YtplomildbmcmfaaGreatBEVu

namespace Go.AI.EV

open Go Go.AI

section

variable {P : Program} {ks : Ks} {m : Nat}
theorem under_ofVal (m : Nat) (v : Value) : (ofVal v).under m = true := by
  unfold ofVal
  split
  · split
    · rename_i cs _
      simp only [AV.under]
      generalize cs.toList = l
      induction l with
      | nil => simp [AV.underL]
      | cons v l ih => simp only [List.map_cons, AV.underL, AV.under, ih]; rfl
    · rfl
  · split <;> rfl
  · split <;> rfl
theorem tget_cut : ∀ (T : List AV) (d : Nat), tget (T.map (cutA m)) d = cutA m (tget T d)
  | [], d => by simp only [List.map_nil, tget]; rfl
  | x :: T, 0 => by simp only [List.map_cons, tget]
  | x :: T, d + 1 => by simp only [List.map_cons, tget, tget_cut T d]
theorem aev_cut (T : List AV) (y : Operand) : aev (T.map (cutA m)) y = cutA m (aev T y) := by
  cases y with
  | tmp d => simp only [aev, tget_cut]
  | const v => simp only [aev]; unfold cutA; rw [if_pos (under_ofVal m v)]
  | global g => simp only [aev]; rfl
  | func f => simp only [aev]; rfl
theorem awanted_cut {all : Array Oper} {T : List AV} {o : Oper} {b : Bool} (h : awanted all T o = some b) : awanted all (T.map (cutA m)) o = some b := by
  unfold awanted at h ⊢
  split
  · rename_i hg; rw [hg] at h; exact h
  · rename_i jj want hg
    rw [hg] at h
    simp only at h
    split
    · rename_i d hd
      rw [hd] at h
      simp only at h
      rw [tget_cut]
      split at h
      · rename_i b' hT; rw [hT]; exact h
      · rename_i hT; rw [hT]; exact h
      · cases h
    · rename_i hd
      rw [hd] at h
      exact h
theorem awanted_congr {all : Array Oper} {T T' : List AV} {o : Oper} (h : ∀ d ∈ o.looksAt all, tget T' d = tget T d) : awanted all T' o = awanted all T o := by
  unfold awanted
  split
  · rfl
  · rename_i jj want hg
    split
    · rename_i d hd
      have : d ∈ o.looksAt all := by
        unfold Oper.looksAt
        rw [hg]
        simp only [hd, Option.toList_some]
        exact List.mem_append_right _ (List.mem_singleton.2 rfl)
      rw [h d this]
    · rfl
theorem aev_congr {all : Array Oper} {T T' : List AV} {o : Oper} (h : ∀ d ∈ o.looksAt all, tget T' d = tget T d) {y : Operand} (hy : y ∈ o.op.operands) : aev T' y = aev T y := by
  cases y with
  | tmp d =>
    simp only [aev]
    refine h d ?_
    unfold Oper.looksAt
    exact List.mem_append_left _ (List.mem_filterMap.2 ⟨.tmp d, by simpa using hy, rfl⟩)
  | _ => rfl
def xapN (P : Program) (ρ : Operand → AV) (G : HX) : Op → Option (Nat × List (List PV))
  | .call ⟨.builtin .append, ⟨[s, x]⟩, ⟨[t, t']⟩⟩ => if t = t' ∧ isSm (ρ s) = false then (match xown P t (ρ s) (ρ x) G with
      | some (.own k sz ys, H') => if Nat.beq k G.length && Nat.beq H'.length (G.length + 1) then some (sz, ys) else none
      | _ => none) else none
  | _ => none
theorem xapN_xaop {P : Program} {ρ : Operand → AV} {G : HX} {op : Op} {sz : Nat} {ys : List (List PV)} (h : xapN P ρ G op = some (sz, ys)) : ∃ n, xaop P ρ G op = some (.own G.length sz ys, G ++ [.tok n sz]) := by
  unfold xapN at h
  split at h
  · rename_i s x t t'
    split at h
    · rename_i hc
      split at h
      · rename_i k sz' ys' H' hx
        split at h
        · rename_i hk
          simp only [Bool.and_eq_true] at hk
          have hk1 := Nat.eq_of_beq_eq_true hk.1
          have hk2 := Nat.eq_of_beq_eq_true hk.2
          simp only [Option.some.injEq, Prod.mk.injEq] at h
          obtain ⟨rfl, rfl⟩ := h
          subst hk1
          obtain ⟨n, e⟩ := xown_new hx hk2
          refine ⟨n, ?_⟩
          show (if t = t' ∧ isSm (ρ s) = false then xown P t (ρ s) (ρ x) G else none) = _
          rw [if_pos hc, hx, e]
        · cases h
      · cases h
    · cases h
  · cases h
def evR1 (P : Program) (cf : CallF) (m : Nat) (o : Oper) (T : List AV) (G : HX) (j : Nat) : Option (AV × HX) :=
  match o.op with
  | .call ⟨.value f, args, types⟩ => match acallee T ⟨.value f, args, types⟩ with
    | some (f, args) => if AV.underL m args = true then (match cf f args G j with
      | some (.ret v, H', j') => if (Nat.beq j' j && Nat.beq H'.length G.length) = true then some (v, H') else none
      | _ => none) else none
    | none => none
  | op => if op.operands.toList.all (fun y => (aev T y).under m) = true then (match xapN P (aev T) G op with
    | some (sz, ys) => some (.p (.sl sz ys), G)
    | none => match xaop P (aev T) G op with
      | some (x, H') => if Nat.beq H'.length G.length = true then some (x, H') else none
      | none => none) else none
theorem underL_append {n : Nat} : ∀ {xs ys : List AV}, AV.underL n (xs ++ ys) = true → AV.underL n xs = true ∧ AV.underL n ys = true
  | [], ys, h => ⟨rfl, h⟩
  | x :: xs, ys, h => by
    simp only [List.cons_append, AV.underL, Bool.and_eq_true] at h ⊢
    obtain ⟨h1, h2⟩ := underL_append h.2
    exact ⟨⟨h.1, h1⟩, h2⟩
theorem map_cut_of {l : List AV} (h : AV.underL m l = true) : l.map (cutA m) = l := by
  induction l with
  | nil => rfl
  | cons x l ih =>
    simp only [AV.underL, Bool.and_eq_true] at h
    rw [List.map_cons, ih h.2]
    congr 1
    unfold cutA
    rw [if_pos h.1]
theorem acallee_cut {T : List AV} {c : Call} {f : FuncId} {args : List AV} (h : acallee T c = some (f, args)) (hu : AV.underL m args = true) : acallee (T.map (cutA m)) c = some (f, args) := by
  have hm : c.args.toList.map (aev (T.map (cutA m))) = (c.args.toList.map (aev T)).map (cutA m) := by
    rw [List.map_map]; exact List.map_congr_left fun y _ => aev_cut T y
  unfold acallee at h ⊢
  split at h
  · rename_i fo hcal
    simp only [aev_cut, hm]
    split at h
    · rename_i i x y hev
      simp only [Option.some.injEq, Prod.mk.injEq] at h
      obtain ⟨rfl, rfl⟩ := h
      rw [hev, map_cut_of hu]; rfl
    · rename_i i first cap hev
      simp only [Option.some.injEq, Prod.mk.injEq] at h
      obtain ⟨rfl, rfl⟩ := h
      obtain ⟨h1, h3⟩ := underL_append hu
      obtain ⟨h1, h2⟩ := underL_append h1
      have : cutA m (.fn (.func i) first cap) = .fn (.func i) first cap := by
        unfold cutA
        rw [if_pos (by simp only [AV.under, h1, h3]; rfl)]
      rw [hev, this, map_cut_of h2]
    · cases h
  · cases h
theorem evR1_hd {G : Kn} {cf : CallF} (hcf : CallOk P G cf) {ops : Array Oper} {o : Oper} {T T' : List AV} {H H' : HX} {j : Nat} {x : AV} (hG : G j ks) (hl : ∀ d ∈ o.looksAt ops, tget T' d = tget T d) (hw : awanted ops T o = some true) (h : evR1 P cf m o T H j = some (x, H')) :
    H'.length = H.length ∧ ((awanted ops ((T'.map (cutA m)).map (io ks)) o = some true ∧ aop P (aev ((T'.map (cutA m)).map (io ks))) (iH ks H) o.op = some (io ks x, iH ks H')) ∨
      (awanted ops ((T'.map (cutA m)).map (io ks)) o = some true ∧ ∃ c f args, o.op = .call c ∧ acallee ((T'.map (cutA m)).map (io ks)) c = some (f, args) ∧ enterable P f = true ∧ ACalls P f args (iH ks H) (fun o' g => o' = .ret (io ks x) ∧ g = iH ks H')) ∨
      (awanted ops ((T'.map (cutA m)).map (io ks)) o = some true ∧ iH ks H' = iH ks H ∧ ∃ sz ys n, io ks x = .p (.sl sz ys) ∧ aop P (aev ((T'.map (cutA m)).map (io ks))) (iH ks H) o.op = some (.own (iH ks H).length sz ys, iH ks H ++ [some (.tok n sz)]))) := by
  have hw' : awanted ops ((T'.map (cutA m)).map (io ks)) o = some true := awanted_io _ _ _ (awanted_cut (by rw [awanted_congr hl]; exact hw))
  unfold evR1 at h
  split at h
  · rename_i f args types hop
    split at h
    · rename_i f' args' hc
      split at h
      · rename_i hu
        split at h
        · rename_i v H2 j2 hcall
          split at h
          · rename_i hj
            simp only [Bool.and_eq_true] at hj
            have hj1 := Nat.eq_of_beq_eq_true hj.1
            have hj2 := Nat.eq_of_beq_eq_true hj.2
            subst hj1
            simp only [Option.some.injEq, Prod.mk.injEq] at h
            obtain ⟨rfl, rfl⟩ := h
            obtain ⟨c1, c2, c3⟩ := hcf _ _ _ _ _ _ _ hcall
            refine ⟨hj2, .inr (.inl ⟨hw', _, f', args'.map (io ks), hop, ?_, c1, (c3 ks hG).mono ?_⟩)⟩
            · refine acallee_io (acallee_cut ?_ hu)
              rw [acallee_congr (T' := T) _ fun y hy => aev_congr hl (by rw [hop]; simpa [Op.operands] using hy)]
              exact hc
            · rintro o' g ⟨ks', a1, a2, rfl, rfl⟩
              rw [a2 rfl]
              exact ⟨rfl, rfl⟩
          · cases h
        · cases h
      · cases h
    · cases h
  · rename_i nc
    split at h
    · rename_i hu
      split at h
      · rename_i sz ys hx
        simp only [Option.some.injEq, Prod.mk.injEq] at h
        obtain ⟨rfl, rfl⟩ := h
        obtain ⟨n, hx⟩ := xapN_xaop hx
        refine ⟨rfl, .inr (.inr ⟨hw', rfl, sz, ys, n, io_p _ _, ?_⟩)⟩
        have h1 := xaop_io (ks := ks) (ρ' := aev (T.map (io ks))) (fun y => aev_io ks T y) hx
        have e1 : iH ks (H ++ [XO.tok n sz]) = iH ks H ++ [some (.tok n sz)] := by rw [iH_app]; rfl
        rw [io_own, e1, ← iH_len ks] at h1
        rw [← h1]
        refine aop_congr o.op fun y hy => ?_
        rw [aev_io, aev_io, aev_cut, aev_congr hl hy]
        have := List.all_eq_true.1 hu y (by simpa using hy)
        unfold cutA
        rw [if_pos this]
      · split at h
        · rename_i y H2 hx
          split at h
          · rename_i hlen
            simp only [Option.some.injEq, Prod.mk.injEq] at h
            obtain ⟨rfl, rfl⟩ := h
            refine ⟨Nat.eq_of_beq_eq_true hlen, .inl ⟨hw', ?_⟩⟩
            have h1 := xaop_io (ks := ks) (ρ' := aev (T.map (io ks))) (fun y => aev_io ks T y) hx
            rw [← h1]
            refine aop_congr o.op fun y hy => ?_
            rw [aev_io, aev_io, aev_cut, aev_congr hl hy]
            have := List.all_eq_true.1 hu y (by simpa using hy)
            unfold cutA
            rw [if_pos this]
          · cases h
        · cases h
    · cases h

end
def alive : XO → Bool
  | .dead => false
  | _ => true

structure RS where
  xs : List AV
  HS : List HX
  inits : List XO
  T : List AV
  pend : List (Nat × List AV × Op × AV)
def regLoop (P : Program) (cf : CallF) (ops : Array Oper) (p : Pl) (N j : Nat) : List Nat → List AV → HX → List AV → List HX → List XO → List (Nat × List AV × Op × AV) → Option RS
  | [], T, _, xs, HS, inits, pend => some ⟨xs, HS, inits, T, pend⟩
  | i :: is, T, V, xs, HS, inits, pend => match ops[i]? with
    | none => none
    | some o => match awanted ops T o with
      | none => none
      | some false => if p.fl.contains i = true then none else regLoop P cf ops p N j is (tput T o.dst (.tup [])) V (xs ++ [.tup []]) (if p.chain ops i = true then HS ++ [V] else HS) inits pend
      | some true => if p.fl.contains i = true then
          (match fobj P (aev T) (N + inits.length) o.op with
          | some (x, cs) => if p.fl[inits.length]? = some i then regLoop P cf ops p N j is (tput T o.dst x) V (xs ++ [x]) HS (inits ++ [.cells cs]) pend else none
          | none => none)
        else match evR1 P cf (N + p.pc i) o T (gfill N inits (p.pc i) V) j with
          | some (x, H') => if p.pc i ≤ inits.length then (if p.chain ops i = true then
              (if (H'.drop N).all alive = true then regLoop P cf ops p N j is (tput T o.dst x) (H' ++ V.drop (N + p.pc i)) (xs ++ [x]) (HS ++ [H' ++ V.drop (N + p.pc i)]) inits pend else none)
            else regLoop P cf ops p N j is (tput T o.dst x) V (xs ++ [x]) HS inits (pend ++ [(i, T, o.op, x)])) else none
          | none => none
def pendOk (P : Program) (ops : Array Oper) (p : Pl) (N : Nat) (R : RS) : Bool :=
  R.pend.all fun e => (List.range R.HS.length).all fun c =>
    !(decide ((List.range ops.size).countP (fun j => p.chain ops j && p.pre e.1 j) ≤ c) && decide (c ≤ (List.range ops.size).countP (fun j => p.chain ops j && !p.pre j e.1))) ||
      stableB P e.2.1 e.2.2.1 e.2.2.2 (gfill N R.inits (p.pc e.1) (R.HS.getD c []))
def deadOk (ops : Array Oper) (p : Pl) (N : Nat) (R : RS) : Bool :=
  (List.range R.HS.length).all fun c => (List.range p.fl.length).all fun k => match (R.HS.getD c []).getD (N + k) .dead with
    | .dead => true
    | _ => (List.range ops.size).any fun i => p.chain ops i && decide (cnt ops p (fun x => decide (x < i)) < c) && p.pre i (p.fl.getD k 0)
def evReg (P : Program) (cf : CallF) (lt : LT) (ops : Array Oper) (p : Pl) (T : List AV) (H : HX) (j : Nat) (D : List AD) : Option (List AV × HX) :=
  match regLoop P cf ops p H.length j (List.range ops.size) T (H ++ List.replicate p.fl.length .dead) [] [H ++ List.replicate p.fl.length .dead] [] [] with
  | some R => if (Nat.beq R.inits.length p.fl.length && underD H.length D && R.HS.all (fun V => Nat.beq V.length (H.length + p.fl.length) && (List.range (p.fl.length + 1)).all fun k => (gfill H.length R.inits k V).all (xunder lt (H.length + k))) && pendOk P ops p H.length R && deadOk ops p H.length R) = true then
      some (R.T, gfill H.length R.inits p.fl.length (R.HS.getD (cnt ops p fun _ => true) [])) else none
  | none => none

end Go.AI.EV
