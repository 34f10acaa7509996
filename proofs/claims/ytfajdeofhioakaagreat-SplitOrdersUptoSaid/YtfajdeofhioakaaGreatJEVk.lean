import Derived.Test.YtfajdeofhioakaaGreatJA0
import Derived.Test.YtfajdeofhioakaaGreatJEVh
import Derived.Test.YtfajdeofhioakaaGreatJEVb

namespace Go.AI.EV

open Go Go.AI

structure Pl where
 tbl : List Nat
 fl : List Nat
def Pl.pre (p : Pl) (i j : Nat) : Bool := (p.tbl.getD i 0).testBit j

structure Seat where
 fn : FuncId -> Option Func
 plan : FuncId -> Nat -> Option (List Nat × List Nat × List Nat × List Nat)
 planF : FuncId -> Nat -> Option Pl
 plan2 : FuncId -> Nat -> Option Pl2
 planE : FuncId -> Nat -> List (Nat × List Nat × List Nat × List Nat × List Nat)
 rows : FuncId -> TypeId -> Bool
 keep : FuncId -> FuncId -> Bool

structure LE where
 j : Nat
 fid : FuncId
 T : List AV
 ps : Array Tmp
 asg : Code
 bd : Code
abbrev LT := List LE

mutual
theorem aCc {j j' : Nat} (h : j <= j') : ∀ {x : AV}, jok j x = true -> jok j' x = true
 | .p _, _ => rfl
 | .agg cs, hx => by simp only [jok] at hx ⊢; exact eY h hx
 | .tup cs, hx => by simp only [jok] at hx ⊢; exact eY h hx
 | .ptr _ _, _ => rfl
 | .sm _ _ _ cap _, hx => by
  simp only [jok, aYk, bCy, bC2] at hx ⊢;exact hx.imp id fun q => by omega
 | .own _ _ _, _ => rfl
 | .fn f xs ys, hx => by
  simp only [jok, bBs] at hx ⊢;refine ⟨⟨?_, eY h hx.1.2⟩, eY h hx.2⟩;have h1 := hx.1.1
  cases f <;> first | rfl | (simp only [aYl, bC2] at h1 ⊢; omega)
 | .ifc _ x, hx => by simp only [jok] at hx ⊢; exact aCc h hx
 | .mp _, _ => rfl
 | .vec _ _, _ => rfl
 | .junk, _ => rfl
theorem eY {j j' : Nat} (h : j <= j') : ∀ {l : List AV}, pM j l = true -> pM j' l = true
 | [], _ => rfl
 | x :: l, hx => by
  simp only [pM, bBs] at hx ⊢;exact ⟨aCc h hx.1, eY h hx.2⟩
end
def Gl (lt : LT) : Kn := fun j ks => ∀ e ∈ lt, e.j < j /\ pM j e.T = true /\ (ks e.j).2 = ⟨e.T.map (io ks), e.ps, e.asg, e.bd⟩
theorem Gl.closed (lt : LT) : (Gl lt).Closed := by
 intro j j' ks ks' hG ha hj e he;obtain ⟨h1, h2, h3⟩ := hG e he;refine ⟨by omega, eY hj h2, ?_⟩;rw [ha _ h1, h3, bU ha h2]
def fE (P : Program) (T : List AV) (op : Op) (x : AV) (G : HX) : Bool :=
 match op with
 | .load t a => match aBo P t (aev T a) G with
  | some y => eqA y x
  | none => false
 | _ => true
def mL (j j' : Nat) (T : List AV) (D : List AD) (hist : List HX) : Bool := Nat.beq j' j || (pM j T && aOy j D && hist.all fun H => H.all (aAl j))
def dV (P : Program) (rows : TypeId -> Bool) (cf : aX) (ops : Array Oper) (lo : List Nat) (D : List AD) : List Nat -> List HX -> List AV -> HX -> Nat -> Option (List AV × HX × Nat)
 | [], _, T, H, j => some (T, H, j)
 | i :: π, hist, T, H, j => match ops[i]? with
  | none => none
  | some o => match awanted ops T o with
   | none => none
   | some false => dV P rows cf ops lo D π (if isE o.op = true then hist ++ [H] else hist) (tput T o.dst (.tup [])) H j
   | some true => if isE o.op = true then
     (match o.op with
     | .call ⟨.value f, args, types⟩ => match aN T ⟨.value f, args, types⟩ with
      | some (f, args) => match cf f args H j with
       | some (.ret v, H', j') => if mL j j' T D (hist ++ [H]) = true then dV P rows cf ops lo D π (hist ++ [H]) (tput T o.dst v) H' j' else none
       | _ => none
      | none => none
     | .defer _ => none
     | op => match xsp P rows (aev T) H j op with
      | some (x, H', j') => if mL j j' T D (hist ++ [H]) = true then dV P rows cf ops lo D π (hist ++ [H]) (tput T o.dst x) H' j' else none
      | none => match rA P (aev T) H op with
       | some (x, H') => dV P rows cf ops lo D π (hist ++ [H]) (tput T o.dst x) H' j
       | none => none)
    else match rA P (aev T) H o.op with
     | some (x, _) => if (hist.drop (lo.getD i 0)).all (fun G => fE P T o.op x G) = true then dV P rows cf ops lo D π hist (tput T o.dst x) H j else none
     | none => match xrd P (aev T) o.op with
      | some x => if hist.length < lo.getD i 0 then dV P rows cf ops lo D π hist (tput T o.dst x) H j else none
      | none => none

inductive DRes where
 | nrm (T : List AV) (H : HX) (j : Nat)
 | pan (i : Nat) (f : FuncId) (args : List AV) (H : HX) (j : Nat) (v : AV) (H' : HX) (j' : Nat)
def aAb (P : Program) (rows : TypeId -> Bool) (cf : aX) (ops : Array Oper) (lo : List Nat) (D : List AD) : List Nat -> List HX -> List AV -> HX -> Nat -> Option DRes
 | [], _, T, H, j => some (.nrm T H j)
 | i :: π, hist, T, H, j => match ops[i]? with
  | none => none
  | some o => match awanted ops T o with
   | none => none
   | some false => aAb P rows cf ops lo D π (if isE o.op = true then hist ++ [H] else hist) (tput T o.dst (.tup [])) H j
   | some true => if isE o.op = true then
     (match o.op with
     | .call ⟨.value f, args, types⟩ => match aN T ⟨.value f, args, types⟩ with
      | some (f, args) => match cf f args H j with
       | some (.ret v, H', j') => if mL j j' T D (hist ++ [H]) = true then aAb P rows cf ops lo D π (hist ++ [H]) (tput T o.dst v) H' j' else none
       | some (.panic v, H', j') => some (.pan i f args H j v H' j')
       | none => none
      | none => none
     | .defer _ => none
     | op => match xsp P rows (aev T) H j op with
      | some (x, H', j') => if mL j j' T D (hist ++ [H]) = true then aAb P rows cf ops lo D π (hist ++ [H]) (tput T o.dst x) H' j' else none
      | none => match rA P (aev T) H op with
       | some (x, H') => aAb P rows cf ops lo D π (hist ++ [H]) (tput T o.dst x) H' j
       | none => none)
    else match rA P (aev T) H o.op with
     | some (x, _) => if (hist.drop (lo.getD i 0)).all (fun G => fE P T o.op x G) = true then aAb P rows cf ops lo D π hist (tput T o.dst x) H j else none
     | none => match xrd P (aev T) o.op with
      | some x => if hist.length < lo.getD i 0 then aAb P rows cf ops lo D π hist (tput T o.dst x) H j else none
      | none => none
theorem aC6 {P : Program} {rows : TypeId -> Bool} {cf : aX} {ops : Array Oper} {lo : List Nat} {D : List AD} {T' : List AV} {H' : HX} {j' : Nat} : ∀ {π : List Nat} {hist : List HX} {T : List AV} {H : HX} {j : Nat}, aAb P rows cf ops lo D π hist T H j = some (.nrm T' H' j') -> dV P rows cf ops lo D π hist T H j = some (T', H', j')
 | [], hist, T, H, j, h => by
  simp only [aAb, bBk, DRes.nrm.injEq] at h;obtain ⟨rfl, rfl, rfl⟩ := h
  rfl
 | i :: π, hist, T, H, j, h => by
  simp only [aAb] at h;simp only [dV]
  repeat' (split at h)
  all_goals first | (cases h; done) | (have q := aC6 h; clear h; simp_all; done)
theorem gI {P : Program} {rows : TypeId -> Bool} {cf : aX} {ops : Array Oper} {lo : List Nat} {D : List AD} {e : Nat} {f : FuncId} {args : List AV} {H0 : HX} {j0 : Nat} {v : AV} {H1 : HX} {j1 : Nat} : ∀ {π : List Nat} {hist : List HX} {T : List AV} {H : HX} {j : Nat}, aAb P rows cf ops lo D π hist T H j = some (.pan e f args H0 j0 v H1 j1) -> cf f args H0 j0 = some (.panic v, H1, j1)
 | [], hist, T, H, j, h => by simp only [aAb, bBk] at h; cases h
 | i :: π, hist, T, H, j, h => by
  simp only [aAb] at h;split at h
  ·cases h
  ·split at h
   ·cases h
   ·exact gI h
   ·split at h
    ·split at h
     ·split at h
      ·split at h
       ·split at h
        ·exact gI h
        ·cases h
       ·rename_i e2;simp only [bBk, DRes.pan.injEq] at h;obtain ⟨rfl, rfl, rfl, rfl, rfl, rfl, rfl, rfl⟩ := h;exact e2
       ·cases h
      ·cases h
     ·cases h
     ·split at h
      ·split at h
       ·exact gI h
       ·cases h
      ·split at h
       ·exact gI h
       ·cases h
    ·split at h
     ·split at h
      ·exact gI h
      ·cases h
     ·split at h
      ·split at h
       ·exact gI h
       ·cases h
      ·cases h

section

variable {P : Program}
theorem tZ {ρ : Operand -> AV} {H H' G : HX} {op : Op} {x : AV} (he : isE op = false) (hl : ∀ t a, op ≠ .load t a) (h : rA P ρ H op = some (x, H')) : H' = H /\ rA P ρ G op = some (x, G) := by
 unfold rA at h ⊢;split at h
 ·simp [isE] at he
 ·simp [isE] at he
 ·rename_i t a; exact absurd rfl (hl t a)
 ·simp [isE] at he
 ·simp [isE] at he
 ·obtain ⟨v, h1, h2⟩ := bBv.1 h;cases h2;rw [h1]; exact ⟨rfl, rfl⟩
 ·simp [isE] at he
 ·simp [isE] at he
 ·simp [isE] at he
 ·rename_i n1 n2 n3 n4 n5 n6 n7 n8 n9;split at h
  ·rename_i hp;split at h
   ·rename_i y g e;simp only [bBk, bBz] at h;obtain ⟨rfl, rfl⟩ := h;simp [hp]
   ·cases h
  ·cases h
theorem aIa {ks : Ks} {T : List AV} {H H' G : HX} {op : Op} {x : AV} (he : isE op = false) (h : rA P (aev T) H op = some (x, H')) (hs : fE P T op x G = true) :
  aop P (aev (T.map (io ks))) (iH ks G) op = some (io ks x, iH ks G) := by
 by_cases hl : ∃ t a, op = .load t a
 ·obtain ⟨t, a, rfl⟩ := hl;simp only [fE] at hs;split at hs
  ·rename_i y hy;have e := wX hs;subst e;exact iZ (fun y => aev_io ks T y) (by simp only [rA, hy, bCm])
  ·cases hs
 ·obtain ⟨_, h2⟩ := tZ (G := G) he (fun t a e => hl ⟨t, a, e⟩) h;exact iZ (fun y => aev_io ks T y) h2
theorem aGr {ks ks' : Ks} {j j' : Nat} {T : List AV} {D : List AD} {hist : List HX} (h : mL j j' T D hist = true) (ha : Agree j ks ks') (he : j' = j -> ks' = ks) : T.map (io ks') = T.map (io ks) /\ D.map (ioD ks') = D.map (ioD ks) /\ hist.map (iH ks') = hist.map (iH ks) := by
 unfold mL at h;simp only [bCy, bBs] at h;rcases h with h | h
 ·rw [he (Nat.eq_of_beq_eq_true h)]; exact ⟨rfl, rfl, rfl⟩
 ·exact ⟨bU ha h.1.1, jH ha h.1.2, List.map_congr_left fun H hH => nZ ha (bC0.1 h.2 H hH)⟩
theorem bV {G : Kn} (hG : G.Closed) {rows : TypeId -> Bool} {cf : aX} (hcf : eL P G cf) {ops : Array Oper} {lo : List Nat} {D : List AD} {Kont : List AV -> Heap -> Prop} {T' : List AV} {H' : HX} {j' : Nat} :
  ∀ (π : List Nat) (hist : List HX) (T : List AV) (H : HX) (j : Nat), dV P rows cf ops lo D π hist T H j = some (T', H', j') -> j <= j' /\ ∀ ks, G j ks ->
   (∀ ks', Agree j ks ks' -> (j' = j -> ks' = ks) -> D.map (ioD ks') = D.map (ioD ks) -> Kont (T'.map (io ks')) (iH ks' H')) -> DR P ops lo Kont π (hist.map (iH ks)) (T.map (io ks)) (iH ks H)
 | [], hist, T, H, j, h => by
  simp only [dV, bBk, bBz] at h;obtain ⟨rfl, rfl, rfl⟩ := h;exact ⟨bBh _, fun ks _ J => J ks (Agree.refl _ _) (fun _ => rfl) rfl⟩
 | i :: π, hist, T, H, j, h => by
  have ih := bV hG hcf (ops := ops) (lo := lo) (D := D) (rows := rows) (Kont := Kont) (T' := T') (H' := H') (j' := j') π;simp only [dV] at h;split at h
  ·cases h
  ·rename_i o ho;split at h
   ·cases h
   ·rename_i hw;obtain ⟨h1, h2⟩ := ih _ _ _ _ h;refine ⟨h1, fun ks hg J => ⟨o, ho, .inl ⟨cD ops T o hw, ?_⟩⟩⟩;have := h2 ks hg J;rw [<- tput_io, io_tup, bCv] at this;split
    ·rename_i hE;rw [if_pos hE, bCi] at this;exact this
    ·rename_i hE;rw [if_neg hE] at this;exact this
   ·rename_i hw;have hw' := fun ks => cD (ks := ks) ops T o hw
    split at h
    ·rename_i hE
     -- an operation of which the letters are new
     have fam : ∀ (v : AV) (H2 : HX) (j2 : Nat), j <= j2 -> mL j j2 T D (hist ++ [H]) = true -> dV P rows cf ops lo D π (hist ++ [H]) (tput T o.dst v) H2 j2 = some (T', H', j') ->
       (∀ ks, G j ks -> Does P o (T.map (io ks)) (iH ks H) (fun x g => ∃ ks', Agree j ks ks' /\ (j2 = j -> ks' = ks) /\ x = io ks' v /\ g = iH ks' H2)) ->
       j <= j' /\ ∀ ks, G j ks -> (∀ ks', Agree j ks ks' -> (j' = j -> ks' = ks) -> D.map (ioD ks') = D.map (ioD ks) -> Kont (T'.map (io ks')) (iH ks' H')) -> DR P ops lo Kont (i :: π) (hist.map (iH ks)) (T.map (io ks)) (iH ks H) := by
      intro v H2 j2 hj hk hd hdo;obtain ⟨h1, h2⟩ := ih _ _ _ _ hd;refine ⟨by omega, fun ks hg J => ⟨o, ho, .inr (.inr (.inr (.inr (.inl ⟨hw' ks, hE, _, ⟨_, _, ks, Agree.refl _ _, fun _ => rfl, rfl, rfl⟩, hdo ks hg, ?_⟩))))⟩⟩;rintro x g ⟨ks', a1, a2, rfl, rfl⟩;obtain ⟨e1, e2, e3⟩ := aGr hk a1 a2
      have := h2 ks' (hG _ _ _ _ hg a1 hj) fun ks2 b1 b2 b3 => J ks2 (a1.trans hj b1) (fun e => by
       have q1 : j2 = j := aB;have q2 : j' = j2 := aB;rw [b2 q2, a2 q1]) (by rw [b3, e2])
      rw [<- tput_io, e1, e3, bCi] at this;exact this
     split at h
     ·rename_i f args types hop;split at h
      ·rename_i f' args' hc;split at h
       ·rename_i v H2 j2 hcall;split at h
        ·rename_i hk;obtain ⟨c1, c2, c3⟩ := hcf _ _ _ _ _ _ _ hcall;refine fam v H2 j2 c2 hk h fun ks hg => .inr ⟨_, f', args'.map (io ks), hop, fS hc, c1, (c3 ks hg).mono ?_⟩
         rintro o' g ⟨ks', a1, a2, rfl, rfl⟩;exact ⟨_, rfl, ks', a1, a2, rfl, rfl⟩
        ·cases h
       ·cases h
      ·cases h
     ·cases h
     ·rename_i nc nd;split at h
      ·rename_i x H2 j2 hx;split at h
       ·rename_i hk;refine fam x H2 j2 (aMn hx) hk h fun ks hg => .inl ⟨fun c hc => nd c hc, fun T2 hT2 E w a D2 st => ?_⟩
        obtain ⟨ks', a1, a2, a3, hout⟩ := aIr (ks := ks) (T2 := T2) (fun y hy => by rw [hT2 y hy, aev_io]) st hx;exact ⟨_, _, ⟨ks', a1, a2, rfl, rfl⟩, hout⟩
       ·cases h
      ·split at h
       ·rename_i x H2 hx;obtain ⟨h1, h2⟩ := ih _ _ _ _ h;refine ⟨h1, fun ks hg J => ⟨o, ho, .inr (.inr (.inl ⟨hw' ks, hE, _, _, iZ (fun y => aev_io ks T y) hx, ?_⟩))⟩⟩;have := h2 ks hg J;rw [<- tput_io, bCi] at this;exact this
       ·cases h
    ·rename_i hE;have hE' : isE o.op = false := by simpa using hE
     split at h
     ·rename_i x H2 hx;split at h
      ·rename_i hst;obtain ⟨h1, h2⟩ := ih _ _ _ _ h;refine ⟨h1, fun ks hg J => ⟨o, ho, ?_⟩⟩
       have e1 : aop P (aev (T.map (io ks))) (iH ks H) o.op = some (io ks x, iH ks H) := by
        have h1 := iZ (ks := ks) (fun y => aev_io ks T y) hx;have h2 := iB hE' h1;rw [h2] at h1; exact h1
       refine .inr (.inl ⟨hw' ks, hE', io ks x, e1, ?_, ?_⟩)
       ·rw [stab_iff];intro g hg;rw [<- List.map_drop] at hg;obtain ⟨G', hG', rfl⟩ := bCb.1 hg;exact aIa hE' hx (bC0.1 hst G' hG')
       ·have := h2 ks hg J;rw [<- tput_io] at this;exact this
      ·cases h
     ·split at h
      ·rename_i x hx;split at h
       ·rename_i hlt;obtain ⟨h1, h2⟩ := ih _ _ _ _ h;refine ⟨h1, fun ks hg J => ⟨o, ho, .inr (.inr (.inr (.inr (.inr ⟨hw' ks, hE', by rw [bC9]; exact hlt, io ks x, ⟨?_, ?_⟩, ?_⟩))))⟩⟩
        ·intro c hc; rw [hc] at hE'; simp [isE] at hE'
        ·intro T2 hT2 E w a D2 st;exact aIo (ks := ks) (fun y hy => by rw [hT2 y hy, aev_io]) st hx
        ·have := h2 ks hg J;rw [<- tput_io] at this;exact this
       ·cases h
      ·cases h

end
def eqX : XO -> XO -> Bool
 | .cells a, .cells b => zN a b
 | .row n j s a, .row n' j' s' b => Nat.beq n n' && Nat.beq j j' && Nat.beq s s' && zN a b
 | .tok n s, .tok n' s' => Nat.beq n n' && Nat.beq s s'
 | .dblk, .dblk => true
 | .dead, .dead => true
 | _, _ => false
theorem aTr : ∀ {a b : XO}, eqX a b = true -> a = b := by
 intro a b h
 cases a <;> cases b <;> simp only [eqX, bBs] at h <;> try (cases h; done)
 ·rw [fO h]
 ·obtain ⟨⟨⟨h1, h2⟩, h3⟩, h4⟩ := h;rw [Nat.eq_of_beq_eq_true h1, Nat.eq_of_beq_eq_true h2, Nat.eq_of_beq_eq_true h3, fO h4]
 ·rw [Nat.eq_of_beq_eq_true h.1, Nat.eq_of_beq_eq_true h.2]
 ·rfl
 ·rfl
def eqH : HX -> HX -> Bool
 | [], [] => true
 | a :: l, b :: l' => eqX a b && eqH l l'
 | _, _ => false
theorem aFy : ∀ {a b : HX}, eqH a b = true -> a = b
 | [], [], _ => rfl
 | a :: l, b :: l', h => by
  simp only [eqH, bBs] at h;rw [aTr h.1, aFy h.2]
 | [], _ :: _, h => by cases h
 | _ :: _, [], h => by cases h
def aKs (ops : Array Oper) (i : Nat) (T : List AV) (H : HX) (j : Nat) (f : FuncId) (args : List AV) (H0 : HX) (j0 j1 : Nat) (D : List AD) : Bool := match ops[i]? with
 | some o => (match awanted ops T o with
  | some true => (match o.op with
   | .call ⟨.value c, xs, ts⟩ => (match aN T ⟨.value c, xs, ts⟩ with
    | some (g, as') => Nat.beq g f && zN as' args && eqH H H0 && Nat.beq j j0 && mL j0 j1 T D []
    | none => false)
   | _ => false)
  | _ => false)
 | none => false
theorem aEj {ops : Array Oper} {i : Nat} {T : List AV} {H : HX} {j : Nat} {f : FuncId} {args : List AV} {H0 : HX} {j0 j1 : Nat} {D : List AD} (h : aKs ops i T H j f args H0 j0 j1 D = true) : ∃ o c, ops[i]? = some o /\ awanted ops T o = some true /\ o.op = .call c /\ aN T c = some (f, args) /\ H = H0 /\ j = j0 /\ mL j0 j1 T D [] = true := by
 unfold aKs at h;split at h
 ·rename_i o ho;split at h
  ·rename_i hw;split at h
   ·rename_i c xs ts hop;split at h
    ·rename_i g as' hc;simp only [bBs] at h;obtain ⟨⟨⟨⟨h1, h2⟩, h3⟩, h4⟩, h5⟩ := h;have h1 := Nat.eq_of_beq_eq_true h1;have h2 := fO h2;subst h1; subst h2;exact ⟨o, _, ho, hw, hop, hc, aFy h3, Nat.eq_of_beq_eq_true h4, h5⟩
    ·cases h
   ·cases h
  ·cases h
 ·cases h
def aOt (l : List (Nat × List Nat × List Nat × List Nat × List Nat)) (i : Nat) : Option (Nat × List Nat × List Nat × List Nat × List Nat) := l.find? fun q => Nat.beq q.1 i
theorem wY {l : List (Nat × List Nat × List Nat × List Nat × List Nat)} {i : Nat} {q : Nat × List Nat × List Nat × List Nat × List Nat} (h : aOt l i = some q) : q ∈ l /\ q.1 = i := ⟨List.mem_of_find?_eq_some h, Nat.eq_of_beq_eq_true (by have := List.find?_some h; simpa using this)⟩

end Go.AI.EV

namespace Go.AI.EV

open Go Go.AI
theorem Heap.at_app (h L : Heap) (id : Nat) : Heap.at (h ++ L) id = if id < h.length then h.at id else Heap.at L (id - h.length) := by
 unfold Heap.at;split
 ·rename_i l; rw [bBt l]
 ·rename_i l; rw [bCs aB]
def gZ (E1 E : Env) (m : Nat) : Env := { ro := E1.ro, g := fun id => if id < m then E1.g id else E.g id, t := fun id => if id < m then E1.t id else E.t id }
theorem bB6 {E E1 : Env} {h L h1 : Heap} {w w1 : World} (r : Rel E (Heap.at (h ++ L)) w) (hf : Fresh E (h ++ L).length) (_hun : h.all (AO.under h.length) = true) (r1 : Rel E1 h1.at w1) (f1 : Fresh E1 h1.length) (hl : h1.length = h.length)
  (fr : Fr (E.cut h.length) h.at w E1 h1.at w1) :
  Rel (gZ E1 E h.length) (Heap.at (h1 ++ L)) w1 /\ Fr E (Heap.at (h ++ L)) w (gZ E1 E h.length) (Heap.at (h1 ++ L)) w1 /\ Fresh (gZ E1 E h.length) (h1 ++ L).length /\ Ext E1 w1 (gZ E1 E h.length) w1 /\ Ext E w (gZ E1 E h.length) w1 := by
 obtain ⟨m, hm⟩ : ∃ m, h.length = m := ⟨_, rfl⟩;rw [hm] at hl fr ⊢;have hlo : ∀ id, id < m -> Heap.at (h ++ L) id = h.at id := fun id l => by rw [Heap.at_app, if_pos aB]
 have hlo1 : ∀ id, id < m -> Heap.at (h1 ++ L) id = h1.at id := fun id l => by rw [Heap.at_app, if_pos aB]
 have hhi : ∀ id, m <= id -> Heap.at (h1 ++ L) id = Heap.at (h ++ L) id := fun id l => by rw [Heap.at_app, Heap.at_app, if_neg aB, if_neg aB, hl, hm]
 have hhi0 : ∀ id, m <= id -> h.at id = none := fun id l => aJd h id aB
 have hhi1 : ∀ id, m <= id -> h1.at id = none := fun id l => aJd h1 id aB
 have ga : ∀ id, id < m -> (gZ E1 E m).g id = E1.g id := fun id l => if_pos l
 have gb : ∀ id, m <= id -> (gZ E1 E m).g id = E.g id := fun id l => if_neg aB
 have ta : ∀ id, id < m -> (gZ E1 E m).t id = E1.t id := fun id l => if_pos l
 have tb : ∀ id, m <= id -> (gZ E1 E m).t id = E.t id := fun id l => if_neg aB
 have cg : ∀ id, id < m -> (E.cut m).g id = E.g id := fun id l => by simp [Env.cut, l]
 have ct : ∀ id, id < m -> (E.cut m).t id = E.t id := fun id l => by simp [Env.cut, l]
 -- owners
 have oE : ∀ id b, eQ (E.cut m) h.at id b -> id < m /\ eQ E (Heap.at (h ++ L)) id b := by
  intro id b ho
  have lt : id < m := by
   rcases bD2 id m with l | l
   ·exact l
   ·rcases ho with ⟨o, h1, _⟩ | ⟨o, x, c, k, h1, _⟩ <;> (rw [hhi0 id l] at h1; cases h1)
  refine ⟨lt, ?_⟩;rcases ho with ⟨o, h1, h3, h2⟩ | ⟨o, x, c, k, h1, h3, h2⟩
  ·exact .inl ⟨o, by rw [hlo id lt]; exact h1, h3, by rw [cg id lt] at h2; exact h2⟩
  ·exact .inr ⟨o, x, c, k, by rw [hlo id lt]; exact h1, h3, by rw [ct id lt] at h2; exact h2⟩
 have oJ : ∀ id b, eQ (gZ E1 E m) (Heap.at (h1 ++ L)) id b -> (id < m /\ eQ E1 h1.at id b) \/ (m <= id /\ eQ E (Heap.at (h ++ L)) id b) := by
  intro id b ho;rcases bD2 id m with l | l
  ·left; refine ⟨l, ?_⟩;rcases ho with ⟨o, h1, h3, h2⟩ | ⟨o, x, c, k, h1, h3, h2⟩
   ·exact .inl ⟨o, by rw [<- hlo1 id l]; exact h1, h3, by rw [ga id l] at h2; exact h2⟩
   ·exact .inr ⟨o, x, c, k, by rw [<- hlo1 id l]; exact h1, h3, by rw [ta id l] at h2; exact h2⟩
  ·right; refine ⟨l, ?_⟩;rcases ho with ⟨o, h1, h3, h2⟩ | ⟨o, x, c, k, h1, h3, h2⟩
   ·exact .inl ⟨o, by rw [<- hhi id l]; exact h1, h3, by rw [gb id l] at h2; exact h2⟩
   ·exact .inr ⟨o, x, c, k, by rw [<- hhi id l]; exact h1, h3, by rw [tb id l] at h2; exact h2⟩
 -- what is put aside belongs to nobody below
 have apart : ∀ id b, m <= id -> eQ E (Heap.at (h ++ L)) id b -> b < w.heap.size /\ ¬ InG (E.cut m) h.at b := by
  intro id b l ho;refine ⟨r.owns_lt ho, ?_⟩;rintro ⟨id', ho'⟩;obtain ⟨l', ho'⟩ := oE id' b ho';have := r.inj id id' b ho ho';omega
 have x1 : ∀ id b, E1.g id = some b -> (gZ E1 E m).g id = some b := by
  intro id b e;rcases bD2 id m with l | l
  ·rw [ga id l]; exact e
  ·rw [(f1 id aB).1] at e; cases e
 have x2 : ∀ id L', E1.t id = some L' -> ∃ L'', (gZ E1 E m).t id = some L'' /\ L'.cur <= L''.cur /\ (L''.cur = L'.cur -> L'' = L') := by
  intro id L' e;rcases bD2 id m with l | l
  ·exact ⟨L', by rw [ta id l]; exact e, bBh _, fun _ => rfl⟩
  ·rw [(f1 id aB).2] at e; cases e
 have x3 : ∀ id b, E.g id = some b -> (gZ E1 E m).g id = some b := by
  intro id b e;rcases bD2 id m with l | l
  ·rw [ga id l]; exact fr.ext.g id b (by rw [cg id l]; exact e)
  ·rw [gb id l]; exact e
 have x4 : ∀ id L', E.t id = some L' -> ∃ L'', (gZ E1 E m).t id = some L'' /\ L'.cur <= L''.cur /\ (L''.cur = L'.cur -> L'' = L') := by
  intro id L' e;rcases bD2 id m with l | l
  ·rw [ta id l]; exact fr.ext.t id L' (by rw [ct id l]; exact e)
  ·exact ⟨L', by rw [tb id l]; exact e, bBh _, fun _ => rfl⟩
 have xE1 : Ext E1 w1 (gZ E1 E m) w1 := ⟨fun _ _ h => h, fun _ _ _ => rfl, x1, x2⟩;have xE : Ext E w (gZ E1 E m) w1 := ⟨fun b off hb => fr.ext.ro b off hb, fun b off hb => fr.ext.cells b off hb, x3, x4⟩
 have hG1 : ∀ id b, m <= id -> eQ E (Heap.at (h ++ L)) id b -> ¬ InG E1 h1.at b := by
  intro id b l ho hg;obtain ⟨a1, a2⟩ := apart id b l ho;rcases fr.inG b hg with h | h
  ·exact a2 h
  ·omega
 have hro : ∀ id b off, m <= id -> eQ E (Heap.at (h ++ L)) id b -> E1.ro b off -> E.ro b off := by
  intro id b off l ho hb;obtain ⟨a1, a2⟩ := apart id b l ho;rcases fr.roNew b off hb with h | h | h
  ·exact h
  ·exact absurd h a2
  ·omega
 refine ⟨⟨fun id o hc hn => ?_, fun id o n sz k cs hc hk => ?_, fun id id' b h1' h2' => ?_, fun id o b off hc hn hg hb => ?_, fun id o n sz k cs b c k' off hc hk hg hl' hb => ?_, fun b off hb => r1.lt b off hb⟩,
  ⟨fun b hb hn => fr.same b hb fun ⟨id, ho⟩ => hn ⟨id, (oE id b ho).2⟩, xE, fun b off hb => ?_, fr.size, fun b ⟨id, ho⟩ => ?_, fr.kp⟩, fun id hid => ?_, xE1, xE⟩
 ·rcases bD2 id m with l | l
  ·rw [hlo1 id l] at hc;obtain ⟨b, hg, ho⟩ := r1.objsO id o hc hn;exact ⟨b, by rw [ga id l]; exact hg, ho.move xE1 rfl⟩
  ·rw [hhi id l] at hc;obtain ⟨b, hg, ho⟩ := r.objsO id o hc hn;obtain ⟨a1, a2⟩ := apart id b l (.inl ⟨o, hc, hn, hg⟩);exact ⟨b, by rw [gb id l]; exact hg, ho.move xE (fr.same b a1 a2)⟩
 ·rcases bD2 id m with l | l
  ·rw [hlo1 id l] at hc;obtain ⟨blk, cap, ht, q1, q2, q3⟩ := r1.toks id o n sz k cs hc hk
   exact ⟨blk, cap, by rw [ta id l]; exact ht, q1, q2, fun b hb => by
    obtain ⟨vs, p1, p2, p3⟩ := q3 b hb;exact ⟨vs, p1, p2, p3.ext xE1⟩⟩
  ·rw [hhi id l] at hc;obtain ⟨blk, cap, ht, q1, q2, q3⟩ := r.toks id o n sz k cs hc hk;refine ⟨blk, cap, by rw [tb id l]; exact ht, q1, q2, fun b hb => ?_⟩;subst hb;obtain ⟨vs, p1, p2, p3⟩ := q3 b rfl;obtain ⟨a1, a2⟩ := apart id b l (.inr ⟨o, _, cap, n, hc, hk, ht⟩);exact ⟨vs, p1.same (fr.same b a1 a2), p2, p3.ext xE⟩
 ·rcases oJ id b h1' with ⟨l1, o1⟩ | ⟨l1, o1⟩ <;> rcases oJ id' b h2' with ⟨l2, o2⟩ | ⟨l2, o2⟩
  ·exact r1.inj id id' b o1 o2
  ·exact absurd ⟨id, o1⟩ (hG1 id' b l2 o2)
  ·exact absurd ⟨id', o2⟩ (hG1 id b l1 o1)
  ·exact r.inj id id' b o1 o2
 ·rcases bD2 id m with l | l
  ·rw [hlo1 id l] at hc; rw [ga id l] at hg; exact r1.sepO id o b off hc hn hg hb
  ·rw [hhi id l] at hc; rw [gb id l] at hg;exact r.sepO id o b off hc hn hg (hro id b off l (.inl ⟨o, hc, hn, hg⟩) hb)
 ·rcases bD2 id m with l | l
  ·rw [hlo1 id l] at hc; rw [ta id l] at hg; exact r1.sepT id o n sz k cs b c k' off hc hk hg hl' hb
  ·rw [hhi id l] at hc; rw [tb id l] at hg;exact r.sepT id o n sz k cs b c k' off hc hk hg hl' (hro id b off l (.inr ⟨o, _, c, k', hc, hk, hg⟩) hb)
 ·rcases fr.roNew b off hb with h | ⟨id, ho⟩ | h
  ·exact .inl h
  ·exact .inr (.inl ⟨id, (oE id b ho).2⟩)
  ·exact .inr (.inr h)
 ·rcases oJ id b ho with ⟨l1, o1⟩ | ⟨l1, o1⟩
  ·rcases fr.inG b ⟨id, o1⟩ with ⟨id', h⟩ | h
   ·exact .inl ⟨id', (oE id' b h).2⟩
   ·exact .inr h
  ·exact .inl ⟨id, o1⟩
 ·have hid' : m <= id := by rw [bBp] at hid; omega
  have : (h ++ L).length <= id := by rw [bBp] at hid ⊢; omega
  rw [gb id hid', tb id hid']; exact hf id this
theorem aDl {E : Env} {h : Heap} {w : World} (r : Rel E h.at w) (hf : Fresh E h.length) {id : Nat} (hid : id < h.length) (hn : h.at id = none) (hg0 : E.g id = none) {cs : List AV} {vs : List Value} (hc : RepL E w cs vs) (T : TypeId) :
  let E' : Env := { E with g := fun i => if i = id then some w.heap.size else E.g i }
  let w' := w.alloc (.cells (List.toArray vs) T (0, 0))
  Rel E' (Heap.at (h.set id (some (.cells cs)))) w' /\ Fr E h.at w E' (Heap.at (h.set id (some (.cells cs)))) w' /\ Fresh E' (h.set id (some (.cells cs))).length := by
 intro E' w'
 have hx : Ext E w E' w' := ⟨fun _ _ h => h, fun b off hb => bI (alloc_old _ (r.lt b off hb)) off, fun i b e => by
   show (if i = id then some w.heap.size else E.g i) = some b;rw [if_neg (fun he => by rw [he, hg0] at e; cases e)]; exact e, fun _ L h => ⟨L, h, bBh _, fun _ => rfl⟩⟩
 have hold : ∀ i, i ≠ id -> Heap.at (h.set id (some (.cells cs))) i = h.at i := fun i hne => by rw [eV _ _ _ _ hid, if_neg hne]
 have hnew : Heap.at (h.set id (some (.cells cs))) id = some (.cells cs) := by rw [eV _ _ _ _ hid, if_pos rfl]
 have hg' : ∀ i, i ≠ id -> E'.g i = E.g i := fun i hne => if_neg hne
 have hgn : E'.g id = some w.heap.size := if_pos rfl
 have hO : ∀ i b, eQ E' (Heap.at (h.set id (some (.cells cs)))) i b -> (i = id /\ b = w.heap.size) \/ (i ≠ id /\ eQ E h.at i b) := by
  intro i b ho
  by_cases e : i = id
  ·subst e;rcases ho with ⟨o', h1, h3, h2⟩ | ⟨o', x, c, m, h1, hk, h2⟩
   ·left; rw [hgn] at h2; cases h2; exact ⟨rfl, rfl⟩
   ·rw [hnew] at h1; cases h1; simp [AO.tk] at hk
  ·right; refine ⟨e, ?_⟩;rcases ho with ⟨o', h1, h3, h2⟩ | ⟨o', x, c, m, h1, hk, h2⟩
   ·rw [hold i e] at h1; rw [hg' i e] at h2; exact .inl ⟨o', h1, h3, h2⟩
   ·rw [hold i e] at h1; exact .inr ⟨o', x, c, m, h1, hk, h2⟩
 refine ⟨⟨fun i o' hc' hn' => ?_, fun i o' n sz k cs' hc' hk => ?_, fun i i' b h1 h2 => ?_, fun i o' b off hc' hn' hg hb => ?_, fun i o' n sz k cs' b c m off hc' hk hg hl hb => ?_, fun b off hb => ?_⟩, ⟨fun b hb _ => alloc_old _ hb, hx, fun b off hb => .inl hb, by rw [bJ]; omega, fun b hb => ?_, Kp.alloc (fun _ _ _ e => by cases e; rfl)⟩, fun i hi => ?_⟩
 ·by_cases e : i = id
  ·subst e; rw [hnew] at hc'; cases hc';exact ⟨w.heap.size, hgn, vs, ⟨T, cB _⟩, hc.ext hx⟩
  ·rw [hold i e] at hc';obtain ⟨b, hg, ho⟩ := r.objsO i o' hc' hn';exact ⟨b, by rw [hg' i e]; exact hg, ho.move hx (alloc_old _ ho.lt)⟩
 ·have e : i ≠ id := fun e => by subst e; rw [hnew] at hc'; cases hc'; simp [AO.tk] at hk
  rw [hold i e] at hc';obtain ⟨blk, cap, ht, h1, h2, h3⟩ := r.toks i o' n sz k cs' hc' hk;exact y4w
 ·rcases hO i b h1 with ⟨e1, e2⟩ | ⟨e1, o1⟩ <;> rcases hO i' b h2 with ⟨e3, e4⟩ | ⟨e3, o2⟩
  ·rw [e1, e3]
  ·have := r.owns_lt o2; omega
  ·have := r.owns_lt o1; omega
  ·exact r.inj i i' b o1 o2
 ·by_cases e : i = id
  ·subst e;rw [hgn] at hg; cases hg;have := r.lt _ off hb; omega
  ·rw [hold i e] at hc'; rw [hg' i e] at hg; exact r.sepO i o' b off hc' hn' hg hb
 ·have e : i ≠ id := fun e => by subst e; rw [hnew] at hc'; cases hc'; simp [AO.tk] at hk
  rw [hold i e] at hc';exact r.sepT i o' n sz k cs' b c m off hc' hk hg hl hb
 ·have := r.lt b off hb; rw [bJ]; omega
 ·obtain ⟨i, ho⟩ := hb;rcases hO i b ho with ⟨_, e2⟩ | ⟨_, o⟩
  ·exact .inr aB
  ·exact .inl ⟨i, o⟩
 ·rw [bDe] at hi;exact ⟨by rw [hg' i aB]; exact (hf i hi).1, (hf i hi).2⟩
def cutA (m : Nat) (x : AV) : AV := if x.under m = true then x else .junk
theorem aDw (m : Nat) (x : AV) : (cutA m x).under m = true := by
 unfold cutA;split
 ·assumption
 ·rfl
theorem oY (m : Nat) : ∀ l : List AV, AV.underL m (l.map (cutA m)) = true
 | [] => rfl
 | x :: l => by simp only [bBx, AV.underL, aDw, oY m l]; rfl
theorem aC4 {E : Env} {w : World} {m : Nat} : ∀ {l : List AV} {vs : List Value}, RepL E w l vs -> RepL E w (l.map (cutA m)) vs
 | [], vs, r => by simpa only [bCv, RepL] using r
 | x :: l, vs, r => by
  simp only [bBx, RepL] at r ⊢;obtain ⟨v, us, e, r1, r2⟩ := r;refine ⟨v, us, e, ?_, aC4 r2⟩;unfold cutA;split
  ·exact r1
  ·simp only [Rep]
theorem aNc (m : Nat) (ks : Ks) (x : AV) (hu : ∀ x, AV.under m (io ks x) = AV.under m x) : cutA m (io ks x) = io ks (cutA m x) := by
 unfold cutA;rw [hu];split
 ·rfl
 ·simp
def Put (o : Oper) (E : Env) (w : World) (a : Act) (h : Heap) (x : AV) (h' : Heap) (K : Act -> World -> Prop) : Prop :=
 ∀ E' w' v, Rel E' (Heap.at h') w' -> Fresh E' h'.length -> Rep E' w' x v -> Fr E h.at w E' (Heap.at h') w' -> K (a.put o.dst v) w'
theorem aVa {P : Program} {rd : Option Nat} {ops : Array Oper} {i : Nat} {o : Oper} {T : List AV} {h h' : Heap} {D : List AD} {x : AV} {E : Env} {w : World} {a : Act} {Qw : Exit -> Act -> World -> Prop} {Kw : Act -> World -> Prop} (ho : ops[i]? = some o) (s : St E w a T h D)
  (hd : (awanted ops T o = some false /\ x = .tup [] /\ h' = h) \/ (awanted ops T o = some true /\ aop P (aev T) h o.op = some (x, h')) \/
   (awanted ops T o = some true /\ ∃ c f args, o.op = .call c /\ aN T c = some (f, args) /\ aL P f = true /\ ACalls P f args h (fun o' g => o' = .ret x /\ g = h')) \/
   (awanted ops T o = some true /\ h' = h /\ ∃ sz ys n, x = .p (.sl sz ys) /\ aop P (aev T) h o.op = some (.own h.length sz ys, h ++ [some (.tok n sz)])))
  (hun : h.all (AO.under h.length) = true) (hk : Put o E w a h x h' Kw) : wpOpIn (fen rd) 0 P ops Qw i Kw a w := by
 unfold wpOpIn;simp only [ho];rcases hd with ⟨h1, rfl, rfl⟩ | ⟨h1, h2⟩ | ⟨h1, c, f, args, h3, h4, h5, h6⟩ | ⟨h1, rfl, sz, ys, n0, rfl, h2⟩
 ·refine yt ?_;exact ⟨fun _ _ => trivial, hk E w undef s.rel s.fresh (by simp only [Rep, RepL]; exact ⟨[], rfl, rfl⟩) (Fr.refl _ _ _)⟩
 ·refine yg ?_;obtain ⟨E', w', nn, v, hrun, hn, hr, hf, hx, hfr⟩ := aop_sound h2 s;have := hk E' w' v hr hf hx hfr;exact y4l
 ·refine yg ?_;obtain ⟨vs, hrun, hvs⟩ := acallee_sound (P := P) s h4 h5 h3;refine ⟨fun _ _ => trivial, ?_⟩;rw [Oper.semAt_eq _ _ _ (fun c hc => by rw [hc] at h3; cases h3), hrun];refine ⟨fun hd => (by cases hd), callsIn_fen.2 (Calls.mono (h6 E w vs s.rel s.fresh hvs) ?_)⟩;rintro e w' ⟨out, h'', E', ⟨rfl, rfl⟩, hrel, hf, hout, hfr⟩;simp only [RepO] at hout;obtain ⟨u, rfl, hx⟩ := hout;exact hk E' w' u hrel hf hx hfr
 ·refine yg ?_;obtain ⟨E', w', nn, v, hrun, hn, hr, hf, hx, hfr⟩ := aop_sound h2 s;have e1 : (h' ++ [some (AO.tok n0 sz)]).take h'.length = h' := List.take_left
  have hx' : Rep (E'.cut h'.length) w' (.p (.sl sz ys)) v := by
   have := aCn hx;simp only [Rep];exact RepP.cut _ this
  have := hk (E'.cut h'.length) w' v (by have := hr.cut h'.length (by rw [e1]; exact hun); rw [e1] at this; exact this) (by have := Fresh.cut E' (m := h'.length) (h := h' ++ [some (.tok n0 sz)]) aA; rw [e1] at this; exact this) hx' (by have := (hfr.toN _).cut s.fresh (bBh _); rw [e1] at this; exact this);exact y4l

end Go.AI.EV
