import Derived.Test.YtfajdeofhioakaaGreatJA0
import Derived.Test.YtfajdeofhioakaaGreatJEVj

namespace Go.AI.EV

open Go Go.AI

inductive TB (α : Type) where
 | nil
 | nd (k : Nat) (x : α) (l r : TB α)

noncomputable def TB.get {α : Type} (t : TB α) (f : Nat) : Option α :=
 TB.rec (motive := fun _ => Option α) none (fun k x _ _ il ir => Bool.rec (motive := fun _ => Option α) (Bool.rec (motive := fun _ => Option α) ir il (Nat.blt f k)) (some x) (Nat.beq f k)) t
def TB.All {α : Type} (p : Nat -> α -> Prop) : TB α -> Prop
 | .nil => True
 | .nd k x l r => p k x /\ l.All p /\ r.All p
theorem TB.get_all {α : Type} {p : Nat -> α -> Prop} {f : Nat} {x : α} : ∀ {t : TB α}, t.All p -> t.get f = some x -> p f x
 | .nil, _, h => by cases h
 | .nd k y l r, ha, h => by
  obtain ⟨h1, h2, h3⟩ := ha;have e : TB.get (.nd k y l r) f = Bool.rec (motive := fun _ => Option α) (Bool.rec (motive := fun _ => Option α) (r.get f) (l.get f) (Nat.blt f k)) (some y) (Nat.beq f k) := rfl;rw [e] at h
  cases hb : Nat.beq f k with
  | true =>
   rw [hb] at h;have := Nat.eq_of_beq_eq_true hb;subst this;simp only [bBk] at h;rw [<- h]; exact h1
  | false =>
   rw [hb] at h
   cases hl : Nat.blt f k with
   | true => rw [hl] at h; exact TB.get_all h2 h
   | false => rw [hl] at h; exact TB.get_all h3 h

noncomputable def yS (fs : TB Func) (pl : TB (List Nat × List Nat × List Nat × List Nat)) (pf : TB Pl) (p2 : TB Pl2) (pe : TB (List (Nat × List Nat × List Nat × List Nat × List Nat))) (rows : FuncId -> TypeId -> Bool) (keep : FuncId -> FuncId -> Bool) : Seat :=
 ⟨fs.get, fun f r => pl.get (Nat.add (Nat.mul f 4096) r), fun f r => pf.get (Nat.add (Nat.mul f 4096) r), fun f r => p2.get (Nat.add (Nat.mul f 4096) r), fun f r => match pe.get (Nat.add (Nat.mul f 4096) r) with | some l => l | none => [], rows, keep⟩
def aYa (S : Seat) (f : FuncId) (fn : Func) : Bool := match fn.body with
 | some c => (bC c).all fun e => (match S.plan f e.1 with | some (lo, rk, tbl, π) => okDraw e.2 lo rk tbl none π | none => true) && (match S.planF f e.1 with | some p => aH7 e.2 p | none => true) && (match S.plan2 f e.1 with | some p => aKk e.2 p | none => true) && (S.planE f e.1).all fun q => okDraw e.2 q.2.1 q.2.2.1 q.2.2.2.1 (some q.1) q.2.2.2.2
 | none => true
def aT (P : Program) (S : Seat) (f : Nat) (fn : Func) : Prop := (P.funcs[f]? = some fn /\ aL P f = true) /\ aYa S f fn = true
theorem aN8 {S : Seat} {f : FuncId} {fn : Func} {c : Code} (h : aYa S f fn = true) (hb : fn.body = some c) : OkD S f (bC c) := by
 unfold aYa at h;rw [hb] at h;intro e he;have := bC0.1 h e he;simp only [bBs] at this;refine ⟨fun lo rk tbl π hp => ?_, fun p hp => ?_, fun p hp => ?_, fun q hq => bC0.1 this.2 q hq⟩
 ·have h1 := this.1.1.1; rw [hp] at h1; exact h1
 ·have h1 := this.1.1.2; rw [hp] at h1; exact h1
 ·have h1 := this.1.2; rw [hp] at h1; exact h1
theorem aPh {P : Program} {fs : TB Func} {pl : TB (List Nat × List Nat × List Nat × List Nat)} {pf : TB Pl} {p2 : TB Pl2} {pe : TB (List (Nat × List Nat × List Nat × List Nat × List Nat))} {rows : FuncId -> TypeId -> Bool} {keep : FuncId -> FuncId -> Bool} (hm : P.follows .mixedOrders = true)
  (h : fs.All (aT P (yS fs pl pf p2 pe rows keep))) : SeatOk P (yS fs pl pf p2 pe rows keep) where
 fns := fun _f _fn hf => (TB.get_all (p := aT P (yS fs pl pf p2 pe rows keep)) h hf).1
 draws := fun _f _fn _c hf hb => aN8 (TB.get_all (p := aT P (yS fs pl pf p2 pe rows keep)) h hf).2 hb
 mixed := hm


open Go Go.AI
def evG (S : Seat) (P : Program) (cf : Bool -> LT -> aX) (yf : cA) (keep : Bool) (lt : LT) : aX := fun f args H j => aB3 j (match S.fn f with
    | some fn => match fn.body with
     | some c => match ev S P f cf yf lt false 100000 [.code c] (slots args fn.ntmps) H j [] with
      | some (x, T, H1, j1, D) => if H.length <= H1.length then (match D with
       | (.func d, cap, dargs) :: [] => match x with
        | .exit _ => none
        | x => if (S.fn d).isSome = true then (match aG5 S P cf yf lt d (dargs ++ cap) (match x with | .panic v => some v | _ => none) H1 j1 with
         | some H2 => if H.length <= H2.length then (match kP P T H2 fn.results.toList with
          | some l => (settle lt keep H.length (bO l) H2).map fun q => (.ret q.1, q.2, j1)
          | none => none) else none
         | none => none) else none
       | D => match gY D H1 with
        | some H2 => match x with
         | .exit _ => none
         | .panic v => (settle lt keep H.length v H2).map fun q => (.panic q.1, q.2, j1)
         | _ => match kP P T H2 fn.results.toList with
          | some l => (settle lt keep H.length (bO l) H2).map fun q => (.ret q.1, q.2, j1)
          | none => none
        | none => none) else none
      | none => none
     | none => none
    | none => none)
theorem aM4 {S : Seat} {P : Program} (hS : SeatOk P S) {cf : Bool -> LT -> aX} {yf : cA} {keep : Bool} {lt : LT} (hlt : aDe S lt) (hcf : ∀ b lt, aDe S lt -> eL P (Gl lt) (cf b lt)) (hyf : hY P (Gl lt) yf) : eL P (Gl lt) (evG S P cf yf keep lt) := by
 intro f args H j out H' j' h;simp only [evG] at h;refine aL3 h fun j' h => ?_
 split at h
 ·rename_i fn hfn;obtain ⟨hf, hen⟩ := hS.fns f fn hfn;split at h
  ·rename_i c hb;split at h
   ·rename_i x T H1 j1 D hev;obtain ⟨b1, b2⟩ := gJ (S := S) (rd := none) (nb := H.length) hS.mixed hlt hcf hyf (fun _ => rfl) _ _ _ _ _ _ _ _ _ _ _ hev ((hS.draws f fn _ hfn hb).sub fun e he => by simpa [gW] using he);split at h
    ·rename_i hlen;split at h
     ·-- a deferred call
      rename_i d cap dargs;split at h
      ·cases h
      ·rename_i hne;split at h
       ·rename_i hd;obtain ⟨fnd, hfnd⟩ := Option.isSome_iff_exists.1 hd;split at h
        ·rename_i H2 hdef;split at h
         ·rename_i hlen2;split at h
          ·rename_i l hl;obtain ⟨q, hs, hq⟩ := bBv.1 h;obtain ⟨y, H3⟩ := q;simp only [bBz] at hq;obtain ⟨rfl, rfl, rfl⟩ := hq;refine ⟨hen, b1, fun ks hG => ACalls.of_runD hf hb ?_⟩;rw [<- oL, bD];refine (b2 ks hG).mono ?_;rintro x2 T2' h2 D2 ⟨ks', a1, a2, rfl, rfl, rfl, rfl⟩;have hG' := Gl.closed lt _ _ _ _ hG a1 b1;have hdd := aAa hS hlt hcf hyf hdef hG';obtain ⟨h', mm, s1, s2, s3, s4, s5, s6⟩ := gR hlen2 hs hG';simp only [bBx, bCv, ioD, aIx];refine ⟨fun i e => ?_, (hS.fns d fnd hfnd).2, iH ks' H2, ?_, ?_⟩
           ·cases x <;> simp [ioX] at e
            exact hne _ rfl
           ·rw [bCi] at hdd
            cases x <;> first | exact hdd | exact (hne _ rfl).elim
           ·exact ⟨rfl, _, _, h', mm, aresX_io hl, by rw [atuple_io]; exact s1, s2, s3, s4, s5, ks', a1, a2, rfl, s6⟩
          ·cases h
         ·cases h
        ·cases h
       ·cases h
     ·rename_i hnd;split at h
      ·rename_i H2 hun;have hl2 := tW hun;split at h
       ·cases h
       ·rename_i v;obtain ⟨q, hs, hq⟩ := bBv.1 h;obtain ⟨y, H3⟩ := q;simp only [bBz] at hq;obtain ⟨rfl, rfl, rfl⟩ := hq;refine ⟨hen, b1, fun ks hG => ACalls.of_runM hf hb ?_⟩;rw [<- oL, bD];refine (b2 ks hG).mono ?_;rintro x2 T2' h2 D2 ⟨ks', a1, a2, rfl, rfl, rfl, rfl⟩;have hG' := Gl.closed lt _ _ _ _ hG a1 b1;obtain ⟨h', mm, s1, s2, s3, s4, s5, s6⟩ := gR aB hs hG';exact aAf hun ⟨rfl, _, h', mm, s1, s2, s3, s4, s5, ks', a1, a2, rfl, s6⟩
       ·rename_i hne1 hne2;split at h
        ·rename_i l hl;obtain ⟨q, hs, hq⟩ := bBv.1 h;obtain ⟨y, H3⟩ := q;simp only [bBz] at hq;obtain ⟨rfl, rfl, rfl⟩ := hq;refine ⟨hen, b1, fun ks hG => ACalls.of_runM hf hb ?_⟩;rw [<- oL, bD];refine (b2 ks hG).mono ?_;rintro x2 T2' h2 D2 ⟨ks', a1, a2, rfl, rfl, rfl, rfl⟩;have hG' := Gl.closed lt _ _ _ _ hG a1 b1;obtain ⟨h', mm, s1, s2, s3, s4, s5, s6⟩ := gR aB hs hG';refine aAf hun ?_
         cases x with
         | normal => exact ⟨rfl, _, _, h', mm, aresX_io hl, by rw [atuple_io]; exact s1, s2, s3, s4, s5, ks', a1, a2, rfl, s6⟩
         | ret => exact ⟨rfl, _, _, h', mm, aresX_io hl, by rw [atuple_io]; exact s1, s2, s3, s4, s5, ks', a1, a2, rfl, s6⟩
         | panic v => exact (hne2 _ rfl).elim
         | exit i => exact (hne1 _ rfl).elim
        ·cases h
      ·cases h
    ·cases h
   ·cases h
  ·cases h
 ·cases h
def aYf (S : Seat) (P : Program) (cfk : FuncId -> Bool -> LT -> aX) (yf : cA) (lt : LT) : cA := fun i args H j => match sE lt i, uR H 0 i with
    | some e, some id => match H[id]? with
     | some (.loop i1 .ready none) => if (Nat.beq i1 i && Nat.beq args.length e.ps.size) = true then
       (match ev S P e.fid (cfk e.fid) yf lt true 100000 [.code e.asg] (eJ e.T e.ps.toList args) H j [] with
       | some (.normal, T1, H1, j1, []) => match H1[id]? with
        | some (.loop i2 .ready none) => if Nat.beq i2 i = true then
          (match ev S P e.fid (cfk e.fid) yf lt true 100000 [.code e.bd] T1 (H1.set id (.loop i .busy none)) j1 [] with
          | some (x, _, H2, j2, []) => match nD x, H2[id]? with
           | some jj, some (.loop i3 .busy none) => if (Nat.beq i3 i && decide (H.length <= H2.length)) = true then
             (if ((H2.set id (.loop i (stOf jj) jj)).take H.length).all (fG lt H.length) = true then some (.ret (.p (.prim (.bool jj.isNone))), (H2.set id (.loop i (stOf jj) jj)).take H.length, j2)
             else if (H2.set id (.loop i (stOf jj) jj)).all (fG lt H2.length) = true then some (.ret (.p (.prim (.bool jj.isNone))), H2.set id (.loop i (stOf jj) jj), j2) else none) else none
           | _, _ => none
          | _ => none) else none
        | _ => none
       | _ => none) else none
     | _ => none
    | _, _ => none
theorem aOp {S : Seat} {P : Program} (hS : SeatOk P S) {cfk : FuncId -> Bool -> LT -> aX} {yf : cA} {lt : LT} (hlt : aDe S lt) (hcf : ∀ g b lt, aDe S lt -> eL P (Gl lt) (cfk g b lt)) (hyf : hY P (Gl lt) yf) : hY P (Gl lt) (aYf S P cfk yf lt) := by
 intro i args H j out H' j' h;simp only [aYf] at h;split at h
 ·rename_i e id he hid;obtain ⟨hem, rfl⟩ := mG he;have hcf := hcf e.fid;split at h
  ·rename_i i1 h1;split at h
   ·rename_i hc;simp only [bBs] at hc;obtain ⟨hi1, hargs⟩ := hc;have hi1 := Nat.eq_of_beq_eq_true hi1;have hargs := Nat.eq_of_beq_eq_true hargs;subst hi1;split at h
    ·rename_i T1 H1 j1 hev1;split at h
     ·rename_i i2 h2;split at h
      ·rename_i hi2;have hi2 := Nat.eq_of_beq_eq_true hi2;subst hi2;split at h
       ·rename_i x T3 H2 j2 hev2;split at h
        ·rename_i jj i3 hjj h3;split at h
         ·rename_i hc3;simp only [bBs, bC2] at hc3;obtain ⟨hi3, hlen⟩ := hc3;have hi3 := Nat.eq_of_beq_eq_true hi3;subst hi3;have g1 := (gJ (S := S) (fid := e.fid) (rd := some 0) (nb := 0) hS.mixed hlt hcf hyf (fun q => by cases q) _ _ _ _ _ _ _ _ _ _ _ hev1 ((hlt e hem).1.sub fun e he => by simpa [gW] using he)).1;have g2 := (gJ (S := S) (fid := e.fid) (rd := some 0) (nb := 0) hS.mixed hlt hcf hyf (fun q => by cases q) _ _ _ _ _ _ _ _ _ _ _ hev2 ((hlt e hem).2.sub fun e he => by simpa [gW] using he)).1
          -- where the round ends
          have main : ∀ (m : Nat) (H3 : HX), H.length <= m -> m <= H2.length -> H3 = (H2.set id (.loop e.j (stOf jj) jj)).take m -> H3.all (fG lt m) = true -> out = .ret (.p (.prim (.bool jj.isNone))) -> H' = H3 -> j' = j2 ->
            j <= j' /\ ∀ ks, Gl lt j ks -> AYield P (ks e.j).1 (args.map (io ks)) (iH ks H) (nN ks j out H' j') := by
           rintro m H3 hm1 hm2 rfl hun rfl rfl rfl;refine ⟨bDc g1 g2, fun ks hG => ?_⟩;obtain ⟨q1, q2, q3⟩ := hG e hem
           have hat : ∀ {ks' : Ks} {G : HX} {st : LoopState} {pend : Option Code}, ks' e.j = ks e.j -> G[id]? = some (.loop e.j st pend) -> (iH ks' G).at id = some (.aux (.loop (ks e.j).1 st pend (e.T.map (io ks)) e.ps e.asg e.bd)) := by
            intro ks' G st pend hk hg;rw [kF hg];simp only [iO, hk, q3]
           have hset : ∀ {ks' : Ks} {G : HX} (st : LoopState) (pend : Option Code), ks' e.j = ks e.j -> (iH ks' G).set id (some (.aux (.loop (ks e.j).1 st pend (e.T.map (io ks)) e.ps e.asg e.bd))) = iH ks' (G.set id (.loop e.j st pend)) := by
            intro ks' G st pend hk;rw [<- iF];simp only [iO, hk, q3]
           refine AYield.of_run (hat rfl h1) (by rw [bC9]; exact hargs) ?_;obtain ⟨_, r1⟩ := gJ (S := S) (fid := e.fid) (rd := some (ks e.j).1) (nb := (iH ks H).length) hS.mixed hlt hcf hyf (fun q => by cases q) _ _ _ _ _ _ _ _ _ _ _ hev1 ((hlt e hem).1.sub fun e he => by simpa [gW] using he)
           have hpm : ∀ (ps : List Tmp) (xs T : List AV), eJ (T.map (io ks)) ps (xs.map (io ks)) = (eJ T ps xs).map (io ks) := by
            intro ps
            induction ps with
            | nil => intro xs T; cases xs <;> simp [eJ]
            | cons p ps ih =>
             intro xs T
             cases xs with
             | nil => simp [eJ]
             | cons x xs => simp only [bBx, eJ]; rw [<- List.map_set, ih]
           rw [hpm];refine (r1 ks hG).mono ?_;rintro x2 T2' h2' D2 ⟨ks1, a1, a2, rfl, rfl, rfl, rfl⟩;have k1 : ks1 e.j = ks e.j := a1 _ q1;refine ⟨rfl, rfl, hat k1 h2, ?_⟩;rw [hset .busy none k1];obtain ⟨_, r2⟩ := gJ (S := S) (fid := e.fid) (rd := some (ks e.j).1) (nb := (iH ks H).length) hS.mixed hlt hcf hyf (fun q => by cases q) _ _ _ _ _ _ _ _ _ _ _ hev2 ((hlt e hem).2.sub fun e he => by simpa [gW] using he);have hG1 := Gl.closed lt _ _ _ _ hG a1 g1;refine (r2 ks1 hG1).mono ?_;rintro x3 T3' h3' D3 ⟨ks2, b1, b2, rfl, rfl, rfl, rfl⟩;have hG2 := Gl.closed lt _ _ _ _ hG1 b1 g2;have k2 : ks2 e.j = ks e.j := (b1 _ aB).trans k1
           have hjx : nD (ioX ks2 x) = some jj := by
            cases x with
            | panic v => simp [nD] at hjj
            | _ => exact hjj
           have htk : (iH ks2 (H2.set id (.loop e.j (stOf jj) jj))).take m = iH ks2 ((H2.set id (.loop e.j (stOf jj) jj)).take m) := by simp [iH, List.map_take]
           refine ⟨jj, m, hjx, rfl, by rw [bD]; exact hm1, by rw [bD]; exact hm2, hat k2 h3, ?_, ?_⟩
           ·rw [hset (stOf jj) jj k2, htk]; exact lX hG2 hun
           ·rw [hset (stOf jj) jj k2, htk];refine ⟨ks2, a1.trans g1 b1, fun q => ?_, by simp [ioR], rfl⟩;have e1 : j1 = j := aB;rw [b2 aB, a2 e1]
          split at h
          ·rename_i hun;simp only [bBk, bBz] at h;obtain ⟨rfl, rfl, rfl⟩ := h;exact main H.length _ (bBh _) hlen rfl hun rfl rfl rfl
          ·split at h
           ·rename_i hun;simp only [bBk, bBz] at h;obtain ⟨rfl, rfl, rfl⟩ := h
            have e1 : (H2.set id (.loop e.j (stOf jj) jj)).take H2.length = H2.set id (.loop e.j (stOf jj) jj) := by
             rw [bBr aA]
            exact main H2.length _ hlen (bBh _) e1.symm hun rfl rfl rfl
           ·cases h
         ·cases h
        ·cases h
       ·cases h
      ·cases h
     ·cases h
    ·cases h
   ·cases h
  ·cases h
 ·cases h

structure Ent where
 f : FuncId
 args : List AV
 H : HX
 j : Nat
 out : AOut
 H' : HX
 j' : Nat
def look : List Ent -> aX
 | [], _, _, _, _ => none
 | e :: l, f, args, H, j => if (Nat.beq e.f f && Nat.beq e.j j && Nat.beq e.H.length H.length && zN e.args args && eqH e.H H) = true then some (e.out, e.H', e.j') else look l f args H j


open Go Go.AI

inductive Tr where
 | nil
 | nd (x : AV) (l r : Tr)

noncomputable def Tr.get (t : Tr) : Nat -> AV :=
 Tr.rec (motive := fun _ => Nat -> AV) (fun _ => .tup [])
  (fun x _ _ il ir n => Nat.rec (motive := fun _ => AV) x (fun m _ => Bool.rec (motive := fun _ => AV) (ir (Nat.div m 2)) (il (Nat.div m 2)) (Nat.beq (Nat.mod m 2) 0)) n) t

noncomputable def Tr.put (y : AV) (fuel : Nat) : Tr -> Nat -> Tr :=
 Nat.rec (motive := fun _ => Tr -> Nat -> Tr) (fun t _ => t) (fun _ ih t n => Tr.rec (motive := fun _ => Tr)
  (Nat.rec (motive := fun _ => Tr) (.nd y .nil .nil) (fun m _ => Bool.rec (motive := fun _ => Tr) (.nd (.tup []) .nil (ih .nil (Nat.div m 2))) (.nd (.tup []) (ih .nil (Nat.div m 2)) .nil) (Nat.beq (Nat.mod m 2) 0)) n)
  (fun x l r _ _ => Nat.rec (motive := fun _ => Tr) (.nd y l r) (fun m _ => Bool.rec (motive := fun _ => Tr) (.nd x l (ih r (Nat.div m 2))) (.nd x (ih l (Nat.div m 2)) r) (Nat.beq (Nat.mod m 2) 0)) n) t) fuel
theorem Tr.get_nil (n : Nat) : Tr.get .nil n = .tup [] := rfl
theorem Tr.get_succ (x : AV) (l r : Tr) (m : Nat) : Tr.get (.nd x l r) (m + 1) = if m % 2 = 0 then l.get (m / 2) else r.get (m / 2) := by
 have e : Tr.get (.nd x l r) (m + 1) = Bool.rec (motive := fun _ => AV) (r.get (m / 2)) (l.get (m / 2)) (Nat.beq (m % 2) 0) := rfl;exact y4c
def Tr.val : Tr -> AV
 | .nil => .tup []
 | .nd x _ _ => x
def Tr.lt : Tr -> Tr
 | .nil => .nil
 | .nd _ l _ => l
def Tr.rt : Tr -> Tr
 | .nil => .nil
 | .nd _ _ r => r
theorem Tr.put_zero (y : AV) (k : Nat) (t : Tr) : Tr.put y (k + 1) t 0 = .nd y t.lt t.rt := by cases t <;> rfl
theorem Tr.put_succ (y : AV) (k : Nat) (t : Tr) (m : Nat) : Tr.put y (k + 1) t (m + 1) = if m % 2 = 0 then .nd t.val (Tr.put y k t.lt (m / 2)) t.rt else .nd t.val t.lt (Tr.put y k t.rt (m / 2)) := by
 have e : Tr.put y (k + 1) t (m + 1) = Bool.rec (motive := fun _ => Tr) (.nd t.val t.lt (Tr.put y k t.rt (m / 2))) (.nd t.val (Tr.put y k t.lt (m / 2)) t.rt) (Nat.beq (m % 2) 0) := by cases t <;> rfl
 exact y4c
theorem Tr.get_eq (t : Tr) (n : Nat) : t.get n = match n with | 0 => t.val | m + 1 => if m % 2 = 0 then t.lt.get (m / 2) else t.rt.get (m / 2) := by
 cases t with
 | nil => cases n <;> simp [Tr.get_nil, Tr.val, Tr.lt, Tr.rt]
 | nd x l r => cases n with
  | zero => rfl
  | succ m => rw [Tr.get_succ]; rfl
theorem Tr.get_put (y : AV) : ∀ (k : Nat) (t : Tr) (d e : Nat), d + 1 < 2 ^ k -> (Tr.put y k t d).get e = if e = d then y else t.get e
 | 0, t, d, e, h => by simp at h
 | k + 1, t, 0, e, _ => by
  rw [Tr.put_zero, Tr.get_eq, Tr.get_eq t e]
  cases e with
  | zero => rfl
  | succ m => simp [Tr.lt, Tr.rt]
 | k + 1, t, d + 1, e, h => by
  have hd : d / 2 + 1 < 2 ^ k := by rw [Nat.pow_succ] at h; omega
  rw [Tr.put_succ, Tr.get_eq t e]
  cases e with
  | zero => split <;> rw [Tr.get_eq] <;> simp [Tr.val]
  | succ m =>
   have ih := fun t => Tr.get_put y k t (d / 2) (m / 2) hd
   simp only [Nat.add_right_cancel_iff];split
   ·rename_i hp;rw [Tr.get_eq];simp only [Tr.lt, Tr.rt, ih]
    by_cases hm : m % 2 = 0
    ·simp only [hm, if_true]
     by_cases e1 : m = d
     ·subst e1; simp
     ·rw [if_neg e1, if_neg aB]
    ·simp only [hm, if_false];rw [if_neg aB]
   ·rename_i hp;rw [Tr.get_eq];simp only [Tr.lt, Tr.rt, ih]
    by_cases hm : m % 2 = 0
    ·simp only [hm, if_true];rw [if_neg aB]
    ·simp only [hm, if_false]
     by_cases e1 : m = d
     ·subst e1; simp
     ·rw [if_neg e1, if_neg aB]

noncomputable def toL (n : Nat) (t : Tr) : List AV := (List.range n).map t.get
theorem aPk (n : Nat) (t : Tr) : (toL n t).length = n := by simp [toL]
theorem aPj (n : Nat) (t : Tr) {d : Nat} (h : d < n) : tget (toL n t) d = t.get d := by
 rw [tget_eq];simp [toL, List.getD, h]
theorem aPl (n : Nat) (t : Tr) (y : AV) {d k : Nat} (h : d + 1 < 2 ^ k) : toL n (Tr.put y k t d) = (toL n t).set d y := by
 apply bD3;intro i;refine y13 ?_;simp only [toL, bDo, bC9, List.length_range]
 by_cases hi : i < n
 ·rw [List.getElem?_range hi];simp only [bCm, Tr.get_put y k t d i h]
  by_cases e : d = i
  ·subst e; simp [hi]
  ·rw [if_neg e, if_neg (fun q => e q.symm)]
 ·rw [bDj (by simpa using hi)]
  by_cases e : d = i
  ·subst e; simp [hi]
  ·rw [if_neg e]; rfl

noncomputable def aRq (n : Nat) (T : Tr) (d : Nat) : AV := Bool.rec (motive := fun _ => AV) .junk (T.get d) (Nat.blt d n)
theorem vA (n : Nat) (T : Tr) (d : Nat) : aRq n T d = tget (toL n T) d := by
 unfold aRq
 cases h : Nat.blt d n with
 | true =>
  have : d < n := by simpa [Nat.blt_eq] using h
  rw [aPj n T this]
 | false =>
  have hn : ¬ d < n := fun q => by rw [<- Nat.blt_eq, h] at q; cases q
  rw [tget_eq];simp [toL, List.getD, hn]

noncomputable def nF (n : Nat) (T : Tr) (dst : Option Nat) (x : AV) : Tr := Option.rec (motive := fun _ => Tr) T (fun d => Bool.rec (motive := fun _ => Tr) T (Tr.put x 12 T d) (Nat.blt d n)) dst
theorem kput_eq {n : Nat} (hn : n < 4095) (T : Tr) (dst : Option Nat) (x : AV) : toL n (nF n T dst x) = tput (toL n T) dst x := by
 cases dst with
 | none => rfl
 | some d =>
  show toL n (Bool.rec (motive := fun _ => Tr) T (Tr.put x 12 T d) (Nat.blt d n)) = (toL n T).set d x
  cases h : Nat.blt d n with
  | true =>
   have hd : d + 1 <= n := Nat.le_of_ble_eq_true h;have h12 : (2 : Nat) ^ 12 = 4096 := rfl;exact aPl n T x (by rw [h12]; omega)
  | false =>
   have hd : ¬ d + 1 <= n := fun q => by
    have := Nat.ble_eq_true_of_le q;rw [show Nat.ble (d + 1) n = Nat.blt d n from rfl, h] at this; cases this
   rw [List.set_eq_of_length_le (by rw [aPk]; omega)]

noncomputable def kev (n : Nat) (T : Tr) : Operand -> AV
 | .tmp t => aRq n T t
 | .const v => rL v
 | .global _ => .junk
 | .func f => .p (.prim (.func (.func f) #[] #[]))
theorem lE (n : Nat) (T : Tr) : kev n T = aev (toL n T) := by
 funext y
 cases y with
 | tmp t => exact vA n T t
 | _ => rfl

noncomputable def mM (all : Array Oper) (n : Nat) (T : Tr) (o : Oper) : Option Bool :=
 match o.guard with
 | none => some true
 | some (j, want) => match (all[j]?).bind (·.dst) with
  | some d => match aRq n T d with
   | .p (.prim (.bool b)) => some (b == want)
   | .tup [] => some false
   | _ => none
  | none => some false
theorem jJ (all : Array Oper) (n : Nat) (T : Tr) (o : Oper) : mM all n T o = awanted all (toL n T) o := by
 unfold mM awanted;simp only [vA]
 rfl

noncomputable def mK (n : Nat) (T : Tr) (c : Call) : Option (FuncId × List AV) :=
 match c.callee with
 | .value f => match kev n T f with
  | .p (.prim (.func (.func i) _ _)) => some (i, c.args.toList.map (kev n T))
  | .fn (.func i) first cap => some (i, first ++ c.args.toList.map (kev n T) ++ cap)
  | _ => none
 | _ => none
theorem jI (n : Nat) (T : Tr) (c : Call) : mK n T c = aN (toL n T) c := by
 unfold mK aN;rw [lE]
 rfl

noncomputable def uZ (n : Nat) (T : Tr) (c : Call) : Option (Nat × List AV) :=
 match c.callee with
 | .value f => match kev n T f with
  | .fn (.yield l) [] [] => some (l, c.args.toList.map (kev n T))
  | _ => none
 | _ => none
theorem aAn (n : Nat) (T : Tr) (c : Call) : uZ n T c = dS (toL n T) c := by
 unfold uZ dS;rw [lE]
 rfl


open Go Go.AI

inductive KOR where
 | norm (T : Tr) (H : HX) (j : Nat) (D : List AD)
 | pan (v : AV) (T : Tr) (H : HX) (j : Nat) (D : List AD)

noncomputable def KOR.un (n : Nat) : KOR -> OR
 | .norm T H j D => .norm (toL n T) H j D
 | .pan v T H j D => .pan v (toL n T) H j D

noncomputable def aP0 (n : Nat) (P : Program) (rows : TypeId -> Bool) (cf : aX) (yf : cA) (rnd : Bool) (o : Oper) (T : Tr) (H : HX) (j : Nat) (D : List AD) : Option KOR :=
 match o.op with
 | .call ⟨.value f, args, types⟩ => match mK n T ⟨.value f, args, types⟩ with
  | some (f, args) => match cf f args H j with
   | some (.ret v, H', j') => if jR j j' (toL n T) D = true then some (.norm (nF n T o.dst v) H' j' D) else none
   | some (.panic v, H', j') => if jR j j' (toL n T) D = true then some (.pan v T H' j' D) else none
   | none => none
  | none => match uZ n T ⟨.value f, args, types⟩ with
   | some (i, args) => match yf i args H j with
    | some (.ret v, H', j') => if jR j j' (toL n T) D = true then some (.norm (nF n T o.dst v) H' j' D) else none
    | _ => none
   | none => none
 | .panic x => match kev n T x with
  | .p (.ifc t y) => some (.pan (.p (.ifc t y)) T H j D)
  | .ifc t y => some (.pan (.ifc t y) T H j D)
  | _ => none
 | .defer ⟨.value f, args, _⟩ => if rnd = true then none else match kev n T f with
  | .fn (.func i) first cap => some (.norm (nF n T o.dst (.tup [])) H j ((.func i, cap, first ++ args.toList.map (kev n T)) :: D))
  | _ => none
 | .mapUpdate t m ix x => match aY7 P t (kev n T m) (kev n T ix) (kev n T x) H with
  | some H' => some (.norm (nF n T o.dst (.tup [])) H' j D)
  | none => match aLs P t (kev n T m) (kev n T ix) (kev n T x) H with
   | some H' => some (.norm (nF n T o.dst (.tup [])) H' j D)
   | none => none
 | op => match xsp P rows (kev n T) H j op with
  | some (x, H', j') => if jR j j' (toL n T) D = true then some (.norm (nF n T o.dst x) H' j' D) else none
  | none => match rA P (kev n T) H op with
   | some (x, H') => some (.norm (nF n T o.dst x) H' j D)
   | none => none

noncomputable def nE (n : Nat) (P : Program) (rows : TypeId -> Bool) (cf : aX) (yf : cA) (rnd : Bool) (all : Array Oper) : List Oper -> Tr -> HX -> Nat -> List AD -> Option KOR
 | [], T, H, j, D => some (.norm T H j D)
 | o :: l, T, H, j, D => match mM all n T o with
  | none => none
  | some false => nE n P rows cf yf rnd all l (nF n T o.dst (.tup [])) H j D
  | some true => match aP0 n P rows cf yf rnd o T H j D with
   | some (.norm T' H' j' D') => nE n P rows cf yf rnd all l T' H' j' D'
   | some (.pan v T' H' j' D') => some (.pan v T' H' j' D')
   | none => none
theorem aCd {n : Nat} (hn : n < 4095) {P : Program} {rows : TypeId -> Bool} {cf : aX} {yf : cA} {rnd : Bool} {o : Oper} {T : Tr} {H : HX} {j : Nat} {D : List AD} {r : KOR} (h : aP0 n P rows cf yf rnd o T H j D = some r) :
  aUn P rows cf yf rnd o (toL n T) H j D = some (r.un n) := by
 unfold aP0 at h;simp only [jI, aAn, lE] at h;unfold aUn;split at h
 ·rename_i ho;rw [ho];split at h
  ·rename_i e1;simp only [e1];split at h
   ·rename_i e2;simp only [e2];exact y5j
   ·rename_i e2;simp only [e2];split at h
    ·rename_i e3;simp only [bBk] at h;subst h;simp only [e3, if_true, KOR.un]
    ·cases h
   ·cases h
  ·rename_i e1;simp only [e1];split at h
   ·rename_i e2;simp only [e2];split at h
    ·rename_i e3;simp only [e3];split at h
     ·rename_i e4;simp only [bBk] at h;subst h;simp only [e4, if_true, KOR.un, kput_eq hn]
     ·cases h
    ·cases h
   ·cases h
 ·rename_i ho;rw [ho];split at h
  ·rename_i e1;simp only [bBk] at h;subst h;simp only [e1, KOR.un]
  ·rename_i e1;simp only [bBk] at h;subst h;simp only [e1, KOR.un]
  ·cases h
 ·rename_i ho;rw [ho];split at h
  ·cases h
  ·rename_i e1;simp only [e1, if_false, bBy];exact y3i
 ·rename_i ho;rw [ho];split at h
  ·rename_i e1;simp only [bBk] at h;subst h;simp only [e1, KOR.un, kput_eq hn]
  ·rename_i e1;simp only [e1];exact y3i
 ·rename_i n1 n2 n3 n4;split
  ·rename_i ho; exact (n1 _ _ _ ho).elim
  ·rename_i ho; exact (n2 _ ho).elim
  ·rename_i ho; exact (n3 _ _ _ ho).elim
  ·rename_i ho; exact (n4 _ _ _ _ ho).elim
  split at h
  ·rename_i e1;simp only [e1];exact y5j
  ·rename_i e1;simp only [e1];exact y3i
theorem lD {n : Nat} (hn : n < 4095) {P : Program} {rows : TypeId -> Bool} {cf : aX} {yf : cA} {rnd : Bool} {all : Array Oper} : ∀ {l : List Oper} {T : Tr} {H : HX} {j : Nat} {D : List AD} {r : KOR}, nE n P rows cf yf rnd all l T H j D = some r ->
  pC P rows cf yf rnd all l (toL n T) H j D = some (r.un n)
 | [], T, H, j, D, r, h => by
  simp only [nE, bBk] at h;subst h
  rfl
 | o :: l, T, H, j, D, r, h => by
  simp only [nE, jJ] at h;simp only [pC];split at h
  ·cases h
  ·rename_i hw;simp only [hw];rw [<- kput_eq hn];exact lD hn h
  ·rename_i hw;simp only [hw];split at h
   ·rename_i e1;simp only [aCd hn e1, KOR.un];exact lD hn h
   ·rename_i e1;simp only [bBk] at h;subst h;simp only [aCd hn e1, KOR.un]
   ·cases h

end Go.AI.EV
