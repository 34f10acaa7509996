/-
  The tables of a seat.
-/
import Derived.Test.YtplomildbmcmfaaGreatBEVq

namespace Go.AI.EV

open Go Go.AI
def aresX (P : Program) (T : List AV) (H : HX) : List ResultVar → Option (List AV)
  | [] => some []
  | .tmp t :: rs => (aresX P T H rs).map fun l => tget T t :: l
  | .cell a t :: rs => match xload P t (tget T a) H, aresX P T H rs with
    | some x, some l => some (x :: l)
    | _, _ => none
theorem aresX_io {P : Program} {ks : Ks} {T : List AV} {H : HX} : ∀ {rs : List ResultVar} {l : List AV}, aresX P T H rs = some l → aresults P (T.map (io ks)) (iH ks H) rs = some (l.map (io ks))
  | [], l, h => by simp only [aresX, Option.some.injEq] at h; subst h; rfl
  | .tmp t :: rs, l, h => by
    simp only [aresX] at h
    obtain ⟨l', h1, rfl⟩ := Option.map_eq_some_iff.1 h
    simp only [aresults, aresX_io h1, Option.map_some, tget_io, List.map_cons]
  | .cell a t :: rs, l, h => by
    simp only [aresX] at h
    split at h
    · rename_i x l' h1 h2
      simp only [Option.some.injEq] at h
      subst h
      simp only [aresults, tget_io, xload_io h1, aresX_io h2, List.map_cons]
    · cases h
theorem atuple_io (ks : Ks) (l : List AV) : atuple (l.map (io ks)) = io ks (atuple l) := by
  match l with
  | [] => simp [atuple]
  | [x] => simp [atuple]
  | x :: y :: l => simp [atuple]
def settle (lt : LT) (keep : Bool) (n0 : Nat) (v : AV) (H : HX) : Option (AV × HX) :=
  if keep = true then (if (v.under H.length && H.all (xunder lt H.length)) = true then some (v, H) else none)
  else
    if ((pa H n0 v).under n0 && (H.take n0).all (xunder lt n0)) = true then some (pa H n0 v, H.take n0)
    else if (v.under H.length && H.all (xunder lt H.length)) = true then some (v, H) else none
theorem settle_spec {lt : LT} {keep : Bool} {n0 j : Nat} {v y : AV} {H H' : HX} (hn : n0 ≤ H.length) (h : settle lt keep n0 v H = some (y, H')) {ks : Ks} (hG : Gl lt j ks) :
    ∃ h' m, Settles (io ks v) (iH ks H) (io ks y) h' ∧ n0 ≤ m ∧ m ≤ h'.length ∧ (io ks y).under m = true ∧ (h'.take m).all (AO.under m) = true ∧ h'.take m = iH ks H' := by
  have full : ∀ {y H'}, (if (v.under H.length && H.all (xunder lt H.length)) = true then some (v, H) else none) = some (y, H') → ∃ h' m, Settles (io ks v) (iH ks H) (io ks y) h' ∧ n0 ≤ m ∧ m ≤ h'.length ∧ (io ks y).under m = true ∧ (h'.take m).all (AO.under m) = true ∧ h'.take m = iH ks H' := by
    intro y H' h
    split at h
    · rename_i hc
      simp only [Bool.and_eq_true] at hc
      simp only [Option.some.injEq, Prod.mk.injEq] at h
      obtain ⟨rfl, rfl⟩ := h
      have e : (iH ks H).take H.length = iH ks H := by rw [← iH_len ks H, List.take_length]
      refine ⟨iH ks H, H.length, Settles.refl _ _, hn, by rw [iH_len]; exact Nat.le_refl _, by rw [under_io]; exact hc.1, ?_, e⟩
      rw [e]; exact xunder_iH hG hc.2
    · cases h
  unfold settle at h
  split at h
  · exact full h
  · split at h
    · rename_i hc
      simp only [Bool.and_eq_true] at hc
      simp only [Option.some.injEq, Prod.mk.injEq] at h
      obtain ⟨rfl, rfl⟩ := h
      have hn' : n0 ≤ (iH ks H).length := by rw [iH_len]; exact hn
      have e : (frzH (iH ks H) n0).take n0 = iH ks (H.take n0) := by
        rw [frzH_take _ _ hn']
        simp [iH, List.map_take]
      refine ⟨frzH (iH ks H) n0, n0, settles_pa ks H n0 hn v, Nat.le_refl _, by rw [frzH_len _ _ hn']; exact hn', by rw [under_io]; exact hc.1, ?_, e⟩
      rw [e]; exact xunder_iH hG hc.2
    · exact full h
def unmark : List AD → HX → Option HX
  | [], H => some H
  | (.yield id, _, _) :: D, H => match H[id]? with
    | some .dblk => unmark D (H.set id .dead)
    | _ => none
  | _, _ => none
theorem unmark_len : ∀ {D : List AD} {H H' : HX}, unmark D H = some H' → H'.length = H.length
  | [], H, H', h => by simp only [unmark, Option.some.injEq] at h; rw [h]
  | (f, x, y) :: D, H, H', h => by
    cases f with
    | yield id =>
      simp only [unmark] at h
      split at h
      · rw [unmark_len h, List.length_set]
      · cases h
    | _ => simp [unmark] at h
theorem finM_of {P : Program} {fn : Func} {n : Nat} {R : AOut → Heap → Prop} {x : AX} {T : List AV} {ks : Ks} : ∀ {D : List AD} {H H' : HX}, unmark D H = some H' → Fin P fn n R x T (iH ks H') [] → FinM P fn n R x T (iH ks H) (D.map (ioD ks))
  | [], H, H', h, f => by
    simp only [unmark, Option.some.injEq] at h
    subst h
    exact f
  | (g, a, b) :: D, H, H', h, f => by
    cases g with
    | yield id =>
      simp only [unmark] at h
      split at h
      · rename_i hd
        simp only [List.map_cons, ioD, FinM]
        refine ⟨by rw [iH_at hd]; rfl, ?_⟩
        have := finM_of h f
        rw [← iH_set] at this
        exact this
      · cases h
    | _ => simp [unmark] at h
def evA (P : Program) (all : Array Oper) : List Oper → List AV → HX → Option (List AV × HX)
  | [], T, H => some (T, H)
  | o :: l, T, H => match awanted all T o with
    | none => none
    | some false => evA P all l (tput T o.dst (.tup [])) H
    | some true => match xaop P (aev T) H o.op with
      | some (x, H') => evA P all l (tput T o.dst x) H'
      | none => none
theorem evA_run {P : Program} {all : Array Oper} {ks : Ks} {K : List Oper → List AV → Heap → Prop} : ∀ {l : List Oper} {T T' : List AV} {H H' : HX}, evA P all l T H = some (T', H') → K [] (T'.map (io ks)) (iH ks H') → runOps P all K l (T.map (io ks)) (iH ks H)
  | [], T, T', H, H', h, k => by
    simp only [evA, Option.some.injEq, Prod.mk.injEq] at h
    obtain ⟨rfl, rfl⟩ := h
    exact k
  | o :: l, T, T', H, H', h, k => by
    simp only [evA] at h
    split at h
    · cases h
    · rename_i hw
      simp only [runOps, awanted_io all T o hw]
      have := evA_run (ks := ks) h k
      rw [← tput_io, io_tup, List.map_nil] at this
      exact this
    · rename_i hw
      split at h
      · rename_i x H1 hx
        simp only [runOps, awanted_io all T o hw, xaop_io (ks := ks) (fun y => aev_io ks T y) hx]
        have := evA_run (ks := ks) h k
        rw [← tput_io] at this
        exact this
      · cases h
def slots (args : List AV) (n : Nat) : List AV := args ++ List.replicate (n - args.length) (.tup [])
theorem slots_io (ks : Ks) (args : List AV) (n : Nat) : (slots args n).map (io ks) = args.map (io ks) ++ List.replicate (n - (args.map (io ks)).length) (.tup []) := by
  unfold slots
  rw [List.map_append, List.map_replicate, io_tup, List.length_map]; rfl
def goodX : AX → Bool
  | .normal | .ret => true
  | _ => false
def evDef (S : Seat) (P : Program) (cf : Bool → LT → CallF) (yf : YieldF) (lt : LT) (d : FuncId) (args : List AV) (m : Option AV) (H : HX) (j : Nat) : Option HX :=
  match S.fn d with
  | some fn => match fn.body with
    | some (.seq (.region _ ⟨o0 :: os⟩ false) c) => match o0.op, o0.guard with
      | .call ⟨.builtin .recover, ⟨[]⟩, _⟩, none => match evA P ⟨o0 :: os⟩ os (tput (slots args fn.ntmps) o0.dst (recA m)) H with
        | some (T1, H1) => match ev S P d cf yf lt false 100000 [.code c] T1 H1 j [] with
          | some (x, T2, H2, j2, []) => if (Nat.beq j2 j && goodX x && decide (H.length ≤ H2.length)) = true then
              (match aresX P T2 H2 fn.results.toList with
              | some l => (settle lt false H.length (atuple l) H2).map (·.2)
              | none => none) else none
          | _ => none
        | none => none
      | _, _ => none
    | _ => none
  | none => none

structure SeatOk (P : Program) (S : Seat) : Prop where
  fns : ∀ f fn, S.fn f = some fn → P.funcs[f]? = some fn ∧ enterable P f = true
  draws : ∀ f fn c, S.fn f = some fn → fn.body = some c → OkD S f (drawsC c)
  mixed : P.follows .mixedOrders = true
theorem evDef_sound {S : Seat} {P : Program} (hS : SeatOk P S) {cf : Bool → LT → CallF} {yf : YieldF} {lt : LT} (hlt : LTok S lt) (hcf : ∀ b lt, LTok S lt → CallOk P (Gl lt) (cf b lt)) (hyf : YieldOk P (Gl lt) yf) {d : FuncId} {args : List AV} {m : Option AV} {H H' : HX} {j : Nat} (h : evDef S P cf yf lt d args m H j = some H') {ks : Ks} (hG : Gl lt j ks) :
    ADef P d (args.map (io ks)) (m.map (io ks)) (iH ks H) (iH ks H') := by
  unfold evDef at h
  split at h
  · rename_i fn hfn
    obtain ⟨hf, _⟩ := hS.fns d fn hfn
    split at h
    · rename_i rid o0 os c hb
      split at h
      · rename_i ts hop hgd
        split at h
        · rename_i T1 H1 hA
          split at h
          · rename_i x T2 H2 j2 hev
            split at h
            · rename_i hc
              simp only [Bool.and_eq_true, decide_eq_true_eq] at hc
              obtain ⟨⟨hj, hx⟩, hlen⟩ := hc
              have hj := Nat.eq_of_beq_eq_true hj
              subst hj
              split at h
              · rename_i l hl
                obtain ⟨q, hs, rfl⟩ := Option.map_eq_some_iff.1 h
                obtain ⟨y, H3⟩ := q
                refine ADef.of_run (id := rid) (o0 := o0) (os := os) (c := c) hf hb hop hgd ?_
                intro K hK
                have hrec : recA (m.map (io ks)) = io ks (recA m) := by cases m <;> simp [recA]
                rw [hrec, ← slots_io, tput_io]
                refine evA_run (ks := ks) hA (hK _ _ ?_)
                obtain ⟨_, b2⟩ := ev_sound (S := S) (rd := none) (nb := (iH ks H).length) hS.mixed hlt hcf hyf (fun _ => rfl) _ _ _ _ _ _ _ _ _ _ _ hev ((hS.draws d fn _ hfn hb).sub fun e he => by simpa [itsD, drawsC] using he)
                refine (b2 ks hG).mono ?_
                rintro x2 T2' h2 D2 ⟨ks', a1, a2, rfl, rfl, rfl, rfl⟩
                have e := a2 rfl
                subst e
                obtain ⟨h', mm, s1, s2, s3, s4, s5, s6⟩ := settle_spec hlen hs hG
                have fin : ∀ ax, (ax = AX.normal ∨ ax = AX.ret) → Fin P fn (iH ks' H).length (fun o g => (∃ v, o = .ret v) ∧ g = iH ks' H3) ax (T2.map (io ks')) (iH ks' H2) [] := by
                  intro ax hax
                  rw [iH_len]
                  rcases hax with rfl | rfl
                  · exact ⟨rfl, _, _, h', mm, aresX_io hl, by rw [atuple_io]; exact s1, s2, s3, s4, s5, ⟨_, rfl⟩, s6⟩
                  · exact ⟨rfl, _, _, h', mm, aresX_io hl, by rw [atuple_io]; exact s1, s2, s3, s4, s5, ⟨_, rfl⟩, s6⟩
                cases x with
                | normal => exact fin _ (.inl rfl)
                | ret => exact fin _ (.inr rfl)
                | panic v => simp [goodX] at hx
                | exit i => simp [goodX] at hx
              · cases h
            · cases h
          · cases h
        · cases h
      · cases h
    · cases h
  · cases h
def findLoop : HX → Nat → Nat → Option Nat
  | [], _, _ => none
  | .loop i _ _ :: H, n, k => if Nat.beq i k = true then some n else findLoop H (n + 1) k
  | _ :: H, n, k => findLoop H (n + 1) k
def jokR (j : Nat) : AOut → Bool
  | .ret v => jok j v
  | .panic v => jok j v
def relet (j : Nat) (x : Option (AOut × HX × Nat)) : Option (AOut × HX × Nat) :=
  match x with
  | some (out, H', j1) => if Nat.beq j1 j = true then some (out, H', j1) else if (jokR j out && H'.all (jokO j)) = true then some (out, H', j) else some (out, H', j1)
  | none => none
theorem relet_ok {P : Program} {G : Kn} {f : FuncId} {args : List AV} {H : HX} {j j' : Nat} {out : AOut} {H' : HX} {x : Option (AOut × HX × Nat)} (h : relet j x = some (out, H', j'))
    (c : ∀ j1, x = some (out, H', j1) → enterable P f = true ∧ j ≤ j1 ∧ ∀ ks, G j ks → ACalls P f (args.map (io ks)) (iH ks H) (After ks j out H' j1)) :
    enterable P f = true ∧ j ≤ j' ∧ ∀ ks, G j ks → ACalls P f (args.map (io ks)) (iH ks H) (After ks j out H' j') := by
  unfold relet at h
  split at h
  · rename_i o1 H1 j1
    split at h
    · simp only [Option.some.injEq, Prod.mk.injEq] at h
      obtain ⟨rfl, rfl, rfl⟩ := h
      exact c _ rfl
    · split at h
      · rename_i hc
        simp only [Bool.and_eq_true] at hc
        simp only [Option.some.injEq, Prod.mk.injEq] at h
        obtain ⟨rfl, rfl, rfl⟩ := h
        obtain ⟨c1, c2, c3⟩ := c _ rfl
        refine ⟨c1, Nat.le_refl _, fun ks hG => (c3 ks hG).mono ?_⟩
        rintro o g ⟨ks', a1, a2, rfl, rfl⟩
        refine ⟨ks, Agree.refl _ _, fun _ => rfl, ?_, iH_congr a1 hc.2⟩
        cases o1 with
        | ret v => simp only [ioR]; rw [io_congr a1 hc.1]
        | panic v => simp only [ioR]; rw [io_congr a1 hc.1]
      · simp only [Option.some.injEq, Prod.mk.injEq] at h
        obtain ⟨rfl, rfl, rfl⟩ := h
        exact c _ rfl
  · cases h

end Go.AI.EV

namespace Go.AI.EV

open Go Go.AI

inductive TB (α : Type) where
  | nil
  | nd (k : Nat) (x : α) (l r : TB α)

noncomputable def TB.get {α : Type} (t : TB α) (f : Nat) : Option α :=
  TB.rec (motive := fun _ => Option α) none (fun k x _ _ il ir => Bool.rec (motive := fun _ => Option α) (Bool.rec (motive := fun _ => Option α) ir il (Nat.blt f k)) (some x) (Nat.beq f k)) t
def TB.All {α : Type} (p : Nat → α → Prop) : TB α → Prop
  | .nil => True
  | .nd k x l r => p k x ∧ l.All p ∧ r.All p
theorem TB.get_all {α : Type} {p : Nat → α → Prop} {f : Nat} {x : α} : ∀ {t : TB α}, t.All p → t.get f = some x → p f x
  | .nil, _, h => by cases h
  | .nd k y l r, ha, h => by
    obtain ⟨h1, h2, h3⟩ := ha
    have e : TB.get (.nd k y l r) f = Bool.rec (motive := fun _ => Option α) (Bool.rec (motive := fun _ => Option α) (r.get f) (l.get f) (Nat.blt f k)) (some y) (Nat.beq f k) := rfl
    rw [e] at h
    cases hb : Nat.beq f k with
    | true =>
      rw [hb] at h
      have := Nat.eq_of_beq_eq_true hb
      subst this
      simp only [Option.some.injEq] at h
      rw [← h]; exact h1
    | false =>
      rw [hb] at h
      cases hl : Nat.blt f k with
      | true => rw [hl] at h; exact TB.get_all h2 h
      | false => rw [hl] at h; exact TB.get_all h3 h

noncomputable def seatOf (fs : TB Func) (pl : TB (List Nat × List Nat × List Nat × List Nat)) (pf : TB Pl) (p2 : TB Pl2) (pe : TB (List (Nat × List Nat × List Nat × List Nat × List Nat))) (rows : FuncId → Bool) (keep : FuncId → FuncId → Bool) : Seat :=
  ⟨fs.get, fun f r => pl.get (Nat.add (Nat.mul f 4096) r), fun f r => pf.get (Nat.add (Nat.mul f 4096) r), fun f r => p2.get (Nat.add (Nat.mul f 4096) r), fun f r => match pe.get (Nat.add (Nat.mul f 4096) r) with | some l => l | none => [], rows, keep⟩
def chkD (S : Seat) (f : FuncId) (fn : Func) : Bool := match fn.body with
  | some c => (drawsC c).all fun e => (match S.plan f e.1 with | some (lo, rk, tbl, π) => okDraw e.2 lo rk tbl none π | none => true) && (match S.planF f e.1 with | some p => okReg e.2 p | none => true) && (match S.plan2 f e.1 with | some p => okPl2 e.2 p | none => true) && (S.planE f e.1).all fun q => okDraw e.2 q.2.1 q.2.2.1 q.2.2.2.1 (some q.1) q.2.2.2.2
  | none => true
def FnOk (P : Program) (S : Seat) (f : Nat) (fn : Func) : Prop := (P.funcs[f]? = some fn ∧ enterable P f = true) ∧ chkD S f fn = true
theorem chkD_ok {S : Seat} {f : FuncId} {fn : Func} {c : Code} (h : chkD S f fn = true) (hb : fn.body = some c) : OkD S f (drawsC c) := by
  unfold chkD at h
  rw [hb] at h
  intro e he
  have := List.all_eq_true.1 h e he
  simp only [Bool.and_eq_true] at this
  refine ⟨fun lo rk tbl π hp => ?_, fun p hp => ?_, fun p hp => ?_, fun q hq => List.all_eq_true.1 this.2 q hq⟩
  · have h1 := this.1.1.1; rw [hp] at h1; exact h1
  · have h1 := this.1.1.2; rw [hp] at h1; exact h1
  · have h1 := this.1.2; rw [hp] at h1; exact h1
theorem seat_ok {P : Program} {fs : TB Func} {pl : TB (List Nat × List Nat × List Nat × List Nat)} {pf : TB Pl} {p2 : TB Pl2} {pe : TB (List (Nat × List Nat × List Nat × List Nat × List Nat))} {rows : FuncId → Bool} {keep : FuncId → FuncId → Bool} (hm : P.follows .mixedOrders = true)
    (h : fs.All (FnOk P (seatOf fs pl pf p2 pe rows keep))) : SeatOk P (seatOf fs pl pf p2 pe rows keep) where
  fns := fun _f _fn hf => (TB.get_all (p := FnOk P (seatOf fs pl pf p2 pe rows keep)) h hf).1
  draws := fun _f _fn _c hf hb => chkD_ok (TB.get_all (p := FnOk P (seatOf fs pl pf p2 pe rows keep)) h hf).2 hb
  mixed := hm

end Go.AI.EV
