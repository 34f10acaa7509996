/-
  Lists of operations, calls and yields over letters.
-/
import Derived.Test.YtplomildbmcmfaaGreatBEVg

namespace Go.AI.EV

open Go Go.AI
def ioD (ks : Ks) (d : AD) : AD := (d.1, d.2.1.map (io ks), d.2.2.map (io ks))
def ioR (ks : Ks) : AOut → AOut
  | .ret v => .ret (io ks v)
  | .panic v => .panic (io ks v)
abbrev CallF := FuncId → List AV → HX → Nat → Option (AOut × HX × Nat)
abbrev YieldF := Nat → List AV → HX → Nat → Option (AOut × HX × Nat)
def After (ks : Ks) (j : Nat) (out : AOut) (H' : HX) (j' : Nat) : AOut → Heap → Prop :=
  fun o g => ∃ ks', Agree j ks ks' ∧ (j' = j → ks' = ks) ∧ o = ioR ks' out ∧ g = iH ks' H'
abbrev Kn := Nat → Ks → Prop
def Kn.Closed (G : Kn) : Prop := ∀ j j' ks ks', G j ks → Agree j ks ks' → j ≤ j' → G j' ks'
def CallOk (P : Program) (G : Kn) (cf : CallF) : Prop := ∀ f args H j out H' j', cf f args H j = some (out, H', j') → enterable P f = true ∧ j ≤ j' ∧ ∀ ks, G j ks → ACalls P f (args.map (io ks)) (iH ks H) (After ks j out H' j')
def YieldOk (P : Program) (G : Kn) (yf : YieldF) : Prop := ∀ i args H j out H' j', yf i args H j = some (out, H', j') → j ≤ j' ∧ ∀ ks, G j ks → AYield P (ks i).1 (args.map (io ks)) (iH ks H) (After ks j out H' j')

inductive OR where
  | norm (T : List AV) (H : HX) (j : Nat) (D : List AD)
  | pan (v : AV) (T : List AV) (H : HX) (j : Nat) (D : List AD)
def jokD (j : Nat) : List AD → Bool
  | [] => true
  | d :: D => jokL j d.2.1 && jokL j d.2.2 && jokD j D
theorem jokD_congr {j : Nat} {ks ks' : Ks} (ha : Agree j ks ks') : ∀ {D : List AD}, jokD j D = true → D.map (ioD ks') = D.map (ioD ks)
  | [], _ => rfl
  | d :: D, h => by
    simp only [jokD, Bool.and_eq_true] at h
    simp only [List.map_cons, jokD_congr ha h.2]
    congr 1
    simp only [ioD, map_congr ha h.1.1, map_congr ha h.1.2]
def keepOk (j j' : Nat) (T : List AV) (D : List AD) : Bool := Nat.beq j' j || (jokL j T && jokD j D)
def evOp (P : Program) (rows : Bool) (cf : CallF) (yf : YieldF) (rnd : Bool) (o : Oper) (T : List AV) (H : HX) (j : Nat) (D : List AD) : Option OR :=
  match o.op with
  | .call ⟨.value f, args, types⟩ => match acallee T ⟨.value f, args, types⟩ with
    | some (f, args) => match cf f args H j with
      | some (.ret v, H', j') => if keepOk j j' T D = true then some (.norm (tput T o.dst v) H' j' D) else none
      | some (.panic v, H', j') => if keepOk j j' T D = true then some (.pan v T H' j' D) else none
      | none => none
    | none => match acalleeY T ⟨.value f, args, types⟩ with
      | some (i, args) => match yf i args H j with
        | some (.ret v, H', j') => if keepOk j j' T D = true then some (.norm (tput T o.dst v) H' j' D) else none
        | _ => none
      | none => none
  | .panic x => match aev T x with
    | .p (.ifc t y) => some (.pan (.p (.ifc t y)) T H j D)
    | _ => none
  | .defer ⟨.value f, args, _⟩ => if rnd = true then none else match aev T f with
    | .fn (.func i) first cap => some (.norm (tput T o.dst (.tup [])) H j ((.func i, cap, first ++ args.toList.map (aev T)) :: D))
    | _ => none
  | .mapUpdate t m ix x => match xupd P t (aev T m) (aev T ix) (aev T x) H with
    | some H' => some (.norm (tput T o.dst (.tup [])) H' j D)
    | none => match xupdI P t (aev T m) (aev T ix) (aev T x) H with
      | some H' => some (.norm (tput T o.dst (.tup [])) H' j D)
      | none => none
  | op => match xsp P rows (aev T) H j op with
    | some (x, H', j') => if keepOk j j' T D = true then some (.norm (tput T o.dst x) H' j' D) else none
    | none => match xaop P (aev T) H op with
      | some (x, H') => some (.norm (tput T o.dst x) H' j D)
      | none => none
def evOps (P : Program) (rows : Bool) (cf : CallF) (yf : YieldF) (rnd : Bool) (all : Array Oper) : List Oper → List AV → HX → Nat → List AD → Option OR
  | [], T, H, j, D => some (.norm T H j D)
  | o :: l, T, H, j, D => match awanted all T o with
    | none => none
    | some false => evOps P rows cf yf rnd all l (tput T o.dst (.tup [])) H j D
    | some true => match evOp P rows cf yf rnd o T H j D with
      | some (.norm T' H' j' D') => evOps P rows cf yf rnd all l T' H' j' D'
      | some (.pan v T' H' j' D') => some (.pan v T' H' j' D')
      | none => none

section

variable {P : Program} {ks : Ks}
theorem awanted_io (all : Array Oper) (T : List AV) (o : Oper) {b : Bool} (h : awanted all T o = some b) : awanted all (T.map (io ks)) o = some b := by
  unfold awanted at h ⊢
  split
  · rename_i hg; rw [hg] at h; exact h
  · rename_i jj want hg
    rw [hg] at h
    simp only at h
    split
    · rename_i d hd
      rw [hd] at h
      simp only at h
      rw [tget_io]
      split at h
      · rename_i b' hT; rw [hT, io_p]; exact h
      · rename_i hT; rw [hT]; simp only [io_tup, List.map_nil]; exact h
      · cases h
    · rename_i hd
      rw [hd] at h
      exact h
theorem acallee_io {T : List AV} {c : Call} {f : FuncId} {args : List AV} (h : acallee T c = some (f, args)) : acallee (T.map (io ks)) c = some (f, args.map (io ks)) := by
  have hm : c.args.toList.map (aev (T.map (io ks))) = (c.args.toList.map (aev T)).map (io ks) := by
    rw [List.map_map]; exact List.map_congr_left fun y _ => aev_io ks T y
  unfold acallee at h ⊢
  split at h
  · rename_i fo hcal
    simp only [aev_io, hm]
    split at h
    · rename_i i x y hev
      simp only [Option.some.injEq, Prod.mk.injEq] at h
      obtain ⟨rfl, rfl⟩ := h
      rw [hev, io_p]
    · rename_i i first cap hev
      simp only [Option.some.injEq, Prod.mk.injEq] at h
      obtain ⟨rfl, rfl⟩ := h
      rw [hev, io_fn]
      simp only [iof, List.map_append]
    · cases h
  · cases h
theorem acalleeY_io {T : List AV} {c : Call} {i : Nat} {args : List AV} (h : acalleeY T c = some (i, args)) : acalleeY (T.map (io ks)) c = some ((ks i).1, args.map (io ks)) := by
  have hm : c.args.toList.map (aev (T.map (io ks))) = (c.args.toList.map (aev T)).map (io ks) := by
    rw [List.map_map]; exact List.map_congr_left fun y _ => aev_io ks T y
  unfold acalleeY at h ⊢
  split at h
  · rename_i fo hcal
    simp only [aev_io, hm]
    split at h
    · rename_i l hev
      simp only [Option.some.injEq, Prod.mk.injEq] at h
      obtain ⟨rfl, rfl⟩ := h
      rw [hev, io_fn]
      simp only [iof, List.map_nil]
    · cases h
  · cases h
def Next (P : Program) (rd : Option Nat) (nb : Nat) (k : List It) (Q : AX → List AV → Heap → List AD → Prop) (ks : Ks) (j : Nat) : OR → Prop
  | .norm T H j' D => ∀ ks', Agree j ks ks' → (j' = j → ks' = ks) → Run P rd nb k (T.map (io ks')) (iH ks' H) (D.map (ioD ks')) Q
  | .pan v T H j' D => ∀ ks', Agree j ks ks' → (j' = j → ks' = ks) → Q (.panic (io ks' v)) (T.map (io ks')) (iH ks' H) (D.map (ioD ks'))
def OR.j : OR → Nat
  | .norm _ _ j _ => j
  | .pan _ _ _ j _ => j
theorem xsp_le {rows : Bool} {ρ : Operand → AV} {H H' : HX} {j j' : Nat} {op : Op} {x : AV} (hx : xsp P rows ρ H j op = some (x, H', j')) : j ≤ j' := by
  unfold xsp at hx
  split at hx
  · split at hx
    · split at hx
      · rename_i e
        split at hx
        · simp only [Option.some.injEq, Prod.mk.injEq] at hx
          obtain ⟨_, _, rfl⟩ := hx
          unfold xapp at e
          repeat' (split at e)
          all_goals first
            | (cases e; done)
            | (simp only [Option.some.injEq, Prod.mk.injEq] at e; omega)
        · cases hx
      · cases hx
    · cases hx
  · repeat' (split at hx)
    all_goals first
      | (cases hx; done)
      | (simp only [Option.some.injEq, Prod.mk.injEq] at hx; omega)
  · simp only [Option.some.injEq, Prod.mk.injEq] at hx; omega
  · obtain ⟨y, h1, h2⟩ := Option.map_eq_some_iff.1 hx
    simp only [Prod.mk.injEq] at h2
    omega
  · obtain ⟨y, h1, h2⟩ := Option.map_eq_some_iff.1 hx
    simp only [Prod.mk.injEq] at h2
    omega
theorem keepOk_T {j j' : Nat} {T : List AV} {D : List AD} {ks' : Ks} (h : keepOk j j' T D = true) (ha : Agree j ks ks') (he : j' = j → ks' = ks) : T.map (io ks') = T.map (io ks) ∧ D.map (ioD ks') = D.map (ioD ks) := by
  unfold keepOk at h
  simp only [Bool.or_eq_true, Bool.and_eq_true] at h
  rcases h with h | h
  · rw [he (Nat.eq_of_beq_eq_true h)]; exact ⟨rfl, rfl⟩
  · exact ⟨map_congr ha h.1, jokD_congr ha h.2⟩

variable {rows : Bool} {G : Kn} {cf : CallF} {yf : YieldF} {rd : Option Nat} {nb : Nat} {k : List It} {Q : AX → List AV → Heap → List AD → Prop}
theorem evOp_sound (hcf : CallOk P G cf) (hyf : YieldOk P G yf) {all : Array Oper} {o : Oper} {rest : List Oper} {T : List AV} {H : HX} {j : Nat} {D : List AD} {rnd : Bool} (hrd : rnd = false → rd = none) {r : OR} (hw : awanted all T o = some true)
    (h : evOp P rows cf yf rnd o T H j D = some r) : j ≤ r.j ∧ ∀ ks, G j ks → Next P rd nb (.ops all rest :: k) Q ks j r → Run P rd nb (.ops all (o :: rest) :: k) (T.map (io ks)) (iH ks H) (D.map (ioD ks)) Q := by
  have hw' : ∀ ks, awanted all (T.map (io ks)) o = some true := fun ks => awanted_io all T o hw
  unfold evOp at h
  split at h
  · -- calls
    rename_i f args types ho
    split at h
    · rename_i f' args' hc
      split at h
      · rename_i v H' j' hcall
        split at h
        · rename_i hk
          simp only [Option.some.injEq] at h
          subst h
          obtain ⟨c1, c2, c3⟩ := hcf _ _ _ _ _ _ _ hcall
          refine ⟨c2, fun ks hG hn => Run.call ho (hw' ks) (acallee_io hc) c1 (c3 ks hG) ?_ ?_⟩
          · rintro v' h' ⟨ks', a1, a2, a3, rfl⟩
            simp only [ioR, AOut.ret.injEq] at a3
            subst a3
            have e := keepOk_T hk a1 a2
            have := hn ks' a1 a2
            rw [← tput_io, e.1, e.2] at this
            exact this
          · rintro v' h' ⟨ks', a1, a2, a3, rfl⟩
            cases a3
        · cases h
      · rename_i v H' j' hcall
        split at h
        · rename_i hk
          simp only [Option.some.injEq] at h
          subst h
          obtain ⟨c1, c2, c3⟩ := hcf _ _ _ _ _ _ _ hcall
          refine ⟨c2, fun ks hG hn => Run.call ho (hw' ks) (acallee_io hc) c1 (c3 ks hG) ?_ ?_⟩
          · rintro v' h' ⟨ks', a1, a2, a3, rfl⟩
            cases a3
          · rintro v' h' ⟨ks', a1, a2, a3, rfl⟩
            simp only [ioR, AOut.panic.injEq] at a3
            subst a3
            have e := keepOk_T hk a1 a2
            have := hn ks' a1 a2
            rw [e.1, e.2] at this
            exact this
        · cases h
      · cases h
    · split at h
      · rename_i i args' hc
        split at h
        · rename_i v H' j' hcall
          split at h
          · rename_i hk
            simp only [Option.some.injEq] at h
            subst h
            obtain ⟨c2, c3⟩ := hyf _ _ _ _ _ _ _ hcall
            refine ⟨c2, fun ks hG hn => Run.yield ho (hw' ks) (acalleeY_io hc) (c3 ks hG) ?_ ?_⟩
            · rintro v' h' ⟨ks', a1, a2, a3, rfl⟩
              simp only [ioR, AOut.ret.injEq] at a3
              subst a3
              have e := keepOk_T hk a1 a2
              have := hn ks' a1 a2
              rw [← tput_io, e.1, e.2] at this
              exact this
            · rintro v' h' ⟨ks', a1, a2, a3, rfl⟩
              cases a3
          · cases h
        · cases h
      · cases h
  · -- panic
    rename_i x ho
    split at h
    · rename_i t y hx
      simp only [Option.some.injEq] at h
      subst h
      refine ⟨Nat.le_refl _, fun ks _ hn => Run.panic ho (hw' ks) (by rw [aev_io, hx, io_p]) ?_⟩
      have := hn ks (Agree.refl _ _) (fun _ => rfl)
      rw [io_p] at this
      exact this
    · cases h
  · -- defer
    rename_i f args types ho
    split at h
    · cases h
    · rename_i hr
      have hrd' : rd = none := hrd (by simpa using hr)
      subst hrd'
      split at h
      · rename_i i first cap hx
        simp only [Option.some.injEq] at h
        subst h
        refine ⟨Nat.le_refl _, fun ks _ hn => Run.defer (i := i) (first := first.map (io ks)) (cap := cap.map (io ks)) ho (hw' ks) rfl (by rw [aev_io, hx, io_fn]; rfl) ?_⟩
        have := hn ks (Agree.refl _ _) (fun _ => rfl)
        rw [← tput_io, io_tup, List.map_nil] at this
        have hm : args.toList.map (aev (T.map (io ks))) = (args.toList.map (aev T)).map (io ks) := by
          rw [List.map_map]; exact List.map_congr_left fun y _ => aev_io ks T y
        simp only [List.map_cons, ioD, List.map_append] at this
        rw [hm]
        exact this
      · cases h
  · -- a map is given a key
    rename_i t m ix x ho
    split at h
    · rename_i H' hx
      simp only [Option.some.injEq] at h
      subst h
      refine ⟨Nat.le_refl _, fun ks _ hn => xupd_run ho (hw' ks) hx ?_⟩
      have := hn ks (Agree.refl _ _) (fun _ => rfl)
      rw [← tput_io, io_tup, List.map_nil] at this
      exact this
    · split at h
      · rename_i H' hx
        simp only [Option.some.injEq] at h
        subst h
        refine ⟨Nat.le_refl _, fun ks _ hn => Run.op (x := .tup []) (h' := iH ks H') (hw' ks) ?_ ?_⟩
        · rw [ho]
          simp only [aop, aev_io, xupdI_io hx, Option.map_some]
        · have := hn ks (Agree.refl _ _) (fun _ => rfl)
          rw [← tput_io, io_tup, List.map_nil] at this
          exact this
      · cases h
  · -- the others
    rename_i n1 n2 n3 n4
    split at h
    · rename_i x H' j' hx
      split at h
      · rename_i hk
        simp only [Option.some.injEq] at h
        subst h
        have hj : j ≤ j' := xsp_le hx
        refine ⟨hj, fun ks _ hn => Run.opR (R := fun y g => ∃ ks', Agree j ks ks' ∧ (j' = j → ks' = ks) ∧ y = io ks' x ∧ g = iH ks' H') (hw' ks) (fun c hc => ?_) (fun E w a st => ?_) ?_⟩
        · unfold xsp at hx
          rw [hc] at hx
          simp [xrd] at hx
        · obtain ⟨ks', a1, a2, _, E', w', v, b1, b2, b3, b4, b5⟩ := xsp_out (fun y _ => aev_io ks T y) st hx
          exact ⟨_, _, E', w', v, ⟨ks', a1, a2, rfl, rfl⟩, b1, b2, b3, b4, b5⟩
        · rintro y g ⟨ks', a1, a2, rfl, rfl⟩
          have e := keepOk_T hk a1 a2
          have := hn ks' a1 a2
          rw [← tput_io, e.1, e.2] at this
          exact this
      · cases h
    · split at h
      · rename_i x H' hx
        simp only [Option.some.injEq] at h
        subst h
        refine ⟨Nat.le_refl _, fun ks _ hn => Run.op (hw' ks) (xaop_io (fun y => aev_io ks T y) hx) ?_⟩
        rw [tput_io]
        exact hn ks (Agree.refl _ _) (fun _ => rfl)
      · cases h
theorem evOps_sound (hGc : G.Closed) (hcf : CallOk P G cf) (hyf : YieldOk P G yf) {all : Array Oper} {rnd : Bool} (hrd : rnd = false → rd = none) : ∀ (l : List Oper) (T : List AV) (H : HX) (j : Nat) (D : List AD) (r : OR), evOps P rows cf yf rnd all l T H j D = some r →
    j ≤ r.j ∧ ∀ ks, G j ks → Next P rd nb k Q ks j r → Run P rd nb (.ops all l :: k) (T.map (io ks)) (iH ks H) (D.map (ioD ks)) Q
  | [], T, H, j, D, r, h => by
    simp only [evOps, Option.some.injEq] at h
    subst h
    exact ⟨Nat.le_refl _, fun ks _ hn => Run.opsNil (hn ks (Agree.refl _ _) fun _ => rfl)⟩
  | o :: l, T, H, j, D, r, h => by
    simp only [evOps] at h
    split at h
    · cases h
    · rename_i hw
      obtain ⟨h1, h2⟩ := evOps_sound hGc hcf hyf hrd l _ _ _ _ r h
      refine ⟨h1, fun ks hG hn => Run.off (awanted_io all T o hw) ?_⟩
      have := h2 ks hG hn
      rw [← tput_io, io_tup, List.map_nil] at this
      exact this
    · rename_i hw
      split at h
      · rename_i T' H' j' D' ho
        obtain ⟨h1, h2⟩ := evOps_sound hGc hcf hyf hrd l _ _ _ _ r h
        obtain ⟨h3, h4⟩ := evOp_sound (rows := rows) (rd := rd) (nb := nb) (k := k) (Q := Q) (rest := l) hcf hyf hrd hw ho
        simp only [OR.j] at h3
        refine ⟨Nat.le_trans h3 h1, fun ks hG hn => h4 ks hG fun ks' a1 a2 => h2 ks' (hGc _ _ _ _ hG a1 h3) ?_⟩
        cases r with
        | norm T2 H2 j2 D2 =>
          simp only [OR.j] at h1
          exact fun ks2 b1 b2 => hn ks2 (a1.trans h3 b1) fun e => by
            have e1 : j' = j := by omega
            rw [← a2 e1]; exact b2 (by omega)
        | pan v T2 H2 j2 D2 =>
          simp only [OR.j] at h1
          exact fun ks2 b1 b2 => hn ks2 (a1.trans h3 b1) fun e => by
            have e1 : j' = j := by omega
            rw [← a2 e1]; exact b2 (by omega)
      · rename_i v T' H' j' D' ho
        simp only [Option.some.injEq] at h
        subst h
        obtain ⟨h3, h4⟩ := evOp_sound (rows := rows) (rd := rd) (nb := nb) (k := k) (Q := Q) (rest := l) hcf hyf hrd hw ho
        exact ⟨h3, fun ks hG hn => h4 ks hG hn⟩
      · cases h

end

end Go.AI.EV
