/-
  Code over letters.
-/
import Derived.Test.YtplomildbmcmfaaGreatBEVh
import Derived.Test.YtplomildbmcmfaaGreatBEVdd

namespace Go.AI.EV

open Go Go.AI

structure Pl where
  tbl : List Nat
  fl : List Nat
def Pl.pre (p : Pl) (i j : Nat) : Bool := (p.tbl.getD i 0).testBit j

structure Seat where
  fn : FuncId → Option Func
  plan : FuncId → Nat → Option (List Nat × List Nat × List Nat × List Nat)
  planF : FuncId → Nat → Option Pl
  plan2 : FuncId → Nat → Option Pl2
  planE : FuncId → Nat → List (Nat × List Nat × List Nat × List Nat × List Nat)
  rows : FuncId → Bool
  keep : FuncId → FuncId → Bool

structure LE where
  j : Nat
  fid : FuncId
  T : List AV
  ps : Array Tmp
  asg : Code
  bd : Code
abbrev LT := List LE

mutual
theorem jok_mono {j j' : Nat} (h : j ≤ j') : ∀ {x : AV}, jok j x = true → jok j' x = true
  | .p _, _ => rfl
  | .agg cs, hx => by simp only [jok] at hx ⊢; exact jokL_mono h hx
  | .tup cs, hx => by simp only [jok] at hx ⊢; exact jokL_mono h hx
  | .ptr _ _, _ => rfl
  | .sm _ _ _ cap _, hx => by
    simp only [jok, jokC, Bool.or_eq_true, decide_eq_true_eq] at hx ⊢
    exact hx.imp id fun q => by omega
  | .own _ _ _, _ => rfl
  | .fn f xs ys, hx => by
    simp only [jok, Bool.and_eq_true] at hx ⊢
    refine ⟨⟨?_, jokL_mono h hx.1.2⟩, jokL_mono h hx.2⟩
    have h1 := hx.1.1
    cases f <;> first | rfl | (simp only [jokF, decide_eq_true_eq] at h1 ⊢; omega)
  | .ifc _ x, hx => by simp only [jok] at hx ⊢; exact jok_mono h hx
  | .mp _, _ => rfl
  | .vec _ _, _ => rfl
  | .junk, _ => rfl
theorem jokL_mono {j j' : Nat} (h : j ≤ j') : ∀ {l : List AV}, jokL j l = true → jokL j' l = true
  | [], _ => rfl
  | x :: l, hx => by
    simp only [jokL, Bool.and_eq_true] at hx ⊢
    exact ⟨jok_mono h hx.1, jokL_mono h hx.2⟩
end
def Gl (lt : LT) : Kn := fun j ks => ∀ e ∈ lt, e.j < j ∧ jokL j e.T = true ∧ (ks e.j).2 = ⟨e.T.map (io ks), e.ps, e.asg, e.bd⟩
theorem Gl.closed (lt : LT) : (Gl lt).Closed := by
  intro j j' ks ks' hG ha hj e he
  obtain ⟨h1, h2, h3⟩ := hG e he
  refine ⟨by omega, jokL_mono hj h2, ?_⟩
  rw [ha _ h1, h3, map_congr ha h2]
def stableB (P : Program) (T : List AV) (op : Op) (x : AV) (G : HX) : Bool :=
  match op with
  | .load t a => match xload P t (aev T a) G with
    | some y => eqA y x
    | none => false
  | _ => true
def keepD (j j' : Nat) (T : List AV) (D : List AD) (hist : List HX) : Bool := Nat.beq j' j || (jokL j T && jokD j D && hist.all fun H => H.all (jokO j))
def evDraw (P : Program) (rows : Bool) (cf : CallF) (ops : Array Oper) (lo : List Nat) (D : List AD) : List Nat → List HX → List AV → HX → Nat → Option (List AV × HX × Nat)
  | [], _, T, H, j => some (T, H, j)
  | i :: π, hist, T, H, j => match ops[i]? with
    | none => none
    | some o => match awanted ops T o with
      | none => none
      | some false => evDraw P rows cf ops lo D π (if isE o.op = true then hist ++ [H] else hist) (tput T o.dst (.tup [])) H j
      | some true => if isE o.op = true then
          (match o.op with
          | .call ⟨.value f, args, types⟩ => match acallee T ⟨.value f, args, types⟩ with
            | some (f, args) => match cf f args H j with
              | some (.ret v, H', j') => if keepD j j' T D (hist ++ [H]) = true then evDraw P rows cf ops lo D π (hist ++ [H]) (tput T o.dst v) H' j' else none
              | _ => none
            | none => none
          | .defer _ => none
          | op => match xsp P rows (aev T) H j op with
            | some (x, H', j') => if keepD j j' T D (hist ++ [H]) = true then evDraw P rows cf ops lo D π (hist ++ [H]) (tput T o.dst x) H' j' else none
            | none => match xaop P (aev T) H op with
              | some (x, H') => evDraw P rows cf ops lo D π (hist ++ [H]) (tput T o.dst x) H' j
              | none => none)
        else match xaop P (aev T) H o.op with
          | some (x, _) => if (hist.drop (lo.getD i 0)).all (fun G => stableB P T o.op x G) = true then evDraw P rows cf ops lo D π hist (tput T o.dst x) H j else none
          | none => match xrd P (aev T) o.op with
            | some x => if hist.length < lo.getD i 0 then evDraw P rows cf ops lo D π hist (tput T o.dst x) H j else none
            | none => none

inductive DRes where
  | nrm (T : List AV) (H : HX) (j : Nat)
  | pan (i : Nat) (f : FuncId) (args : List AV) (H : HX) (j : Nat) (v : AV) (H' : HX) (j' : Nat)
def evDr (P : Program) (rows : Bool) (cf : CallF) (ops : Array Oper) (lo : List Nat) (D : List AD) : List Nat → List HX → List AV → HX → Nat → Option DRes
  | [], _, T, H, j => some (.nrm T H j)
  | i :: π, hist, T, H, j => match ops[i]? with
    | none => none
    | some o => match awanted ops T o with
      | none => none
      | some false => evDr P rows cf ops lo D π (if isE o.op = true then hist ++ [H] else hist) (tput T o.dst (.tup [])) H j
      | some true => if isE o.op = true then
          (match o.op with
          | .call ⟨.value f, args, types⟩ => match acallee T ⟨.value f, args, types⟩ with
            | some (f, args) => match cf f args H j with
              | some (.ret v, H', j') => if keepD j j' T D (hist ++ [H]) = true then evDr P rows cf ops lo D π (hist ++ [H]) (tput T o.dst v) H' j' else none
              | some (.panic v, H', j') => some (.pan i f args H j v H' j')
              | none => none
            | none => none
          | .defer _ => none
          | op => match xsp P rows (aev T) H j op with
            | some (x, H', j') => if keepD j j' T D (hist ++ [H]) = true then evDr P rows cf ops lo D π (hist ++ [H]) (tput T o.dst x) H' j' else none
            | none => match xaop P (aev T) H op with
              | some (x, H') => evDr P rows cf ops lo D π (hist ++ [H]) (tput T o.dst x) H' j
              | none => none)
        else match xaop P (aev T) H o.op with
          | some (x, _) => if (hist.drop (lo.getD i 0)).all (fun G => stableB P T o.op x G) = true then evDr P rows cf ops lo D π hist (tput T o.dst x) H j else none
          | none => match xrd P (aev T) o.op with
            | some x => if hist.length < lo.getD i 0 then evDr P rows cf ops lo D π hist (tput T o.dst x) H j else none
            | none => none
theorem evDr_nrm {P : Program} {rows : Bool} {cf : CallF} {ops : Array Oper} {lo : List Nat} {D : List AD} {T' : List AV} {H' : HX} {j' : Nat} : ∀ {π : List Nat} {hist : List HX} {T : List AV} {H : HX} {j : Nat}, evDr P rows cf ops lo D π hist T H j = some (.nrm T' H' j') → evDraw P rows cf ops lo D π hist T H j = some (T', H', j')
  | [], hist, T, H, j, h => by
    simp only [evDr, Option.some.injEq, DRes.nrm.injEq] at h
    obtain ⟨rfl, rfl, rfl⟩ := h
    rfl
  | i :: π, hist, T, H, j, h => by
    simp only [evDr] at h
    simp only [evDraw]
    repeat' (split at h)
    all_goals first | (cases h; done) | (have q := evDr_nrm h; clear h; simp_all; done)
theorem evDr_pan {P : Program} {rows : Bool} {cf : CallF} {ops : Array Oper} {lo : List Nat} {D : List AD} {e : Nat} {f : FuncId} {args : List AV} {H0 : HX} {j0 : Nat} {v : AV} {H1 : HX} {j1 : Nat} : ∀ {π : List Nat} {hist : List HX} {T : List AV} {H : HX} {j : Nat}, evDr P rows cf ops lo D π hist T H j = some (.pan e f args H0 j0 v H1 j1) → cf f args H0 j0 = some (.panic v, H1, j1)
  | [], hist, T, H, j, h => by simp only [evDr, Option.some.injEq] at h; cases h
  | i :: π, hist, T, H, j, h => by
    simp only [evDr] at h
    split at h
    · cases h
    · split at h
      · cases h
      · exact evDr_pan h
      · split at h
        · split at h
          · split at h
            · split at h
              · split at h
                · exact evDr_pan h
                · cases h
              · rename_i e2
                simp only [Option.some.injEq, DRes.pan.injEq] at h
                obtain ⟨rfl, rfl, rfl, rfl, rfl, rfl, rfl, rfl⟩ := h
                exact e2
              · cases h
            · cases h
          · cases h
          · split at h
            · split at h
              · exact evDr_pan h
              · cases h
            · split at h
              · exact evDr_pan h
              · cases h
        · split at h
          · split at h
            · exact evDr_pan h
            · cases h
          · split at h
            · split at h
              · exact evDr_pan h
              · cases h
            · cases h

section

variable {P : Program}
theorem xaop_still {ρ : Operand → AV} {H H' G : HX} {op : Op} {x : AV} (he : isE op = false) (hl : ∀ t a, op ≠ .load t a) (h : xaop P ρ H op = some (x, H')) : H' = H ∧ xaop P ρ G op = some (x, G) := by
  unfold xaop at h ⊢
  split at h
  · simp [isE] at he
  · simp [isE] at he
  · rename_i t a; exact absurd rfl (hl t a)
  · simp [isE] at he
  · simp [isE] at he
  · obtain ⟨v, h1, h2⟩ := Option.map_eq_some_iff.1 h
    cases h2
    rw [h1]; exact ⟨rfl, rfl⟩
  · simp [isE] at he
  · simp [isE] at he
  · simp [isE] at he
  · rename_i n1 n2 n3 n4 n5 n6 n7 n8 n9
    split at h
    · rename_i hp
      split at h
      · rename_i y g e
        simp only [Option.some.injEq, Prod.mk.injEq] at h
        obtain ⟨rfl, rfl⟩ := h
        simp [hp]
      · cases h
    · cases h
theorem stable_io {ks : Ks} {T : List AV} {H H' G : HX} {op : Op} {x : AV} (he : isE op = false) (h : xaop P (aev T) H op = some (x, H')) (hs : stableB P T op x G = true) :
    aop P (aev (T.map (io ks))) (iH ks G) op = some (io ks x, iH ks G) := by
  by_cases hl : ∃ t a, op = .load t a
  · obtain ⟨t, a, rfl⟩ := hl
    simp only [stableB] at hs
    split at hs
    · rename_i y hy
      have e := eqA_eq hs
      subst e
      exact xaop_io (fun y => aev_io ks T y) (by simp only [xaop, hy, Option.map_some])
    · cases hs
  · obtain ⟨_, h2⟩ := xaop_still (G := G) he (fun t a e => hl ⟨t, a, e⟩) h
    exact xaop_io (fun y => aev_io ks T y) h2
theorem keepD_T {ks ks' : Ks} {j j' : Nat} {T : List AV} {D : List AD} {hist : List HX} (h : keepD j j' T D hist = true) (ha : Agree j ks ks') (he : j' = j → ks' = ks) : T.map (io ks') = T.map (io ks) ∧ D.map (ioD ks') = D.map (ioD ks) ∧ hist.map (iH ks') = hist.map (iH ks) := by
  unfold keepD at h
  simp only [Bool.or_eq_true, Bool.and_eq_true] at h
  rcases h with h | h
  · rw [he (Nat.eq_of_beq_eq_true h)]; exact ⟨rfl, rfl, rfl⟩
  · exact ⟨map_congr ha h.1.1, jokD_congr ha h.1.2, List.map_congr_left fun H hH => iH_congr ha (List.all_eq_true.1 h.2 H hH)⟩
theorem evDraw_sound {G : Kn} (hG : G.Closed) {rows : Bool} {cf : CallF} (hcf : CallOk P G cf) {ops : Array Oper} {lo : List Nat} {D : List AD} {Kont : List AV → Heap → Prop} {T' : List AV} {H' : HX} {j' : Nat} :
    ∀ (π : List Nat) (hist : List HX) (T : List AV) (H : HX) (j : Nat), evDraw P rows cf ops lo D π hist T H j = some (T', H', j') → j ≤ j' ∧ ∀ ks, G j ks →
      (∀ ks', Agree j ks ks' → (j' = j → ks' = ks) → D.map (ioD ks') = D.map (ioD ks) → Kont (T'.map (io ks')) (iH ks' H')) → DR P ops lo Kont π (hist.map (iH ks)) (T.map (io ks)) (iH ks H)
  | [], hist, T, H, j, h => by
    simp only [evDraw, Option.some.injEq, Prod.mk.injEq] at h
    obtain ⟨rfl, rfl, rfl⟩ := h
    exact ⟨Nat.le_refl _, fun ks _ hK => hK ks (Agree.refl _ _) (fun _ => rfl) rfl⟩
  | i :: π, hist, T, H, j, h => by
    have ih := evDraw_sound hG hcf (ops := ops) (lo := lo) (D := D) (rows := rows) (Kont := Kont) (T' := T') (H' := H') (j' := j') π
    simp only [evDraw] at h
    split at h
    · cases h
    · rename_i o ho
      split at h
      · cases h
      · rename_i hw
        obtain ⟨h1, h2⟩ := ih _ _ _ _ h
        refine ⟨h1, fun ks hg hK => ⟨o, ho, .inl ⟨awanted_io ops T o hw, ?_⟩⟩⟩
        have := h2 ks hg hK
        rw [← tput_io, io_tup, List.map_nil] at this
        split
        · rename_i hE
          rw [if_pos hE, List.map_append] at this
          exact this
        · rename_i hE
          rw [if_neg hE] at this
          exact this
      · rename_i hw
        have hw' := fun ks => awanted_io (ks := ks) ops T o hw
        split at h
        · rename_i hE
          -- an operation of which the letters are new
          have fam : ∀ (v : AV) (H2 : HX) (j2 : Nat), j ≤ j2 → keepD j j2 T D (hist ++ [H]) = true → evDraw P rows cf ops lo D π (hist ++ [H]) (tput T o.dst v) H2 j2 = some (T', H', j') →
              (∀ ks, G j ks → Does P o (T.map (io ks)) (iH ks H) (fun x g => ∃ ks', Agree j ks ks' ∧ (j2 = j → ks' = ks) ∧ x = io ks' v ∧ g = iH ks' H2)) →
              j ≤ j' ∧ ∀ ks, G j ks → (∀ ks', Agree j ks ks' → (j' = j → ks' = ks) → D.map (ioD ks') = D.map (ioD ks) → Kont (T'.map (io ks')) (iH ks' H')) → DR P ops lo Kont (i :: π) (hist.map (iH ks)) (T.map (io ks)) (iH ks H) := by
            intro v H2 j2 hj hk hd hdo
            obtain ⟨h1, h2⟩ := ih _ _ _ _ hd
            refine ⟨by omega, fun ks hg hK => ⟨o, ho, .inr (.inr (.inr (.inr (.inl ⟨hw' ks, hE, _, ⟨_, _, ks, Agree.refl _ _, fun _ => rfl, rfl, rfl⟩, hdo ks hg, ?_⟩))))⟩⟩
            rintro x g ⟨ks', a1, a2, rfl, rfl⟩
            obtain ⟨e1, e2, e3⟩ := keepD_T hk a1 a2
            have := h2 ks' (hG _ _ _ _ hg a1 hj) fun ks2 b1 b2 b3 => hK ks2 (a1.trans hj b1) (fun e => by
              have q1 : j2 = j := by omega
              have q2 : j' = j2 := by omega
              rw [b2 q2, a2 q1]) (by rw [b3, e2])
            rw [← tput_io, e1, e3, List.map_append] at this
            exact this
          split at h
          · rename_i f args types hop
            split at h
            · rename_i f' args' hc
              split at h
              · rename_i v H2 j2 hcall
                split at h
                · rename_i hk
                  obtain ⟨c1, c2, c3⟩ := hcf _ _ _ _ _ _ _ hcall
                  refine fam v H2 j2 c2 hk h fun ks hg => .inr ⟨_, f', args'.map (io ks), hop, acallee_io hc, c1, (c3 ks hg).mono ?_⟩
                  rintro o' g ⟨ks', a1, a2, rfl, rfl⟩
                  exact ⟨_, rfl, ks', a1, a2, rfl, rfl⟩
                · cases h
              · cases h
            · cases h
          · cases h
          · rename_i nc nd
            split at h
            · rename_i x H2 j2 hx
              split at h
              · rename_i hk
                refine fam x H2 j2 (xsp_le hx) hk h fun ks hg => .inl ⟨fun c hc => nd c hc, fun T2 hT2 E w a D2 st => ?_⟩
                obtain ⟨ks', a1, a2, a3, hout⟩ := xsp_out (ks := ks) (T2 := T2) (fun y hy => by rw [hT2 y hy, aev_io]) st hx
                exact ⟨_, _, ⟨ks', a1, a2, rfl, rfl⟩, hout⟩
              · cases h
            · split at h
              · rename_i x H2 hx
                obtain ⟨h1, h2⟩ := ih _ _ _ _ h
                refine ⟨h1, fun ks hg hK => ⟨o, ho, .inr (.inr (.inl ⟨hw' ks, hE, _, _, xaop_io (fun y => aev_io ks T y) hx, ?_⟩))⟩⟩
                have := h2 ks hg hK
                rw [← tput_io, List.map_append] at this
                exact this
              · cases h
        · rename_i hE
          have hE' : isE o.op = false := by simpa using hE
          split at h
          · rename_i x H2 hx
            split at h
            · rename_i hst
              obtain ⟨h1, h2⟩ := ih _ _ _ _ h
              refine ⟨h1, fun ks hg hK => ⟨o, ho, ?_⟩⟩
              have e1 : aop P (aev (T.map (io ks))) (iH ks H) o.op = some (io ks x, iH ks H) := by
                have h1 := xaop_io (ks := ks) (fun y => aev_io ks T y) hx
                have h2 := aop_still hE' h1
                rw [h2] at h1; exact h1
              refine .inr (.inl ⟨hw' ks, hE', io ks x, e1, ?_, ?_⟩)
              · rw [stab_iff]
                intro g hg
                rw [← List.map_drop] at hg
                obtain ⟨G', hG', rfl⟩ := List.mem_map.1 hg
                exact stable_io hE' hx (List.all_eq_true.1 hst G' hG')
              · have := h2 ks hg hK
                rw [← tput_io] at this
                exact this
            · cases h
          · split at h
            · rename_i x hx
              split at h
              · rename_i hlt
                obtain ⟨h1, h2⟩ := ih _ _ _ _ h
                refine ⟨h1, fun ks hg hK => ⟨o, ho, .inr (.inr (.inr (.inr (.inr ⟨hw' ks, hE', by rw [List.length_map]; exact hlt, io ks x, ⟨?_, ?_⟩, ?_⟩))))⟩⟩
                · intro c hc; rw [hc] at hE'; simp [isE] at hE'
                · intro T2 hT2 E w a D2 st
                  exact xrd_out (ks := ks) (fun y hy => by rw [hT2 y hy, aev_io]) st hx
                · have := h2 ks hg hK
                  rw [← tput_io] at this
                  exact this
              · cases h
            · cases h

end
def eqX : XO → XO → Bool
  | .cells a, .cells b => eqAL a b
  | .row n j s a, .row n' j' s' b => Nat.beq n n' && Nat.beq j j' && Nat.beq s s' && eqAL a b
  | .tok n s, .tok n' s' => Nat.beq n n' && Nat.beq s s'
  | .dblk, .dblk => true
  | .dead, .dead => true
  | _, _ => false
theorem eqX_eq : ∀ {a b : XO}, eqX a b = true → a = b := by
  intro a b h
  cases a <;> cases b <;> simp only [eqX, Bool.and_eq_true] at h <;> try (cases h; done)
  · rw [eqAL_eq h]
  · obtain ⟨⟨⟨h1, h2⟩, h3⟩, h4⟩ := h
    rw [Nat.eq_of_beq_eq_true h1, Nat.eq_of_beq_eq_true h2, Nat.eq_of_beq_eq_true h3, eqAL_eq h4]
  · rw [Nat.eq_of_beq_eq_true h.1, Nat.eq_of_beq_eq_true h.2]
  · rfl
  · rfl
def eqH : HX → HX → Bool
  | [], [] => true
  | a :: l, b :: l' => eqX a b && eqH l l'
  | _, _ => false
theorem eqH_eq : ∀ {a b : HX}, eqH a b = true → a = b
  | [], [], _ => rfl
  | a :: l, b :: l', h => by
    simp only [eqH, Bool.and_eq_true] at h
    rw [eqX_eq h.1, eqH_eq h.2]
  | [], _ :: _, h => by cases h
  | _ :: _, [], h => by cases h
def panOk (ops : Array Oper) (i : Nat) (T : List AV) (H : HX) (j : Nat) (f : FuncId) (args : List AV) (H0 : HX) (j0 j1 : Nat) (D : List AD) : Bool := match ops[i]? with
  | some o => (match awanted ops T o with
    | some true => (match o.op with
      | .call ⟨.value c, xs, ts⟩ => (match acallee T ⟨.value c, xs, ts⟩ with
        | some (g, as') => Nat.beq g f && eqAL as' args && eqH H H0 && Nat.beq j j0 && keepD j0 j1 T D []
        | none => false)
      | _ => false)
    | _ => false)
  | none => false
theorem panOk_spec {ops : Array Oper} {i : Nat} {T : List AV} {H : HX} {j : Nat} {f : FuncId} {args : List AV} {H0 : HX} {j0 j1 : Nat} {D : List AD} (h : panOk ops i T H j f args H0 j0 j1 D = true) : ∃ o c, ops[i]? = some o ∧ awanted ops T o = some true ∧ o.op = .call c ∧ acallee T c = some (f, args) ∧ H = H0 ∧ j = j0 ∧ keepD j0 j1 T D [] = true := by
  unfold panOk at h
  split at h
  · rename_i o ho
    split at h
    · rename_i hw
      split at h
      · rename_i c xs ts hop
        split at h
        · rename_i g as' hc
          simp only [Bool.and_eq_true] at h
          obtain ⟨⟨⟨⟨h1, h2⟩, h3⟩, h4⟩, h5⟩ := h
          have h1 := Nat.eq_of_beq_eq_true h1
          have h2 := eqAL_eq h2
          subst h1; subst h2
          exact ⟨o, _, ho, hw, hop, hc, eqH_eq h3, Nat.eq_of_beq_eq_true h4, h5⟩
        · cases h
      · cases h
    · cases h
  · cases h
def findE (l : List (Nat × List Nat × List Nat × List Nat × List Nat)) (i : Nat) : Option (Nat × List Nat × List Nat × List Nat × List Nat) := l.find? fun q => Nat.beq q.1 i
theorem findE_mem {l : List (Nat × List Nat × List Nat × List Nat × List Nat)} {i : Nat} {q : Nat × List Nat × List Nat × List Nat × List Nat} (h : findE l i = some q) : q ∈ l ∧ q.1 = i := ⟨List.mem_of_find?_eq_some h, Nat.eq_of_beq_eq_true (by have := List.find?_some h; simpa using this)⟩

end Go.AI.EV
