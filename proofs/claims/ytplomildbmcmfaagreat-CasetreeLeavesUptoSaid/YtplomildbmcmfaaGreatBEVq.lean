/-
  Code over letters.
-/
import Derived.Test.YtplomildbmcmfaaGreatBEVp
import Derived.Test.YtplomildbmcmfaaGreatBFX

namespace Go.AI.EV

open Go Go.AI

section

variable {P : Program}
theorem at_dead (h : Heap) (q : Nat) : Heap.at (h ++ List.replicate q none) = h.at := by
  funext id
  rw [Heap.at_app]
  split
  · rfl
  · rename_i l
    rw [at_ge h id (by omega)]
    unfold Heap.at
    rw [List.getElem?_replicate]
    split <;> rfl
theorem evReg_sound {cf : CallF} {lt : LT} (hcf : CallOk P (Gl lt) cf) {ks : Ks} {j : Nat} (hG : Gl lt j ks) {ops : Array Oper} {p : Pl} {T T' : List AV} {H H' : HX} {D : List AD} (hok : okReg ops p = true) (hm : P.follows .mixedOrders = true)
    (h : evReg P cf lt ops p T H j D = some (T', H')) {rd : Option Nat} {nb rid : Nat} {k : List It} {Q : AX → List AV → Heap → List AD → Prop} (r : Run P rd nb k (T'.map (io ks)) (iH ks H') (D.map (ioD ks)) Q) :
    Run P rd nb (.code (.region rid ops true) :: k) (T.map (io ks)) (iH ks H) (D.map (ioD ks)) Q := by
  have hk := okReg_spec hok
  unfold evReg at h
  split at h
  · rename_i R hR
    split at h
    · rename_i hc
      simp only [Bool.and_eq_true] at hc
      obtain ⟨⟨⟨⟨_, hD⟩, hHS⟩, hpend⟩, hdead⟩ := hc
      simp only [Option.some.injEq, Prod.mk.injEq] at h
      obtain ⟨rfl, rfl⟩ := h
      have c0 : cnt ops p (fun i => decide (i < 0)) = 0 := by
        unfold cnt
        rw [List.countP_eq_zero]
        intro x _
        simp
      rw [List.range_eq_range'] at hR
      have t0 : T = TnF ops T [] (fun i => decide (i < 0)) := by
        apply List.ext_getElem?
        intro s
        rw [TnF_get]
        cases T[s]? with
        | none => rfl
        | some x => simp only [Option.map_some, valAt]; split <;> simp
      obtain ⟨r1, r2, r3, r4, r5, r6, r7, r8⟩ := regLoop_spec hk ops.size 0 T _ [] [_] [] [] R (by omega) rfl t0 (by rw [c0]; rfl) (by rw [c0]; rfl) hR
      have hget : ∀ c, c ≤ cnt ops p (fun j => decide (j < ops.size)) → R.HS.getD c [] ∈ R.HS := by
        intro c hc
        have : c < R.HS.length := by omega
        rw [List.getD, List.getElem?_eq_getElem this]
        exact List.getElem_mem this
      have hall := List.all_eq_true.1 hHS
      have hU : ∀ c, c ≤ cnt ops p (fun j => decide (j < ops.size)) → (R.HS.getD c []).length = H.length + p.fl.length ∧ ∀ k, k ≤ p.fl.length → (gfill H.length R.inits k (R.HS.getD c [])).all (xunder lt (H.length + k)) = true := by
        intro c hc
        have := hall _ (hget c hc)
        simp only [Bool.and_eq_true] at this
        exact ⟨Nat.eq_of_beq_eq_true this.1, fun k hk => List.all_eq_true.1 this.2 k (List.mem_range.2 (by omega))⟩
      have hP : ∀ i T op x, (i, T, op, x) ∈ R.pend → ∀ c, c ≤ cnt ops p (fun j => decide (j < ops.size)) → (List.range ops.size).countP (fun j => p.chain ops j && p.pre i j) ≤ c → c ≤ (List.range ops.size).countP (fun j => p.chain ops j && !p.pre j i) → stableB P T op x (gfill H.length R.inits (p.pc i) (R.HS.getD c [])) = true := by
        intro i T op x he c hc h1 h2
        unfold pendOk at hpend
        have := List.all_eq_true.1 (List.all_eq_true.1 hpend _ he) c (List.mem_range.2 (by omega))
        simp only [Bool.or_eq_true, Bool.not_eq_true', Bool.and_eq_false_iff, decide_eq_false_iff_not] at this
        rcases this with (h | h) | h
        · exact absurd h1 h
        · exact absurd h2 h
        · exact h
      have hdd : ∀ c k, c ≤ cnt ops p (fun j => decide (j < ops.size)) → k < p.fl.length → (R.HS.getD c []).getD (H.length + k) .dead ≠ .dead → ∃ i, i < ops.size ∧ p.chain ops i = true ∧ cnt ops p (fun x => decide (x < i)) < c ∧ p.pre i (p.fl.getD k 0) = true := by
        intro c k hc hkl hne
        unfold deadOk at hdead
        have := List.all_eq_true.1 (List.all_eq_true.1 hdead c (List.mem_range.2 (by omega))) k (List.mem_range.2 hkl)
        split at this
        · rename_i e; exact absurd e hne
        · obtain ⟨i, hi, hc⟩ := List.any_eq_true.1 this
          simp only [Bool.and_eq_true, decide_eq_true_eq] at hc
          exact ⟨i, List.mem_range.1 hi, hc.1.1, hc.1.2, hc.2⟩
      have hpc : ∀ i, i < ops.size → p.pc i ≤ p.fl.length := fun i _ => List.length_filter_le _ _
      have call : cnt ops p (fun _ => true) = cnt ops p fun j => decide (j < ops.size) := Nat.le_antisymm (cnt_le fun i hi _ => by simpa using hi) (cnt_le fun i _ _ => rfl)
      have hN : H.length ≤ (R.HS.getD (cnt ops p fun j => decide (j < ops.size)) []).length := by rw [(hU _ (Nat.le_refl _)).1]; omega
      have hfin : gfill H.length R.inits p.fl.length (R.HS.getD (cnt ops p fun _ => true) []) = HnF ops p H.length R.HS R.inits fun j => decide (j < ops.size) := by
        rw [call, ← take_HnF (S := fun j => decide (j < ops.size)) (Nat.le_refl _) hN fun q f _ hf => by simpa using hk.flt f (List.mem_of_getElem? hf), List.take_of_length_le (by rw [HnF_len hN]; exact Nat.le_refl _)]
      rw [hfin, r5] at r
      have hmain := reg_main hcf hG hk (fun a ha => r8 a (Nat.zero_le _) ha) hD hU hP hdd hpc r ops.size (Array.replicate ops.size false) (by simp)
      intro E w a s
      refine wpIn_region_any hm ?_
      obtain ⟨s', hfr⟩ := s.drew
      have hS : (fun i => (Array.replicate ops.size false).getD i false) = fun _ => false := by
        funext i
        rcases Nat.lt_or_ge i ops.size with l | l <;> simp [l]
      have hT0 : (TnF ops T R.xs fun i => (Array.replicate ops.size false).getD i false) = T := by
        rw [hS]
        apply List.ext_getElem?
        intro s
        rw [TnF_get]
        cases T[s]? with
        | none => rfl
        | some x => simp only [Option.map_some, valAt]; split <;> simp
      have hc0 : cnt ops p (fun i => (Array.replicate ops.size false).getD i false) = 0 := by
        rw [hS]
        unfold cnt
        rw [List.countP_eq_zero]
        intro x _
        simp
      have hV0 : R.HS.getD 0 [] = H ++ List.replicate p.fl.length .dead := by
        rw [getD_pre r2 (by simp)]; rfl
      have hH0 : (HnF ops p H.length R.HS R.inits fun i => (Array.replicate ops.size false).getD i false) = H ++ List.replicate p.fl.length .dead := by
        unfold HnF
        rw [hc0, hV0, List.take_left]
        congr 1
        apply List.ext_getElem?
        intro q
        rw [List.getElem?_map, List.getElem?_replicate]
        by_cases hq : q < p.fl.length
        · rw [List.getElem?_range hq, if_pos hq, Option.map_some]
          have e := congrFun hS (p.fl.getD q 0)
          show some (if (Array.replicate ops.size false).getD (p.fl.getD q 0) false = true then _ else _) = _
          rw [show (Array.replicate ops.size false).getD (p.fl.getD q 0) false = false from e]
          rfl
        · rw [List.getElem?_eq_none (by rw [List.length_range]; omega), if_neg hq]; rfl
      rw [hT0, hH0] at hmain
      have hat : Heap.at (iH ks (H ++ List.replicate p.fl.length XO.dead)) = Heap.at (iH ks H) := by
        rw [iH_app]
        have : iH ks (List.replicate p.fl.length XO.dead) = List.replicate p.fl.length none := by
          unfold iH
          rw [List.map_replicate]; rfl
        rw [this, at_dead]
      have hcnt : (List.range ops.size).countP (fun i => (Array.replicate ops.size false).getD i false) + ops.size = ops.size := by
        have : (List.range ops.size).countP (fun i => (Array.replicate ops.size false).getD i false) = 0 := by
          rw [List.countP_eq_zero]
          intro x _
          rw [show (Array.replicate ops.size false).getD x false = false from congrFun hS x]; simp
        omega
      have hf0 : Fresh E (iH ks (H ++ List.replicate p.fl.length XO.dead)).length := fun id hid => s.fresh id (by rw [iH_len] at hid ⊢; simp at hid; omega)
      have := hmain (by rw [hS]; intro i j _ _ h; cases h) hcnt E _ a ⟨by rw [hat]; exact s'.rel, hf0, s'.tmps, s'.defers⟩ fun q f hf _ => (s.fresh (H.length + q) (by rw [iH_len]; omega)).1
      refine wpAny_post (K_mono (P := P) (rd := rd) (Post.of_fr (Q := Q) (h' := iH ks (H ++ List.replicate p.fl.length XO.dead)) ?_) k) ops.size _ _ _ this
      rw [hat]
      exact hfr
    · cases h
  · cases h
theorem Run.forget {rd : Option Nat} {nb : Nat} {k : List It} {T : List AV} {h : Heap} {D : List AD} {Q : AX → List AV → Heap → List AD → Prop} {id : Nat} {o : AO} (hid : h.at id = some o) (r : Run P rd nb k T (h.set id none) D Q) : Run P rd nb k T h D Q := by
  intro E w a s
  obtain ⟨g1, g2⟩ := rel_forget s.rel hid
  have s' := s.move g2 g1 (fun i hi => s.fresh i (by simpa using hi))
  exact K_mono (P := P) (rd := rd) (Post.of_fr (Q := Q) g2) k _ _ _ (r E w a s')
def stopped : LoopState → Bool
  | .busy => false
  | _ => true
def drawsC : Code → List (Nat × Array Oper)
  | .region id ops true => [(id, ops)]
  | .seq a b => drawsC a ++ drawsC b
  | .cond _ a b => drawsC a ++ drawsC b
  | .block _ c => drawsC c
  | .loop c => drawsC c
  | .scope c => drawsC c
  | .rangeFunc _ _ a b => drawsC a ++ drawsC b
  | _ => []
def itsD : List It → List (Nat × Array Oper)
  | [] => []
  | .code c :: k => drawsC c ++ itsD k
  | .ops _ _ :: k => itsD k
  | .inBlock _ :: k => itsD k
def OkD (S : Seat) (fid : FuncId) (l : List (Nat × Array Oper)) : Prop := ∀ e ∈ l, (∀ lo rk tbl π, S.plan fid e.1 = some (lo, rk, tbl, π) → okDraw e.2 lo rk tbl none π = true) ∧ (∀ p, S.planF fid e.1 = some p → okReg e.2 p = true) ∧ (∀ p, S.plan2 fid e.1 = some p → okPl2 e.2 p = true) ∧ ∀ q ∈ S.planE fid e.1, okDraw e.2 q.2.1 q.2.2.1 q.2.2.2.1 (some q.1) q.2.2.2.2 = true
def LTok (S : Seat) (lt : LT) : Prop := ∀ e ∈ lt, OkD S e.fid (drawsC e.asg) ∧ OkD S e.fid (drawsC e.bd)
theorem OkD.sub {S : Seat} {fid : FuncId} {l l' : List (Nat × Array Oper)} (h : OkD S fid l) (hs : ∀ e ∈ l', e ∈ l) : OkD S fid l' := fun e he => h e (hs e he)
theorem OkD.app {S : Seat} {fid : FuncId} {l l' : List (Nat × Array Oper)} (h : OkD S fid l) (h' : OkD S fid l') : OkD S fid (l ++ l') := fun e he => (List.mem_append.1 he).elim (h e) (h' e)
theorem unw_draws {id : Nat} : ∀ {k k' : List It}, unw id k = some k' → ∀ e ∈ itsD k', e ∈ itsD k
  | [], _, h => by simp [unw] at h
  | .inBlock i :: k, k', h => by
    simp only [unw] at h
    split at h
    · simp only [Option.some.injEq] at h; subst h; exact fun e he => he
    · exact unw_draws (k := k) h
  | .code c :: k, k', h => fun e he => List.mem_append_right _ (unw_draws (k := k) h e he)
  | .ops _ _ :: k, k', h => unw_draws (k := k) h
def pendCalm : Option Code → Bool
  | none => true
  | some .ret => true
  | some (.exit _) => true
  | _ => false
theorem pendCalm_draws {S : Seat} {fid : FuncId} {pend : Option Code} {k : List It} (h : pendCalm pend = true) (hk : OkD S fid (itsD k)) : OkD S fid (itsD (match (generalizing := false) pend with | none => k | some c => .code c :: k)) := by
  unfold pendCalm at h
  split at h
  · exact hk
  · simpa [itsD, drawsC] using hk
  · simpa [itsD, drawsC] using hk
  · cases h
def ev (S : Seat) (P : Program) (fid : FuncId) (cf : Bool → LT → CallF) (yf : YieldF) (lt : LT) (rnd : Bool) : Nat → List It → List AV → HX → Nat → List AD → Option (AX × List AV × HX × Nat × List AD)
  | 0, _, _, _, _, _ => none
  | n + 1, k, T, H, j, D => match k with
    | [] => some (.normal, T, H, j, D)
    | .inBlock _ :: k => ev S P fid cf yf lt rnd n k T H j D
    | .ops all l :: k => match evOps P (S.rows fid) (cf true lt) yf rnd all l T H j D with
      | some (.norm T' H' j' D') => ev S P fid cf yf lt rnd n k T' H' j' D'
      | some (.pan v T' H' j' D') => some (.panic v, T', H', j', D')
      | none => none
    | .code c :: k => match c with
      | .skip => ev S P fid cf yf lt rnd n k T H j D
      | .label _ => ev S P fid cf yf lt rnd n k T H j D
      | .scope c => ev S P fid cf yf lt rnd n (.code c :: k) T H j D
      | .seq a b => ev S P fid cf yf lt rnd n (.code a :: .code b :: k) T H j D
      | .block id b => ev S P fid cf yf lt rnd n (.code b :: .inBlock id :: k) T H j D
      | .loop b => ev S P fid cf yf lt rnd n (.code b :: .code (.loop b) :: k) T H j D
      | .cond c a b => match aev T c with
        | .p (.prim (.bool t)) => ev S P fid cf yf lt rnd n (.code (if t = true then a else b) :: k) T H j D
        | _ => none
      | .exit id => match unw id k with
        | some k' => ev S P fid cf yf lt rnd n k' T H j D
        | none => some (.exit id, T, H, j, D)
      | .ret => some (.ret, T, H, j, D)
      | .region rid ops draw => if draw = true then
          (match S.plan fid rid with
          | some (lo, _, _, π) =>
              (match evDr P (S.rows fid) (cf true lt) ops lo D π [] T H j with
              | some (.nrm T' H' j') => ev S P fid cf yf lt rnd n k T' H' j' D
              | some (.pan i f args H0 j0 v H1 j1) => (match findE (S.planE fid rid) i with
                | some q => (match evDraw P (S.rows fid) (cf true lt) ops q.2.1 D q.2.2.2.2 [] T H j with
                  | some (T2, H2, j2) => if panOk ops i T2 H2 j2 f args H0 j0 j1 D = true then some (.panic v, junkT ops T2, H1, j1, D) else none
                  | none => none)
                | none => none)
              | none => none)
          | none => match S.planF fid rid with
            | some p =>
                (match evReg P (cf false lt) lt ops p T H j D with
                | some (T', H') => ev S P fid cf yf lt rnd n k T' H' j D
                | none => none)
            | none => match S.plan2 fid rid with
              | some p =>
                  (match evDraw P (S.rows fid) (cf true lt) ops p.lo1 D p.π1 [] T H j, evDraw P (S.rows fid) (cf true lt) ops p.lo2 D p.π2 [] T H j with
                  | some (T', H', j'), some (T2, H2, j2) => if (eqAL T' T2 && eqH H' H2 && Nat.beq j' j2) = true then ev S P fid cf yf lt rnd n k T' H' j' D else none
                  | _, _ => none)
              | none => none)
        else match evOps P (S.rows fid) (cf true lt) yf rnd ops ops.toList T H j D with
          | some (.norm T' H' j' D') => ev S P fid cf yf lt rnd n k T' H' j' D'
          | some (.pan v T' H' j' D') => some (.panic v, T', H', j', D')
          | none => none
      | .rangeFunc g ps asg bd => if rnd = true then none else match aev T g with
        | .fn (.func gf) [] cap => if (jokL j T && H.all (jokO j) && jokD j D && jokL j cap) = true then
            (match cf true (⟨j, fid, T, ps, asg, bd⟩ :: lt) gf (.fn (.yield j) [] [] :: cap) (H ++ [.dblk, .loop j .ready none]) (j + 1) with
            | some (.ret _, H2, j2) => match H2[H.length + 1]? with
              | some (.loop i st pend) => if (Nat.beq i j && stopped st && pendCalm pend) = true then
                  ev S P fid cf yf lt rnd n (match pend with | none => k | some c => .code c :: k) T (H2.set (H.length + 1) .dead) j2 ((.yield H.length, [], []) :: D) else none
              | _ => none
            | _ => none) else none
        | _ => none
      | _ => none
def ioX (ks : Ks) : AX → AX
  | .panic v => .panic (io ks v)
  | x => x
def Ends (ks : Ks) (j : Nat) (x : AX) (T' : List AV) (H' : HX) (j' : Nat) (D' : List AD) : AX → List AV → Heap → List AD → Prop :=
  fun x2 T2 h2 D2 => ∃ ks', Agree j ks ks' ∧ (j' = j → ks' = ks) ∧ x2 = ioX ks' x ∧ T2 = T'.map (io ks') ∧ h2 = iH ks' H' ∧ D2 = D'.map (ioD ks')
theorem Ends.weaken {ks ks1 : Ks} {j j1 : Nat} {x : AX} {T' : List AV} {H' : HX} {j' : Nat} {D' : List AD} (ha : Agree j ks ks1) (he : j1 = j → ks1 = ks) (h1 : j ≤ j1) (h2 : j1 ≤ j') {x2 T2 h D2} (e : Ends ks1 j1 x T' H' j' D' x2 T2 h D2) : Ends ks j x T' H' j' D' x2 T2 h D2 := by
  obtain ⟨ks', a1, a2, a3⟩ := e
  exact ⟨ks', ha.trans h1 a1, fun q => by rw [a2 (by omega), he (by omega)], a3⟩
theorem junkT_io (ks : Ks) (ops : Array Oper) (T : List AV) : junkT ops (T.map (io ks)) = (junkT ops T).map (io ks) := by
  unfold junkT
  generalize ops.toList = l
  induction l generalizing T with
  | nil => rfl
  | cons o l ih =>
    have e : ∀ T, junkO (o :: l) T = junkO l (tput T o.dst .junk) := fun _ => rfl
    rw [e, e, ← ih, ← tput_io, io_junk]
theorem ev_sound {S : Seat} {fid : FuncId} {cf : Bool → LT → CallF} {yf : YieldF} {lt : LT} {rnd : Bool} {rd : Option Nat} {nb : Nat} (hfo : P.follows .mixedOrders = true) (hlt : LTok S lt) (hcf : ∀ b lt, LTok S lt → CallOk P (Gl lt) (cf b lt)) (hyf : YieldOk P (Gl lt) yf) (hrd : rnd = false → rd = none) :
    ∀ (n : Nat) (k : List It) (T : List AV) (H : HX) (j : Nat) (D : List AD) (x : AX) (T' : List AV) (H' : HX) (j' : Nat) (D' : List AD), ev S P fid cf yf lt rnd n k T H j D = some (x, T', H', j', D') →
      OkD S fid (itsD k) → j ≤ j' ∧ ∀ ks, Gl lt j ks → Run P rd nb k (T.map (io ks)) (iH ks H) (D.map (ioD ks)) (Ends ks j x T' H' j' D')
  | 0, k, T, H, j, D, x, T', H', j', D', h => by simp [ev] at h
  | n + 1, k, T, H, j, D, x, T', H', j', D', h => by
    intro hk
    have ih := ev_sound (S := S) (fid := fid) (rd := rd) (nb := nb) hfo hlt hcf hyf hrd n
    have opsCase : ∀ (all : Array Oper) (l : List Oper) (k : List It), (match evOps P (S.rows fid) (cf true lt) yf rnd all l T H j D with
        | some (.norm T' H' j' D') => ev S P fid cf yf lt rnd n k T' H' j' D'
        | some (.pan v T' H' j' D') => some (.panic v, T', H', j', D')
        | none => none) = some (x, T', H', j', D') → OkD S fid (itsD k) → j ≤ j' ∧ ∀ ks, Gl lt j ks → Run P rd nb (.ops all l :: k) (T.map (io ks)) (iH ks H) (D.map (ioD ks)) (Ends ks j x T' H' j' D') := by
      intro all l k h hk
      split at h
      · rename_i T1 H1 j1 D1 ho
        obtain ⟨b1, b2⟩ := ih _ _ _ _ _ _ _ _ _ _ h hk
        have hj1 : j ≤ j1 := (evOps_sound (rd := rd) (nb := nb) (k := k) (Q := fun _ _ _ _ => True) (Gl.closed lt) (hcf true lt hlt) hyf hrd l T H j D _ ho).1
        refine ⟨by omega, fun ks hG => ?_⟩
        refine (evOps_sound (rd := rd) (nb := nb) (k := k) (Q := Ends ks j x T' H' j' D') (Gl.closed lt) (hcf true lt hlt) hyf hrd l T H j D _ ho).2 ks hG ?_
        intro ks1 a1 a2
        exact (b2 ks1 (Gl.closed lt _ _ _ _ hG a1 hj1)).mono fun x2 T2 h2 D2 e => e.weaken a1 a2 hj1 b1
      · rename_i v T1 H1 j1 D1 ho
        simp only [Option.some.injEq, Prod.mk.injEq] at h
        obtain ⟨rfl, rfl, rfl, rfl, rfl⟩ := h
        have hj1 : j ≤ j1 := (evOps_sound (rd := rd) (nb := nb) (k := k) (Q := fun _ _ _ _ => True) (Gl.closed lt) (hcf true lt hlt) hyf hrd l T H j D _ ho).1
        refine ⟨hj1, fun ks hG => ?_⟩
        refine (evOps_sound (rd := rd) (nb := nb) (k := k) (Q := Ends ks j _ T1 H1 j1 D1) (Gl.closed lt) (hcf true lt hlt) hyf hrd l T H j D _ ho).2 ks hG ?_
        intro ks1 a1 a2
        exact ⟨ks1, a1, a2, rfl, rfl, rfl, rfl⟩
      · cases h
    simp only [ev] at h
    split at h
    · simp only [Option.some.injEq, Prod.mk.injEq] at h
      obtain ⟨rfl, rfl, rfl, rfl, rfl⟩ := h
      exact ⟨Nat.le_refl _, fun ks _ => Run.nil ⟨ks, Agree.refl _ _, fun _ => rfl, rfl, rfl, rfl, rfl⟩⟩
    · obtain ⟨h1, h2⟩ := ih _ _ _ _ _ _ _ _ _ _ h (hk.sub fun e he => by simpa [itsD, drawsC] using he)
      exact ⟨h1, fun ks hG => Run.inBlock (h2 ks hG)⟩
    · exact opsCase _ _ _ h (hk.sub fun e he => by simpa [itsD] using he)
    · split at h
      · obtain ⟨h1, h2⟩ := ih _ _ _ _ _ _ _ _ _ _ h (hk.sub fun e he => by simpa [itsD, drawsC] using he)
        exact ⟨h1, fun ks hG => Run.skip (h2 ks hG)⟩
      · obtain ⟨h1, h2⟩ := ih _ _ _ _ _ _ _ _ _ _ h (hk.sub fun e he => by simpa [itsD, drawsC] using he)
        exact ⟨h1, fun ks hG => Run.label (h2 ks hG)⟩
      · obtain ⟨h1, h2⟩ := ih _ _ _ _ _ _ _ _ _ _ h (hk.sub fun e he => by simpa [itsD, drawsC] using he)
        exact ⟨h1, fun ks hG => Run.scope (h2 ks hG)⟩
      · obtain ⟨h1, h2⟩ := ih _ _ _ _ _ _ _ _ _ _ h (by simpa only [itsD, drawsC, List.append_assoc] using hk)
        exact ⟨h1, fun ks hG => Run.seq (h2 ks hG)⟩
      · obtain ⟨h1, h2⟩ := ih _ _ _ _ _ _ _ _ _ _ h (by simpa only [itsD, drawsC] using hk)
        exact ⟨h1, fun ks hG => Run.block (h2 ks hG)⟩
      · obtain ⟨h1, h2⟩ := ih _ _ _ _ _ _ _ _ _ _ h (hk.sub fun e he => by simp only [itsD, drawsC, List.mem_append] at he ⊢; rcases he with he | he | he <;> simp [he])
        exact ⟨h1, fun ks hG => Run.loop (h2 ks hG)⟩
      · split at h
        · rename_i t hc
          obtain ⟨h1, h2⟩ := ih _ _ _ _ _ _ _ _ _ _ h (hk.sub fun e he => by
            simp only [itsD, drawsC, List.mem_append] at he ⊢
            cases t <;> simp only [Bool.false_eq_true, if_false, if_true] at he <;> rcases he with he | he <;> simp [he])
          exact ⟨h1, fun ks hG => Run.cond (b := t) (by rw [aev_io, hc, io_p]) (h2 ks hG)⟩
        · cases h
      · split at h
        · rename_i hu
          obtain ⟨h1, h2⟩ := ih _ _ _ _ _ _ _ _ _ _ h (hk.sub fun e he => by simpa [itsD, drawsC] using unw_draws hu e he)
          exact ⟨h1, fun ks hG => Run.exit hu (h2 ks hG)⟩
        · rename_i hu
          simp only [Option.some.injEq, Prod.mk.injEq] at h
          obtain ⟨rfl, rfl, rfl, rfl, rfl⟩ := h
          exact ⟨Nat.le_refl _, fun ks _ => Run.exitN hu ⟨ks, Agree.refl _ _, fun _ => rfl, rfl, rfl, rfl, rfl⟩⟩
      · simp only [Option.some.injEq, Prod.mk.injEq] at h
        obtain ⟨rfl, rfl, rfl, rfl, rfl⟩ := h
        exact ⟨Nat.le_refl _, fun ks _ => Run.ret ⟨ks, Agree.refl _ _, fun _ => rfl, rfl, rfl, rfl, rfl⟩⟩
      · rename_i rid ops draw
        split at h
        · rename_i hd
          subst hd
          split at h
          · rename_i lo rk tbl π hp
            split at h
            · rename_i T1 H1 j1 hdr
              have hdr := evDr_nrm hdr
              obtain ⟨h1, h2⟩ := ih _ _ _ _ _ _ _ _ _ _ h (hk.sub fun e he => by simp [itsD, he])
              obtain ⟨d1, d2⟩ := evDraw_sound (Kont := fun _ _ => True) (Gl.closed lt) (hcf true lt hlt) π [] T H j hdr
              refine ⟨by omega, fun ks hG => Run.draw lo rk tbl π hfo ((hk (rid, ops) (by simp [itsD, drawsC])).1 lo rk tbl π hp) ?_⟩
              refine (evDraw_sound (Gl.closed lt) (hcf true lt hlt) π [] T H j hdr).2 ks hG fun ks' b1 b2 b3 => ?_
              have := h2 ks' (Gl.closed lt _ _ _ _ hG b1 d1)
              rw [b3] at this
              exact this.mono fun x2 T2 h2 D2 e => e.weaken b1 b2 d1 h1
            · rename_i i f args H0 j0 v H1 j1 hdr
              split at h
              · rename_i q hq
                split at h
                · rename_i T2 H2 j2 hd2
                  split at h
                  · rename_i hc
                    simp only [Option.some.injEq, Prod.mk.injEq] at h
                    obtain ⟨rfl, rfl, rfl, rfl, rfl⟩ := h
                    obtain ⟨o, c, e1, e2, e3, e4, x1, x2, x3⟩ := panOk_spec hc
                    subst x1; subst x2
                    have hcall := evDr_pan hdr
                    obtain ⟨d1, _⟩ := evDraw_sound (Kont := fun _ _ => True) (Gl.closed lt) (hcf true lt hlt) q.2.2.2.2 [] T H j hd2
                    obtain ⟨c1, c2, c3⟩ := hcf true lt hlt f args _ _ _ _ _ hcall
                    have hokd := (hk (rid, ops) (by simp [itsD, drawsC])).2.2.2 q (findE_mem hq).1
                    rw [(findE_mem hq).2] at hokd
                    refine ⟨by omega, fun ks hG => run_panJ q.2.1 q.2.2.1 q.2.2.2.1 q.2.2.2.2 i hfo hokd ?_⟩
                    refine (evDraw_sound (Gl.closed lt) (hcf true lt hlt) q.2.2.2.2 [] T H j hd2).2 ks hG fun ks' b1 b2 b3 => ?_
                    have hG' := Gl.closed lt _ _ _ _ hG b1 d1
                    refine ⟨o, c, f, args.map (io ks'), e1, awanted_io _ _ _ e2, e3, acallee_io e4, c1, (c3 ks' hG').mono ?_⟩
                    rintro o2 g ⟨ks2, y1, y2, rfl, rfl⟩
                    refine ⟨io ks2 v, by simp only [ioR], fun T' hT => ?_⟩
                    show Ends _ _ _ _ _ _ _ _ _ _ _
                    rw [junkT_agree hT]
                    obtain ⟨z1, z2, _⟩ := keepD_T x3 y1 y2
                    refine ⟨ks2, b1.trans d1 y1, fun r => ?_, rfl, ?_, rfl, ?_⟩
                    · rw [y2 (by omega), b2 (by omega)]
                    · rw [← junkT_io, z1]
                    · rw [z2, b3]
                  · cases h
                · cases h
              · cases h
            · cases h
          · split at h
            · rename_i p hp
              split at h
              · rename_i T1 H1 hrg
                obtain ⟨h1, h2⟩ := ih _ _ _ _ _ _ _ _ _ _ h (hk.sub fun e he => by simp [itsD, he])
                exact ⟨h1, fun ks hG => evReg_sound (hcf false lt hlt) hG ((hk (rid, ops) (by simp [itsD, drawsC])).2.1 p hp) hfo hrg (h2 ks hG)⟩
              · cases h
            · split at h
              · rename_i p hp
                split at h
                · rename_i T1 H1 j1 T2 H2 j2 hdr1 hdr2
                  split at h
                  · rename_i hc
                    simp only [Bool.and_eq_true] at hc
                    obtain ⟨⟨c1, c2⟩, c3⟩ := hc
                    have c1 := eqAL_eq c1
                    have c2 := eqH_eq c2
                    have c3 := Nat.eq_of_beq_eq_true c3
                    subst c1; subst c2; subst c3
                    obtain ⟨h1, h2⟩ := ih _ _ _ _ _ _ _ _ _ _ h (hk.sub fun e he => by simp [itsD, he])
                    obtain ⟨d1, _⟩ := evDraw_sound (Kont := fun _ _ => True) (Gl.closed lt) (hcf true lt hlt) p.π1 [] T H j hdr1
                    refine ⟨by omega, fun ks hG => run_pl2 (p := p) hfo ((hk (rid, ops) (by simp [itsD, drawsC])).2.2.1 p hp) ?_ ?_⟩
                    · refine (evDraw_sound (Gl.closed lt) (hcf true lt hlt) p.π1 [] T H j hdr1).2 ks hG fun ks' b1 b2 b3 => ?_
                      have := h2 ks' (Gl.closed lt _ _ _ _ hG b1 d1)
                      rw [b3] at this
                      exact this.mono fun x2 T2 h2 D2 e => e.weaken b1 b2 d1 h1
                    · refine (evDraw_sound (Gl.closed lt) (hcf true lt hlt) p.π2 [] T H j hdr2).2 ks hG fun ks' b1 b2 b3 => ?_
                      have := h2 ks' (Gl.closed lt _ _ _ _ hG b1 d1)
                      rw [b3] at this
                      exact this.mono fun x2 T2 h2 D2 e => e.weaken b1 b2 d1 h1
                  · cases h
                · cases h
              · cases h
        · rename_i hd
          have hd : draw = false := by simpa using hd
          subst hd
          obtain ⟨h1, h2⟩ := opsCase _ _ _ h (hk.sub fun e he => by simpa [itsD, drawsC] using he)
          exact ⟨h1, fun ks hG => Run.region (h2 ks hG)⟩
      · rename_i g ps asg bd
        split at h
        · cases h
        · rename_i hr
          have hrd' : rd = none := hrd (by simpa using hr)
          subst hrd'
          split at h
          · rename_i gf cap hg
            split at h
            · rename_i hok
              simp only [Bool.and_eq_true] at hok
              obtain ⟨⟨⟨k1, k2⟩, k3⟩, k4⟩ := hok
              split at h
              · rename_i v H2 j2 hcall
                split at h
                · rename_i i st pend hat
                  split at h
                  · rename_i hst
                    simp only [Bool.and_eq_true] at hst
                    have hi := Nat.eq_of_beq_eq_true hst.1.1
                    subst hi
                    obtain ⟨h1, h2⟩ := ih _ _ _ _ _ _ _ _ _ _ h (pendCalm_draws hst.2 (hk.sub fun e he => by simp [itsD, he]))
                    have hlt2 : LTok S (⟨i, fid, T, ps, asg, bd⟩ :: lt) := by
                      intro e he
                      rcases List.mem_cons.1 he with rfl | he
                      · exact ⟨hk.sub fun e he => by simp [itsD, drawsC, he], hk.sub fun e he => by simp [itsD, drawsC, he]⟩
                      · exact hlt e he
                    obtain ⟨c1, c2, c3⟩ := hcf true _ hlt2 _ _ _ _ _ _ _ hcall
                    refine ⟨by omega, fun ks hG => Run.range (gf := gf) (cap := cap.map (io ks)) (by rw [aev_io, hg, io_fn]; rfl) c1 fun l => ?_⟩
                    obtain ⟨L, hL⟩ : ∃ L : LD, L = ⟨T.map (io ks), ps, asg, bd⟩ := ⟨_, rfl⟩
                    have ag : Agree i ks (updL ks i l L) := updL_agree ks i l L
                    have hG1 : Gl (⟨i, fid, T, ps, asg, bd⟩ :: lt) (i + 1) (updL ks i l L) := by
                      intro e he
                      rcases List.mem_cons.1 he with rfl | he
                      · refine ⟨Nat.lt_succ_self _, jokL_mono (Nat.le_succ _) k1, ?_⟩
                        rw [updL_at, map_congr ag k1, hL]
                      · exact Gl.closed lt i (i + 1) ks _ hG ag (Nat.le_succ _) e he
                    have hcc := c3 (updL ks i l L) hG1
                    have e1 : (AV.fn (.yield i) [] [] :: cap).map (io (updL ks i l L)) = .fn (.yield l) [] [] :: cap.map (io ks) := by
                      rw [List.map_cons, map_congr ag k4, io_fn]
                      simp only [iof, updL_at, List.map_nil]
                    have e2 : iH (updL ks i l L) (H ++ [XO.dblk, .loop i .ready none]) = iH ks H ++ [some (.aux .dblk), some (.aux (.loop l .ready none (T.map (io ks)) ps asg bd))] := by
                      rw [iH_app, iH_congr ag k2]
                      congr 1
                      show [some (AO.aux .dblk), iO _ _] = _
                      simp only [iO, updL_at, hL]
                    rw [e1, e2] at hcc
                    refine ⟨_, hcc, ?_⟩
                    rintro o g' ⟨ks2, a1, a2, rfl, rfl⟩
                    have hk2 : ks2 i = (l, L) := by rw [a1 i (Nat.lt_succ_self _), updL_at]
                    refine ⟨io ks2 v, st, pend, rfl, ?_, fun q => by rw [q] at hst; simp [stopped] at hst, ?_⟩
                    · rw [iH_len, iH_at hat]
                      simp only [iO, hk2, hL]
                    · have ag2 : Agree i ks ks2 := ag.trans (Nat.le_succ _) a1
                      have := h2 ks2 (Gl.closed lt i j2 ks ks2 hG ag2 (by omega))
                      rw [map_congr ag2 k1] at this
                      rw [← iH_set] at this
                      simp only [iO, List.map_cons, ioD, List.map_nil] at this
                      have e3 : D.map (ioD ks2) = D.map (ioD ks) := jokD_congr ag2 k3
                      rw [show List.map (ioD ks2) D = List.map (ioD ks) D from e3] at this
                      rw [iH_len]
                      refine Run.mono (Q := Ends ks2 j2 x T' H' j' D') ?_ fun x2 T2 h2 D2 e => e.weaken ag2 (fun q => by omega) (by omega) h1
                      have hlt : H.length + 1 < (iH ks2 H2).length := by
                        have := (List.getElem?_eq_some_iff.1 hat).1
                        rw [iH_len]; exact this
                      refine Run.forget (id := H.length + 1) (by rw [at_set _ _ _ _ hlt, if_pos rfl]) ?_
                      rw [List.set_set]
                      exact this
                  · cases h
                · cases h
              · cases h
            · cases h
          · cases h
      · cases h

end

end Go.AI.EV
