/-
  Own rows are lent to a call that only reads.
-/
import Derived.Test.YtplomildbmcmfaaGreatBEVza
import Derived.Test.YtplomildbmcmfaaGreatBFX

namespace Go.AI.EV

open Go Go.AI

noncomputable def kevC (m : Nat) (S : Seat) (P : Program) (fid : FuncId) (cf : Bool → LT → CallF) (yf : YieldF) (lt : LT) (rnd : Bool) : Nat → List It → Tr → HX → Nat → List AD → Option (AX × Tr × HX × Nat × List AD)
  | 0, _, _, _, _, _ => none
  | n + 1, k, T, H, j, D => match k with
    | [] => some (.normal, T, H, j, D)
    | .inBlock _ :: k => kevC m S P fid cf yf lt rnd n k T H j D
    | .ops all l :: k => match kevOps m P (S.rows fid) (cf true lt) yf rnd all l T H j D with
      | some (.norm T' H' j' D') => kevC m S P fid cf yf lt rnd n k T' H' j' D'
      | some (.pan v T' H' j' D') => some (.panic v, T', H', j', D')
      | none => none
    | .code c :: k => match c with
      | .skip => kevC m S P fid cf yf lt rnd n k T H j D
      | .label _ => kevC m S P fid cf yf lt rnd n k T H j D
      | .scope c => kevC m S P fid cf yf lt rnd n (.code c :: k) T H j D
      | .seq a b => kevC m S P fid cf yf lt rnd n (.code a :: .code b :: k) T H j D
      | .block id b => kevC m S P fid cf yf lt rnd n (.code b :: .inBlock id :: k) T H j D
      | .loop b => kevC m S P fid cf yf lt rnd n (.code b :: .code (.loop b) :: k) T H j D
      | .cond c a b => match kev m T c with
        | .p (.prim (.bool t)) => kevC m S P fid cf yf lt rnd n (.code (if t = true then a else b) :: k) T H j D
        | _ => none
      | .exit id => match unw id k with
        | some k' => kevC m S P fid cf yf lt rnd n k' T H j D
        | none => some (.exit id, T, H, j, D)
      | .ret => some (.ret, T, H, j, D)
      | .region rid ops draw => if draw = true then
          (match S.plan fid rid with
          | some (lo, _, _, π) =>
              (match kevDr m P (S.rows fid) (cf true lt) ops lo D π [] T H j with
              | some (.nrm T' H' j') => kevC m S P fid cf yf lt rnd n k T' H' j' D
              | some (.pan i f args H0 j0 v H1 j1) => (match findE (S.planE fid rid) i with
                | some q => (match kevDraw m P (S.rows fid) (cf true lt) ops q.2.1 D q.2.2.2.2 [] T H j with
                  | some (T2, H2, j2) => if panOk ops i (toL m T2) H2 j2 f args H0 j0 j1 D = true then some (.panic v, kjunkO m ops.toList T2, H1, j1, D) else none
                  | none => none)
                | none => none)
              | none => none)
          | none => match S.planF fid rid with
            | some p =>
                (match kevReg m P (cf false lt) lt ops p T H j D with
                | some (T', H') => kevC m S P fid cf yf lt rnd n k T' H' j D
                | none => none)
            | none => match S.plan2 fid rid with
              | some p =>
                  (match kevDraw m P (S.rows fid) (cf true lt) ops p.lo1 D p.π1 [] T H j, kevDraw m P (S.rows fid) (cf true lt) ops p.lo2 D p.π2 [] T H j with
                  | some (T', H', j'), some (T2, H2, j2) => if (eqAL (toL m T') (toL m T2) && eqH H' H2 && Nat.beq j' j2) = true then kevC m S P fid cf yf lt rnd n k T' H' j' D else none
                  | _, _ => none)
              | none => none)
        else match kevOps m P (S.rows fid) (cf true lt) yf rnd ops ops.toList T H j D with
          | some (.norm T' H' j' D') => kevC m S P fid cf yf lt rnd n k T' H' j' D'
          | some (.pan v T' H' j' D') => some (.panic v, T', H', j', D')
          | none => none
      | .rangeFunc g ps asg bd => if rnd = true then none else match kev m T g with
        | .fn (.func gf) [] cap => if (jokL j (toL m T) && H.all (jokO j) && jokD j D && jokL j cap) = true then
            (match cf true (⟨j, fid, toL m T, ps, asg, bd⟩ :: lt) gf (.fn (.yield j) [] [] :: cap) (H ++ [.dblk, .loop j .ready none]) (j + 1) with
            | some (.ret _, H2, j2) => match H2[H.length + 1]? with
              | some (.loop i st pend) => if (Nat.beq i j && stopped st && pendCalm pend) = true then
                  kevC m S P fid cf yf lt rnd n (match pend with | none => k | some c => .code c :: k) T (H2.set (H.length + 1) .dead) j2 ((.yield H.length, [], []) :: D) else none
              | _ => none
            | _ => none) else none
        | _ => none
      | _ => none
theorem kevC_of {m : Nat} (hm : m < 4095) {S : Seat} {P : Program} {fid : FuncId} {cf : Bool → LT → CallF} {yf : YieldF} {lt : LT} {rnd : Bool} : ∀ {n : Nat} {k : List It} {T : Tr} {H : HX} {j : Nat} {D : List AD} {x : AX} {T' : Tr} {H' : HX} {j' : Nat} {D' : List AD}, kevC m S P fid cf yf lt rnd n k T H j D = some (x, T', H', j', D') →
    ev S P fid cf yf lt rnd n k (toL m T) H j D = some (x, toL m T', H', j', D')
  | 0, k, T, H, j, D, x, T', H', j', D', h => by simp [kevC] at h
  | n + 1, k, T, H, j, D, x, T', H', j', D', h => by
    have ih := @kevC_of m hm S P fid cf yf lt rnd n
    have opsCase : ∀ (all : Array Oper) (l : List Oper) (k : List It), (match kevOps m P (S.rows fid) (cf true lt) yf rnd all l T H j D with
        | some (.norm T' H' j' D') => kevC m S P fid cf yf lt rnd n k T' H' j' D'
        | some (.pan v T' H' j' D') => some (.panic v, T', H', j', D')
        | none => none) = some (x, T', H', j', D') → (match evOps P (S.rows fid) (cf true lt) yf rnd all l (toL m T) H j D with
        | some (.norm T' H' j' D') => ev S P fid cf yf lt rnd n k T' H' j' D'
        | some (.pan v T' H' j' D') => some (.panic v, T', H', j', D')
        | none => none) = some (x, toL m T', H', j', D') := by
      intro all l k h
      split at h
      · rename_i e1
        simp only [kevOps_of hm e1, KOR.un]
        exact ih h
      · rename_i e1
        simp only [Option.some.injEq, Prod.mk.injEq] at h
        obtain ⟨rfl, rfl, rfl, rfl, rfl⟩ := h
        simp only [kevOps_of hm e1, KOR.un]
      · cases h
    simp only [kevC, kev_eq] at h
    simp only [ev]
    split at h
    · simp only [Option.some.injEq, Prod.mk.injEq] at h
      obtain ⟨rfl, rfl, rfl, rfl, rfl⟩ := h
      rfl
    · exact ih h
    · exact opsCase _ _ _ h
    · split at h
      · exact ih h
      · exact ih h
      · exact ih h
      · exact ih h
      · exact ih h
      · exact ih h
      · split at h
        · rename_i e1
          simp only [e1]
          exact ih h
        · cases h
      · split at h
        · rename_i e1
          simp only [e1]
          exact ih h
        · rename_i e1
          simp only [Option.some.injEq, Prod.mk.injEq] at h
          obtain ⟨rfl, rfl, rfl, rfl, rfl⟩ := h
          simp only [e1]
      · simp only [Option.some.injEq, Prod.mk.injEq] at h
        obtain ⟨rfl, rfl, rfl, rfl, rfl⟩ := h
        rfl
      · split at h
        · rename_i e0
          dsimp only
          rw [if_pos e0]
          split at h
          · rename_i e1
            simp only [e1]
            split at h
            · rename_i e2
              simp only [kevDr_of hm e2, KDRes.un]
              exact ih h
            · rename_i e2
              simp only [kevDr_of hm e2, KDRes.un]
              split at h
              · rename_i e3
                simp only [e3]
                split at h
                · rename_i e4
                  simp only [kevDraw_of hm e4]
                  split at h
                  · rename_i e5
                    rw [if_pos e5]
                    simp only [Option.some.injEq, Prod.mk.injEq] at h
                    obtain ⟨rfl, rfl, rfl, rfl, rfl⟩ := h
                    rw [kjunkO_eq hm]
                    rfl
                  · cases h
                · cases h
              · cases h
            · cases h
          · rename_i e1
            simp only [e1]
            split at h
            · rename_i e2
              simp only [e2]
              split at h
              · rename_i e3
                simp only [kevReg_of hm e3]
                exact ih h
              · cases h
            · rename_i e2
              simp only [e2]
              split at h
              · rename_i e4
                simp only [e4]
                split at h
                · rename_i e5 e6
                  simp only [kevDraw_of hm e5, kevDraw_of hm e6]
                  split at h
                  · rename_i e7
                    rw [if_pos e7]
                    exact ih h
                  · cases h
                · cases h
              · cases h
        · rename_i e0
          dsimp only
          rw [if_neg e0]
          exact opsCase _ _ _ h
      · split at h
        · cases h
        · rename_i e0
          dsimp only
          rw [if_neg e0]
          split at h
          · rename_i e1
            simp only [e1]
            split at h
            · rename_i e2
              rw [if_pos e2]
              split at h
              · rename_i e3
                simp only [e3]
                split at h
                · rename_i e4
                  simp only [e4]
                  split at h
                  · rename_i e5
                    rw [if_pos e5]
                    exact ih h
                  · cases h
                · cases h
              · cases h
            · cases h
          · cases h
      · cases h

end Go.AI.EV

namespace Go.AI.EV

open Go Go.AI

noncomputable def fromL (l : List AV) : Nat → Tr → Tr := List.rec (motive := fun _ => Nat → Tr → Tr) (fun _ t => t) (fun x _ ih i t => ih (Nat.add i 1) (Tr.put x 12 t i)) l
theorem fromL_get : ∀ (l : List AV) (i : Nat) (t : Tr) (e : Nat), i + l.length < 4095 → (fromL l i t).get e = if i ≤ e ∧ e < i + l.length then l.getD (e - i) (.tup []) else t.get e
  | [], i, t, e, _ => by
    rw [if_neg (by simp only [List.length_nil]; omega)]; rfl
  | x :: l, i, t, e, h => by
    have h12 : (2 : Nat) ^ 12 = 4096 := rfl
    simp only [List.length_cons] at h
    show (fromL l (i + 1) (Tr.put x 12 t i)).get e = _
    rw [fromL_get l (i + 1) _ e (by omega), Tr.get_put x 12 t i e (by rw [h12]; omega)]
    simp only [List.length_cons]
    by_cases h1 : e = i
    · subst h1
      rw [if_neg (by omega), if_pos rfl, if_pos (by omega)]
      simp
    · by_cases h2 : i + 1 ≤ e ∧ e < i + 1 + l.length
      · rw [if_pos h2, if_pos (by omega)]
        obtain ⟨q, rfl⟩ : ∃ q, e = i + 1 + q := ⟨e - (i + 1), by omega⟩
        rw [show i + 1 + q - (i + 1) = q by omega, show i + 1 + q - i = q + 1 by omega]
        simp
      · rw [if_neg h2, if_neg h1, if_neg (by omega)]

noncomputable def kresX (n : Nat) (P : Program) (T : Tr) (H : HX) : List ResultVar → Option (List AV)
  | [] => some []
  | .tmp t :: rs => (kresX n P T H rs).map fun l => kget n T t :: l
  | .cell a t :: rs => match xload P t (kget n T a) H, kresX n P T H rs with
    | some x, some l => some (x :: l)
    | _, _ => none
theorem kresX_eq (n : Nat) (P : Program) (T : Tr) (H : HX) : ∀ rs : List ResultVar, kresX n P T H rs = aresX P (toL n T) H rs
  | [] => rfl
  | .tmp t :: rs => by simp only [kresX, aresX, kget_eq, kresX_eq n P T H rs]
  | .cell a t :: rs => by
    simp only [kresX, aresX, kget_eq, kresX_eq n P T H rs]
    rfl

end Go.AI.EV

namespace Go.AI.EV

open Go Go.AI
theorem slots_from {args : List AV} {n : Nat} (h : args.length ≤ n) (hn : n < 4095) : toL n (fromL args 0 .nil) = slots args n := by
  apply List.ext_getElem?
  intro i
  simp only [toL, List.getElem?_map, slots]
  by_cases hi : i < n
  · rw [List.getElem?_range hi, Option.map_some, fromL_get args 0 .nil i (by omega)]
    by_cases h2 : i < args.length
    · rw [if_pos (by omega), List.getElem?_append_left h2]
      simp [h2]
    · rw [if_neg (by omega), List.getElem?_append_right (by omega), List.getElem?_replicate, if_pos (by omega)]
      rfl
  · rw [List.getElem?_eq_none (by simpa using hi), List.getElem?_eq_none (by simp; omega)]; rfl
def ginner (S : Seat) (P : Program) (cf : Bool → LT → CallF) (yf : YieldF) (keep : Bool) (lt : LT) : CallF := fun f args H j => match S.fn f with
    | some fn => match fn.body with
      | some c => match ev S P f cf yf lt false 100000 [.code c] (slots args fn.ntmps) H j [] with
        | some (x, T, H1, j1, D) => if H.length ≤ H1.length then (match D with
          | (.func d, cap, dargs) :: [] => match x with
            | .exit _ => none
            | x => if (S.fn d).isSome = true then (match evDef S P cf yf lt d (dargs ++ cap) (match x with | .panic v => some v | _ => none) H1 j1 with
              | some H2 => if H.length ≤ H2.length then (match aresX P T H2 fn.results.toList with
                | some l => (settle lt keep H.length (atuple l) H2).map fun q => (.ret q.1, q.2, j1)
                | none => none) else none
              | none => none) else none
          | D => match unmark D H1 with
            | some H2 => match x with
              | .exit _ => none
              | .panic v => (settle lt keep H.length v H2).map fun q => (.panic q.1, q.2, j1)
              | _ => match aresX P T H2 fn.results.toList with
                | some l => (settle lt keep H.length (atuple l) H2).map fun q => (.ret q.1, q.2, j1)
                | none => none
            | none => none) else none
        | none => none
      | none => none
    | none => none

noncomputable def kinner (S : Seat) (P : Program) (cf : Bool → LT → CallF) (yf : YieldF) (keep : Bool) (lt : LT) : CallF := fun f args H j => match S.fn f with
    | some fn => match fn.body with
      | some c => if (Nat.ble args.length fn.ntmps && Nat.blt fn.ntmps 4095) = true then (match kevC fn.ntmps S P f cf yf lt false 100000 [.code c] (fromL args 0 .nil) H j [] with
        | some (x, T, H1, j1, D) => if H.length ≤ H1.length then (match D with
          | (.func d, cap, dargs) :: [] => match x with
            | .exit _ => none
            | x => if (S.fn d).isSome = true then (match evDef S P cf yf lt d (dargs ++ cap) (match x with | .panic v => some v | _ => none) H1 j1 with
              | some H2 => if H.length ≤ H2.length then (match kresX fn.ntmps P T H2 fn.results.toList with
                | some l => (settle lt keep H.length (atuple l) H2).map fun q => (.ret q.1, q.2, j1)
                | none => none) else none
              | none => none) else none
          | D => match unmark D H1 with
            | some H2 => match x with
              | .exit _ => none
              | .panic v => (settle lt keep H.length v H2).map fun q => (.panic q.1, q.2, j1)
              | _ => match kresX fn.ntmps P T H2 fn.results.toList with
                | some l => (settle lt keep H.length (atuple l) H2).map fun q => (.ret q.1, q.2, j1)
                | none => none
            | none => none) else none
        | none => none) else none
      | none => none
    | none => none
theorem evG_inner (S : Seat) (P : Program) (cf : Bool → LT → CallF) (yf : YieldF) (keep : Bool) (lt : LT) (f : FuncId) (args : List AV) (H : HX) (j : Nat) : evG S P cf yf keep lt f args H j = relet j (ginner S P cf yf keep lt f args H j) := rfl
theorem kinner_of {S : Seat} {P : Program} {cf : Bool → LT → CallF} {yf : YieldF} {keep : Bool} {lt : LT} {f : FuncId} {args : List AV} {H : HX} {j : Nat} {r : AOut × HX × Nat} (h : kinner S P cf yf keep lt f args H j = some r) : ginner S P cf yf keep lt f args H j = some r := by
  unfold kinner at h
  unfold ginner
  cases e1 : S.fn f with
  | none => rw [e1] at h; cases h
  | some fn =>
    rw [e1] at h
    dsimp only at h ⊢
    cases e2 : fn.body with
    | none => rw [e2] at h; cases h
    | some c =>
      rw [e2] at h
      dsimp only at h ⊢
      split at h
      · rename_i hc
        simp only [Bool.and_eq_true] at hc
        have h1 := Nat.le_of_ble_eq_true hc.1
        have h2 : fn.ntmps < 4095 := Nat.le_of_ble_eq_true hc.2
        split at h
        · rename_i x T H1 j1 D e3
          have e4 := kevC_of h2 e3
          rw [slots_from h1 h2] at e4
          simp only [e4]
          simp only [kresX_eq] at h
          exact h
        · cases h
      · cases h

end Go.AI.EV

namespace Go.AI.EV

open Go Go.AI
theorem krelet_of {S : Seat} {P : Program} {cf : Bool → LT → CallF} {yf : YieldF} {keep : Bool} {lt : LT} {f : FuncId} {args : List AV} {H : HX} {j : Nat} {r : AOut × HX × Nat} (h : relet j (kinner S P cf yf keep lt f args H j) = some r) : evG S P cf yf keep lt f args H j = some r := by
  rw [evG_inner]
  cases e : kinner S P cf yf keep lt f args H j with
  | none => rw [e] at h; cases h
  | some q => rw [kinner_of e, ← e]; exact h

end Go.AI.EV

namespace Go.AI

open Go

mutual
theorem RepP.roMono {E E' : Env} {w : World} (h : ∀ b off, E.ro b off → E'.ro b off) : ∀ {x : PV} {v : Value}, RepP E w x v → RepP E' w x v
  | .prim _, _, r => by simpa only [RepP] using r
  | .sl sz es, v, r => by
    simp only [RepP] at r ⊢
    obtain ⟨a, cap, e, hc, r⟩ := r
    refine ⟨a, cap, e, hc, r.imp id ?_⟩
    rintro ⟨b, off, ea, r⟩
    exact ⟨b, off, ea, RepEs.roMono h r⟩
  | .ro cs, v, r => by
    simp only [RepP] at r ⊢
    obtain ⟨b, off, e, r⟩ := r
    exact ⟨b, off, e, RepAt.roMono h r⟩
  | .ifc t x, v, r => by
    simp only [RepP] at r ⊢; obtain ⟨u, e, r⟩ := r; exact ⟨u, e, RepP.roMono h r⟩
theorem RepAt.roMono {E E' : Env} {w : World} (h : ∀ b off, E.ro b off → E'.ro b off) {b : Nat} : ∀ {xs : List PV} {off : Nat}, RepAt E w b off xs → RepAt E' w b off xs
  | [], _, _ => by simp only [RepAt]
  | x :: xs, off, r => by
    simp only [RepAt] at r ⊢
    obtain ⟨v, ho, e, r1, r2⟩ := r
    exact ⟨v, h _ _ ho, e, RepP.roMono h r1, RepAt.roMono h r2⟩
theorem RepEs.roMono {E E' : Env} {w : World} (h : ∀ b off, E.ro b off → E'.ro b off) {b sz : Nat} : ∀ {es : List (List PV)} {off : Nat}, RepEs E w b sz off es → RepEs E' w b sz off es
  | [], _, _ => by simp only [RepEs]
  | e :: es, off, r => by
    simp only [RepEs] at r ⊢
    exact ⟨r.1, RepAt.roMono h r.2.1, RepEs.roMono h r.2.2⟩
end
def roW (W : World) : Env := { ro := fun b _ => b < W.heap.size, g := fun _ => none, t := fun _ => none }
theorem Rel.later {E : Env} {h : Nat → Option AO} {w w' : World} (r : Rel E h w) (hs : ∀ b, b < w.heap.size → w'.heap[b]? = w.heap[b]?) (hsz : w.heap.size ≤ w'.heap.size) (kp : Kp w w') : Rel E h w' ∧ Fr E h w E h w' := by
  have hx : Ext E w E w' := ⟨fun _ _ h => h, fun b off hb => cell_of_heap (hs b (r.lt b off hb)) off, fun _ _ h => h, fun _ L h => ⟨L, h, Nat.le_refl _, fun _ => rfl⟩⟩
  refine ⟨⟨fun id o h1 h2 => ?_, fun id o n sz m cs h1 h2 => ?_, r.inj, r.sepO, r.sepT, fun b off hb => Nat.lt_of_lt_of_le (r.lt b off hb) hsz⟩, ⟨fun b hb _ => hs b hb, hx, fun _ _ h => .inl h, hsz, fun _ h => .inl h, kp⟩⟩
  · obtain ⟨b, g, hb⟩ := r.objsO id o h1 h2
    exact ⟨b, g, hb.move hx (hs b hb.lt)⟩
  · obtain ⟨blk, cap, g1, g2, g3, g4⟩ := r.toks id o n sz m cs h1 h2
    refine ⟨blk, cap, g1, g2, g3, fun b hb => ?_⟩
    obtain ⟨vs, k1, k2, k3⟩ := g4 b hb
    exact ⟨vs, k1.same (hs b k1.lt), k2, k3.ext hx⟩
def Lend (h : Heap) (x y : AV) : Prop := ∀ E w v, Rel E h.at w → Rep E w x v → Rep (roW w) w y v
def LendL (h : Heap) (xs ys : List AV) : Prop := ∀ E w vs, Rel E h.at w → RepL E w xs vs → RepL (roW w) w ys vs
theorem LendL.nil {h : Heap} : LendL h [] [] := fun E w vs _ r => by simpa only [RepL] using r
theorem LendL.cons {h : Heap} {x y : AV} {xs ys : List AV} (a : Lend h x y) (b : LendL h xs ys) : LendL h (x :: xs) (y :: ys) := fun E w vs hr r => by
  simp only [RepL] at r ⊢
  obtain ⟨v, us, e, r1, r2⟩ := r
  exact ⟨v, us, e, a E w v hr r1, b E w us hr r2⟩
theorem Lend.p {h : Heap} (x : PV) : Lend h (.p x) (.p x) := fun E w v hr r => by
  simp only [Rep] at r ⊢
  exact r.roMono fun b off hb => hr.lt b off hb

end Go.AI
