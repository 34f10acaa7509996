/-
  One operation over letters, and a list of them.
-/
import Derived.Test.YtplomildbmcmfaaGreatBEVw

namespace Go.AI.EV

open Go Go.AI
def xaop (P : Program) (ρ : Operand → AV) (H : HX) (op : Op) : Option (AV × HX) :=
  match op with
  | .alloc t => match zeroT P t with
    | some z => some (.ptr H.length 0, H ++ [.cells (prims z)])
    | none => none
  | .box _ x => match cellsA (ρ x) with
    | some cs => some (.ptr H.length 0, H ++ [.cells cs])
    | none => none
  | .load t a => (xload P t (ρ a) H).map fun v => (v, H)
  | .store t a x => (xstore P t (ρ a) (ρ x) H).map fun H' => (.tup [], H')
  | .makeSlice t l c => xmake P t (ρ l) (ρ c) H
  | .slice t x lo hi mx => (xslice P t (ρ x) (lo.map ρ) (hi.map ρ) (mx.map ρ)).map fun v => (v, H)
  | .call ⟨.builtin .append, ⟨[s, x]⟩, ⟨[t, t']⟩⟩ => if t = t' ∧ isSm (ρ s) = false then xown P t (ρ s) (ρ x) H else none
  | .call ⟨.builtin .copy, ⟨[d, x]⟩, ⟨[t, _]⟩⟩ => xcopy P t (ρ d) (ρ x) H
  | .call ⟨.builtin .clear, ⟨[d]⟩, ⟨[t]⟩⟩ => xclear P t (ρ d) H
  | op => if pureOp op = true then (match aop P ρ [] op with
      | some (x, _) => some (x, H)
      | none => none) else none
theorem xaop_io {P : Program} {ks : Ks} {ρ ρ' : Operand → AV} {H H' : HX} {op : Op} {x : AV} (hr : ∀ y, ρ' y = io ks (ρ y)) (h : xaop P ρ H op = some (x, H')) : aop P ρ' (iH ks H) op = some (io ks x, iH ks H') := by
  unfold xaop at h
  split at h
  · split at h
    · rename_i t z hz
      simp only [Option.some.injEq, Prod.mk.injEq] at h
      obtain ⟨rfl, rfl⟩ := h
      simp only [aop, hz]
      rw [iH_app, iH_len, io_ptr]
      have e : iH ks [XO.cells (prims z)] = [some (.cells (prims z))] := by
        show [some (AO.cells _)] = _
        rw [prims_map]
      rw [e]
    · cases h
  · split at h
    · rename_i cs hc
      simp only [Option.some.injEq, Prod.mk.injEq] at h
      obtain ⟨rfl, rfl⟩ := h
      simp only [aop, hr, cellsA_io, hc, Option.map_some]
      rw [iH_app, iH_len, io_ptr]; rfl
    · cases h
  · obtain ⟨v, h1, h2⟩ := Option.map_eq_some_iff.1 h
    cases h2
    simp only [aop, hr, xload_io h1, Option.map_some]
  · obtain ⟨v, h1, h2⟩ := Option.map_eq_some_iff.1 h
    cases h2
    simp only [aop, hr, xstore_io (ks := ks) h1, Option.map_some]
    simp
  · simp only [aop, hr]
    exact xmake_io h
  · obtain ⟨v, h1, h2⟩ := Option.map_eq_some_iff.1 h
    cases h2
    rename_i t x' lo hi mx
    have e : ∀ o : Option Operand, o.map ρ' = (o.map ρ).map (io ks) := fun o => by cases o <;> simp [hr]
    simp only [aop, hr, e, xslice_io h1, Option.map_some]
  · rename_i s x' t t'
    split at h
    · rename_i hc
      obtain ⟨rfl, hsm⟩ := hc
      have h1 := xown_io (ks := ks) h
      simp only [aop, List.map_cons, List.map_nil, hr]
      unfold abuiltin
      split
      · first | (rename_i e1 _; cases e1; done) | (rename_i e1 _ _; cases e1; done) | (rename_i e1; cases e1; done)
      · first | (rename_i e1 _; cases e1; done) | (rename_i e1 _ _; cases e1; done) | (rename_i e1; cases e1; done)
      · first | (rename_i e1 _; cases e1; done) | (rename_i e1 _ _; cases e1; done) | (rename_i e1; cases e1; done)
      · rename_i e2 e3
        simp only [List.cons.injEq] at e3
        exfalso
        have := e3.1
        cases hs : ρ s <;> rw [hs] at this hsm <;> simp [isSm] at this hsm
      · rename_i t1 t2 s1 x1 _ e2 e3
        simp only [List.cons.injEq, and_true] at e2 e3
        obtain ⟨rfl, rfl⟩ := e2
        obtain ⟨rfl, rfl⟩ := e3
        rw [if_pos rfl]; exact h1
      · first | (rename_i e1 _; cases e1; done) | (rename_i e1 _ _; cases e1; done) | (rename_i e1; cases e1; done)
      · first | (rename_i e1 _; cases e1; done) | (rename_i e1 _ _; cases e1; done) | (rename_i e1; cases e1; done)
      · rename_i e0 e1 e2 e3 e4 e5 e6 e7
        exact absurd rfl (e5 _ _ _ _ rfl rfl)
    · cases h
  · rename_i d x' t t'
    have h1 := xcopy_io (ks := ks) h
    simp only [aop, List.map_cons, List.map_nil, hr]
    exact h1
  · rename_i d t
    have h1 := xclear_io (ks := ks) h
    simp only [aop, List.map_cons, List.map_nil, hr]
    exact h1
  · split at h
    · rename_i hp
      split at h
      · rename_i y g e
        simp only [Option.some.injEq, Prod.mk.injEq] at h
        obtain ⟨rfl, rfl⟩ := h
        exact aop_pure hp hr e
      · cases h
    · cases h
def nilA : AV → Option Bool
  | .p (.prim (.slice none 0 0)) => some true
  | .p (.sl _ (_ :: _)) => some false
  | .own _ _ (_ :: _) => some false
  | .sm _ _ _ _ _ => some false
  | _ => none
theorem nilA_rep {ks : Ks} {E : Env} {w : World} {x : AV} {b : Bool} {v : Value} (h : nilA x = some b) (hx : Rep E w (io ks x) v) : ∃ ad n c, v = .slice ad n c ∧ ad.isNone = b := by
  unfold nilA at h
  split at h
  rotate_left 4
  · cases h
  all_goals simp only [Option.some.injEq] at h
  · subst h; simp only [io_p, Rep, RepP] at hx; exact ⟨none, 0, 0, hx.1, rfl⟩
  · subst h
    simp only [io_p, Rep, RepP] at hx
    obtain ⟨a, c, rfl, _, h⟩ := hx
    obtain ⟨b, off, rfl, _⟩ := h.resolve_left (by simp)
    exact ⟨_, _, _, rfl, rfl⟩
  · subst h
    have := Weak.own _ _ _ E w v (by simpa using hx)
    simp only [Rep, RepP] at this
    obtain ⟨a, c, rfl, _, h⟩ := this
    obtain ⟨b, off, rfl, _⟩ := h.resolve_left (by simp)
    exact ⟨_, _, _, rfl, rfl⟩
  · subst h
    simp only [io_sm, Rep] at hx
    obtain ⟨b, _, rfl⟩ := hx
    exact ⟨_, _, _, rfl, rfl⟩

section

variable {P : Program} {ks : Ks} {E : Env} {w : World} {H : HX} {o : Oper} {T : List AV} {D : List AD} {a : Act}
theorem nil_out {h : Heap} {t e ty : TypeId} {x : Operand} {op : BinOp} {b : Bool} (hop : op = .eql ∨ op = .neq) {T2 : List AV} (st : St E w a T2 h D) (hr : ∀ y ∈ o.op.operands, aev T2 y = io ks (aev T y)) (ho : o.op = .binOp op t x (.const (.slice none 0 0)) ty) (hu : P.underlying t = some (.slice e)) (hb : nilA (aev T x) = some b) :
    Out P o E w a h (.p (.prim (.bool (if op = .eql then b else !b)))) h := by
  have hxr := aev_rep st x
  rw [hr x (by rw [ho]; simp [Op.operands])] at hxr
  obtain ⟨ad, n, c, hv, hn⟩ := nilA_rep hb hxr
  have h1 : ∀ d (s : Option Addr) n c, (Op.equalIn (d + 1) t (.slice s n c) (.slice none 0 0)).run P w = .ok s.isNone w := by
    intro d s n c
    cases s with
    | none => simp only [Op.equalIn, Sem.run_bind, run_underlying hu, Result.andThen_ok]; rfl
    | some s => simp only [Op.equalIn, Sem.run_bind, run_underlying hu, Result.andThen_ok]; rfl
  have h2 : ∀ (s : Option Addr) n c, (Op.equal t (.slice s n c) (.slice none 0 0)).run P w = .ok s.isNone w := h1 9999
  have g1 : ∀ op, (eqGuard op t x (.const (.slice none 0 0)) (.slice ad n c) (.slice none 0 0)).run P w = .ok () w := by
    intro op; unfold eqGuard; cases op <;> rfl
  refine ⟨E, w, .bool (if op = .eql then b else !b), ?_, st.rel, st.fresh, by simp [Rep, RepP, isPrim], Fr.refl _ _ _⟩
  have hev : a.eval (.const (.slice none 0 0)) = .slice none 0 0 := rfl
  rcases hop with rfl | rfl
  · simp only [execOp, ho, hv, hev]
    simp [g1, binOp, h2, hn]
  · simp only [execOp, ho, hv, hev]
    simp [g1, binOp, h2, hn]
def fnA : AV → Option Bool
  | .p (.prim .nilFunc) => some true
  | .p (.prim (.func _ _ _)) => some false
  | .fn _ _ _ => some false
  | _ => none
theorem fnA_rep {x : AV} {b : Bool} {v : Value} (h : fnA x = some b) (hx : Rep E w (io ks x) v) : (v = .nilFunc ∧ b = true) ∨ ∃ f u z, v = .func f u z ∧ b = false := by
  unfold fnA at h
  split at h
  rotate_left 3
  · cases h
  all_goals simp only [Option.some.injEq] at h
  · subst h; simp only [io_p, Rep, RepP] at hx; exact .inl ⟨hx.1, rfl⟩
  · subst h; simp only [io_p, Rep, RepP] at hx; exact .inr ⟨_, _, _, hx.1, rfl⟩
  · subst h
    simp only [io_fn, Rep] at hx
    obtain ⟨vs, us, e, _⟩ := hx
    exact .inr ⟨_, _, _, e, rfl⟩
theorem func_out {h : Heap} {t ty : TypeId} {a1 a2 a3} {x : Operand} {op : BinOp} {b : Bool} (hop : op = .eql ∨ op = .neq) {T2 : List AV} (st : St E w a T2 h D) (hr : ∀ y ∈ o.op.operands, aev T2 y = io ks (aev T y)) (ho : o.op = .binOp op t x (.const .nilFunc) ty) (hu : P.underlying t = some (.func a1 a2 a3)) (hb : fnA (aev T x) = some b) :
    Out P o E w a h (.p (.prim (.bool (if op = .eql then b else !b)))) h := by
  have hxr := aev_rep st x
  rw [hr x (by rw [ho]; simp [Op.operands])] at hxr
  have hv := fnA_rep hb hxr
  have h1 : ∀ d, (Op.equalIn (d + 1) t .nilFunc .nilFunc).run P w = .ok true w := by
    intro d; simp only [Op.equalIn, Sem.run_bind, run_underlying hu, Result.andThen_ok]; rfl
  have h2 : ∀ d f u v, (Op.equalIn (d + 1) t (.func f u v) .nilFunc).run P w = .ok false w := by
    intro d f u v; simp only [Op.equalIn, Sem.run_bind, run_underlying hu, Result.andThen_ok]; rfl
  have e1 : (Op.equal t .nilFunc .nilFunc).run P w = .ok true w := h1 9999
  have e2 : ∀ f u v, (Op.equal t (.func f u v) .nilFunc).run P w = .ok false w := h2 9999
  have g1 : ∀ op, (eqGuard op t x (.const .nilFunc) .nilFunc .nilFunc).run P w = .ok () w := by
    intro op; unfold eqGuard; cases op <;> simp
  have g2 : ∀ op f u v, (eqGuard op t x (.const .nilFunc) (.func f u v) .nilFunc).run P w = .ok () w := by
    intro op f u v; unfold eqGuard; cases op <;> rfl
  refine ⟨E, w, .bool (if op = .eql then b else !b), ?_, st.rel, st.fresh, by simp [Rep, RepP, isPrim], Fr.refl _ _ _⟩
  have hev : a.eval (.const .nilFunc) = .nilFunc := rfl
  rcases hv with ⟨hv, rfl⟩ | ⟨f, u, z, hv, rfl⟩ <;> rcases hop with rfl | rfl
  · simp only [execOp, ho, hv, hev]
    simp [g1, binOp, e1]
  · simp only [execOp, ho, hv, hev]
    simp [g1, binOp, e1]
  · simp only [execOp, ho, hv, hev]
    simp [g2, binOp, e2]
  · simp only [execOp, ho, hv, hev]
    simp [g2, binOp, e2]
theorem build0_out {h : Heap} {t e : TypeId} {sz : Nat} (st : St E w a T h D) (ho : o.op = .buildSlice t 0 #[]) (he : elT P t = some e) (hsz : szT P e = some sz) : Out P o E w a h (.sm h.length 0 0 0 sz) (h ++ [some (.cells [])]) := by
  obtain ⟨h1, h2, h3⟩ := st.rel.alloc st.fresh (cs := []) (vs := []) (by simp [RepL]) e
  refine ⟨_, _, .slice (some ⟨w.heap.size, 0, none⟩) 0 0, ?_, h1, by simpa using h3, ?_, h2⟩
  · have hrun : (Instr.buildSlice t 0 #[]).run P w = .ok (.slice (some ⟨w.heap.size, 0, none⟩) 0 0) (w.alloc (.cells (List.toArray []) e (0, 0))) := by
      unfold Instr.buildSlice
      simp only [Sem.run_bind, run_elT he, Result.andThen_ok, run_szT hsz, Nat.zero_mul]
      simp [Instr.fill, newRow, show Array.range 0 = #[] from rfl]
    simp only [execOp, ho]
    rw [Sem.run_bind, show (Array.map (fun p : Nat × Operand => (p.1, a.eval p.2)) #[]) = #[] from by simp, hrun]
    rfl
  · simp only [Rep]
    exact ⟨_, by simp, rfl⟩
def xrd (P : Program) (ρ : Operand → AV) (op : Op) : Option AV :=
  match op with
  | .binOp op t x (.const (.slice none 0 0)) _ => match P.underlying t with
    | some (.slice _) => match op, nilA (ρ x) with
      | .eql, some b => some (.p (.prim (.bool b)))
      | .neq, some b => some (.p (.prim (.bool (!b))))
      | _, _ => none
    | _ => none
  | .binOp op t x (.const .nilFunc) _ => match P.underlying t with
    | some (.func _ _ _) => match op, fnA (ρ x) with
      | .eql, some b => some (.p (.prim (.bool b)))
      | .neq, some b => some (.p (.prim (.bool (!b))))
      | _, _ => none
    | _ => none
  | .slice t x lo hi none => match elT P t with
    | some e => match szT P e with
      | some sz => match ρ x with
        | .sm _id _off len code s => match loA (lo.map ρ), hiA len (hi.map ρ) with
          | some l, some u => if s = sz ∧ 0 < l ∧ l = u ∧ u.toNat ≤ room code then some (.p (.sl sz [])) else none
          | _, _ => none
        | _ => none
      | none => none
    | none => none
  | _ => none
theorem empty_out {h : Heap} {t e : TypeId} {sz id off len code s : Nat} {x : Operand} {lo hi : Option Operand} {l u : Int} {T2 : List AV} (st : St E w a T2 h D) (hr : ∀ y ∈ o.op.operands, aev T2 y = io ks (aev T y)) (ho : o.op = .slice t x lo hi none) (hel : elT P t = some e) (hsz : szT P e = some sz)
    (hx : aev T x = .sm id off len code s) (hl : loA (lo.map (aev T)) = some l) (hu : hiA len (hi.map (aev T)) = some u) (hc : s = sz ∧ 0 < l ∧ l = u ∧ u.toNat ≤ room code) : Out P o E w a h (.p (.sl sz [])) h := by
  obtain ⟨rfl, h0, rfl, h3⟩ := hc
  have hxr := aev_rep st x
  rw [hr x (by rw [ho]; simp [Op.operands]), hx, io_sm] at hxr
  have hroom := room_le ks code
  have key : ∀ (q : Option Operand), (∀ y, q = some y → y ∈ o.op.operands) → ∀ z, (q.map fun y => io ks (aev T y)) = some z → ∃ y, q.map a.eval = some y ∧ Rep E w z y := by
    intro q hq z hz
    cases q with
    | none => cases hz
    | some y =>
      simp only [Option.map_some, Option.some.injEq] at hz
      subst hz
      exact ⟨_, rfl, by rw [← hr y (hq y rfl)]; exact aev_rep st y⟩
  have eq1 : ∀ q : Option Operand, (q.map fun y => io ks (aev T y)) = (q.map (aev T)).map (io ks) := fun q => by cases q <;> rfl
  obtain ⟨r, hrun, hrep⟩ := slice_sm (P := P) (lo := lo.map fun y => io ks (aev T y)) (hi := hi.map fun y => io ks (aev T y)) (mx := none) (vlo := lo.map a.eval) (vhi := hi.map a.eval) (vmx := none) (m := (icap ks code : Nat)) hel hsz hxr
    (key lo fun y hy => by rw [ho, hy]; simp [Op.operands]) (fun e => by cases lo <;> simp at e ⊢) (key hi fun y hy => by rw [ho, hy]; simp [Op.operands]) (fun e => by cases hi <;> simp at e ⊢) (fun _ e => by cases e) (fun _ => rfl)
    (by rw [eq1, loA_io]; exact hl) (by rw [eq1, hiA_io]; exact hu) rfl (by omega) (by omega) (by omega) (by omega) rfl
  refine ⟨E, w, r, ?_, st.rel, st.fresh, ?_, Fr.refl _ _ _⟩
  · simp only [execOp, ho]
    simp only [Option.map_none]
    rw [Sem.run_bind, hrun]
    rfl
  · simp only [Rep] at hrep
    obtain ⟨b, _, rfl⟩ := hrep
    simp only [Rep, RepP]
    refine ⟨_, _, by rw [Nat.sub_self]; rfl, Nat.zero_le _, .inl trivial⟩
theorem xrd_out {h : Heap} {x : AV} {T2 : List AV} (hr : ∀ y ∈ o.op.operands, aev T2 y = io ks (aev T y)) (st : St E w a T2 h D) (h0 : xrd P (aev T) o.op = some x) : Out P o E w a h (io ks x) h := by
  unfold xrd at h0
  split at h0
  · rename_i op t x' ty ho
    split at h0
    · rename_i e hu
      split at h0
      · rename_i b hb
        simp only [Option.some.injEq] at h0
        subst h0
        rw [io_p]; exact nil_out (.inl rfl) st hr ho hu hb
      · rename_i b hb
        simp only [Option.some.injEq] at h0
        subst h0
        rw [io_p]; exact nil_out (.inr rfl) st hr ho hu hb
      · cases h0
    · cases h0
  · rename_i op t x' ty ho
    split at h0
    · rename_i a1 a2 a3 hu
      split at h0
      · rename_i b hb
        simp only [Option.some.injEq] at h0
        subst h0
        rw [io_p]; exact func_out (.inl rfl) st hr ho hu hb
      · rename_i b hb
        simp only [Option.some.injEq] at h0
        subst h0
        rw [io_p]; exact func_out (.inr rfl) st hr ho hu hb
      · cases h0
    · cases h0
  · rename_i t x' lo hi ho
    split at h0
    · rename_i e hel
      split at h0
      · rename_i sz hsz
        split at h0
        · rename_i id off len code s hx
          split at h0
          · rename_i l u hl hu
            split at h0
            · rename_i hc
              simp only [Option.some.injEq] at h0
              subst h0
              rw [io_p]; exact empty_out st hr ho hel hsz hx hl hu hc
            · cases h0
          · cases h0
        · cases h0
      · cases h0
    · cases h0
  · cases h0
def xsp (P : Program) (rows : Bool) (ρ : Operand → AV) (H : HX) (j : Nat) (op : Op) : Option (AV × HX × Nat) :=
  match op with
  | .call ⟨.builtin .append, ⟨[s, x]⟩, ⟨[t, t']⟩⟩ => if t = t' then (match xapp P rows t (ρ s) (ρ x) H j with
      | some (y, H', j') => if (Nat.beq j' j || H.all (jokO j)) = true then some (y, H', j') else none
      | none => none) else none
  | .buildSlice t 0 ⟨[]⟩ => match elT P t with
    | some e => match szT P e with
      | some sz => some (.sm H.length 0 0 0 sz, H ++ [.cells []], j)
      | none => none
    | none => none
  | .makeMap _ none => some (.mp H.length, H ++ [.map []], j)
  | .lookup t m ix ok => (xlook P t (ρ m) (ρ ix) ok H).map fun x => (x, H, j)
  | op => (xrd P ρ op).map fun x => (x, H, j)
theorem xsp_out {rows : Bool} {x : AV} {H' : HX} {j j' : Nat} {T2 : List AV} (hr : ∀ y ∈ o.op.operands, aev T2 y = io ks (aev T y)) (st : St E w a T2 (iH ks H) D) (h : xsp P rows (aev T) H j o.op = some (x, H', j')) : OutX P o E w a ks H j x H' j' := by
  unfold xsp at h
  split at h
  · rename_i s x' t t' ho
    split at h
    · rename_i ht
      subst ht
      split at h
      · rename_i y G i e
        split at h
        · rename_i hc
          simp only [Option.some.injEq, Prod.mk.injEq] at h
          obtain ⟨rfl, rfl, rfl⟩ := h
          simp only [Bool.or_eq_true] at hc
          exact xapp_out st ho hr (hc.imp Nat.eq_of_beq_eq_true id) e
        · cases h
      · cases h
    · cases h
  · rename_i t ho
    split at h
    · rename_i e he
      split at h
      · rename_i sz hsz
        simp only [Option.some.injEq, Prod.mk.injEq] at h
        obtain ⟨rfl, rfl, rfl⟩ := h
        refine ⟨ks, Agree.refl _ _, fun _ => rfl, Nat.le_refl _, ?_⟩
        have := build0_out st ho he hsz
        rw [iH_len] at this
        rw [iH_app, io_sm]
        exact this
      · cases h
    · cases h
  · rename_i t ho
    simp only [Option.some.injEq, Prod.mk.injEq] at h
    obtain ⟨rfl, rfl, rfl⟩ := h
    refine ⟨ks, Agree.refl _ _, fun _ => rfl, Nat.le_refl _, ?_⟩
    have := map_out (P := P) st ho
    rw [iH_len] at this
    rw [iH_app, io_mp]
    exact this
  · rename_i t m ix ok ho
    obtain ⟨y, h1, h2⟩ := Option.map_eq_some_iff.1 h
    simp only [Prod.mk.injEq] at h2
    obtain ⟨rfl, rfl, rfl⟩ := h2
    exact ⟨ks, Agree.refl _ _, fun _ => rfl, Nat.le_refl _, look_out hr st ho h1⟩
  · obtain ⟨y, h1, h2⟩ := Option.map_eq_some_iff.1 h
    simp only [Prod.mk.injEq] at h2
    obtain ⟨rfl, rfl, rfl⟩ := h2
    exact ⟨ks, Agree.refl _ _, fun _ => rfl, Nat.le_refl _, xrd_out hr st h1⟩

end

end Go.AI.EV
