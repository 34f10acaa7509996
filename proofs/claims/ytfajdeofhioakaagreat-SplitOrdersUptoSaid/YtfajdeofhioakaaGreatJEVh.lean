import Derived.Test.YtfajdeofhioakaaGreatJA0
import Derived.Test.YtfajdeofhioakaaGreatJEVw
import Derived.Test.YtfajdeofhioakaaGreatJYE

namespace Go.AI.EV

open Go Go.AI
def rA (P : Program) (ρ : Operand -> AV) (H : HX) (op : Op) : Option (AV × HX) :=
 match op with
 | .alloc t => match bM P t with
  | some z => some (.ptr H.length 0, H ++ [.cells (prims z)])
  | none => none
 | .box _ x => match cP (ρ x) with
  | some cs => some (.ptr H.length 0, H ++ [.cells cs])
  | none => none
 | .load t a => (aBo P t (ρ a) H).map fun v => (v, H)
 | .store t a x => (aIs P t (ρ a) (ρ x) H).map fun H' => (.tup [], H')
 | .makeSlice t l c => aPp P t (ρ l) (ρ c) H
 | .slice t x lo hi mx => (aIp P t (ρ x) (lo.map ρ) (hi.map ρ) (mx.map ρ)).map fun v => (v, H)
 | .call ⟨.builtin .append, ⟨[s, x]⟩, ⟨[t, t']⟩⟩ => if t = t' /\ aUt (ρ s) = false then aPq P t (ρ s) (ρ x) H else none
 | .call ⟨.builtin .copy, ⟨[d, x]⟩, ⟨[t, _]⟩⟩ => aPn P t (ρ d) (ρ x) H
 | .call ⟨.builtin .clear, ⟨[d]⟩, ⟨[t]⟩⟩ => aIm P t (ρ d) H
 | op => if aHl op = true then (match aop P ρ [] op with
   | some (x, _) => some (x, H)
   | none => none) else none
theorem iZ {P : Program} {ks : Ks} {ρ ρ' : Operand -> AV} {H H' : HX} {op : Op} {x : AV} (hr : ∀ y, ρ' y = io ks (ρ y)) (h : rA P ρ H op = some (x, H')) : aop P ρ' (iH ks H) op = some (io ks x, iH ks H') := by
 unfold rA at h;split at h
 ·split at h
  ·rename_i t z hz;simp only [bBk, bBz] at h;obtain ⟨rfl, rfl⟩ := h;simp only [aop, hz];rw [dX, bD, nC]
   have e : iH ks [XO.cells (prims z)] = [some (.cells (prims z))] := by
    show [some (AO.cells _)] = _;rw [yD]
   rw [e]
  ·cases h
 ·split at h
  ·rename_i cs hc;simp only [bBk, bBz] at h;obtain ⟨rfl, rfl⟩ := h;simp only [aop, hr, iE, hc, bCm];rw [dX, bD, nC]; rfl
  ·cases h
 ·obtain ⟨v, h1, h2⟩ := bBv.1 h;cases h2;simp only [aop, hr, aD6 h1, bCm]
 ·obtain ⟨v, h1, h2⟩ := bBv.1 h;cases h2;simp only [aop, hr, aIt (ks := ks) h1, bCm];simp
 ·simp only [aop, hr];exact aLp h
 ·obtain ⟨v, h1, h2⟩ := bBv.1 h;cases h2;rename_i t x' lo hi mx;have e : ∀ o : Option Operand, o.map ρ' = (o.map ρ).map (io ks) := fun o => by cases o <;> simp [hr]
  simp only [aop, hr, e, aIq h1, bCm]
 ·rename_i s x' t t';split at h
  ·rename_i hc;obtain ⟨rfl, hsm⟩ := hc;have h1 := aPr (ks := ks) h;simp only [aop, bBx, bCv, hr];unfold abuiltin;split
   ·exact y2d
   ·exact y2d
   ·exact y2d
   ·rename_i e2 e3;simp only [bCj] at e3;exfalso;have := e3.1
    cases hs : ρ s <;> rw [hs] at this hsm <;> simp [aUt] at this hsm
   ·rename_i t1 t2 s1 x1 _ e2 e3;simp only [bCj, and_true] at e2 e3;obtain ⟨rfl, rfl⟩ := e2;obtain ⟨rfl, rfl⟩ := e3;rw [if_pos rfl]; exact h1
   ·exact y2d
   ·exact y2d
   ·rename_i e0 e1 e2 e3 e4 e5 e6 e7;exact absurd rfl (e5 _ _ _ _ rfl rfl)
  ·cases h
 ·rename_i d x' t t';have h1 := aLo (ks := ks) h;simp only [aop, bBx, bCv, hr];exact h1
 ·rename_i d t;have h1 := aIn (ks := ks) h;simp only [aop, bBx, bCv, hr];exact h1
 ·split at h
  ·rename_i hp;split at h
   ·rename_i y g e;simp only [bBk, bBz] at h;obtain ⟨rfl, rfl⟩ := h;exact aJ8 hp hr e
   ·cases h
  ·cases h
def aX6 : AV -> Option Bool
 | .p (.prim (.slice none 0 0)) => some true
 | .p (.sl _ (_ :: _)) => some false
 | .own _ _ (_ :: _) => some false
 | .sm _ _ _ _ _ => some false
 | _ => none
theorem aKf {ks : Ks} {E : Env} {w : World} {x : AV} {b : Bool} {v : Value} (h : aX6 x = some b) (hx : Rep E w (io ks x) v) : ∃ ad n c, v = .slice ad n c /\ ad.isNone = b := by
 unfold aX6 at h;split at h
 rotate_left 4
 ·cases h
 all_goals simp only [bBk] at h
 ·subst h; simp only [dY, Rep, RepP] at hx; exact ⟨none, 0, 0, hx.1, rfl⟩
 ·subst h;simp only [dY, Rep, RepP] at hx;obtain ⟨a, c, rfl, _, h⟩ := hx;exact y6k
 ·subst h;have := Weak.own _ _ _ E w v (by simpa using hx);simp only [Rep, RepP] at this;obtain ⟨a, c, rfl, _, h⟩ := this;exact y6k
 ·subst h;simp only [io_sm, Rep] at hx;obtain ⟨b, _, rfl⟩ := hx;exact ⟨_, _, _, rfl, rfl⟩

section

variable {P : Program} {ks : Ks} {E : Env} {w : World} {H : HX} {o : Oper} {T : List AV} {D : List AD} {a : Act}
theorem aH4 {h : Heap} {t e ty : TypeId} {x : Operand} {op : BinOp} {b : Bool} (hop : op = .eql \/ op = .neq) {T2 : List AV} (st : St E w a T2 h D) (hr : ∀ y ∈ o.op.operands, aev T2 y = io ks (aev T y)) (ho : o.op = .binOp op t x (.const (.slice none 0 0)) ty) (hu : P.underlying t = some (.slice e)) (hb : aX6 (aev T x) = some b) :
  Out P o E w a h (.p (.prim (.bool (if op = .eql then b else !b)))) h := by
 have hxr := aev_rep st x;rw [hr x (by rw [ho]; simp [Op.operands])] at hxr;obtain ⟨ad, n, c, hv, hn⟩ := aKf hb hxr
 have h1 : ∀ d (s : Option Addr) n c, (Op.equalIn (d + 1) t (.slice s n c) (.slice none 0 0)).run P w = .ok s.isNone w := by
  intro d s n c
  cases s with
  | none => simp only [Op.equalIn, Sem.run_bind, run_underlying hu, Result.andThen_ok]; rfl
  | some s => simp only [Op.equalIn, Sem.run_bind, run_underlying hu, Result.andThen_ok]; rfl
 have h2 : ∀ (s : Option Addr) n c, (Op.equal t (.slice s n c) (.slice none 0 0)).run P w = .ok s.isNone w := h1 9999
 have g1 : ∀ op, (eqGuard op t x (.const (.slice none 0 0)) (.slice ad n c) (.slice none 0 0)).run P w = .ok () w := by
  intro op; unfold eqGuard; cases op <;> rfl
 refine ⟨E, w, .bool (if op = .eql then b else !b), ?_, st.rel, st.fresh, by simp [Rep, RepP, isPrim], Fr.refl _ _ _⟩;have hev : a.eval (.const (.slice none 0 0)) = .slice none 0 0 := rfl;rcases hop with rfl | rfl
 ·simp only [execOp, ho, hv, hev];simp [g1, binOp, h2, hn]
 ·simp only [execOp, ho, hv, hev];simp [g1, binOp, h2, hn]
def fnA : AV -> Option Bool
 | .p (.prim .nilFunc) => some true
 | .p (.prim (.func _ _ _)) => some false
 | .fn _ _ _ => some false
 | _ => none
theorem aOu {x : AV} {b : Bool} {v : Value} (h : fnA x = some b) (hx : Rep E w (io ks x) v) : (v = .nilFunc /\ b = true) \/ ∃ f u z, v = .func f u z /\ b = false := by
 unfold fnA at h;split at h
 rotate_left 3
 ·cases h
 all_goals simp only [bBk] at h
 ·subst h; simp only [dY, Rep, RepP] at hx; exact .inl ⟨hx.1, rfl⟩
 ·subst h; simp only [dY, Rep, RepP] at hx; exact .inr ⟨_, _, _, hx.1, rfl⟩
 ·subst h;simp only [xL, Rep] at hx;obtain ⟨vs, us, e, _⟩ := hx;exact .inr ⟨_, _, _, e, rfl⟩
theorem aCa {h : Heap} {t ty : TypeId} {a1 a2 a3} {x : Operand} {op : BinOp} {b : Bool} (hop : op = .eql \/ op = .neq) {T2 : List AV} (st : St E w a T2 h D) (hr : ∀ y ∈ o.op.operands, aev T2 y = io ks (aev T y)) (ho : o.op = .binOp op t x (.const .nilFunc) ty) (hu : P.underlying t = some (.func a1 a2 a3)) (hb : fnA (aev T x) = some b) :
  Out P o E w a h (.p (.prim (.bool (if op = .eql then b else !b)))) h := by
 have hxr := aev_rep st x;rw [hr x (by rw [ho]; simp [Op.operands])] at hxr;have hv := aOu hb hxr
 have h1 : ∀ d, (Op.equalIn (d + 1) t .nilFunc .nilFunc).run P w = .ok true w := by
  intro d; simp only [Op.equalIn, Sem.run_bind, run_underlying hu, Result.andThen_ok]; rfl
 have h2 : ∀ d f u v, (Op.equalIn (d + 1) t (.func f u v) .nilFunc).run P w = .ok false w := by
  intro d f u v; simp only [Op.equalIn, Sem.run_bind, run_underlying hu, Result.andThen_ok]; rfl
 have e1 : (Op.equal t .nilFunc .nilFunc).run P w = .ok true w := h1 9999;have e2 : ∀ f u v, (Op.equal t (.func f u v) .nilFunc).run P w = .ok false w := h2 9999
 have g1 : ∀ op, (eqGuard op t x (.const .nilFunc) .nilFunc .nilFunc).run P w = .ok () w := by
  intro op; unfold eqGuard; cases op <;> simp
 have g2 : ∀ op f u v, (eqGuard op t x (.const .nilFunc) (.func f u v) .nilFunc).run P w = .ok () w := by
  intro op f u v; unfold eqGuard; cases op <;> rfl
 refine ⟨E, w, .bool (if op = .eql then b else !b), ?_, st.rel, st.fresh, by simp [Rep, RepP, isPrim], Fr.refl _ _ _⟩;have hev : a.eval (.const .nilFunc) = .nilFunc := rfl;rcases hv with ⟨hv, rfl⟩ | ⟨f, u, z, hv, rfl⟩ <;> rcases hop with rfl | rfl
 ·simp only [execOp, ho, hv, hev];simp [g1, binOp, e1]
 ·simp only [execOp, ho, hv, hev];simp [g1, binOp, e1]
 ·simp only [execOp, ho, hv, hev];simp [g2, binOp, e2]
 ·simp only [execOp, ho, hv, hev];simp [g2, binOp, e2]
theorem aDs {h : Heap} {t e : TypeId} {sz : Nat} (st : St E w a T h D) (ho : o.op = .buildSlice t 0 #[]) (he : elT P t = some e) (hsz : szT P e = some sz) : Out P o E w a h (.sm h.length 0 0 0 sz) (h ++ [some (.cells [])]) := by
 obtain ⟨h1, h2, h3⟩ := st.rel.alloc st.fresh (cs := []) (vs := []) (by simp [RepL]) e;refine ⟨_, _, .slice (some ⟨w.heap.size, 0, none⟩) 0 0, ?_, h1, by simpa using h3, ?_, h2⟩
 ·have hrun : (Instr.buildSlice t 0 #[]).run P w = .ok (.slice (some ⟨w.heap.size, 0, none⟩) 0 0) (w.alloc (.cells (List.toArray []) e (0, 0))) := by
   exact y4j
  simp only [execOp, ho];exact y5o
 ·simp only [Rep];exact ⟨_, by simp, rfl⟩
def jZ (P : Program) (t : TypeId) (len : Nat) (parts : List (Nat × AV)) : Option (Nat × List AV) :=
 match elT P t with
 | some e => match szT P e, bM P e with
  | some sz, some z => if len * sz <= 16777216 /\ 0 < sz /\ 0 < len then (oR ((List.range len).map fun i => (i * sz, sz)) (prims (List.replicate len z).flatten) parts).map fun cs => (sz, cs) else none
  | _, _ => none
 | none => none
theorem aDg (ks : Ks) {t : TypeId} {n : Nat} {parts : List (Nat × AV)} {sz : Nat} {cs : List AV} (h : jZ P t n parts = some (sz, cs)) : jZ P t n (parts.map fun p => (p.1, io ks p.2)) = some (sz, cs.map (io ks)) := by
 unfold jZ at h ⊢
 cases he : elT P t with
 | none => simp [he] at h
 | some e =>
  cases h1 : szT P e with
  | none => simp [he, h1] at h
  | some s =>
   cases h2 : bM P e with
   | none => simp [he, h1, h2] at h
   | some z =>
    simp only [he, h1, h2] at h ⊢;split at h
    ·rename_i hc;rw [if_pos hc];obtain ⟨out, h3, h4⟩ := bBv.1 h;simp only [bBz] at h4;obtain ⟨rfl, rfl⟩ := h4;have := uG ks ((List.range n).map fun i => (i * s, s)) parts (prims (List.replicate n z).flatten);rw [lB, h3] at this;rw [this]; rfl
    ·cases h
theorem aDu {E : Env} {w : World} {t : TypeId} {len : Nat} {parts : List (Nat × AV)} {vals : Array (Nat × Value)} {sz : Nat} {cs : List AV}
  (h1 : parts.map (·.1) = vals.toList.map (·.1)) (h2 : RepL E w (parts.map (·.2)) (vals.toList.map (·.2)))
  (hb : jZ P t len parts = some (sz, cs)) : ∃ e vo, RepL E w cs vo /\
   (Instr.buildSlice t len vals).run P w = .ok (.slice (some ⟨w.heap.size, 0, none⟩) len len) (w.alloc (.cells (List.toArray vo) e (0, 0))) := by
 unfold jZ at hb;split at hb
 ·rename_i e hel;split at hb
  ·rename_i sz' z hsz hz;split at hb
   ·rename_i hcond;obtain ⟨hlim, hpos, hlen⟩ := hcond;obtain ⟨out, ho, h4⟩ := bBv.1 hb;simp only [bBz] at h4;obtain ⟨rfl, rfl⟩ := h4;obtain ⟨zv, hzr, hzc⟩ := iU (w := w) hz;obtain ⟨i, _, hi, _, _, hzl, hprim⟩ := aS hz;have hzs : z.length = sz' := by unfold szT at hsz; rw [hi] at hsz; simp at hsz; omega
    have h30 : RepL E w (prims (List.replicate len z).flatten) (List.replicate len z).flatten := by
     exact y2f
    obtain ⟨vo, e1, e2⟩ := jG (E := E) (w := w) (fun i => some (i * sz', sz')) ((List.range len).map fun i => (i * sz', sz')) (fun i p hp => by
     rw [bDo, bBv] at hp;obtain ⟨a, ha, rfl⟩ := hp;obtain ⟨_, rfl⟩ := bBg.1 ha;simp) parts vals.toList _ _ out h1 h2 h30 ho
    refine ⟨e, vo, e2, ?_⟩
    have hinit : (Array.range (len * sz')).map (fun i => (List.toArray z)[i % (List.toArray z).size]!) = List.toArray (List.replicate len z).flatten := by
     have := cQ (List.toArray z) len;simp only [List.size_toArray, hzs] at this ⊢;exact this
    have hz0 : ¬ len * sz' = 0 := by
     intro h0;rcases Nat.mul_eq_zero.1 h0 with h | h <;> omega
    refine y19 ?_;exact y5q
   ·cases hb
  ·cases hb
 ·cases hb
theorem aDt {h : Heap} {t : TypeId} {n : Nat} {ps : Array (Nat × Operand)} {sz : Nat} {cs : List AV} {T2 : List AV} (st : St E w a T2 h D) (ho : o.op = .buildSlice t n ps) (hb : jZ P t n (ps.toList.map fun p => (p.1, aev T2 p.2)) = some (sz, cs)) : Out P o E w a h (.sm h.length 0 n n sz) (h ++ [some (.cells cs)]) := by
 obtain ⟨p1, p2⟩ := pT st ps;obtain ⟨e, vo, hr, hrun⟩ := aDu p1 p2 hb;obtain ⟨h1, h2, h3⟩ := st.rel.alloc st.fresh hr e;refine ⟨_, _, .slice (some ⟨w.heap.size, 0, none⟩) n n, ?_, h1, by simpa using h3, ?_, h2⟩
 ·simp only [execOp, ho];rw [Sem.run_bind, hrun]
  rfl
 ·simp only [Rep];exact ⟨_, by simp, rfl⟩
def xrd (P : Program) (ρ : Operand -> AV) (op : Op) : Option AV :=
 match op with
 | .binOp op t x (.const (.slice none 0 0)) _ => match P.underlying t with
  | some (.slice _) => match op, aX6 (ρ x) with
   | .eql, some b => some (.p (.prim (.bool b)))
   | .neq, some b => some (.p (.prim (.bool (!b))))
   | _, _ => none
  | _ => none
 | .binOp op t x (.const .nilFunc) _ => match P.underlying t with
  | some (.func _ _ _) => match op, fnA (ρ x) with
   | .eql, some b => some (.p (.prim (.bool b)))
   | .neq, some b => some (.p (.prim (.bool (!b))))
   | _, _ => none
  | _ => none
 | .slice t x lo hi none => match elT P t with
  | some e => match szT P e with
   | some sz => match ρ x with
    | .sm _id _off len code s => match loA (lo.map ρ), hiA len (hi.map ρ) with
     | some l, some u => if s = sz /\ 0 < l /\ l = u /\ u.toNat <= room code then some (.p (.sl sz [])) else none
     | _, _ => none
    | _ => none
   | none => none
  | none => none
 | .typeAssert x _ t true => match P.underlying t with
  | some (.struct _) => match ρ x with
   | .ifc t' y => if t' = t then some (.tup [y, .p (.prim (.bool true))]) else none
   | _ => none
  | _ => none
 | _ => none
theorem aFw {h : Heap} {t e : TypeId} {sz id off len code s : Nat} {x : Operand} {lo hi : Option Operand} {l u : Int} {T2 : List AV} (st : St E w a T2 h D) (hr : ∀ y ∈ o.op.operands, aev T2 y = io ks (aev T y)) (ho : o.op = .slice t x lo hi none) (hel : elT P t = some e) (hsz : szT P e = some sz)
  (hx : aev T x = .sm id off len code s) (hl : loA (lo.map (aev T)) = some l) (hu : hiA len (hi.map (aev T)) = some u) (hc : s = sz /\ 0 < l /\ l = u /\ u.toNat <= room code) : Out P o E w a h (.p (.sl sz [])) h := by
 obtain ⟨rfl, h0, rfl, h3⟩ := hc;have hxr := aev_rep st x;rw [hr x (by rw [ho]; simp [Op.operands]), hx, io_sm] at hxr;have hroom := vL ks code
 have key : ∀ (q : Option Operand), (∀ y, q = some y -> y ∈ o.op.operands) -> ∀ z, (q.map fun y => io ks (aev T y)) = some z -> ∃ y, q.map a.eval = some y /\ Rep E w z y := by
  intro q hq z hz
  cases q with
  | none => cases hz
  | some y =>
   simp only [bCm, bBk] at hz;subst hz;exact ⟨_, rfl, by rw [<- hr y (hq y rfl)]; exact aev_rep st y⟩
 have eq1 : ∀ q : Option Operand, (q.map fun y => io ks (aev T y)) = (q.map (aev T)).map (io ks) := fun q => by cases q <;> rfl
 obtain ⟨r, hrun, hrep⟩ := aCv (P := P) (lo := lo.map fun y => io ks (aev T y)) (hi := hi.map fun y => io ks (aev T y)) (mx := none) (vlo := lo.map a.eval) (vhi := hi.map a.eval) (vmx := none) (m := (nQ ks code : Nat)) hel hsz hxr
  (key lo fun y hy => by rw [ho, hy]; simp [Op.operands]) (fun e => by cases lo <;> simp at e ⊢) (key hi fun y hy => by rw [ho, hy]; simp [Op.operands]) (fun e => by cases hi <;> simp at e ⊢) (fun _ e => by cases e) (fun _ => rfl)
  (by rw [eq1, aMd]; exact hl) (by rw [eq1, aM6]; exact hu) rfl aB aB aB aB rfl
 refine ⟨E, w, r, ?_, st.rel, st.fresh, ?_, Fr.refl _ _ _⟩
 ·simp only [execOp, ho];simp only [Option.map_none];rw [Sem.run_bind, hrun]
  rfl
 ·simp only [Rep] at hrep;obtain ⟨b, _, rfl⟩ := hrep;simp only [Rep, RepP];refine ⟨_, _, by rw [Nat.sub_self]; rfl, Nat.zero_le _, .inl trivial⟩
theorem aIo {h : Heap} {x : AV} {T2 : List AV} (hr : ∀ y ∈ o.op.operands, aev T2 y = io ks (aev T y)) (st : St E w a T2 h D) (h0 : xrd P (aev T) o.op = some x) : Out P o E w a h (io ks x) h := by
 unfold xrd at h0;split at h0
 ·rename_i op t x' ty ho;split at h0
  ·rename_i e hu;split at h0
   ·rename_i b hb;simp only [bBk] at h0;subst h0;rw [dY]; exact aH4 (.inl rfl) st hr ho hu hb
   ·rename_i b hb;simp only [bBk] at h0;subst h0;rw [dY]; exact aH4 (.inr rfl) st hr ho hu hb
   ·cases h0
  ·cases h0
 ·rename_i op t x' ty ho;split at h0
  ·rename_i a1 a2 a3 hu;split at h0
   ·rename_i b hb;simp only [bBk] at h0;subst h0;rw [dY]; exact aCa (.inl rfl) st hr ho hu hb
   ·rename_i b hb;simp only [bBk] at h0;subst h0;rw [dY]; exact aCa (.inr rfl) st hr ho hu hb
   ·cases h0
  ·cases h0
 ·rename_i t x' lo hi ho;split at h0
  ·rename_i e hel;split at h0
   ·rename_i sz hsz;split at h0
    ·rename_i id off len code s hx;split at h0
     ·rename_i l u hl hu;split at h0
      ·rename_i hc;simp only [bBk] at h0;subst h0;rw [dY]; exact aFw st hr ho hel hsz hx hl hu hc
      ·cases h0
     ·cases h0
    ·cases h0
   ·cases h0
  ·cases h0
 ·rename_i x' xT t ho;split at h0
  ·rename_i fs hu;split at h0
   ·rename_i t' y hx;split at h0
    ·rename_i ht;subst ht;simp only [bBk] at h0;subst h0;have hrep := aev_rep st x';rw [hr x' (by rw [ho]; simp [Op.operands]), hx, sO] at hrep;simp only [Rep] at hrep;obtain ⟨u, e, hu'⟩ := hrep;refine ⟨E, w, .tuple #[u, .bool true], ?_, st.rel, st.fresh, ?_, Fr.refl _ _ _⟩
     ·simp [execOp, ho, e, Instr.typeAssert, run_underlying hu]
     ·simp only [io_tup, bBx, bCv, dY, Rep, RepL, RepP];exact ⟨[u, .bool true], rfl, u, [.bool true], rfl, hu', .bool true, [], rfl, ⟨rfl, rfl⟩, rfl⟩
    ·cases h0
   ·cases h0
  ·cases h0
 ·cases h0
def xsp (P : Program) (rows : TypeId -> Bool) (ρ : Operand -> AV) (H : HX) (j : Nat) (op : Op) : Option (AV × HX × Nat) :=
 match op with
 | .call ⟨.builtin .append, ⟨[s, x]⟩, ⟨[t, t']⟩⟩ => if t = t' then (match aY6 P (rows t) t (ρ s) (ρ x) H j with
   | some (y, H', j') => if (Nat.beq j' j || H.all (aAl j)) = true then some (y, H', j') else none
   | none => none) else none
 | .buildSlice t 0 ⟨[]⟩ => match elT P t with
  | some e => match szT P e with
   | some sz => some (.sm H.length 0 0 0 sz, H ++ [.cells []], j)
   | none => none
  | none => none
 | .buildSlice t n ps => if rows (Nat.add t 1000000) = true then (match jZ P t n (ps.toList.map fun p => (p.1, ρ p.2)) with
   | some (sz, cs) => some (.sm H.length 0 n (2 * n) sz, H ++ [.cells cs], j)
   | none => none) else none
 | .makeMap _ none => some (.mp H.length, H ++ [.map []], j)
 | .lookup t m ix ok => (aPo P t (ρ m) (ρ ix) ok H).map fun x => (x, H, j)
 | op => (xrd P ρ op).map fun x => (x, H, j)
theorem aIr {rows : TypeId -> Bool} {x : AV} {H' : HX} {j j' : Nat} {T2 : List AV} (hr : ∀ y ∈ o.op.operands, aev T2 y = io ks (aev T y)) (st : St E w a T2 (iH ks H) D) (h : xsp P rows (aev T) H j o.op = some (x, H', j')) : OutX P o E w a ks H j x H' j' := by
 unfold xsp at h;split at h
 ·rename_i s x' t t' ho;split at h
  ·rename_i ht;subst ht;split at h
   ·rename_i y G i e;split at h
    ·rename_i hc;simp only [bBk, bBz] at h;obtain ⟨rfl, rfl, rfl⟩ := h;simp only [bCy] at hc;exact aLn st ho hr (hc.imp Nat.eq_of_beq_eq_true id) e
    ·cases h
   ·cases h
  ·cases h
 ·rename_i t ho;split at h
  ·rename_i e he;split at h
   ·rename_i sz hsz;simp only [bBk, bBz] at h;obtain ⟨rfl, rfl, rfl⟩ := h;refine ⟨ks, Agree.refl _ _, fun _ => rfl, bBh _, ?_⟩;have := aDs st ho he hsz;rw [bD] at this;rw [dX, io_sm];exact this
   ·cases h
  ·cases h
 ·rename_i t n ps _ ho;split at h
  ·split at h
   ·rename_i sz cs hb;simp only [bBk, bBz] at h;obtain ⟨rfl, rfl, rfl⟩ := h;refine ⟨ks, Agree.refl _ _, fun _ => rfl, bBh _, ?_⟩;have hb2 := aDg ks hb;rw [bEb] at hb2
    have e2 : (ps.toList.map fun p => (p.1, aev T2 p.2)) = ps.toList.map ((fun p : Nat × AV => (p.1, io ks p.2)) ∘ fun p => (p.1, aev T p.2)) := by
     refine List.map_congr_left fun p hp => ?_
     simp only [Function.comp];rw [hr p.2 (by rw [ho]; simp [Op.operands]; exact ⟨p.1, by simpa using hp⟩)]
    have := aDt (h := iH ks H) st ho (by rw [e2]; exact hb2);rw [bD] at this;rw [dX, io_sm];have e3 : iH ks [.cells cs] = [some (.cells (cs.map (io ks)))] := by simp [iH, iO]
    have e4 : nQ ks (2 * n) = n := by unfold nQ; rw [if_pos aB]; omega
    rw [e3, e4];exact this
   ·cases h
  ·cases h
 ·rename_i t ho;simp only [bBk, bBz] at h;obtain ⟨rfl, rfl, rfl⟩ := h;refine ⟨ks, Agree.refl _ _, fun _ => rfl, bBh _, ?_⟩;have := aP7 (P := P) st ho;rw [bD] at this;rw [dX, aUr];exact this
 ·rename_i t m ix ok ho;obtain ⟨y, h1, h2⟩ := bBv.1 h;simp only [bBz] at h2;obtain ⟨rfl, rfl, rfl⟩ := h2;exact ⟨ks, Agree.refl _ _, fun _ => rfl, bBh _, aKb hr st ho h1⟩
 ·obtain ⟨y, h1, h2⟩ := bBv.1 h;simp only [bBz] at h2;obtain ⟨rfl, rfl, rfl⟩ := h2;exact ⟨ks, Agree.refl _ _, fun _ => rfl, bBh _, aIo hr st h1⟩

end


open Go Go.AI
def ioD (ks : Ks) (d : AD) : AD := (d.1, d.2.1.map (io ks), d.2.2.map (io ks))
def ioR (ks : Ks) : AOut -> AOut
 | .ret v => .ret (io ks v)
 | .panic v => .panic (io ks v)
abbrev aX := FuncId -> List AV -> HX -> Nat -> Option (AOut × HX × Nat)
abbrev cA := Nat -> List AV -> HX -> Nat -> Option (AOut × HX × Nat)
def nN (ks : Ks) (j : Nat) (out : AOut) (H' : HX) (j' : Nat) : AOut -> Heap -> Prop :=
 fun o g => ∃ ks', Agree j ks ks' /\ (j' = j -> ks' = ks) /\ o = ioR ks' out /\ g = iH ks' H'
abbrev Kn := Nat -> Ks -> Prop
def Kn.Closed (G : Kn) : Prop := ∀ j j' ks ks', G j ks -> Agree j ks ks' -> j <= j' -> G j' ks'
def eL (P : Program) (G : Kn) (cf : aX) : Prop := ∀ f args H j out H' j', cf f args H j = some (out, H', j') -> aL P f = true /\ j <= j' /\ ∀ ks, G j ks -> ACalls P f (args.map (io ks)) (iH ks H) (nN ks j out H' j')
def hY (P : Program) (G : Kn) (yf : cA) : Prop := ∀ i args H j out H' j', yf i args H j = some (out, H', j') -> j <= j' /\ ∀ ks, G j ks -> AYield P (ks i).1 (args.map (io ks)) (iH ks H) (nN ks j out H' j')

inductive OR where
 | norm (T : List AV) (H : HX) (j : Nat) (D : List AD)
 | pan (v : AV) (T : List AV) (H : HX) (j : Nat) (D : List AD)
def aOy (j : Nat) : List AD -> Bool
 | [] => true
 | d :: D => pM j d.2.1 && pM j d.2.2 && aOy j D
theorem jH {j : Nat} {ks ks' : Ks} (ha : Agree j ks ks') : ∀ {D : List AD}, aOy j D = true -> D.map (ioD ks') = D.map (ioD ks)
 | [], _ => rfl
 | d :: D, h => by
  simp only [aOy, bBs] at h;simp only [bBx, jH ha h.2]
  congr 1
  simp only [ioD, bU ha h.1.1, bU ha h.1.2]
def jR (j j' : Nat) (T : List AV) (D : List AD) : Bool := Nat.beq j' j || (pM j T && aOy j D)
def aUn (P : Program) (rows : TypeId -> Bool) (cf : aX) (yf : cA) (rnd : Bool) (o : Oper) (T : List AV) (H : HX) (j : Nat) (D : List AD) : Option OR :=
 match o.op with
 | .call ⟨.value f, args, types⟩ => match aN T ⟨.value f, args, types⟩ with
  | some (f, args) => match cf f args H j with
   | some (.ret v, H', j') => if jR j j' T D = true then some (.norm (tput T o.dst v) H' j' D) else none
   | some (.panic v, H', j') => if jR j j' T D = true then some (.pan v T H' j' D) else none
   | none => none
  | none => match dS T ⟨.value f, args, types⟩ with
   | some (i, args) => match yf i args H j with
    | some (.ret v, H', j') => if jR j j' T D = true then some (.norm (tput T o.dst v) H' j' D) else none
    | _ => none
   | none => none
 | .panic x => match aev T x with
  | .p (.ifc t y) => some (.pan (.p (.ifc t y)) T H j D)
  | .ifc t y => some (.pan (.ifc t y) T H j D)
  | _ => none
 | .defer ⟨.value f, args, _⟩ => if rnd = true then none else match aev T f with
  | .fn (.func i) first cap => some (.norm (tput T o.dst (.tup [])) H j ((.func i, cap, first ++ args.toList.map (aev T)) :: D))
  | _ => none
 | .mapUpdate t m ix x => match aY7 P t (aev T m) (aev T ix) (aev T x) H with
  | some H' => some (.norm (tput T o.dst (.tup [])) H' j D)
  | none => match aLs P t (aev T m) (aev T ix) (aev T x) H with
   | some H' => some (.norm (tput T o.dst (.tup [])) H' j D)
   | none => none
 | op => match xsp P rows (aev T) H j op with
  | some (x, H', j') => if jR j j' T D = true then some (.norm (tput T o.dst x) H' j' D) else none
  | none => match rA P (aev T) H op with
   | some (x, H') => some (.norm (tput T o.dst x) H' j D)
   | none => none
def pC (P : Program) (rows : TypeId -> Bool) (cf : aX) (yf : cA) (rnd : Bool) (all : Array Oper) : List Oper -> List AV -> HX -> Nat -> List AD -> Option OR
 | [], T, H, j, D => some (.norm T H j D)
 | o :: l, T, H, j, D => match awanted all T o with
  | none => none
  | some false => pC P rows cf yf rnd all l (tput T o.dst (.tup [])) H j D
  | some true => match aUn P rows cf yf rnd o T H j D with
   | some (.norm T' H' j' D') => pC P rows cf yf rnd all l T' H' j' D'
   | some (.pan v T' H' j' D') => some (.pan v T' H' j' D')
   | none => none

section

variable {P : Program} {ks : Ks}
theorem cD (all : Array Oper) (T : List AV) (o : Oper) {b : Bool} (h : awanted all T o = some b) : awanted all (T.map (io ks)) o = some b := by
 unfold awanted at h ⊢;split
 ·rename_i hg; rw [hg] at h; exact h
 ·rename_i jj want hg;rw [hg] at h;simp only at h;split
  ·rename_i d hd;rw [hd] at h;simp only at h;rw [qO];split at h
   ·rename_i b' hT; rw [hT, dY]; exact h
   ·rename_i hT; rw [hT]; simp only [io_tup, bCv]; exact h
   ·cases h
  ·rename_i hd;rw [hd] at h;exact h
theorem fS {T : List AV} {c : Call} {f : FuncId} {args : List AV} (h : aN T c = some (f, args)) : aN (T.map (io ks)) c = some (f, args.map (io ks)) := by
 have hm : c.args.toList.map (aev (T.map (io ks))) = (c.args.toList.map (aev T)).map (io ks) := by
  exact y5d
 unfold aN at h ⊢;split at h
 ·rename_i fo hcal;simp only [aev_io, hm];split at h
  ·rename_i i x y hev;simp only [bBk, bBz] at h;obtain ⟨rfl, rfl⟩ := h;rw [hev, dY]
  ·rename_i i first cap hev;simp only [bBk, bBz] at h;obtain ⟨rfl, rfl⟩ := h;rw [hev, xL];simp only [iof, bCi]
  ·cases h
 ·cases h
theorem zQ {T : List AV} {c : Call} {i : Nat} {args : List AV} (h : dS T c = some (i, args)) : dS (T.map (io ks)) c = some ((ks i).1, args.map (io ks)) := by
 have hm : c.args.toList.map (aev (T.map (io ks))) = (c.args.toList.map (aev T)).map (io ks) := by
  exact y5d
 unfold dS at h ⊢;split at h
 ·rename_i fo hcal;simp only [aev_io, hm];split at h
  ·rename_i l hev;simp only [bBk, bBz] at h;obtain ⟨rfl, rfl⟩ := h;rw [hev, xL];simp only [iof, bCv]
  ·cases h
 ·cases h
def Next (P : Program) (rd : Option Nat) (nb : Nat) (k : List It) (Q : AX -> List AV -> Heap -> List AD -> Prop) (ks : Ks) (j : Nat) : OR -> Prop
 | .norm T H j' D => ∀ ks', Agree j ks ks' -> (j' = j -> ks' = ks) -> Run P rd nb k (T.map (io ks')) (iH ks' H) (D.map (ioD ks')) Q
 | .pan v T H j' D => ∀ ks', Agree j ks ks' -> (j' = j -> ks' = ks) -> Q (.panic (io ks' v)) (T.map (io ks')) (iH ks' H) (D.map (ioD ks'))
def OR.j : OR -> Nat
 | .norm _ _ j _ => j
 | .pan _ _ _ j _ => j
theorem aMn {rows : TypeId -> Bool} {ρ : Operand -> AV} {H H' : HX} {j j' : Nat} {op : Op} {x : AV} (hx : xsp P rows ρ H j op = some (x, H', j')) : j <= j' := by
 unfold xsp at hx;split at hx
 ·split at hx
  ·split at hx
   ·rename_i e;split at hx
    ·simp only [bBk, bBz] at hx;obtain ⟨_, _, rfl⟩ := hx;unfold aY6 at e
     repeat' (split at e)
     all_goals first
      | (cases e; done)
      | (simp only [bBk, bBz] at e; omega)
    ·cases hx
   ·cases hx
  ·cases hx
 ·exact y5m
 ·exact y5m
 ·simp only [bBk, bBz] at hx; omega
 ·exact y6d
 ·exact y6d
theorem keepOk_T {j j' : Nat} {T : List AV} {D : List AD} {ks' : Ks} (h : jR j j' T D = true) (ha : Agree j ks ks') (he : j' = j -> ks' = ks) : T.map (io ks') = T.map (io ks) /\ D.map (ioD ks') = D.map (ioD ks) := by
 unfold jR at h;simp only [bCy, bBs] at h;rcases h with h | h
 ·rw [he (Nat.eq_of_beq_eq_true h)]; exact ⟨rfl, rfl⟩
 ·exact ⟨bU ha h.1, jH ha h.2⟩

variable {rows : TypeId -> Bool} {G : Kn} {cf : aX} {yf : cA} {rd : Option Nat} {nb : Nat} {k : List It} {Q : AX -> List AV -> Heap -> List AD -> Prop}
theorem sC (hcf : eL P G cf) (hyf : hY P G yf) {all : Array Oper} {o : Oper} {rest : List Oper} {T : List AV} {H : HX} {j : Nat} {D : List AD} {rnd : Bool} (hrd : rnd = false -> rd = none) {r : OR} (hw : awanted all T o = some true)
  (h : aUn P rows cf yf rnd o T H j D = some r) : j <= r.j /\ ∀ ks, G j ks -> Next P rd nb (.ops all rest :: k) Q ks j r -> Run P rd nb (.ops all (o :: rest) :: k) (T.map (io ks)) (iH ks H) (D.map (ioD ks)) Q := by
 have hw' : ∀ ks, awanted all (T.map (io ks)) o = some true := fun ks => cD all T o hw
 unfold aUn at h;split at h
 ·-- calls
  rename_i f args types ho;split at h
  ·rename_i f' args' hc;split at h
   ·rename_i v H' j' hcall;split at h
    ·rename_i hk;simp only [bBk] at h;subst h;obtain ⟨c1, c2, c3⟩ := hcf _ _ _ _ _ _ _ hcall;refine ⟨c2, fun ks hG hn => Run.call ho (hw' ks) (fS hc) c1 (c3 ks hG) ?_ ?_⟩
     ·rintro v' h' ⟨ks', a1, a2, a3, rfl⟩;simp only [ioR, AOut.ret.injEq] at a3;subst a3;exact y46
     ·rintro v' h' ⟨ks', a1, a2, a3, rfl⟩;cases a3
    ·cases h
   ·rename_i v H' j' hcall;split at h
    ·rename_i hk;simp only [bBk] at h;subst h;obtain ⟨c1, c2, c3⟩ := hcf _ _ _ _ _ _ _ hcall;refine ⟨c2, fun ks hG hn => Run.call ho (hw' ks) (fS hc) c1 (c3 ks hG) ?_ ?_⟩
     ·rintro v' h' ⟨ks', a1, a2, a3, rfl⟩;cases a3
     ·rintro v' h' ⟨ks', a1, a2, a3, rfl⟩;simp only [ioR, AOut.panic.injEq] at a3;subst a3;have e := keepOk_T hk a1 a2;have := hn ks' a1 a2;rw [e.1, e.2] at this;exact this
    ·cases h
   ·cases h
  ·split at h
   ·rename_i i args' hc;split at h
    ·rename_i v H' j' hcall;split at h
     ·rename_i hk;simp only [bBk] at h;subst h;obtain ⟨c2, c3⟩ := hyf _ _ _ _ _ _ _ hcall;refine ⟨c2, fun ks hG hn => Run.yield ho (hw' ks) (zQ hc) (c3 ks hG) ?_ ?_⟩
      ·rintro v' h' ⟨ks', a1, a2, a3, rfl⟩;simp only [ioR, AOut.ret.injEq] at a3;subst a3;exact y46
      ·rintro v' h' ⟨ks', a1, a2, a3, rfl⟩;cases a3
     ·cases h
    ·cases h
   ·cases h
 ·-- panic
  rename_i x ho;split at h
  ·rename_i t y hx;simp only [bBk] at h;subst h;refine ⟨bBh _, fun ks _ hn => Run.panic ho (hw' ks) (by rw [aev_io, hx, dY]) ?_⟩;have := hn ks (Agree.refl _ _) (fun _ => rfl);rw [dY] at this;exact this
  ·rename_i t y hx;simp only [bBk] at h;subst h;refine ⟨bBh _, fun ks _ hn => Run.panicA ho (hw' ks) (by rw [aev_io, hx, sO]) ?_⟩;have := hn ks (Agree.refl _ _) (fun _ => rfl);rw [sO] at this;exact this
  ·cases h
 ·-- defer
  rename_i f args types ho;split at h
  ·cases h
  ·rename_i hr;have hrd' : rd = none := hrd (by simpa using hr);subst hrd';split at h
   ·rename_i i first cap hx;simp only [bBk] at h;subst h;refine ⟨bBh _, fun ks _ hn => Run.defer (i := i) (first := first.map (io ks)) (cap := cap.map (io ks)) ho (hw' ks) rfl (by rw [aev_io, hx, xL]; rfl) ?_⟩;have := hn ks (Agree.refl _ _) (fun _ => rfl);rw [<- tput_io, io_tup, bCv] at this
    have hm : args.toList.map (aev (T.map (io ks))) = (args.toList.map (aev T)).map (io ks) := by
     exact y5d
    simp only [bBx, ioD, bCi] at this;rw [hm];exact this
   ·cases h
 ·-- a map is given a key
  rename_i t m ix x ho;split at h
  ·rename_i H' hx;simp only [bBk] at h;subst h;refine ⟨bBh _, fun ks _ hn => aLu ho (hw' ks) hx ?_⟩;exact y5v
  ·split at h
   ·rename_i H' hx;simp only [bBk] at h;subst h;refine ⟨bBh _, fun ks _ hn => Run.op (x := .tup []) (h' := iH ks H') (hw' ks) ?_ ?_⟩
    ·rw [ho];simp only [aop, aev_io, aLt hx, bCm]
    ·exact y5v
   ·cases h
 ·-- the others
  rename_i n1 n2 n3 n4;split at h
  ·rename_i x H' j' hx;split at h
   ·rename_i hk;simp only [bBk] at h;subst h;have hj : j <= j' := aMn hx;refine ⟨hj, fun ks _ hn => Run.opR (R := fun y g => ∃ ks', Agree j ks ks' /\ (j' = j -> ks' = ks) /\ y = io ks' x /\ g = iH ks' H') (hw' ks) (fun c hc => ?_) (fun E w a st => ?_) ?_⟩
    ·unfold xsp at hx;rw [hc] at hx;simp [xrd] at hx
    ·obtain ⟨ks', a1, a2, _, E', w', v, b1, b2, b3, b4, b5⟩ := aIr (fun y _ => aev_io ks T y) st hx;exact ⟨_, _, E', w', v, ⟨ks', a1, a2, rfl, rfl⟩, b1, b2, b3, b4, b5⟩
    ·rintro y g ⟨ks', a1, a2, rfl, rfl⟩;exact y46
   ·cases h
  ·split at h
   ·rename_i x H' hx;simp only [bBk] at h;subst h;refine ⟨bBh _, fun ks _ hn => Run.op (hw' ks) (iZ (fun y => aev_io ks T y) hx) ?_⟩;rw [tput_io];exact hn ks (Agree.refl _ _) (fun _ => rfl)
   ·cases h
theorem dM (hGc : G.Closed) (hcf : eL P G cf) (hyf : hY P G yf) {all : Array Oper} {rnd : Bool} (hrd : rnd = false -> rd = none) : ∀ (l : List Oper) (T : List AV) (H : HX) (j : Nat) (D : List AD) (r : OR), pC P rows cf yf rnd all l T H j D = some r ->
  j <= r.j /\ ∀ ks, G j ks -> Next P rd nb k Q ks j r -> Run P rd nb (.ops all l :: k) (T.map (io ks)) (iH ks H) (D.map (ioD ks)) Q
 | [], T, H, j, D, r, h => by
  simp only [pC, bBk] at h;subst h;exact ⟨bBh _, fun ks _ hn => Run.opsNil (hn ks (Agree.refl _ _) fun _ => rfl)⟩
 | o :: l, T, H, j, D, r, h => by
  simp only [pC] at h;split at h
  ·cases h
  ·rename_i hw;obtain ⟨h1, h2⟩ := dM hGc hcf hyf hrd l _ _ _ _ r h;refine ⟨h1, fun ks hG hn => Run.off (cD all T o hw) ?_⟩;have := h2 ks hG hn;rw [<- tput_io, io_tup, bCv] at this;exact this
  ·rename_i hw;split at h
   ·rename_i T' H' j' D' ho;obtain ⟨h1, h2⟩ := dM hGc hcf hyf hrd l _ _ _ _ r h;obtain ⟨h3, h4⟩ := sC (rows := rows) (rd := rd) (nb := nb) (k := k) (Q := Q) (rest := l) hcf hyf hrd hw ho;simp only [OR.j] at h3;refine ⟨bDc h3 h1, fun ks hG hn => h4 ks hG fun ks' a1 a2 => h2 ks' (hGc _ _ _ _ hG a1 h3) ?_⟩
    cases r with
    | norm T2 H2 j2 D2 =>
     simp only [OR.j] at h1
     exact fun ks2 b1 b2 => hn ks2 (a1.trans h3 b1) fun e => by
      have e1 : j' = j := aB;rw [<- a2 e1]; exact b2 aB
    | pan v T2 H2 j2 D2 =>
     simp only [OR.j] at h1
     exact fun ks2 b1 b2 => hn ks2 (a1.trans h3 b1) fun e => by
      have e1 : j' = j := aB;rw [<- a2 e1]; exact b2 aB
   ·rename_i v T' H' j' D' ho;simp only [bBk] at h;subst h;obtain ⟨h3, h4⟩ := sC (rows := rows) (rd := rd) (nb := nb) (k := k) (Q := Q) (rest := l) hcf hyf hrd hw ho;exact ⟨h3, fun ks hG hn => h4 ks hG hn⟩
   ·cases h

end

end Go.AI.EV
