/-
  More of slices: held against nil, made without elements; a row's elements read and written.
-/
import Derived.Test.YtcfcolkbeelegaaGreatLFD

namespace Go.AI

open Go
def buf (sz : Nat) (es : List (List PV)) (m : Nat) : List AV := es.flatten.map .p ++ List.replicate (m * sz) .junk
theorem RepL.junks {E w} : ∀ (l : List Value), RepL E w (List.replicate l.length .junk) l
  | [] => by simp [RepL]
  | v :: l => by simp only [List.length_cons, List.replicate_succ, RepL]; exact ⟨v, l, rfl, by simp only [Rep], RepL.junks l⟩
theorem buf_len {sz : Nat} {es : List (List PV)} {m : Nat} (h : ∀ e ∈ es, e.length = sz) : (buf sz es m).length = (es.length + m) * sz := by
  unfold buf
  rw [List.length_append, List.length_map, flat_length h, List.length_replicate, Nat.add_mul]
theorem buf_under (n sz : Nat) (es : List (List PV)) (m : Nat) : AV.underL n (buf sz es m) = true := by
  have hj : ∀ k, AV.underL n (List.replicate k .junk) = true := by
    intro k
    induction k with
    | zero => simp [AV.underL]
    | succ k ih => simp only [List.replicate_succ, AV.underL, AV.under, ih]; rfl
  have ha : ∀ (xs ys : List AV), AV.underL n xs = true → AV.underL n ys = true → AV.underL n (xs ++ ys) = true := by
    intro xs ys h1 h2
    induction xs with
    | nil => exact h2
    | cons x xs ih => simp only [AV.underL, Bool.and_eq_true, List.cons_append] at h1 ⊢; exact ⟨h1.1, ih h1.2⟩
  refine ha _ _ ?_ (hj _)
  generalize es.flatten = l
  induction l with
  | nil => simp [AV.underL]
  | cons x l ih => simp only [List.map_cons, AV.underL, AV.under, ih]; rfl

section

variable {P : Program} {rd : Option Nat} {nb : Nat} {k : List It} {T : List AV} {h : Heap} {D : List AD} {Q : AX → List AV → Heap → List AD → Prop} {all : Array Oper} {o : Oper} {rest : List Oper}
theorem runOps_pre (b : List Oper) : ∀ (l : List Oper) (T : List AV) (h : Heap), runOps P all (fun l T h => Run P rd nb (.ops all (l ++ b) :: k) T h D Q) l T h → Run P rd nb (.ops all (l ++ b) :: k) T h D Q
  | [], T, h, r => r
  | o :: l, T, h, r => by
    simp only [runOps] at r
    split at r
    · rename_i hw
      split at r
      · rename_i x h' ho
        exact Run.op hw ho (runOps_pre b l _ _ r)
      · exact r
    · rename_i hw
      exact Run.off hw (runOps_pre b l _ _ r)
    · exact r
theorem Run.opsPre (n : Nat) {l : List Oper} (r : ∀ K : List Oper → List AV → Heap → Prop, (∀ l' T h, Run P rd nb (.ops all (l' ++ l.drop n) :: k) T h D Q → K l' T h) → runOps P all K (l.take n) T h) : Run P rd nb (.ops all l :: k) T h D Q := by
  have := runOps_pre (P := P) (rd := rd) (nb := nb) (all := all) (k := k) (D := D) (Q := Q) (l.drop n) (l.take n) T h (r _ fun _ _ _ h => h)
  rwa [List.take_append_drop] at this
theorem Run.opR {R : AV → Heap → Prop} (hw : awanted all T o = some true) (hnd : ∀ c, o.op ≠ .defer c)
    (ho : ∀ E w a, St E w a T h D → ∃ x h' E' w' v, R x h' ∧ (execOp a.eval o).run P w = .ok (.value v) w' ∧ Rel E' (Heap.at h') w' ∧ Fresh E' h'.length ∧ Rep E' w' x v ∧ Fr E (Heap.at h) w E' (Heap.at h') w')
    (r : ∀ x h', R x h' → Run P rd nb (.ops all rest :: k) (tput T o.dst x) h' D Q) : Run P rd nb (.ops all (o :: rest) :: k) T h D Q := by
  intro E w a s
  obtain ⟨x, h', E', w', v, hR, hrun, hr, hf, hx, hfr⟩ := ho E w a s
  have s' : St E' w' (a.put o.dst v) (tput T o.dst x) h' D := (s.move hfr hr hf).put hx o.dst
  have := r x h' hR E' w' _ s'
  have hk := K_mono (P := P) (rd := rd) (Post.of_fr (Q := Q) hfr) (.ops all rest :: k) _ _ _ this
  show wpListIn (fen rd) 0 P all (K P rd (Post nb Q E h w) k) (o :: rest) a w
  simp only [wpListIn]
  rw [awanted_sound s hw]
  simp only [if_true]
  refine ⟨fun _ _ => trivial, ?_⟩
  rw [Oper.semAt_eq _ _ _ hnd, hrun]
  exact hk
theorem exec_append {a : Act} {s x : Operand} {t : TypeId} {v : Value} {w w' : World} (ho : o.op = .call ⟨.builtin .append, #[s, x], #[t, t]⟩) (hrun : (Builtin.append_ #[t, t] o.type #[a.eval s, a.eval x]).run P w = .ok v w') :
    (execOp a.eval o).run P w = .ok (.value v) w' := by
  simp only [execOp, ho, resolve, Sem.run_bind, Sem.run_pure, Result.andThen_ok, invoke]
  simp [builtin, hrun]

end

end Go.AI

namespace Go.AI

open Go

section

variable {P : Program} {rd : Option Nat} {nb : Nat} {k : List It} {T : List AV} {h : Heap} {D : List AD} {Q : AX → List AV → Heap → List AD → Prop} {all : Array Oper} {o : Oper} {rest : List Oper}
theorem Run.nilEq {x : Operand} {t e ty : TypeId} {sz : Nat} {es : List (List PV)} (ho : o.op = .binOp .eql t x (.const (.slice none 0 0)) ty) (hu : P.underlying t = some (.slice e)) (hw : awanted all T o = some true) (hx : aev T x = .p (.sl sz es))
    (r : ∀ b, (b = true → es = []) → Run P rd nb (.ops all rest :: k) (tput T o.dst (.p (.prim (.bool b)))) h D Q) : Run P rd nb (.ops all (o :: rest) :: k) T h D Q := by
  refine Run.opR (R := fun y h' => h' = h ∧ ∃ b, y = .p (.prim (.bool b)) ∧ (b = true → es = [])) hw (fun c hc => by rw [hc] at ho; cases ho) ?_ (by rintro y h' ⟨rfl, b, rfl, hb⟩; exact r b hb)
  intro E w a st
  have hxr := aev_rep st x
  rw [hx] at hxr
  simp only [Rep, RepP] at hxr
  obtain ⟨ad, cap, hv, _, hes⟩ := hxr
  have h1 : ∀ d (s : Option Addr) n c, (Op.equalIn (d + 1) t (.slice s n c) (.slice none 0 0)).run P w = .ok s.isNone w := by
    intro d s n c
    cases s with
    | none => simp only [Op.equalIn, Sem.run_bind, run_underlying hu, Result.andThen_ok]; rfl
    | some s => simp only [Op.equalIn, Sem.run_bind, run_underlying hu, Result.andThen_ok]; rfl
  have h2 : ∀ (s : Option Addr) n c, (Op.equal t (.slice s n c) (.slice none 0 0)).run P w = .ok s.isNone w := h1 9999
  have e1 : ∀ (s : Option Addr) n c, (do eqGuard .eql t x (.const (.slice none 0 0)) (.slice s n c) (.slice none 0 0); binOp .eql t (.slice s n c) (.slice none 0 0) : Sem Value).run P w = .ok (.bool s.isNone) w := by
    intro s n c
    have g1 : (eqGuard .eql t x (.const (.slice none 0 0)) (.slice s n c) (.slice none 0 0)).run P w = .ok () w := by
      unfold eqGuard; rfl
    simp [g1, binOp, h2]
  refine ⟨_, h, E, w, .bool ad.isNone, ⟨rfl, ad.isNone, rfl, fun hn => ?_⟩, ?_, st.rel, st.fresh, by simp [Rep, RepP, isPrim], Fr.refl _ _ _⟩
  · rcases hes with h0 | ⟨b, off, rfl, _⟩
    · exact h0
    · simp at hn
  · simp only [execOp, ho, hv]
    rw [Sem.run_bind, show a.eval (.const (.slice none 0 0)) = .slice none 0 0 from rfl, e1]
    rfl
theorem Run.weakH (id : Nat) {cs cs' : List AV} (hid : h.at id = some (.cells cs)) (hw : WeakL cs cs') (r : Run P rd nb k T (h.set id (some (.cells cs'))) D Q) : Run P rd nb k T h D Q := by
  intro E w a s
  obtain ⟨b, vals, hg, hrow, hreps⟩ := s.rel.objs id cs hid
  obtain ⟨g1, g2⟩ := s.rel.writeO hid rfl (o' := .cells cs') rfl hg (fun _ => ⟨vals, hrow, hw E w vals hreps⟩) (fun _ _ => rfl) rfl rfl rfl
  exact K_mono (P := P) (rd := rd) (Post.of_fr (Q := Q) g2) k _ _ _ (r E w a (s.move g2 g1 (by simpa using s.fresh)))
theorem Run.regPre {id : Nat} (n : Nat) {l : List Oper} (r : ∀ K : List Oper → List AV → Heap → Prop, (∀ l' T h, Run P rd nb (.ops l.toArray (l' ++ l.drop n) :: k) T h D Q → K l' T h) → runOps P l.toArray K (l.take n) T h) : Run P rd nb (.code (.region id l.toArray false) :: k) T h D Q :=
  Run.region (Run.opsPre n r)

end
theorem patch_app {α : Type} : ∀ (us l r : List α) (off : Nat), off + us.length ≤ l.length → patch (l ++ r) off us = patch l off us ++ r
  | [], l, r, off, _ => rfl
  | u :: us, l, r, off, h => by
    simp only [List.length_cons] at h
    simp only [patch]
    rw [List.set_append_left _ _ (by omega)]
    exact patch_app us (l.set off u) r (off + 1) (by rw [List.length_set]; omega)
theorem buf_set {sz : Nat} {es : List (List PV)} {m k : Nat} {e : List PV} (h : ∀ e ∈ es, e.length = sz) (hk : k < es.length) (he : e.length = sz) : patch (buf sz es m) (k * sz) (e.map .p) = buf sz (es.set k e) m := by
  have hle : (k + 1) * sz ≤ es.length * sz := Nat.mul_le_mul_right _ (by omega)
  rw [Nat.succ_mul] at hle
  unfold buf
  rw [patch_app _ _ _ _ (by rw [List.length_map, List.length_map, flat_length h, he]; omega), ← map_patch, flat_set sz es k e h he hk]

end Go.AI
