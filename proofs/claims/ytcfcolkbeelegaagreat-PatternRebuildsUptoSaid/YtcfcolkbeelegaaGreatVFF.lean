import Derived.Test.YtcfcolkbeelegaaGreatVFE

namespace Go.AI

open Go

section

variable {P : Program} {rd : Option Nat} {nb : Nat} {k : List It} {T : List AV} {h : Heap} {D : List AD} {Q : AX → List AV → Heap → List AD → Prop} {all : Array Oper} {o : Oper} {rest : List Oper}
theorem Run.nilEq {x : Operand} {t e ty : TypeId} {sz : Nat} {es : List (List PV)} (ho : o.op = .binOp .eql t x (.const (.slice none 0 0)) ty) (hu : P.underlying t = some (.slice e)) (hw : awanted all T o = some true) (hx : aev T x = .p (.sl sz es))
  (r : ∀ b, (b = true → es = []) → Run P rd nb (.ops all rest :: k) (tput T o.dst (.p (.prim (.bool b)))) h D Q) : Run P rd nb (.ops all (o :: rest) :: k) T h D Q := by
 refine Run.opR (R := fun y h' => h' = h ∧ ∃ b, y = .p (.prim (.bool b)) ∧ (b = true → es = [])) hw (fun c hc => by rw [hc] at ho; cases ho) ?_ (by rintro y h' ⟨rfl, b, rfl, hb⟩; exact r b hb)
 intro E w a st
 have hxr := aev_rep st x
 rw [hx] at hxr
 simp only [Rep, RepP] at hxr
 obtain ⟨ad, cap, hv, _, hes⟩ := hxr
 have h1 : ∀ d (s : Option Addr) n c, (Op.equalIn (d + 1) t (.slice s n c) (.slice none 0 0)).run P w = .ok s.isNone w := by
  intro d s n c
  cases s with
  | none => simp only [Op.equalIn, Sem.run_bind, run_underlying hu, Result.andThen_ok]; rfl
  | some s => simp only [Op.equalIn, Sem.run_bind, run_underlying hu, Result.andThen_ok]; rfl
 have h2 : ∀ (s : Option Addr) n c, (Op.equal t (.slice s n c) (.slice none 0 0)).run P w = .ok s.isNone w := h1 9999
 have e1 : ∀ (s : Option Addr) n c, (do eqGuard .eql t x (.const (.slice none 0 0)) (.slice s n c) (.slice none 0 0); binOp .eql t (.slice s n c) (.slice none 0 0) : Sem Value).run P w = .ok (.bool s.isNone) w := by
  intro s n c
  have g1 : (eqGuard .eql t x (.const (.slice none 0 0)) (.slice s n c) (.slice none 0 0)).run P w = .ok () w := by
   unfold eqGuard; rfl
  simp [g1, binOp, h2]
 refine ⟨_, h, E, w, .bool ad.isNone, ⟨rfl, ad.isNone, rfl, fun hn => ?_⟩, ?_, st.rel, st.fresh, by simp [Rep, RepP, isPrim], Fr.refl _ _ _⟩
 ·rcases hes with h0 | ⟨b, off, rfl, _⟩
  ·exact h0
  ·simp at hn
 ·simp only [execOp, ho, hv]
  rw [Sem.run_bind, show a.eval (.const (.slice none 0 0)) = .slice none 0 0 from rfl, e1]
  rfl
theorem Run.build0 {t e : TypeId} {sz : Nat} (ho : o.op = .buildSlice t 0 #[]) (he : elT P t = some e) (hsz : szT P e = some sz) (hw : awanted all T o = some true)
  (r : Run P rd nb (.ops all rest :: k) (tput T o.dst (.sm h.length 0 0 0 sz)) (h ++ [some (.cells (buf sz [] 0))]) D Q) : Run P rd nb (.ops all (o :: rest) :: k) T h D Q := by
 refine Run.opR (R := fun y h' => y = .sm h.length 0 0 0 sz ∧ h' = h ++ [some (.cells (buf sz [] 0))]) hw (fun c hc => by rw [hc] at ho; cases ho) ?_ (by rintro y h' ⟨rfl, rfl⟩; exact r)
 intro E w a st
 have hb : buf sz [] 0 = [] := by simp [buf]
 obtain ⟨h1, h2, h3⟩ := st.rel.alloc st.fresh (cs := buf sz [] 0) (vs := []) (by rw [hb]; simp [RepL]) e
 refine ⟨_, _, _, _, .slice (some ⟨w.heap.size, 0, none⟩) 0 0, ⟨rfl, rfl⟩, ?_, h1, by simpa using h3, ?_, h2⟩
 ·have hrun : (Instr.buildSlice t 0 #[]).run P w = .ok (.slice (some ⟨w.heap.size, 0, none⟩) 0 0) (w.alloc (.cells (List.toArray []) e (0, 0))) := by
   unfold Instr.buildSlice
   simp only [Sem.run_bind, run_elT he, Result.andThen_ok, run_szT hsz, Nat.zero_mul]
   simp [Instr.fill, newRow, show Array.range 0 = #[] from rfl]
  simp only [execOp, ho]
  rw [Sem.run_bind, show (Array.map (fun p : Nat × Operand => (p.1, a.eval p.2)) #[]) = #[] from by simp, hrun]
  rfl
 ·simp only [Rep]
  exact ⟨_, by simp, rfl⟩
theorem Run.appendZ {s x : Operand} {t e : TypeId} {sz sz' : Nat} {es : List (List PV)} {z : List Value} (ho : o.op = .call ⟨.builtin .append, #[s, x], #[t, t]⟩) (hw : awanted all T o = some true) (he : elT P t = some e) (hz : zeroT P e = some z)
  (hs : aev T s = .p (.sl sz es)) (hx : aev T x = .p (.sl sz' [])) (r : Run P rd nb (.ops all rest :: k) (tput T o.dst (.p (.sl sz es))) h D Q) : Run P rd nb (.ops all (o :: rest) :: k) T h D Q := by
 refine Run.opR (R := fun y h' => y = .p (.sl sz es) ∧ h' = h) hw (fun c hc => by rw [hc] at ho; cases ho) ?_ (by rintro y h' ⟨rfl, rfl⟩; exact r)
 intro E w a st
 have hsr := aev_rep st s
 have hsr' := hsr
 rw [hs] at hsr hsr'
 simp only [Rep, RepP] at hsr
 obtain ⟨ad, cap, hv, hc, _⟩ := hsr
 have hxr := aev_rep st x
 rw [hx] at hxr
 simp only [Rep, RepP] at hxr
 obtain ⟨ad2, cap2, hv2, _, _⟩ := hxr
 obtain ⟨i, _, hi, _, _, _, _⟩ := zeroT_parts hz
 refine ⟨_, h, E, w, a.eval s, ⟨rfl, rfl⟩, ?_, st.rel, st.fresh, hsr', Fr.refl _ _ _⟩
 refine exec_append ho ?_
 rw [hv, hv2]
 exact append_zero (und_elT he) hi ad ad2 es.length cap cap2 hc
theorem Run.weakH (id : Nat) {cs cs' : List AV} (hid : h.at id = some (.cells cs)) (hw : WeakL cs cs') (r : Run P rd nb k T (h.set id (some (.cells cs'))) D Q) : Run P rd nb k T h D Q := by
 intro E w a s
 obtain ⟨b, vals, hg, hrow, hreps⟩ := s.rel.objs id cs hid
 obtain ⟨g1, g2⟩ := s.rel.writeO hid rfl (o' := .cells cs') rfl hg (fun _ => ⟨vals, hrow, hw E w vals hreps⟩) (fun _ _ => rfl) rfl rfl rfl
 exact K_mono (P := P) (rd := rd) (Post.of_fr (Q := Q) g2) k _ _ _ (r E w a (s.move g2 g1 (by simpa using s.fresh)))
theorem Run.regPre {id : Nat} (n : Nat) {l : List Oper} (r : ∀ K : List Oper → List AV → Heap → Prop, (∀ l' T h, Run P rd nb (.ops l.toArray (l' ++ l.drop n) :: k) T h D Q → K l' T h) → runOps P l.toArray K (l.take n) T h) : Run P rd nb (.code (.region id l.toArray false) :: k) T h D Q :=
 Run.region (Run.opsPre n r)

end
theorem flat_at {sz : Nat} : ∀ {es : List (List PV)} {k : Nat} (rest : List AV), (∀ e ∈ es, e.length = sz) → (hk : k < es.length) → ((es.flatten.map AV.p ++ rest).drop (k * sz)).take sz = (es[k]).map .p
 | [], k, rest, h, hk => by simp at hk
 | e :: es, 0, rest, h, hk => by
  have he := h e (by simp)
  simp only [Nat.zero_mul, List.drop_zero, List.getElem_cons_zero, List.flatten_cons, List.map_append, List.append_assoc]
  rw [List.take_append_of_le_length (by simp [he])]
  exact List.take_of_length_le (by simp [he])
 | e :: es, k + 1, rest, h, hk => by
  have he := h e (by simp)
  have ih := flat_at (es := es) (k := k) rest (fun x hx => h x (List.mem_cons_of_mem _ hx)) (by simpa using hk)
  simp only [List.getElem_cons_succ, List.flatten_cons, List.map_append, List.append_assoc]
  rw [show (k + 1) * sz = (e.map AV.p).length + k * sz by rw [List.length_map, he, Nat.succ_mul]; omega, ← List.drop_drop, List.drop_left]
  exact ih
theorem buf_get {sz : Nat} {es : List (List PV)} {m k : Nat} (h : ∀ e ∈ es, e.length = sz) (hk : k < es.length) : ((buf sz es m).drop (k * sz)).take sz = (es[k]).map .p := flat_at _ h hk
theorem patch_app {α : Type} : ∀ (us l r : List α) (off : Nat), off + us.length ≤ l.length → patch (l ++ r) off us = patch l off us ++ r
 | [], l, r, off, _ => rfl
 | u :: us, l, r, off, h => by
  simp only [List.length_cons] at h
  simp only [patch]
  rw [List.set_append_left _ _ (by omega)]
  exact patch_app us (l.set off u) r (off + 1) (by rw [List.length_set]; omega)
theorem buf_set {sz : Nat} {es : List (List PV)} {m k : Nat} {e : List PV} (h : ∀ e ∈ es, e.length = sz) (hk : k < es.length) (he : e.length = sz) : patch (buf sz es m) (k * sz) (e.map .p) = buf sz (es.set k e) m := by
 have hle : (k + 1) * sz ≤ es.length * sz := Nat.mul_le_mul_right _ (by omega)
 rw [Nat.succ_mul] at hle
 unfold buf
 rw [patch_app _ _ _ _ (by rw [List.length_map, List.length_map, flat_length h, he]; omega), ← map_patch, flat_set sz es k e h he hk]

end Go.AI
