/-
  More of slices: held against nil, made without elements; a row's elements read and written.
-/
import Derived.Test.YtppgpabjcenjdaaUFE
namespace Go.AI

open Go

section

variable {P : Program} {rd : Option Nat} {nb : Nat} {k : List It} {T : List AV} {h : Heap} {D : List AD} {Q : AX → List AV → Heap → List AD → Prop} {all : Array Oper} {o : Oper} {rest : List Oper}

/-- A slice held against nil: of one without elements nothing is known. -/
theorem Run.nilEq {x : Operand} {t e ty : TypeId} {sz : Nat} {es : List (List PV)} (ho : o.op = .binOp .eql t x (.const (.slice none 0 0)) ty) (hu : P.underlying t = some (.slice e)) (hw : awanted all T o = some true) (hx : aev T x = .p (.sl sz es))
    (r : ∀ b, (b = true → es = []) → Run P rd nb (.ops all rest :: k) (tput T o.dst (.p (.prim (.bool b)))) h D Q) : Run P rd nb (.ops all (o :: rest) :: k) T h D Q := by
  refine Run.opR (R := fun y h' => h' = h ∧ ∃ b, y = .p (.prim (.bool b)) ∧ (b = true → es = [])) hw (fun c hc => by rw [hc] at ho; cases ho) ?_ (by rintro y h' ⟨rfl, b, rfl, hb⟩; exact r b hb)
  intro E w a st
  have hxr := aev_rep st x
  rw [hx] at hxr
  simp only [Rep, RepP] at hxr
  obtain ⟨ad, cap, hv, _, hes⟩ := hxr
  have h1 : ∀ d (s : Option Addr) n c, (Op.equalIn (d + 1) t (.slice s n c) (.slice none 0 0)).run P w = .ok s.isNone w := by
    intro d s n c
    cases s with
    | none => simp only [Op.equalIn, Sem.run_bind, run_underlying hu, Result.andThen_ok]; rfl
    | some s => simp only [Op.equalIn, Sem.run_bind, run_underlying hu, Result.andThen_ok]; rfl
  have h2 : ∀ (s : Option Addr) n c, (Op.equal t (.slice s n c) (.slice none 0 0)).run P w = .ok s.isNone w := h1 9999
  have e1 : ∀ (s : Option Addr) n c, (do eqGuard .eql t x (.const (.slice none 0 0)) (.slice s n c) (.slice none 0 0); binOp .eql t (.slice s n c) (.slice none 0 0) : Sem Value).run P w = .ok (.bool s.isNone) w := by
    intro s n c
    have g1 : (eqGuard .eql t x (.const (.slice none 0 0)) (.slice s n c) (.slice none 0 0)).run P w = .ok () w := by
      unfold eqGuard; rfl
    simp [g1, binOp, h2]
  refine ⟨_, h, E, w, .bool ad.isNone, ⟨rfl, ad.isNone, rfl, fun hn => ?_⟩, ?_, st.rel, st.fresh, by simp [Rep, RepP, isPrim], Fr.refl _ _ _⟩
  · rcases hes with h0 | ⟨b, off, rfl, _⟩
    · exact h0
    · simp at hn
  · simp only [execOp, ho, hv]
    rw [Sem.run_bind, show a.eval (.const (.slice none 0 0)) = .slice none 0 0 from rfl, e1]
    rfl

/-- The operations of a region ahead of a place. -/
theorem Run.regPre {id : Nat} (n : Nat) {l : List Oper} (r : ∀ K : List Oper → List AV → Heap → Prop, (∀ l' T h, Run P rd nb (.ops l.toArray (l' ++ l.drop n) :: k) T h D Q → K l' T h) → runOps P l.toArray K (l.take n) T h) : Run P rd nb (.code (.region id l.toArray false) :: k) T h D Q :=
  Run.region (Run.opsPre n r)

end

end Go.AI
