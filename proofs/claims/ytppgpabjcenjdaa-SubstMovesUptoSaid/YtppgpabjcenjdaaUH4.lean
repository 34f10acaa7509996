/-
  A string, a scope, small numbers among the arguments.
-/
import Derived.ChangeMaps5
import Derived.Test.YtppgpabjcenjdaaUH2
namespace Go.Proofs.Ytppgpabjcenjdaa

open Go Go.AI

open Go.ChangeShapes Go.WideShapes Go.ChangeAt Go.RowKit

theorem okWide_arr {P : Program} {w : World} {r : Reach} {base : Nat} {t : TypeId} {v : Value} {n : Nat} {e : TypeId} (ht : P.underlying t = some (.array n e)) (h : Value.okWide P w r base t v) : ∃ cs, v = .agg cs ∧ cs.size = P.cellsOf t := by
  simp only [Value.okWide, ht] at h
  obtain ⟨cs, h1, h2, _⟩ := h
  exact ⟨cs, h1, h2⟩

theorem cells5 : Try.prog.cellsOf 5 = 1 := by kernel_rfl

theorem cells96 : Try.prog.cellsOf 96 = 2 := by kernel_rfl

theorem open_u8 {H : Type} {enc : TypeId × Value → H} {W : World} {sp : Nat → Bool} {held : Bool} {n : Nat} {cs : List Value} {x : DataW H × List MemPlace} (h : DataW.trod enc Try.prog W 0 sp held n 5 cs = some x) :
    ∃ i : Int, cs = [.int .u8 i] ∧ RepP (roAll W) W (.prim (.int .u8 i)) (.int .u8 i) ∧ 0 ≤ i ∧ i ≤ 255 := by
  obtain ⟨i, rfl, _, hw⟩ := DataW.trod_int Try.underlying5 h
  exact ⟨i, rfl, by simp [RepP, isPrim], by simpa [Lit.wf, IntKind.min, IntKind.max, IntKind.signed, IntKind.bits] using hw⟩

abbrev uA (i : Int) : AV := .p (.prim (.int .u8 i))

set_option maxRecDepth 8000 in
/-- Two small numbers among the arguments. -/
theorem arg_u2 {H : Type} {enc : TypeId × Value → H} {W : World} {v : Value} {d : DataW H} {p : List MemPlace} {base : Nat}
    (hv : Value.okWide Try.prog W .any base 96 v) (h : DataW.Trod enc Try.prog W 0 (fun _ => true) true 96 v d p) : ∃ a b : Int, Rep (roAll W) W (.agg [uA a, uA b]) v ∧ (0 ≤ a ∧ a ≤ 255) ∧ (0 ≤ b ∧ b ≤ 255) := by
  obtain ⟨⟨cs⟩, rfl, hcs⟩ := okWide_arr Try.underlying96 hv
  obtain ⟨n, hn⟩ := h
  obtain ⟨xs, m, rfl, -, hl, hlen, hf⟩ := DataW.trod_array Try.underlying96 hn
  simp only [Value.cells] at hl hf
  rw [cells96] at hl
  obtain ⟨c0, c1, rfl⟩ : ∃ a b, cs = [a, b] := by match cs, hl with | [a, b], _ => exact ⟨a, b, rfl⟩
  obtain ⟨x0, x1, rfl⟩ : ∃ a b, xs = [a, b] := by match xs, hlen with | [a, b], _ => exact ⟨a, b, rfl⟩
  have h0 := hf 0 (by decide)
  have h1 := hf 1 (by decide)
  simp only [cells5, Nat.mul_one, List.drop_zero, List.take_succ_cons, List.take_zero, List.drop_succ_cons, List.getElem?_cons_zero, List.getElem?_cons_succ] at h0 h1
  obtain ⟨a, e0, r0, b0⟩ := open_u8 h0
  obtain ⟨b, e1, r1, b1⟩ := open_u8 h1
  injection e0 with e0; injection e1 with e1; subst e0; subst e1
  refine ⟨a, b, ?_, b0, b1⟩
  simp only [Rep, RepL]
  exact ⟨_, rfl, _, _, rfl, r0, _, _, rfl, r1, rfl⟩

set_option maxRecDepth 8000 in
/-- One small number among the arguments. -/
theorem arg_u1 {H : Type} {enc : TypeId × Value → H} {W : World} {v : Value} {d : DataW H} {p : List MemPlace} {base : Nat}
    (hv : Value.okWide Try.prog W .any base 5 v) (h : DataW.Trod enc Try.prog W 0 (fun _ => true) true 5 v d p) : ∃ a : Int, Rep (roAll W) W (uA a) v ∧ 0 ≤ a ∧ a ≤ 255 := by
  obtain ⟨x, rfl, _, _, hi⟩ := open_int Try.underlying5 hv h
  exact ⟨x, by simp [Rep, RepP, isPrim], by simpa [Lit.wf, IntKind.min, IntKind.max, IntKind.signed, IntKind.bits] using hi⟩

end Go.Proofs.Ytppgpabjcenjdaa
