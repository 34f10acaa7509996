/-
  A string, a scope, small numbers among the arguments.
-/
import Derived.ChangeMaps5
import Derived.Test.YtppgpabjcenjdaaLH2
namespace Go.Proofs.Ytppgpabjcenjdaa

open Go Go.AI

open Go.ChangeShapes Go.WideShapes Go.ChangeAt Go.RowKit

theorem okWide_arr {P : Program} {w : World} {r : Reach} {base : Nat} {t : TypeId} {v : Value} {n : Nat} {e : TypeId} (ht : P.underlying t = some (.array n e)) (h : Value.okWide P w r base t v) : ∃ cs, v = .agg cs ∧ cs.size = P.cellsOf t := by
  simp only [Value.okWide, ht] at h
  obtain ⟨cs, h1, h2, _⟩ := h
  exact ⟨cs, h1, h2⟩

theorem cells5 : Try.prog.cellsOf 5 = 1 := by kernel_rfl

theorem cells83 : Try.prog.cellsOf 83 = 4 := by kernel_rfl

theorem cells90 : Try.prog.cellsOf 90 = 4 := by kernel_rfl

set_option maxRecDepth 8000 in
/-- A string among the arguments. -/
theorem arg_str {H : Type} {enc : TypeId × Value → H} {W : World} {v : Value} {d : DataW H} {p : List MemPlace} {base : Nat}
    (hv : Value.okWide Try.prog W .any base 9 v) (_h : DataW.Trod enc Try.prog W 0 (fun _ => true) true 9 v d p) : ∃ n : List UInt8, Rep (roAll W) W (.p (sP n)) v := by
  obtain ⟨s, rfl⟩ := okWide_string Try.underlying9 hv
  exact ⟨s.data.toList, by simp [Rep, RepP, isPrim]⟩

set_option maxRecDepth 8000 in
/-- A scope among the arguments. -/
theorem arg_scope {H : Type} {enc : TypeId × Value → H} {W : World} {v : Value} {d : DataW H} {p : List MemPlace} {base : Nat}
    (hv : Value.okWide Try.prog W .any base 83 v) (h : DataW.Trod enc Try.prog W 0 (fun _ => true) true 83 v d p) : ∃ a b c e : Int, Rep (roAll W) W (.agg [iA a, iA b, iA c, iA e]) v ∧
      (-9223372036854775808 ≤ a ∧ a ≤ 9223372036854775807) ∧ (-9223372036854775808 ≤ b ∧ b ≤ 9223372036854775807) ∧ (-9223372036854775808 ≤ c ∧ c ≤ 9223372036854775807) ∧ (-9223372036854775808 ≤ e ∧ e ≤ 9223372036854775807) := by
  obtain ⟨⟨cs⟩, rfl, hcs⟩ := okWide_struct Try.underlying83 hv
  obtain ⟨n, hn⟩ := h
  obtain ⟨xs, m, rfl, -, hl, hlen, hf⟩ := DataW.trod_struct Try.underlying83 hn
  simp only [Value.cells] at hl hf
  rw [cells83] at hl
  obtain ⟨c0, c1, c2, c3, rfl⟩ : ∃ a b c d, cs = [a, b, c, d] := by match cs, hl with | [a, b, c, d], _ => exact ⟨a, b, c, d, rfl⟩
  obtain ⟨x0, x1, x2, x3, rfl⟩ : ∃ a b c d, xs = [a, b, c, d] := by match xs, hlen with | [a, b, c, d], _ => exact ⟨a, b, c, d, rfl⟩
  have h0 := hf 0 _ rfl
  have h1 := hf 1 _ rfl
  have h2 := hf 2 _ rfl
  have h3 := hf 3 _ rfl
  simp only [List.getElem?_cons_zero, List.getElem?_cons_succ] at h0 h1 h2 h3
  obtain ⟨a, e0, r0, b0⟩ := open_i h0
  obtain ⟨b, e1, r1, b1⟩ := open_i h1
  obtain ⟨c, e2, r2, b2⟩ := open_i h2
  obtain ⟨e, e3, r3, b3⟩ := open_i h3
  injection e0 with e0; injection e1 with e1; injection e2 with e2; injection e3 with e3; subst e0; subst e1; subst e2; subst e3
  refine ⟨a, b, c, e, ?_, b0, b1, b2, b3⟩
  simp only [Rep, RepL]
  exact ⟨_, rfl, _, _, rfl, r0, _, _, rfl, r1, _, _, rfl, r2, _, _, rfl, r3, rfl⟩

theorem open_u8 {H : Type} {enc : TypeId × Value → H} {W : World} {sp : Nat → Bool} {held : Bool} {n : Nat} {cs : List Value} {x : DataW H × List MemPlace} (h : DataW.trod enc Try.prog W 0 sp held n 5 cs = some x) :
    ∃ i : Int, cs = [.int .u8 i] ∧ RepP (roAll W) W (.prim (.int .u8 i)) (.int .u8 i) ∧ 0 ≤ i ∧ i ≤ 255 := by
  obtain ⟨i, rfl, _, hw⟩ := DataW.trod_int Try.underlying5 h
  exact ⟨i, rfl, by simp [RepP, isPrim], by simpa [Lit.wf, IntKind.min, IntKind.max, IntKind.signed, IntKind.bits] using hw⟩

abbrev uA (i : Int) : AV := .p (.prim (.int .u8 i))

set_option maxRecDepth 8000 in
/-- Four small numbers among the arguments. -/
theorem arg_u4 {H : Type} {enc : TypeId × Value → H} {W : World} {v : Value} {d : DataW H} {p : List MemPlace} {base : Nat}
    (hv : Value.okWide Try.prog W .any base 90 v) (h : DataW.Trod enc Try.prog W 0 (fun _ => true) true 90 v d p) : ∃ a b c e : Int, Rep (roAll W) W (.agg [uA a, uA b, uA c, uA e]) v ∧ (0 ≤ a ∧ a ≤ 255) ∧ (0 ≤ b ∧ b ≤ 255) ∧ (0 ≤ c ∧ c ≤ 255) ∧ (0 ≤ e ∧ e ≤ 255) := by
  obtain ⟨⟨cs⟩, rfl, hcs⟩ := okWide_arr Try.underlying90 hv
  obtain ⟨n, hn⟩ := h
  obtain ⟨xs, m, rfl, -, hl, hlen, hf⟩ := DataW.trod_array Try.underlying90 hn
  simp only [Value.cells] at hl hf
  rw [cells90] at hl
  obtain ⟨c0, c1, c2, c3, rfl⟩ : ∃ a b c d, cs = [a, b, c, d] := by match cs, hl with | [a, b, c, d], _ => exact ⟨a, b, c, d, rfl⟩
  obtain ⟨x0, x1, x2, x3, rfl⟩ : ∃ a b c d, xs = [a, b, c, d] := by match xs, hlen with | [a, b, c, d], _ => exact ⟨a, b, c, d, rfl⟩
  have h0 := hf 0 (by decide)
  have h1 := hf 1 (by decide)
  have h2 := hf 2 (by decide)
  have h3 := hf 3 (by decide)
  simp only [cells5, Nat.mul_one, List.drop_zero, List.take_succ_cons, List.take_zero, List.drop_succ_cons, List.getElem?_cons_zero, List.getElem?_cons_succ] at h0 h1 h2 h3
  obtain ⟨a, e0, r0, b0⟩ := open_u8 h0
  obtain ⟨b, e1, r1, b1⟩ := open_u8 h1
  obtain ⟨c, e2, r2, b2⟩ := open_u8 h2
  obtain ⟨e, e3, r3, b3⟩ := open_u8 h3
  injection e0 with e0; injection e1 with e1; injection e2 with e2; injection e3 with e3; subst e0; subst e1; subst e2; subst e3
  refine ⟨a, b, c, e, ?_, b0, b1, b2, b3⟩
  simp only [Rep, RepL]
  exact ⟨_, rfl, _, _, rfl, r0, _, _, rfl, r1, _, _, rfl, r2, _, _, rfl, r3, rfl⟩

end Go.Proofs.Ytppgpabjcenjdaa
