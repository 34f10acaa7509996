/-
  A list of levels among the arguments.
-/
import Derived.Test.YtcfcolkbeelegaaGreatLH2

namespace Go.Proofs.YtcfcolkbeelegaaGreat

open Go Go.AI

open Rows (uptoBulk uptoBulkAll)

open Go.ChangeShapes Go.WideShapes Go.ChangeAt Go.RowKit
set_option maxRecDepth 8000 in
theorem arg_lvs {H : Type} {enc : TypeId × Value → H} {W : World} {v : Value} {d : DataW H} {p : List MemPlace} {base : Nat}
    (hv : Value.okWide Tryz.prog W .any base 22 v) (h : DataW.Trod enc Tryz.prog W 0 (fun _ => true) true 22 v d p) : ∃ ls : List Lv, Rep (roAll W) W (.p (.sl 2 (lvPs ls))) v ∧ (uptoBulk d ≤ 1048576 → ls.length ≤ 1048576 ∧ ∀ l ∈ ls, l.vars.length ≤ 1048576) := by
  obtain ⟨a, len, cap, rfl⟩ := okWide_slice Tryz.underlying22 hv
  obtain ⟨n, hn⟩ := h
  obtain ⟨ls, v', e, r, hG⟩ := open_slice (α := Lv) Tryz.underlying22 cells90 (by decide) Lv.cells GLv (fun _ => rfl) (fun m _ cs y hy => open_lv hy) hn
  simp [Value.cells] at e
  subst e
  refine ⟨ls, by simp only [Rep]; exact r, fun hb => ?_⟩
  rcases hG with ⟨rfl, _⟩ | ⟨elems, rest, he, hG⟩
  · simp
  · simp only at he
    subst he
    simp only [uptoBulk] at hb
    have := length_le elems
    have := GL_len hG
    refine ⟨by omega, fun l hl => ?_⟩
    obtain ⟨d, hd, hg⟩ := GL_mem hG l hl
    have := part_le hd
    have := hg.1
    omega

end Go.Proofs.YtcfcolkbeelegaaGreat
