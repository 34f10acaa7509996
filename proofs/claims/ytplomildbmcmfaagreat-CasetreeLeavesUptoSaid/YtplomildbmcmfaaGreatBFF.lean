/-
  More of slices: held against nil, made without elements; a row's elements read and written.
-/
import Derived.Test.YtplomildbmcmfaaGreatBFD

namespace Go.AI

open Go
theorem RepL.junks {E w} : ∀ (l : List Value), RepL E w (List.replicate l.length .junk) l
  | [] => by simp [RepL]
  | v :: l => by simp only [List.length_cons, List.replicate_succ, RepL]; exact ⟨v, l, rfl, by simp only [Rep], RepL.junks l⟩

section

variable {P : Program} {rd : Option Nat} {nb : Nat} {k : List It} {T : List AV} {h : Heap} {D : List AD} {Q : AX → List AV → Heap → List AD → Prop} {all : Array Oper} {o : Oper} {rest : List Oper}
theorem Run.opR {R : AV → Heap → Prop} (hw : awanted all T o = some true) (hnd : ∀ c, o.op ≠ .defer c)
    (ho : ∀ E w a, St E w a T h D → ∃ x h' E' w' v, R x h' ∧ (execOp a.eval o).run P w = .ok (.value v) w' ∧ Rel E' (Heap.at h') w' ∧ Fresh E' h'.length ∧ Rep E' w' x v ∧ Fr E (Heap.at h) w E' (Heap.at h') w')
    (r : ∀ x h', R x h' → Run P rd nb (.ops all rest :: k) (tput T o.dst x) h' D Q) : Run P rd nb (.ops all (o :: rest) :: k) T h D Q := by
  intro E w a s
  obtain ⟨x, h', E', w', v, hR, hrun, hr, hf, hx, hfr⟩ := ho E w a s
  have s' : St E' w' (a.put o.dst v) (tput T o.dst x) h' D := (s.move hfr hr hf).put hx o.dst
  have := r x h' hR E' w' _ s'
  have hk := K_mono (P := P) (rd := rd) (Post.of_fr (Q := Q) hfr) (.ops all rest :: k) _ _ _ this
  show wpListIn (fen rd) 0 P all (K P rd (Post nb Q E h w) k) (o :: rest) a w
  simp only [wpListIn]
  rw [awanted_sound s hw]
  simp only [if_true]
  refine ⟨fun _ _ => trivial, ?_⟩
  rw [Oper.semAt_eq _ _ _ hnd, hrun]
  exact hk
theorem exec_append {a : Act} {s x : Operand} {t : TypeId} {v : Value} {w w' : World} (ho : o.op = .call ⟨.builtin .append, #[s, x], #[t, t]⟩) (hrun : (Builtin.append_ #[t, t] o.type #[a.eval s, a.eval x]).run P w = .ok v w') :
    (execOp a.eval o).run P w = .ok (.value v) w' := by
  simp only [execOp, ho, resolve, Sem.run_bind, Sem.run_pure, Result.andThen_ok, invoke]
  simp [builtin, hrun]

end

end Go.AI

namespace Go.AI

open Go

section

variable {P : Program} {rd : Option Nat} {nb : Nat} {k : List It} {T : List AV} {h : Heap} {D : List AD} {Q : AX → List AV → Heap → List AD → Prop} {all : Array Oper} {o : Oper} {rest : List Oper}

end
theorem patch_app {α : Type} : ∀ (us l r : List α) (off : Nat), off + us.length ≤ l.length → patch (l ++ r) off us = patch l off us ++ r
  | [], l, r, off, _ => rfl
  | u :: us, l, r, off, h => by
    simp only [List.length_cons] at h
    simp only [patch]
    rw [List.set_append_left _ _ (by omega)]
    exact patch_app us (l.set off u) r (off + 1) (by rw [List.length_set]; omega)

end Go.AI
