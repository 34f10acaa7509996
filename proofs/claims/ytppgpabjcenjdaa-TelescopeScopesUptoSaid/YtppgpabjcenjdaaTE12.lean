/-
  subst: Abstract, Subst.
-/
import Derived.Test.YtppgpabjcenjdaaTE10
import Derived.Test.YtppgpabjcenjdaaTE11
namespace Go.Proofs.Ytppgpabjcenjdaa

open Go Go.AI

set_option maxRecDepth 8000 in
theorem subst_any (h : Heap) (hh : WF h) (t : Tm) (vs : List Tm) (r : Tm × Int) (hc : ∀ g : Heap, WF g → ACalls Try.prog 36 [t.av, .p (.sl 5 (tmPs vs)), iA 0] g fun o h' => o = .ret (.tup [r.1.av, iA r.2]) ∧ h' = g) :
    ACalls Try.prog 34 [t.av, .p (.sl 5 (tmPs vs))] h fun o h' => o = .ret (.tup [r.1.av, iA r.2]) ∧ h' = h := by
  obtain ⟨t2, e⟩ := r
  obtain ⟨k, i, nm, ls, ks⟩ := t
  obtain ⟨k2, i2, nm2, ls2, ks2⟩ := t2
  refine ACalls.of_run Try.func34 rfl ?_
  simp only [Try.ntmps34, List.length_cons, List.length_nil, Tm.av, cells_mk, List.map]
  repeat (first | refine Run.seq ?_ | refine Run.block ?_ | refine Run.skip ?_ | refine Run.inBlock ?_ | refine Run.opsNil ?_)
  repeat (first | refine Run.seq ?_ | refine Run.block ?_ | refine Run.skip ?_ | refine Run.inBlock ?_ | refine Run.opsNil ?_)
  refine Run.reg fun K hK => ?_
  simp
  try (simp (disch := omega) only [wrap_id])
  refine hK _ _ _ ?_; clear hK K
  repeat (first | refine Run.seq ?_ | refine Run.block ?_ | refine Run.skip ?_ | refine Run.inBlock ?_ | refine Run.opsNil ?_)
  repeat (first | refine Run.seq ?_ | refine Run.block ?_ | refine Run.skip ?_ | refine Run.inBlock ?_ | refine Run.opsNil ?_)
  refine Run.reg fun K hK => ?_
  simp
  try (simp (disch := omega) only [wrap_id])
  refine hK _ _ _ ?_; clear hK K
  repeat (first | refine Run.seq ?_ | refine Run.block ?_ | refine Run.skip ?_ | refine Run.inBlock ?_ | refine Run.opsNil ?_)
  refine Run.call (args := [(Tm.mk k i nm ls ks).av, .p (.sl 5 (tmPs vs)), iA 0]) rfl rfl (by simp) rfl (hc _ (hh.app (by simp))) ?_ ?_
  rotate_left
  · rintro v h' ⟨hv, _⟩; cases hv
  rintro v h' ⟨hv, rfl⟩
  simp only [AOut.ret.injEq] at hv
  subst hv
  refine Run.ops fun K hK => ?_
  simp
  try (simp (disch := omega) only [wrap_id])
  refine hK _ _ _ ?_; clear hK K
  repeat (first | refine Run.seq ?_ | refine Run.block ?_ | refine Run.skip ?_ | refine Run.inBlock ?_ | refine Run.opsNil ?_)
  refine Run.ret ?_
  refine Fin.ret' (h0 := h) (by simp) rfl hh rfl (by simp; rfl) rfl (Weak.refl _) (by simp) ⟨rfl, rfl⟩

end Go.Proofs.Ytppgpabjcenjdaa
