/-
  subst: Abstract.
-/
import Derived.Test.YtppgpabjcenjdaaTE7
import Derived.Test.YtppgpabjcenjdaaTE9
namespace Go.Proofs.Ytppgpabjcenjdaa

open Go Go.AI

mutual
theorem ok_lvs : ∀ (t : Tm) (m : Int), t.ok m → t.lvs
  | .mk k i n ls ks, m, h => by
    simp only [Tm.ok, Tm.okN] at h
    simp only [Tm.lvs]
    exact ⟨by omega, h.1.2.2.1, ok_lvss ks m k 0 h.2⟩
theorem ok_lvss : ∀ (l : List Tm) (m k : Int) (idx : Nat), Tm.oks m k idx l → Tm.lvss l
  | [], _, _, _, _ => trivial
  | t :: ts, m, k, idx, h => by
    simp only [Tm.oks] at h
    exact ⟨ok_lvs t _ h.1, ok_lvss ts m k (idx + 1) h.2⟩
end

theorem take3 {H l : Heap} {a b c : Option AO} : (H ++ (l ++ [a, b, c])).take (H.length + (l.length + 2)) = H ++ (l ++ [a, b]) := by
  rw [take_lastK, take_lastK]; rfl

/-- The third block of a visit is given up. -/
theorem Run.cut3 {P : Program} {rd : Option Nat} {nb : Nat} {k : List It} {T : List AV} {H l : Heap} {a b c : Option AO} {D : List AD} {Q : AX → List AV → Heap → List AD → Prop} (n : Nat) (hn : H.length = n) (hw : WF (H ++ (l ++ [a, b]))) (hnb : nb ≤ n + (l.length + 2)) (hT : AV.underL (n + (l.length + 2)) T = true) (hD : underD (n + (l.length + 2)) D = true)
    (r : Run P rd nb k T (H ++ (l ++ [a, b])) D Q) : Run P rd nb k T (H ++ (l ++ [a, b, c])) D Q := by
  subst hn
  refine Run.cut (H.length + (l.length + 2)) hnb (by simp) hT ?_ hD (by rw [take3]; exact r)
  rw [take3]
  have := hw.all
  simpa using this

end Go.Proofs.Ytppgpabjcenjdaa
