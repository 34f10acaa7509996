/-
  The plain laws of TelescopeSteps: how far indices go.
-/
import Derived.Test.YtppgpabjcenjdaaTV0
namespace Go.Proofs.Ytppgpabjcenjdaa

open Go Go.AI

mutual
theorem shift_notbad (d : Int) (hd : 0 ≤ d) : ∀ (x : Tm) (c m : Int), x.ok m → 0 ≤ c → m + d + x.size ≤ 65536 → shiftBad d 0 c x = false
  | .mk k i n ls ks, c, m, h, hc, hs => by
    simp only [Tm.ok, Tm.okN] at h
    simp only [Tm.size] at hs
    by_cases hk : k = 0
    · obtain ⟨h1, h2, rfl, rfl, rfl⟩ := h.1.1 hk
      subst hk
      simp only [shiftBad, if_true]
      by_cases hi : i < 0 + c
      · simp; omega
      · simp; omega
    · simp only [shiftBad, hk, if_false]
      exact shiftL_notbad d hd ks c k m 0 h.2 hc (by omega)
theorem shiftL_notbad (d : Int) (hd : 0 ≤ d) : ∀ (l : List Tm) (c k m : Int) (idx : Nat), Tm.oks m k idx l → 0 ≤ c → m + d + 1 + Tm.sizes l ≤ 65536 → shiftBads d 0 c k idx l = false
  | [], _, _, _, _, _, _, _ => rfl
  | t :: ts, c, k, m, idx, h, hc, hs => by
    simp only [Tm.oks] at h
    simp only [Tm.sizes] at hs
    have hz := belowZ_01' k idx
    have htp := t.size_pos
    simp only [shiftBads]
    rw [shift_notbad d hd t (c + belowZ k idx) _ h.1 (by omega) (by omega), shiftL_notbad d hd ts c k m (idx + 1) h.2 hc (by omega)]
    rfl
end

end Go.Proofs.Ytppgpabjcenjdaa
