/-
  The plain laws of shifting: no program in sight.
-/
import Derived.Test.YtppgpabjcenjdaaLE13
namespace Go.Proofs.Ytppgpabjcenjdaa

open Go Go.AI

theorem sameLv_refl (l : Lv) : sameLv l l = true := by
  simp only [sameLv, bne_self_eq_false, Bool.or_self, Bool.not_false, Bool.true_and]
  rw [allTo_iff]
  intro j hj
  simp [varsAt, hj, sameVar]

theorem sameLvs_refl (l : List Lv) : sameLvs l l = true := by
  simp only [sameLvs, bne_self_eq_false, Bool.not_false, Bool.true_and]
  rw [allTo_iff]
  intro j hj
  simp [lvsAt, hj, sameLv_refl]

theorem sameHead_refl (t : Tm) : sameHead t t = true := by simp [sameHead, sameLvs_refl]

mutual
theorem sameT_refl : ∀ t : Tm, sameT t t = true
  | .mk k i n ls ks => by simp only [sameT, sameHead_refl, Bool.true_and]; exact sameTs_refl ks
theorem sameTs_refl : ∀ l : List Tm, sameTs l l = true
  | [] => by simp only [sameTs]
  | t :: ts => by simp only [sameTs, sameT_refl t, sameTs_refl ts, Bool.and_self]
end

/- What is checked is in order. -/

theorem firstE_cons {e : Int} {l : List Int} (h : firstE (e :: l) = 0) : e = 0 ∧ firstE l = 0 := by
  simp only [firstE] at h
  split at h
  · exact ⟨by assumption, h⟩
  · exact absurd h (by assumption)

/- Shifting by building is shifting. -/

end Go.Proofs.Ytppgpabjcenjdaa
