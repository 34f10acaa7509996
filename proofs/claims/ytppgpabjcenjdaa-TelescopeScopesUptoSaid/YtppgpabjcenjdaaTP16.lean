/-
  What is looked up contains only variables that are further out.
-/
import Derived.Test.YtppgpabjcenjdaaTP6
import Derived.Test.YtppgpabjcenjdaaTP15
import Derived.Test.YtppgpabjcenjdaaTV0
namespace Go.Proofs.Ytppgpabjcenjdaa

open Go Go.AI

mutual
theorem shift_fit {n : Int} (hn : 0 ≤ n) : ∀ (t : Tm) (d m : Int), t.ok m → t.fit → m + n + t.size ≤ 1099511627776 → (shiftT n 0 d t).fit
  | .mk k i nm ls ks, d, m, h, hf, hb => by
    simp only [Tm.ok, Tm.okN] at h
    simp only [Tm.fit] at hf
    simp only [Tm.size] at hb
    simp only [shiftT]
    by_cases hk : k = 0
    · obtain ⟨h1, h2, rfl, rfl, rfl⟩ := h.1.1 hk
      rw [if_pos hk]
      split
      · simp only [Tm.fit]; exact hf
      · simp only [vr, Tm.fit, Tm.fits]
        exact ⟨by simp, by simp, by omega, by omega, trivial⟩
    · rw [if_neg hk]
      simp only [Tm.fit]
      exact ⟨hf.1, hf.2.1, hf.2.2.1, hf.2.2.2.1, shiftL_fit hn ks d k m 0 h.2 hf.2.2.2.2 (by omega)⟩
theorem shiftL_fit {n : Int} (hn : 0 ≤ n) : ∀ (l : List Tm) (d k m : Int) (idx : Nat), Tm.oks m k idx l → Tm.fits l → m + n + 1 + Tm.sizes l ≤ 1099511627776 → Tm.fits (shiftL n 0 d k idx l)
  | [], _, _, _, _, _, _, _ => by simp only [shiftL, Tm.fits]
  | t :: ts, d, k, m, idx, h, hf, hb => by
    simp only [Tm.oks] at h
    simp only [Tm.fits] at hf
    simp only [Tm.sizes] at hb
    have hz := belowZ_01' k idx
    simp only [shiftL, Tm.fits]
    exact ⟨shift_fit hn t _ _ h.1 hf.1 (by omega), shiftL_fit hn ts d k m (idx + 1) h.2 hf.2 (by omega)⟩
end

theorem look_free {ctx : List Tm} (hlv : Tm.lvss ctx) (hf : Tm.fits ctx) (hb : fews5 0 1 ctx = true) (i : Nat) (hi : i < ctx.length) :
    ∃ q, resLook ctx i = (q, 0) ∧ q.fit ∧ q.size ≤ 120 ∧ ∀ x ∈ freeZ q, (i : Int) < x ∧ x < ctx.length := by
  obtain ⟨h1, h2⟩ := fews5_at hb
  have hj : ctx.length - 1 - i < ctx.length := by omega
  have hg : ctx[((ctx.length : Int) - 1 - i).toNat]? = some ctx[ctx.length - 1 - i] := by
    rw [show ((ctx.length : Int) - 1 - i).toNat = ctx.length - 1 - i by omega]
    exact List.getElem?_eq_getElem hj
  have h3 := few5_ok (by omega) (Tm.lvss_at hlv _ (List.getElem_mem hj)) (h2 _ hj)
  have h4 := Tm.fits_at hf _ (List.getElem_mem hj)
  generalize ctx[ctx.length - 1 - i] = t at hg h3 h4
  obtain ⟨m, hm⟩ : ∃ m : Int, m = 0 + 1 * ((ctx.length - 1 - i : Nat) : Int) := ⟨_, rfl⟩
  rw [← hm] at h3
  obtain ⟨hok, hs, hd⟩ := h3
  have hbad := shift_notbad ((i : Int) + 1) (by omega) t 0 m hok (by omega) (by omega)
  refine ⟨shiftT ((i : Int) + 1) 0 0 t, ?_, shift_fit (by omega) t 0 m hok h4 (by omega), by rw [shiftT_size _ 0 t 0 m hok]; exact hs, fun x hx => ?_⟩
  · unfold resLook
    rw [if_neg (by omega), hg]
    simp only [resRefShift]
    rw [if_neg (by omega), if_neg (by omega : ¬ (65536 : Int) < 0), if_neg (by simp [hbad])]
  · rw [mem_freeZ, frees_shift (by omega) t 0 m hok, List.mem_map] at hx
    obtain ⟨y, hy, rfl⟩ := hx
    have a1 := frees_pos t 0 y hy
    have a2 := frees_ok t 0 m hok y hy
    omega

theorem look_out (ctx : List Tm) (i : Int) (h : i < 0 ∨ (ctx.length : Int) ≤ i) : resLook ctx i = (zT, 24) := by unfold resLook; rw [if_pos h]

end Go.Proofs.Ytppgpabjcenjdaa
