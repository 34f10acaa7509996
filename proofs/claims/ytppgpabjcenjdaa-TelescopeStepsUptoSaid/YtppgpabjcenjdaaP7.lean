/-
  The plain law of TelescopeSteps.
-/
import Derived.Test.YtppgpabjcenjdaaP6
namespace Go.Proofs.Ytppgpabjcenjdaa
open Go Go.AI

/-- The function type behind j arguments. -/
def stepT (ctx : List Tm) (t : Tm) (args : List Tm) (j : Nat) : Tm := subT (args.take j).reverse 0 (bindT 6 (ctx.drop j) t)
def stepB (ctx : List Tm) (t : Tm) (args : List Tm) (j : Nat) : Tm := subT (args.take j).reverse 1 (bindT 6 (ctx.drop (j + 1)) t)

theorem stepT_at {ctx : List Tm} {t : Tm} {args : List Tm} {j : Nat} (hj : j < ctx.length) : ∃ A, stepT ctx t args j = .mk 6 0 [] [] [A, stepB ctx t args j] := by
  unfold stepT stepB
  rw [List.drop_eq_getElem_cons hj]
  exact ⟨_, sub_bind _ _ _ _⟩
theorem bind_okJ {ctx : List Tm} {t : Tm} (ht : t.ok (4 + ctx.length)) (hc : ∀ (j : Nat) (hj : j < ctx.length), ctx[j].ok (4 + j)) (j : Nat) (hj : j ≤ ctx.length) : (bindT 6 (ctx.drop j) t).ok (4 + j) := by
  refine bind_ok t _ _ (by omega) ?_ ?_
  · rw [List.length_drop]
    rw [show (4 : Int) + j + ((ctx.length - j : Nat) : Int) = 4 + ctx.length by omega]; exact ht
  · intro i hi
    rw [List.length_drop] at hi
    rw [List.getElem_drop]
    have := hc (j + i) (by omega)
    rw [show (4 : Int) + j + i = 4 + ((j + i : Nat) : Int) by omega]; exact this
theorem stepT_zero {ctx : List Tm} {t : Tm} {args : List Tm} (ht : t.ok (4 + ctx.length)) (hc : ∀ (j : Nat) (hj : j < ctx.length), ctx[j].ok (4 + j)) : stepT ctx t args 0 = bindT 6 ctx t := by
  unfold stepT
  have := bind_okJ ht hc 0 (by omega)
  rw [List.drop_zero] at this ⊢
  simpa using sub_nil _ 0 _ this
theorem stepT_last {ctx : List Tm} {t : Tm} {args : List Tm} (hl : args.length = ctx.length) : stepT ctx t args ctx.length = subT args.reverse 0 t := by
  unfold stepT
  rw [List.drop_length, ← hl, List.take_length]
  rfl
theorem stepB_ok {ctx : List Tm} {t : Tm} {args : List Tm} (ht : t.ok (4 + ctx.length)) (hc : ∀ (j : Nat) (hj : j < ctx.length), ctx[j].ok (4 + j)) (ha : ∀ v ∈ args, v.ok 4) (hl : args.length = ctx.length) {j : Nat} (hj : j < ctx.length) : (stepB ctx t args j).ok 5 := by
  have hb := bind_okJ ht hc (j + 1) (by omega)
  unfold stepB
  have hlen : (args.take j).reverse.length = j := by simp; omega
  exact sub_tight _ 4 (by omega) (fun v hv => ha v (List.mem_of_mem_take (by simpa using hv))) _ 1 (by rw [hlen, show (4 : Int) + j + 1 = 4 + ((j + 1 : Nat) : Int) by omega]; exact hb) (by omega)
/-- One step: an argument is put in. -/
theorem step_one {ctx : List Tm} {t : Tm} {args : List Tm} (ht : t.ok (4 + ctx.length)) (hc : ∀ (j : Nat) (hj : j < ctx.length), ctx[j].ok (4 + j)) (ha : ∀ v ∈ args, v.ok 4 ∧ v.size ≤ 120) (hl : args.length = ctx.length) {j : Nat} (hj : j < ctx.length) {a : Tm} (hg : args[j]? = some a) (hs : (stepB ctx t args j).size ≤ 4096) :
    (resRefUnder (stepB ctx t args j) [a] 0).2 = 5 ∨ (resRefUnder (stepB ctx t args j) [a] 0).2 = 7 ∨ ((resRefUnder (stepB ctx t args j) [a] 0).2 = 0 ∧ (resRefUnder (stepB ctx t args j) [a] 0).1 = stepT ctx t args (j + 1) ∧ (stepT ctx t args (j + 1)).size ≤ 4096) := by
  have hok := stepB_ok ht hc (fun v hv => (ha v hv).1) hl hj
  have hm := ha a (List.mem_of_getElem? hg)
  rw [resRef_plain _ _ 0 (by omega)]
  have h0 : capD 0 = 0 := by simp [capD]
  rw [h0]
  have hnb : subBad [a] 0 (stepB ctx t args j) = false := sub_notbad [a] 4 120 (fun v hv => by simp at hv; subst hv; exact hm) _ 0 5 hok (by omega) (by omega) (by omega)
  have hsz := (resSub_ok (stepB ctx t args j) [a] 0 (by omega) (fun v hv => by simp at hv; subst hv; exact ok_mono _ _ _ hm.1 (by omega)) (ok_mono _ _ _ hok (by omega))).2
  rcases resSub_err (vs := [a]) (d := 0) hnb with e | e | ⟨e, e2⟩
  · exact .inl e
  · exact .inr (.inl e)
  · refine .inr (.inr ⟨e, ?_⟩)
    have hst : subT [a] 0 (stepB ctx t args j) = stepT ctx t args (j + 1) := by
      unfold stepB stepT
      have hb := bind_okJ ht hc (j + 1) (by omega)
      rw [show (1 : Int) = 0 + 1 by omega, sub_step a _ 4 (fun v hv => (ha v (List.mem_of_mem_take (by simpa using hv))).1) _ 0 _ hb (by omega)]
      congr 1
      obtain ⟨hlt, rfl⟩ := List.getElem?_eq_some_iff.1 hg
      rw [List.take_succ_eq_append_getElem hlt, List.reverse_append]
      rfl
    rw [e2] at hsz
    rw [e2, hst]
    exact ⟨rfl, by rw [← hst]; exact hsz⟩

mutual
theorem shiftN_notbad (n : Int) (hn : 0 ≤ n) : ∀ (x : Tm) (c m : Int), x.ok m → 0 ≤ c → m + n + x.size ≤ 65536 → shiftBad n n c x = false
  | .mk k i nm ls ks, c, m, h, hc, hs => by
    simp only [Tm.ok, Tm.okN] at h
    simp only [Tm.size] at hs
    by_cases hk : k = 0
    · obtain ⟨h1, h2, rfl, rfl, rfl⟩ := h.1.1 hk
      subst hk
      simp only [shiftBad, if_true]
      simp; omega
    · simp only [shiftBad, hk, if_false]
      exact shiftNL_notbad n hn ks c k m 0 h.2 hc (by omega)
theorem shiftNL_notbad (n : Int) (hn : 0 ≤ n) : ∀ (l : List Tm) (c k m : Int) (idx : Nat), Tm.oks m k idx l → 0 ≤ c → m + n + 1 + Tm.sizes l ≤ 65536 → shiftBads n n c k idx l = false
  | [], _, _, _, _, _, _, _ => rfl
  | t :: ts, c, k, m, idx, h, hc, hs => by
    simp only [Tm.oks] at h
    simp only [Tm.sizes] at hs
    have hz := belowZ_01' k idx
    have htp := t.size_pos
    simp only [shiftBads]
    rw [shiftN_notbad n hn t (c + belowZ k idx) _ h.1 (by omega) (by omega), shiftNL_notbad n hn ts c k m (idx + 1) h.2 hc (by omega)]
    rfl
end
/-- Shifted beyond the context: no error. -/
theorem shiftN_res {t : Tm} {m : Int} (n : Nat) (hn : n ≤ 100) (h : t.ok m) (hm : m ≤ 1000) (hs : t.size ≤ 120) : resShift n n t = (shiftT n n 0 t, 0) := by
  rw [res_shift _ _ _ (ok_mono _ _ _ h (by omega))]
  have hc : (if 65536 < (n : Int) then 65536 else (n : Int)) = n := by rw [if_neg (by omega)]
  have hb : shiftBad n n 0 t = false := shiftN_notbad n (by omega) t 0 m h (by omega) (by omega)
  simp only [resRefShift]
  rw [if_neg (by omega), hc, hb]
  simp
/-- The variables put in again: no error. -/
theorem varsN_res {t : Tm} {m : Int} (n : Nat) (vs : List Tm) (hl : vs.length = n) (hv : ∀ q : Nat, q < n → vs[q]? = some (vr q)) (hn : n ≤ 100) (h : t.ok m) (hm : m ≤ 1000) (hs : t.size ≤ 120) (hd : t.depth ≤ 100) : resRefUnder (shiftT n n 0 t) vs 0 = (t, 0) := by
  rw [resRef_plain _ _ 0 (by omega)]
  have h0 : capD 0 = 0 := by simp [capD]
  rw [h0]
  obtain ⟨e1, e2⟩ := sub_vars n vs hl hv t 0 m h (by omega) (by omega)
  have hso : (shiftT n n 0 t).ok 65536 := shiftT_ok n n (by omega) t 0 65536 m h (by omega) (by omega) (by omega) (shiftN_notbad n (by omega) t 0 m h (by omega) (by omega))
  have hvo : ∀ v ∈ vs, v.ok 65536 := fun v hv' => by
    obtain ⟨q, hq, rfl⟩ := List.getElem_of_mem hv'
    have := hv q (by omega)
    rw [List.getElem?_eq_getElem hq] at this
    injection this with this
    rw [this]
    simp only [vr, Tm.ok, Tm.okN, Tm.oks]
    exact ⟨⟨fun _ => ⟨by omega, by omega, trivial, trivial, trivial⟩, by simp, by simp, by simp⟩, trivial⟩
  have hc := (subT_ok vs hvo _ 0 65536 hso (by omega) (by omega) e2).2
  rw [e1] at hc
  unfold resSub
  rw [if_neg (by omega), e2, e1]
  simp only [Bool.false_eq_true, if_false]
  rw [if_neg (by omega)]

end Go.Proofs.Ytppgpabjcenjdaa
