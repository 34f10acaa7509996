/-
  Regions that draw their order and make blocks whose places in the order are open: all orders come to the same.
-/
import Derived.Test.YtplomildbmcmfaaGreatBEVn

namespace Go.AI.EV

open Go Go.AI
theorem getD_pre {α : Type} {l l' : List α} {d : α} (h : l <+: l') {i : Nat} (hi : i < l.length) : l'.getD i d = l.getD i d := by
  obtain ⟨t, rfl⟩ := h
  simp [List.getD, List.getElem?_append_left hi]

section

variable {P : Program} {cf : CallF} {ops : Array Oper} {p : Pl} {N j : Nat} {T0 : List AV}
theorem TnF_pre {xs xs' : List AV} (h : xs <+: xs') {i : Nat} (hi : i ≤ xs.length) : TnF ops T0 xs' (fun j => decide (j < i)) = TnF ops T0 xs fun j => decide (j < i) := by
  unfold TnF
  refine List.map_congr_left fun q _ => ?_
  unfold valAt
  split
  · rename_i k hk
    split
    · rename_i hlt
      rw [getD_pre h (by have := of_decide_eq_true hlt; omega)]
    · rfl
  · rfl

inductive Spec (P : Program) (cf : CallF) (ops : Array Oper) (p : Pl) (N j : Nat) (T0 : List AV) (R : RS) (i : Nat) : Prop where
  | off (o : Oper) (ho : ops[i]? = some o) (hf : p.fl.contains i = false) (hw : awanted ops (TnF ops T0 R.xs fun j => decide (j < i)) o = some false) (hx : R.xs.getD i .junk = .tup [])
      (hH : p.chain ops i = true → R.HS.getD (cnt ops p (fun j => decide (j < i)) + 1) [] = R.HS.getD (cnt ops p fun j => decide (j < i)) [])
  | flt (o : Oper) (ho : ops[i]? = some o) (k : Nat) (cs : List AV) (hf : p.fl[k]? = some i) (hw : awanted ops (TnF ops T0 R.xs fun j => decide (j < i)) o = some true)
      (hx : fobj P (aev (TnF ops T0 R.xs fun j => decide (j < i))) (N + k) o.op = some (R.xs.getD i .junk, cs)) (hi : R.inits.getD k .dead = .cells cs)
  | ch (o : Oper) (ho : ops[i]? = some o) (hf : p.fl.contains i = false) (hw : awanted ops (TnF ops T0 R.xs fun j => decide (j < i)) o = some true) (hc : p.chain ops i = true) (H' : HX)
      (hx : evR1 P cf (N + p.pc i) o (TnF ops T0 R.xs fun j => decide (j < i)) (gfill N R.inits (p.pc i) (R.HS.getD (cnt ops p fun j => decide (j < i)) [])) j = some (R.xs.getD i .junk, H'))
      (hH : R.HS.getD (cnt ops p (fun j => decide (j < i)) + 1) [] = H' ++ (R.HS.getD (cnt ops p fun j => decide (j < i)) []).drop (N + p.pc i)) (ha : (H'.drop N).all alive = true)
  | rd (o : Oper) (ho : ops[i]? = some o) (hf : p.fl.contains i = false) (hw : awanted ops (TnF ops T0 R.xs fun j => decide (j < i)) o = some true) (hc : p.chain ops i = false) (G H' : HX)
      (hx : evR1 P cf (N + p.pc i) o (TnF ops T0 R.xs fun j => decide (j < i)) G j = some (R.xs.getD i .junk, H')) (hp : (i, TnF ops T0 R.xs (fun j => decide (j < i)), o.op, R.xs.getD i .junk) ∈ R.pend)
theorem gfill_pre {inits inits' : List XO} (h : inits <+: inits') {k : Nat} (hk : k ≤ inits.length) (V : HX) : gfill N inits' k V = gfill N inits k V := by
  unfold gfill
  congr 1
  refine List.map_congr_left fun q hq => ?_
  have hq := List.mem_range.1 hq
  unfold flo
  rw [getD_pre h (by omega)]
theorem below_succ (i : Nat) : (fun j => decide (j < i) || j == i) = fun j => decide (j < i + 1) := by
  funext j
  rw [Bool.eq_iff_iff]
  simp only [Bool.or_eq_true, decide_eq_true_eq, beq_iff_eq]
  omega
theorem pre_app {α : Type} (l : List α) (x : α) : l <+: l ++ [x] := List.prefix_append l [x]
theorem regLoop_spec (hk : OkR ops p) : ∀ (n : Nat) (i : Nat) (T : List AV) (V : HX) (xs : List AV) (HS : List HX) (inits : List XO) (pend : List (Nat × List AV × Op × AV)) (R : RS), i + n = ops.size → xs.length = i → T = TnF ops T0 xs (fun j => decide (j < i)) →
    HS.length = cnt ops p (fun j => decide (j < i)) + 1 → HS.getD (cnt ops p fun j => decide (j < i)) [] = V → regLoop P cf ops p N j (List.range' i n) T V xs HS inits pend = some R →
    xs <+: R.xs ∧ HS <+: R.HS ∧ inits <+: R.inits ∧ (∀ e ∈ pend, e ∈ R.pend) ∧ R.T = TnF ops T0 R.xs (fun j => decide (j < ops.size)) ∧ R.xs.length = ops.size ∧ R.HS.length = cnt ops p (fun j => decide (j < ops.size)) + 1 ∧ ∀ a, i ≤ a → a < ops.size → Spec P cf ops p N j T0 R a
  | 0, i, T, V, xs, HS, inits, pend, R, hn, hxs, hT, hHS, hV, h => by
    simp only [List.range'_zero, regLoop, Option.some.injEq] at h
    subst h
    have : i = ops.size := by omega
    subst this
    exact ⟨List.prefix_refl _, List.prefix_refl _, List.prefix_refl _, fun _ h => h, hT, hxs, hHS, fun a h1 h2 => by omega⟩
  | n + 1, i, T, V, xs, HS, inits, pend, R, hn, hxs, hT, hHS, hV, h => by
    have hi : i < ops.size := by omega
    simp only [List.range'_succ, regLoop] at h
    split at h
    · cases h
    · rename_i o ho
      have cN : ∀ b, p.chain ops i = b → cnt ops p (fun j => decide (j < i + 1)) = cnt ops p (fun j => decide (j < i)) + (if b = true then 1 else 0) := by
        intro b hb
        rw [← below_succ i]
        cases b with
        | true => rw [if_pos rfl]; exact cnt_add hi (by simp) hb
        | false => rw [if_neg (by simp)]; exact cnt_same hb
      have tN : ∀ x, tput T o.dst x = TnF ops T0 (xs ++ [x]) (fun j => decide (j < i + 1)) := by
        intro x
        rw [← below_succ i, TnF_put hk ho, TnF_pre (pre_app xs x) (by omega), hT]
        congr 1
        simp [List.getD, ← hxs]
      have xN : ∀ {x : AV} {R : RS}, (xs ++ [x]) <+: R.xs → R.xs.getD i .junk = x := by
        intro x R h
        rw [getD_pre h (by simp; omega)]
        simp [List.getD, ← hxs]
      have tR : ∀ {x : AV} {R : RS}, (xs ++ [x]) <+: R.xs → TnF ops T0 R.xs (fun j => decide (j < i)) = T := by
        intro x R h
        rw [hT, TnF_pre ((pre_app xs x).trans h) (by omega)]
      have vR : ∀ {R : RS}, HS <+: R.HS → R.HS.getD (cnt ops p fun j => decide (j < i)) [] = V := by
        intro R h
        rw [getD_pre h (by omega)]; exact hV
      split at h
      · cases h
      · rename_i hw
        split at h
        · cases h
        · rename_i hf
          have hf : p.fl.contains i = false := by simpa using hf
          by_cases hc : p.chain ops i = true
          · rw [if_pos hc] at h
            obtain ⟨r1, r2, r3, r4, r5, r6, r7, r8⟩ := regLoop_spec hk n (i + 1) _ V _ (HS ++ [V]) _ _ R (by omega) (by simp [hxs]) (tN _) (by rw [cN true hc, List.length_append, hHS]; rfl)
              (by rw [cN true hc, if_pos rfl, ← hHS]; simp [List.getD]) h
            refine ⟨(pre_app _ _).trans r1, (pre_app _ _).trans r2, r3, r4, r5, r6, r7, fun a h1 h2 => ?_⟩
            rcases Nat.eq_or_lt_of_le h1 with rfl | h1
            · refine .off o ho hf (by rw [tR r1]; exact hw) (xN r1) fun _ => ?_
              rw [vR ((pre_app _ _).trans r2), getD_pre r2 (by simp; omega), ← hHS]
              simp [List.getD]
            · exact r8 a h1 h2
          · rw [if_neg hc] at h
            have hc' : p.chain ops i = false := by simpa using hc
            obtain ⟨r1, r2, r3, r4, r5, r6, r7, r8⟩ := regLoop_spec hk n (i + 1) _ V _ HS _ _ R (by omega) (by simp [hxs]) (tN _) (by rw [cN false hc', hHS]; rfl) (by rw [cN false hc']; exact hV) h
            refine ⟨(pre_app _ _).trans r1, r2, r3, r4, r5, r6, r7, fun a h1 h2 => ?_⟩
            rcases Nat.eq_or_lt_of_le h1 with rfl | h1
            · exact .off o ho hf (by rw [tR r1]; exact hw) (xN r1) fun q => absurd q hc
            · exact r8 a h1 h2
      · rename_i hw
        split at h
        · rename_i hf
          have hnc : p.chain ops i = false := by unfold Pl.chain; rw [ho]; simp only [hf, Bool.not_true, Bool.and_false]
          split at h
          · rename_i x cs hx
            split at h
            · rename_i hfl
              obtain ⟨r1, r2, r3, r4, r5, r6, r7, r8⟩ := regLoop_spec hk n (i + 1) _ V _ HS _ _ R (by omega) (by simp [hxs]) (tN _) (by rw [cN false hnc, hHS]; rfl) (by rw [cN false hnc]; exact hV) h
              refine ⟨(pre_app _ _).trans r1, r2, (pre_app _ _).trans r3, r4, r5, r6, r7, fun a h1 h2 => ?_⟩
              rcases Nat.eq_or_lt_of_le h1 with rfl | h1
              · refine .flt o ho inits.length cs hfl (by rw [tR r1]; exact hw) (by rw [tR r1, xN r1]; exact hx) ?_
                rw [getD_pre r3 (by simp)]
                simp [List.getD]
              · exact r8 a h1 h2
            · cases h
          · cases h
        · rename_i hf
          have hf : p.fl.contains i = false := by simpa using hf
          split at h
          · rename_i x H' hx
            split at h
            · rename_i hpc
              split at h
              · rename_i hc
                split at h
                · rename_i ha
                  obtain ⟨r1, r2, r3, r4, r5, r6, r7, r8⟩ := regLoop_spec hk n (i + 1) _ _ _ (HS ++ [H' ++ V.drop (N + p.pc i)]) _ _ R (by omega) (by simp [hxs]) (tN _) (by rw [cN true hc, List.length_append, hHS]; rfl)
                    (by rw [cN true hc, if_pos rfl, ← hHS]; simp [List.getD]) h
                  refine ⟨(pre_app _ _).trans r1, (pre_app _ _).trans r2, r3, r4, r5, r6, r7, fun a h1 h2 => ?_⟩
                  rcases Nat.eq_or_lt_of_le h1 with rfl | h1
                  · refine .ch o ho hf (by rw [tR r1]; exact hw) hc H' (by rw [tR r1, xN r1, vR ((pre_app _ _).trans r2), gfill_pre r3 hpc]; exact hx) ?_ ha
                    rw [vR ((pre_app _ _).trans r2), getD_pre r2 (by simp; omega), ← hHS]
                    simp [List.getD]
                  · exact r8 a h1 h2
                · cases h
              · rename_i hc
                have hc' : p.chain ops i = false := by simpa using hc
                obtain ⟨r1, r2, r3, r4, r5, r6, r7, r8⟩ := regLoop_spec hk n (i + 1) _ V _ HS _ _ R (by omega) (by simp [hxs]) (tN _) (by rw [cN false hc', hHS]; rfl) (by rw [cN false hc']; exact hV) h
                refine ⟨(pre_app _ _).trans r1, r2, r3, fun e he => r4 e (List.mem_append_left _ he), r5, r6, r7, fun a h1 h2 => ?_⟩
                rcases Nat.eq_or_lt_of_le h1 with rfl | h1
                · refine .rd o ho hf (by rw [tR r1]; exact hw) hc' _ H' (by rw [tR r1, xN r1]; exact hx) ?_
                  rw [tR r1, xN r1]
                  exact r4 _ (List.mem_append_right _ (List.mem_singleton.2 rfl))
                · exact r8 a h1 h2
            · cases h
          · cases h

end

section

variable {ops : Array Oper} {p : Pl} {N : Nat} {HS : List HX} {inits : List XO}
theorem drop_HnF {S S' : Nat → Bool} {m : Nat} {V V' : HX} (hl : N ≤ V.length) (hl' : N ≤ V'.length) (hV : HS.getD (cnt ops p S) [] = V) (hV' : HS.getD (cnt ops p S') [] = V') (hS : ∀ k, m ≤ k → k < p.fl.length → S' (p.fl.getD k 0) = S (p.fl.getD k 0)) (he : ∀ k, m ≤ k → V'.getD (N + k) .dead = V.getD (N + k) .dead) :
    (HnF ops p N HS inits S').drop (N + m) = (HnF ops p N HS inits S).drop (N + m) := by
  unfold HnF
  rw [hV, hV']
  have key : ∀ (W F : HX), N ≤ W.length → (W.take N ++ F).drop (N + m) = F.drop m := by
    intro W F hW
    have e : (W.take N).length = N := by rw [List.length_take, Nat.min_eq_left hW]
    rw [List.drop_append, e, List.drop_eq_nil_of_le (by rw [e]; omega), show N + m - N = m by omega, List.nil_append]
  rw [key _ _ hl, key _ _ hl']
  apply List.ext_getElem?
  intro q
  rw [List.getElem?_drop, List.getElem?_drop, List.getElem?_map, List.getElem?_map]
  by_cases l : m + q < p.fl.length
  · rw [List.getElem?_range l, Option.map_some, Option.map_some]
    congr 1
    rw [hS (m + q) (by omega) l]
    split
    · unfold flo
      rw [he (m + q) (by omega)]
    · rfl
  · rw [List.getElem?_eq_none (by rw [List.length_range]; omega)]
    rfl

end

end Go.AI.EV
