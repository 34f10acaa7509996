/-
  The plain laws of taking apart and putting together: applications and function types.
-/
import Derived.Test.YtppgpabjcenjdaaT8
import Derived.Test.YtppgpabjcenjdaaV0
namespace Go.Proofs.Ytppgpabjcenjdaa
open Go Go.AI

mutual
/-- Every node's form is as its kind demands. -/
def Tm.fm : Tm → Prop
  | .mk k i n ls ks => formB (.mk k i n ls ks) = true ∧ Tm.fms ks
def Tm.fms : List Tm → Prop
  | [] => True
  | t :: ts => t.fm ∧ Tm.fms ts
end
mutual
theorem chk_fm (v p m l : Int) : ∀ (t : Tm) (d : Int), chk v p m l d t = 0 → t.fm
  | .mk k i n ls ks, d, h => by
    simp only [chk] at h
    simp only [Tm.fm]
    by_cases h1 : formB (.mk k i n ls ks) = false
    · rw [if_pos h1] at h; exact absurd h (by decide)
    rw [if_neg h1] at h
    by_cases h2 : headZ d v p m l k i n ls = 0
    · rw [if_neg (by simp [h2])] at h
      exact ⟨by simpa using h1, chkL_fm v p m l ks k d 0 h⟩
    · rw [if_pos h2] at h; exact absurd h h2
theorem chkL_fm (v p m l : Int) : ∀ (ks : List Tm) (k d : Int) (idx : Nat), firstE (chkL v p m l k d idx ks) = 0 → Tm.fms ks
  | [], _, _, _, _ => trivial
  | t :: ts, k, d, idx, h => by
    simp only [chkL] at h
    have h := firstE_cons h
    exact ⟨chk_fm v p m l t _ h.1, chkL_fm v p m l ts k d (idx + 1) h.2⟩
end
theorem few5_fm {vars : Int} {t : Tm} (h : few5 vars t = true) : t.fm := by
  simp only [few5, Bool.and_eq_true, decide_eq_true_eq, beq_iff_eq, checkZ] at h
  obtain ⟨_, h3⟩ := h
  generalize (if vars < 0 then 0 else vars) = w at h3
  by_cases hc : chk w 8 100 100 0 t = 0
  · exact chk_fm _ _ _ _ _ _ hc
  · rw [if_pos hc] at h3; exact absurd h3 hc
theorem fm_two {k i : Int} {n ls ks} (h : (Tm.mk k i n ls ks).fm) (hk : k = 4 ∨ k = 6) : ∃ a b, Tm.mk k i n ls ks = Tm.mk k 0 [] [] [a, b] ∧ a.fm ∧ b.fm := by
  simp only [Tm.fm, formB, formN, Bool.and_eq_true, Bool.not_eq_true', Bool.or_eq_false_iff, bne_eq_false_iff_eq, decide_eq_false_iff_not] at h
  obtain ⟨⟨⟨⟨⟨_, hks⟩, hi⟩, hn⟩, hls⟩, hf⟩ := h
  have h2 : kidsZ k = 2 := by unfold kidsZ; rw [if_pos (by omega)]
  rw [h2] at hks
  match ks, hks, hf with
  | [a, b], _, hf =>
    simp only [Tm.fms] at hf
    refine ⟨a, b, ?_, hf.1, hf.2.1⟩
    rcases hk with rfl | rfl
    · simp at hi hn hls; rw [hi, hn, hls]
    · simp at hi hn hls; rw [hi, hn, hls]
  | [], hks, _ => simp at hks
  | [_], hks, _ => simp at hks
  | _ :: _ :: _ :: _, hks, _ => simp at hks; omega
theorem isB_none {k : Int} {t : Tm} (h : t.fm) (hk : k = 4 ∨ k = 6) (hb : isB k t = none) : t.kind ≠ k := by
  obtain ⟨k', i, n, ls, ks⟩ := t
  intro e
  simp only [Tm.kind] at e
  subst e
  obtain ⟨a, b, e, _⟩ := fm_two h hk
  rw [e] at hb
  simp [isB] at hb
theorem isB_one {k : Int} {t a b : Tm} (h : t.fm) (hk : k = 4 ∨ k = 6) (hb : isB k t = some (a, b)) : t = .mk k 0 [] [] [a, b] ∧ a.fm ∧ b.fm := by
  obtain ⟨k', i, n, ls, ks⟩ := t
  match ks, hb with
  | [x, y], hb' =>
    simp only [isB] at hb'
    by_cases e : k' = k
    · rw [if_pos e] at hb'
      subst e
      injection hb' with hb'; injection hb' with h1 h2
      subst h1; subst h2
      obtain ⟨a, b, e, ha, hbf⟩ := fm_two h hk
      injection e with e1 e2 e3 e4 e5
      injection e5 with e6 e7
      injection e7 with e7 e8
      subst e6; subst e7; subst e2; subst e3; subst e4
      exact ⟨rfl, ha, hbf⟩
    · rw [if_neg e] at hb'; cases hb'
theorem spG_len' : ∀ (n : Nat) (t : Tm), (spG n t).2.length ≤ t.size
  | 0, t => by simp [spG]
  | n + 1, t => by
    simp only [spG]
    cases hb : isB 4 t with
    | none => simp
    | some p =>
      obtain ⟨f, a⟩ := p
      have := isB_size hb
      have := spG_len' n f
      simp; omega
theorem resSpine_len' (t : Tm) : (resSpine t).2.length ≤ t.size := spG_len' _ _
theorem applyT_snoc (t : Tm) (l : List Tm) (a : Tm) : applyT t (l ++ [a]) = appT (applyT t l) a := by
  simp [applyT]
theorem spG_apply : ∀ (n : Nat) (t : Tm), t.size ≤ n → t.fm → applyT (spG n t).1 (spG n t).2 = t ∧ (spG n t).1.fm ∧ isB 4 (spG n t).1 = none
  | 0, t, hs, _ => by have := t.size_pos; omega
  | n + 1, t, hs, h => by
    simp only [spG]
    cases hb : isB 4 t with
    | none => exact ⟨rfl, h, hb⟩
    | some p =>
      obtain ⟨f, a⟩ := p
      have := isB_size hb
      have := a.size_pos
      obtain ⟨e, hf, _⟩ := isB_one h (.inl rfl) hb
      have ih := spG_apply n f (by omega) hf
      simp only
      rw [applyT_snoc, ih.1]
      exact ⟨e.symm, ih.2⟩
/-- A term is its head applied to its arguments. -/
theorem spine_apply {t : Tm} (h : t.fm) : applyT (resSpine t).1 (resSpine t).2 = t ∧ (resSpine t).1.kind ≠ 4 := by
  have := spG_apply t.size t (Nat.le_refl _) h
  exact ⟨this.1, isB_none this.2.1 (.inl rfl) this.2.2⟩
/-- What was applied is taken apart again. -/
theorem apply_spine {t : Tm} (h : isB 4 t = none) (l : List Tm) : resSpine (applyT t l) = (t, l) := by
  have : ∀ (n : Nat) (l : List Tm), l.length = n → resSpine (applyT t l) = (t, l) := by
    intro n
    induction n with
    | zero => intro l hl; rw [List.length_eq_zero_iff] at hl; subst hl; exact resSpine_end h
    | succ n ih =>
      intro l hl
      obtain ⟨m, a, rfl⟩ : ∃ m a, l = m ++ [a] := ⟨l.dropLast, l.getLast (by intro h0; simp [h0] at hl), (List.dropLast_concat_getLast _).symm⟩
      rw [applyT_snoc, resSpine_step (f := applyT t m) (a := a) (by simp [appT, isB]), ih m (by simpa using hl)]
  exact this _ l rfl
theorem openA_bind (t : Tm) : ∀ (ctx acc : List Tm), openA ctx.length acc (bindT 6 ctx t) = (acc ++ ctx, t, 0)
  | [], acc => by simp [openA, bindT]
  | a :: l, acc => by
    have e : bindT 6 (a :: l) t = .mk 6 0 [] [] [a, bindT 6 l t] := rfl
    rw [e, List.length_cons, openA]
    have hb : isB 6 (.mk 6 0 [] [] [a, bindT 6 l t]) = some (a, bindT 6 l t) := by simp [isB]
    rw [hb]
    simp only
    rw [openA_bind t l]
    simp
/-- Function types are opened as they were bound. -/
theorem open_bind (ctx : List Tm) (t : Tm) : resOpen (bindT 6 ctx t) ctx.length = (ctx, t, 0) := by
  unfold resOpen
  rw [if_neg (by omega), Int.toNat_natCast, openA_bind]
  simp
theorem bindT_snoc (k : Int) (l : List Tm) (a t : Tm) : bindT k (l ++ [a]) t = bindT k l (.mk k 0 [] [] [a, t]) := by
  simp [bindT]
theorem allF_bind : ∀ (n : Nat) (acc : List Tm) (t : Tm), t.size ≤ n → t.fm → bindT 6 (allF 6 n acc t).1 (allF 6 n acc t).2 = bindT 6 acc t ∧ (allF 6 n acc t).2.fm ∧ isB 6 (allF 6 n acc t).2 = none
  | 0, acc, t, hs, _ => by have := t.size_pos; omega
  | n + 1, acc, t, hs, h => by
    simp only [allF]
    cases hb : isB 6 t with
    | none => exact ⟨rfl, h, hb⟩
    | some p =>
      obtain ⟨a, b⟩ := p
      have := isB_size hb
      have := a.size_pos
      obtain ⟨e, ha, hb'⟩ := isB_one h (.inr rfl) hb
      have ih := allF_bind n (acc ++ [a]) b (by omega) hb'
      simp only
      rw [ih.1, bindT_snoc, ← e]
      exact ⟨rfl, ih.2⟩
theorem bind_fm (t : Tm) (h : t.fm) : ∀ (ctx : List Tm), (∀ u ∈ ctx, u.fm) → (bindT 6 ctx t).fm
  | [], _ => h
  | a :: l, hc => by
    have e : bindT 6 (a :: l) t = .mk 6 0 [] [] [a, bindT 6 l t] := rfl
    rw [e]
    simp only [Tm.fm, Tm.fms]
    exact ⟨by simp [formB, formN, kidsZ], hc a (by simp), bind_fm t h l (fun u hu => hc u (by simp [hu])), trivial⟩
/-- All binders taken off and put back. -/
theorem all_bind {t : Tm} (h : t.fm) : bindT 6 (resAll t).1 (resAll t).2 = t ∧ (resAll t).2.kind ≠ 6 := by
  have := allF_bind t.size [] t (Nat.le_refl _) h
  exact ⟨by simpa [bindT, resAll] using this.1, isB_none this.2.1 (.inr rfl) this.2.2⟩
theorem allF_acc : ∀ (n : Nat) (acc : List Tm) (t : Tm), acc.length ≤ (allF 6 n acc t).1.length
  | 0, acc, t => by simp [allF]
  | n + 1, acc, t => by
    simp only [allF]
    cases hb : isB 6 t with
    | none => exact Nat.le_refl _
    | some p =>
      obtain ⟨a, b⟩ := p
      have := allF_acc n (acc ++ [a]) b
      simp at this ⊢; omega
theorem allF_len (t : Tm) : ∀ (ctx : List Tm) (n : Nat) (acc : List Tm), (bindT 6 ctx t).size ≤ n → acc.length + ctx.length ≤ (allF 6 n acc (bindT 6 ctx t)).1.length
  | [], n, acc, _ => by simpa using allF_acc n acc _
  | a :: l, 0, acc, h => by have := (bindT 6 (a :: l) t).size_pos; omega
  | a :: l, n + 1, acc, h => by
    have e : bindT 6 (a :: l) t = .mk 6 0 [] [] [a, bindT 6 l t] := rfl
    rw [e] at h ⊢
    have hb : isB 6 (.mk 6 0 [] [] [a, bindT 6 l t]) = some (a, bindT 6 l t) := by simp [isB]
    simp only [Tm.size, Tm.sizes] at h
    rw [allF, hb]
    simp only
    have := allF_len t l n (acc ++ [a]) (by have := a.size_pos; omega)
    simp at this ⊢; omega
theorem all_len (ctx : List Tm) (t : Tm) : ctx.length ≤ (resAll (bindT 6 ctx t)).1.length := by
  have := allF_len t ctx _ [] (Nat.le_refl _)
  simpa [resAll] using this

end Go.Proofs.Ytppgpabjcenjdaa
