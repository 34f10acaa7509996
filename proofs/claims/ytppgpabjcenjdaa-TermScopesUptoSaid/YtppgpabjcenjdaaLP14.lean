/-
  What Check accepts: greater scopes, the least scope.
-/
import Derived.Test.YtppgpabjcenjdaaLP10
import Derived.Test.YtppgpabjcenjdaaLP12
import Derived.Test.YtppgpabjcenjdaaLG1
namespace Go.Proofs.Ytppgpabjcenjdaa

open Go Go.AI

def oP (p : Int) (vs : List (Int × Int)) (j : Nat) : Bool := match vs[j]? with | some v => !(decide (0 ≤ v.1) && decide (p ≤ v.1)) | none => true

def oL (l : Int) (vs : List (Int × Int)) (j : Nat) : Bool := match vs[j]? with | some v => !(decide (v.1 < 0) && decide (l ≤ -1 - v.1)) | none => true

theorem levelZ_un (p l : Int) (x : Lv) : levelZ p l x = if validB x = false then 3 else if allTo (oP p x.vars) x.vars.length = false then 15 else if allTo (oL l x.vars) x.vars.length = false then 23 else 0 := rfl

theorem oP_iff (p : Int) (vs : List (Int × Int)) : allTo (oP p vs) vs.length = true ↔ ∀ v ∈ vs, ¬ (0 ≤ v.1 ∧ p ≤ v.1) := by
  rw [allTo_iff]
  constructor
  · intro h v hv
    obtain ⟨j, hj, rfl⟩ := List.getElem_of_mem hv
    have := h j hj
    rw [oP, List.getElem?_eq_getElem hj] at this
    simp at this; omega
  · intro h j hj
    have := h _ (List.getElem_mem hj)
    rw [oP, List.getElem?_eq_getElem hj]
    simp; omega

theorem oL_iff (l : Int) (vs : List (Int × Int)) : allTo (oL l vs) vs.length = true ↔ ∀ v ∈ vs, ¬ (v.1 < 0 ∧ l ≤ -1 - v.1) := by
  rw [allTo_iff]
  constructor
  · intro h v hv
    obtain ⟨j, hj, rfl⟩ := List.getElem_of_mem hv
    have := h j hj
    rw [oL, List.getElem?_eq_getElem hj] at this
    simp at this; omega
  · intro h j hj
    have := h _ (List.getElem_mem hj)
    rw [oL, List.getElem?_eq_getElem hj]
    simp; omega

theorem levelZ_zero (p l : Int) (x : Lv) : levelZ p l x = 0 ↔ validB x = true ∧ (∀ v ∈ x.vars, ¬ (0 ≤ v.1 ∧ p ≤ v.1)) ∧ ∀ v ∈ x.vars, ¬ (v.1 < 0 ∧ l ≤ -1 - v.1) := by
  rw [levelZ_un, ← oP_iff, ← oL_iff]
  cases validB x <;> cases allTo (oP p x.vars) x.vars.length <;> cases allTo (oL l x.vars) x.vars.length <;> simp

theorem levelZ_mono {p l p' l' : Int} (hp : p ≤ p') (hl : l ≤ l') {x : Lv} (h : levelZ p l x = 0) : levelZ p' l' x = 0 := by
  rw [levelZ_zero] at h ⊢
  refine ⟨h.1, fun v hv => ?_, fun v hv => ?_⟩
  · have := h.2.1 v hv; omega
  · have := h.2.2 v hv; omega

theorem headZ_mono {d v p m l v' p' m' l' k i : Int} {n : List UInt8} {ls : List Lv} (hv : v ≤ v') (hp : p ≤ p') (hm : m ≤ m') (hl : l ≤ l') (h : headZ d v p m l k i n ls = 0) : headZ d v' p' m' l' k i n ls = 0 := by
  rw [headZ_zero] at h ⊢
  obtain ⟨h1, h2, h3, h4, h5⟩ := h
  exact ⟨h1, h2, fun x hx => levelZ_mono hp hl (h3 x hx), fun hh => h4 ⟨hh.1, by omega⟩, fun hh => h5 ⟨hh.1, by omega⟩⟩

mutual
theorem chk_mono {v p m l v' p' m' l' : Int} (hv : v ≤ v') (hp : p ≤ p') (hm : m ≤ m') (hl : l ≤ l') : ∀ (t : Tm) (d : Int), chk v p m l d t = 0 → chk v' p' m' l' d t = 0
  | .mk k i n ls ks, d, h => by
    rw [chk_zero] at h ⊢
    exact ⟨h.1, headZ_mono hv hp hm hl h.2.1, chkL_mono hv hp hm hl ks k d 0 h.2.2⟩
theorem chkL_mono {v p m l v' p' m' l' : Int} (hv : v ≤ v') (hp : p ≤ p') (hm : m ≤ m') (hl : l ≤ l') : ∀ (ks : List Tm) (k d : Int) (idx : Nat), firstE (chkL v p m l k d idx ks) = 0 → firstE (chkL v' p' m' l' k d idx ks) = 0
  | [], _, _, _, _ => by simp [chkL, firstE]
  | t :: ts, k, d, idx, h => by
    simp only [chkL] at h ⊢
    obtain ⟨h1, h2⟩ := firstE_cons h
    simp only [firstE, chk_mono hv hp hm hl t _ h1, if_true]
    exact chkL_mono hv hp hm hl ts k d (idx + 1) h2
end

theorem headZ_two {d v p m l n k i : Int} {nm : List UInt8} {ls : List Lv} (hn : 0 ≤ n) (h : headZ d v p m l k i nm ls = 0) : headZ d n p m l k i nm ls = if k = 0 ∧ d ≤ i ∧ n ≤ i - d then 24 else 0 := by
  obtain ⟨h1, h2, h3, h4, h5⟩ := (headZ_zero _ _ _ _ _ _ _ _ _).1 h
  by_cases hc : k = 0 ∧ d ≤ i ∧ n ≤ i - d
  · rw [if_pos hc]
    have hf : firstE (ls.map (levelZ p l)) = 0 := by rw [firstE_zero]; simpa using h3
    unfold headZ
    rw [if_neg h1, if_neg h2, if_neg (by simp [hf]), if_pos ⟨hc.1, .inr hc.2.2⟩]
  · rw [if_neg hc, headZ_zero]
    refine ⟨h1, h2, h3, fun hh => ?_, h5⟩
    have : ¬ i < 0 := fun hi => h4 ⟨hh.1, .inl hi⟩
    rcases hh.2 with hi | hi
    · exact this hi
    · exact hc ⟨hh.1, by omega, hi⟩

mutual
/-- With fewer variables an accepted term is accepted, or lacks one. -/
theorem chk_two {v p m l n : Int} (hn : 0 ≤ n) : ∀ (t : Tm) (d : Int), chk v p m l d t = 0 → chk n p m l d t = if (frees d t).all (fun x => decide (x < n)) = true then 0 else 24
  | .mk k i nm ls ks, d, h => by
    obtain ⟨h1, h2, h3⟩ := (chk_zero _ _ _ _ _ _ _ _ _ _).1 h
    have hd := headZ_two hn h2
    have hk := chkL_two hn ks k d 0 h3
    simp only [chk, h1, Bool.true_eq_false, if_false, frees, List.all_append, Bool.and_eq_true]
    by_cases hc : k = 0 ∧ d ≤ i
    · rw [if_pos hc]
      by_cases hl : n ≤ i - d
      · rw [if_pos ⟨hc.1, hc.2, hl⟩] at hd
        rw [hd, if_pos (by decide), if_neg]
        intro hh
        have := hh.1
        simp at this
        omega
      · rw [if_neg (fun h => hl h.2.2)] at hd
        have : (List.all [i - d] fun x => decide (x < n)) = true := by simp; omega
        rw [hd, if_neg (by simp), hk]
        simp only [this, true_and]
    · rw [if_neg (fun h => hc ⟨h.1, h.2.1⟩)] at hd
      rw [if_neg hc, hd, if_neg (by simp), hk]
      simp only [List.all_nil, true_and]
theorem chkL_two {v p m l n : Int} (hn : 0 ≤ n) : ∀ (ks : List Tm) (k d : Int) (idx : Nat), firstE (chkL v p m l k d idx ks) = 0 → firstE (chkL n p m l k d idx ks) = if (freesL k d idx ks).all (fun x => decide (x < n)) = true then 0 else 24
  | [], _, _, _, _ => by simp [chkL, firstE, freesL]
  | t :: ts, k, d, idx, h => by
    simp only [chkL] at h ⊢
    obtain ⟨h1, h2⟩ := firstE_cons h
    have a1 := chk_two hn t (d + belowZ k idx) h1
    have a2 := chkL_two hn ts k d (idx + 1) h2
    simp only [firstE, freesL, List.all_append, Bool.and_eq_true]
    rw [a1, a2]
    by_cases hc : (frees (d + belowZ k idx) t).all (fun x => decide (x < n)) = true
    · rw [if_pos hc, if_pos rfl]
      simp only [hc, true_and]
    · rw [if_neg hc, if_neg (by simp), if_neg (fun h => hc h.1)]
end

/-- What an accepted term's parts say. -/
theorem checkZ_zero {v p m l : Int} {t : Tm} (h : checkZ v p m l t = 0) : chk (pos0 v) p m l 0 t = 0 ∧ ¬ 4096 < (t.size : Int) ∧ ¬ 200 < (t.depth : Int) := by
  unfold checkZ at h
  have e : (if v < 0 then 0 else v) = pos0 v := rfl
  rw [e] at h
  by_cases h1 : chk (pos0 v) p m l 0 t = 0
  · simp only [h1, ne_eq, not_true_eq_false, if_false] at h
    split at h
    · cases h
    · split at h
      · cases h
      · exact ⟨h1, by assumption, by assumption⟩
  · simp [h1] at h

theorem checkZ_of {v p m l e : Int} {t : Tm} (h1 : chk (pos0 v) p m l 0 t = e) (h2 : ¬ 4096 < (t.size : Int)) (h3 : ¬ 200 < (t.depth : Int)) : checkZ v p m l t = e := by
  unfold checkZ
  have e' : (if v < 0 then 0 else v) = pos0 v := rfl
  rw [e', h1]
  by_cases he : e = 0
  · rw [if_neg (by simp [he]), if_neg h2, if_neg h3, he]
  · rw [if_pos (by simpa using he)]

theorem pos0_of {n : Int} (h : 0 ≤ n) : pos0 n = n := by unfold pos0; rw [if_neg (by omega)]

theorem pos0_nn (n : Int) : 0 ≤ pos0 n := by unfold pos0; split <;> omega

theorem check_more {v p m l : Int} {t : Tm} (h : checkZ v p m l t = 0) {v' p' m' l' : Int} (hv : pos0 v ≤ v') (hp : pos0 p ≤ p') (hm : pos0 m ≤ m') (hl : pos0 l ≤ l') : checkZ v' p' m' l' t = 0 := by
  obtain ⟨h1, h2, h3⟩ := checkZ_zero h
  rw [← chk_pos] at h1
  have := pos0_nn v
  exact checkZ_of (chk_mono (by rw [pos0_of (by omega : 0 ≤ v')]; exact hv) hp hm hl t 0 h1) h2 h3

/-- The last one, -1 if there is none. -/
def lastZ (l : List Int) : Int := l.getLast?.getD (-1)

theorem lastZ_snoc (l : List Int) (x : Int) : lastZ (l ++ [x]) = x := by simp [lastZ]

theorem lastZ_cases (l : List Int) : (l = [] ∧ lastZ l = -1) ∨ lastZ l ∈ l := by
  rcases List.eq_nil_or_concat l with rfl | ⟨m, x, rfl⟩
  · exact .inl ⟨rfl, rfl⟩
  · exact .inr (by simp [lastZ])

theorem lastZ_le {l : List Int} (h : l.Pairwise (· < ·)) : ∀ x ∈ l, x ≤ lastZ l := by
  intro x hx
  rcases List.eq_nil_or_concat l with rfl | ⟨m, y, rfl⟩
  · cases hx
  · rw [List.concat_eq_append] at *
    rw [lastZ_snoc]
    rcases List.mem_append.1 hx with hx | hx
    · have := (List.pairwise_append.1 h).2.2 x hx y (by simp)
      omega
    · simp at hx; omega

theorem freeZ_nn (t : Tm) : ∀ x ∈ freeZ t, 0 ≤ x := fun x hx => frees_pos t 0 x ((mem_freeZ t x).1 hx)

theorem freeZ_lt {v p m l : Int} {t : Tm} (h : checkZ v p m l t = 0) : ∀ x ∈ freeZ t, x < v := by
  obtain ⟨h1, -, -⟩ := checkZ_zero h
  have h2 := chk_two (pos0_nn v) t 0 h1
  rw [h1] at h2
  have h3 : (frees 0 t).all (fun x => decide (x < pos0 v)) = true := by
    cases hq : (frees 0 t).all (fun x => decide (x < pos0 v)) with
    | true => rfl
    | false => rw [hq] at h2; cases h2
  intro x hx
  have hx' := (mem_freeZ t x).1 hx
  have := List.all_eq_true.1 h3 x hx'
  have h0 := frees_pos t 0 x hx'
  simp only [decide_eq_true_eq] at this
  unfold pos0 at this
  split at this <;> omega

theorem check_need {v p m l : Int} {t : Tm} (h : checkZ v p m l t = 0) : checkZ (lastZ (freeZ t) + 1) p m l t = 0 := by
  obtain ⟨h1, h2, h3⟩ := checkZ_zero h
  have hn : 0 ≤ lastZ (freeZ t) + 1 := by
    rcases lastZ_cases (freeZ t) with ⟨_, e⟩ | e
    · omega
    · have := freeZ_nn t _ e; omega
  refine checkZ_of ?_ h2 h3
  rw [pos0_of hn, chk_two hn t 0 h1, if_pos]
  rw [List.all_eq_true]
  intro x hx
  have := lastZ_le (asc_freeZ t) x ((mem_freeZ t x).2 hx)
  simp; omega

theorem check_less {v p m l : Int} {t : Tm} (h : checkZ v p m l t = 0) (hne : lastZ (freeZ t) + 1 ≠ 0) : checkZ (lastZ (freeZ t)) p m l t = 24 := by
  obtain ⟨h1, h2, h3⟩ := checkZ_zero h
  rcases lastZ_cases (freeZ t) with ⟨_, e⟩ | e
  · omega
  · have hn := freeZ_nn t _ e
    refine checkZ_of ?_ h2 h3
    rw [pos0_of hn, chk_two hn t 0 h1, if_neg]
    rw [List.all_eq_true]
    intro hh
    have := hh _ ((mem_freeZ t _).1 e)
    simp at this

theorem need_free (t : Tm) : ¬ (lastZ (freeZ t) + 1) ∈ freeZ t := fun h => by
  have := lastZ_le (asc_freeZ t) _ h
  omega

end Go.Proofs.Ytppgpabjcenjdaa
