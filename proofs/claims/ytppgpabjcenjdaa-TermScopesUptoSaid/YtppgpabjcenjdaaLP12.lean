/-
  Free variables: the reference's insertion; Occurs.
-/
import Derived.Test.YtppgpabjcenjdaaLP11
namespace Go.Proofs.Ytppgpabjcenjdaa

open Go Go.AI

/-- Something greater was seen. -/
def dnB (n : Int) (m : List Int) : Bool := m.any fun x => decide (n < x)

/-- What is put out so far. -/
def outF (n : Int) (m : List Int) : List Int := if dnB n m = true then ins1 n m else m

theorem dnB_snoc (n x : Int) (m : List Int) : dnB n (m ++ [x]) = (dnB n m || decide (n < x)) := by simp [dnB]

theorem ins1_snoc (n x : Int) : ∀ m : List Int, dnB n m = true → ins1 n (m ++ [x]) = ins1 n m ++ [x]
  | [], h => by simp [dnB] at h
  | y :: m, h => by
    simp only [List.cons_append, ins1]
    by_cases hy : n < y
    · simp [hy]
    · have h' : dnB n m = true := by simpa [dnB, hy] using h
      simp [hy, ins1_snoc n x m h']

theorem ins1_end (n : Int) : ∀ m : List Int, dnB n m = false → ins1 n m = m ++ [n]
  | [], _ => rfl
  | y :: m, h => by
    have h1 : ¬ n < y := by intro hy; simp [dnB, hy] at h
    have h' : dnB n m = false := by simpa [dnB, h1] using h
    simp [ins1, h1, ins1_end n m h']

theorem ins1_first (n x : Int) (hx : n < x) : ∀ m : List Int, dnB n m = false → ins1 n (m ++ [x]) = m ++ [n, x]
  | [], _ => by simp [ins1, hx]
  | y :: m, h => by
    have h1 : ¬ n < y := by intro hy; simp [dnB, hy] at h
    have h' : dnB n m = false := by simpa [dnB, h1] using h
    simp [ins1, h1, ins1_first n x hx m h']

theorem outF_first {n x : Int} {m : List Int} (hx : n < x) (h : dnB n m = false) : outF n (m ++ [x]) = outF n m ++ [n] ++ [x] := by
  simp [outF, dnB_snoc, h, hx, ins1_first n x hx m h]

theorem outF_next {n x : Int} {m : List Int} (hx : ¬ (n < x ∧ dnB n m = false)) : outF n (m ++ [x]) = outF n m ++ [x] := by
  unfold outF
  rw [dnB_snoc]
  cases h : dnB n m with
  | true => simp [ins1_snoc n x m h]
  | false =>
    have : ¬ n < x := fun h' => hx ⟨h', h⟩
    simp [this]

theorem ins1_len (n : Int) : ∀ m : List Int, (ins1 n m).length = m.length + 1
  | [] => rfl
  | y :: m => by
    simp only [ins1]
    split
    · simp
    · simp [ins1_len n m]

theorem outF_len (n : Int) (m : List Int) : (outF n m).length ≤ m.length + 1 := by
  unfold outF
  split
  · rw [ins1_len]; omega
  · omega

theorem add1_len (l : List Int) (n : Int) : (add1 l n).length ≤ l.length + 1 := by
  unfold add1
  split
  · omega
  · rw [ins1_len]; omega

theorem add1_fold_len (F : List Int) : ∀ l : List Int, (F.foldl add1 l).length ≤ l.length + F.length := by
  induction F with
  | nil => simp
  | cons x F ih =>
    intro l
    simp only [List.foldl_cons, List.length_cons]
    have := ih (add1 l x)
    have := add1_len l x
    omega

mutual
theorem frees_pos : ∀ (t : Tm) (d x : Int), x ∈ frees d t → 0 ≤ x
  | .mk k i _ _ ks, d, x, h => by
    simp only [frees, List.mem_append] at h
    rcases h with h | h
    · split at h
      · simp only [List.mem_singleton] at h; omega
      · cases h
    · exact freesL_pos ks k d 0 x h
theorem freesL_pos : ∀ (l : List Tm) (k d : Int) (idx : Nat) (x : Int), x ∈ freesL k d idx l → 0 ≤ x
  | [], _, _, _, _, h => by simp [freesL] at h
  | t :: ts, k, d, idx, x, h => by
    simp only [freesL, List.mem_append] at h
    rcases h with h | h
    · exact frees_pos t _ x h
    · exact freesL_pos ts k d (idx + 1) x h
end

theorem occHit_eq (ix d : Int) (k i : Int) (n : List UInt8) (ls : List Lv) (ks : List Tm) (h1 : -9223372036854775808 ≤ i) (h2 : i ≤ 9223372036854775807) (h0 : 0 ≤ d) :
    occHit ix d (.mk k i n ls ks) = decide (ix ∈ (if k = 0 ∧ d ≤ i then [i - d] else [])) := by
  simp only [occHit, Tm.kind, Tm.index]
  by_cases hd : d ≤ i
  · rw [wrap_id (n := i - d) (by omega) (by omega)]
    by_cases hk : k = 0
    · rw [if_pos ⟨hk, hd⟩, hk, Bool.eq_iff_iff]
      simp [hd]
      constructor <;> (intro h; omega)
    · simp [hk]
  · simp [hd]

mutual
theorem vis_occ (ix : Int) : ∀ (t : Tm) (d : Int), t.fit → 0 ≤ d → vis (stOcc ix) false d t = (decide (ix ∈ frees d t), !decide (ix ∈ frees d t))
  | .mk k i n ls ks, d, h, h0 => by
    simp only [Tm.fit] at h
    simp only [vis, stOcc, Bool.false_or, frees]
    rw [occHit_eq ix d k i n ls ks h.2.2.1 h.2.2.2.1 h0]
    by_cases hm : ix ∈ (if k = 0 ∧ d ≤ i then [i - d] else [])
    · simp [hm]
    · simp only [hm, decide_false, Bool.not_false, if_true, List.mem_append, false_or]
      exact visL_occ ix ks k d 0 h.2.2.2.2 h0
theorem visL_occ (ix : Int) : ∀ (l : List Tm) (k d : Int) (idx : Nat), Tm.fits l → 0 ≤ d → visL (stOcc ix) false k d idx l = (decide (ix ∈ freesL k d idx l), !decide (ix ∈ freesL k d idx l))
  | [], k, d, idx, _, _ => by simp [visL, freesL]
  | t :: ts, k, d, idx, h, h0 => by
    simp only [Tm.fits] at h
    have hb := belowZ_01' k idx
    simp only [visL, freesL]
    rw [vis_occ ix t (d + belowZ k idx) h.1 (by omega)]
    by_cases hm : ix ∈ frees (d + belowZ k idx) t
    · simp [hm]
    · simp only [hm, decide_false, Bool.not_false, if_true, List.mem_append, false_or]
      exact visL_occ ix ts k d (idx + 1) h.2 h0
end

/-- Occurs tells membership in Free. -/
theorem occB_free (ix : Int) (t : Tm) (h : t.fit) : occB ix t = decide (ix ∈ freeZ t) := by
  unfold occB
  have e : (ix ∈ freeZ t) = (ix ∈ frees 0 t) := propext (mem_freeZ t ix)
  by_cases h0 : ix < 0
  · have : ¬ ix ∈ frees 0 t := fun h' => by have := frees_pos t 0 ix h'; omega
    simp [h0, e, this]
  · rw [if_neg h0, vis_occ ix t 0 h (by omega)]
    simp only [e]

end Go.Proofs.Ytppgpabjcenjdaa
