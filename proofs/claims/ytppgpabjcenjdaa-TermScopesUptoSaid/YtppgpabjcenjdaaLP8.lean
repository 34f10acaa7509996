/-
  Checking node by node in preorder finds the first error of the reference's check; numbers below zero count as zero; names.
-/
import Derived.Test.YtppgpabjcenjdaaLK1
import Derived.Test.YtppgpabjcenjdaaLE4
namespace Go.Proofs.Ytppgpabjcenjdaa

open Go Go.AI

/-- The error of a node. -/
def nodeZ (v p m l : Int) (d : Int) : Tm → Int
  | .mk k i n ls ks => if formB (.mk k i n ls ks) = false then 3 else headZ d v p m l k i n ls

/-- A node is checked, and counted. -/
def stChk (v p m l : Int) (s : Int × Int) (d : Int) (u : Tm) : (Int × Int) × Bool :=
  if nodeZ v p m l d u = 0 then ((IntKind.i64.wrap (s.1 + 1), 0), true) else ((s.1, nodeZ v p m l d u), false)

mutual
theorem vis_chk (v p m l : Int) : ∀ (t : Tm) (s d : Int), 0 ≤ s → s + t.size ≤ 1099511627776 →
    (chk v p m l d t = 0 → vis (stChk v p m l) (s, 0) d t = ((s + t.size, 0), true)) ∧ (chk v p m l d t ≠ 0 → (vis (stChk v p m l) (s, 0) d t).2 = false ∧ (vis (stChk v p m l) (s, 0) d t).1.2 = chk v p m l d t)
  | .mk k i n ls ks, s, d, h0, h1 => by
    simp only [Tm.size] at h1
    have hn : chk v p m l d (.mk k i n ls ks) = if nodeZ v p m l d (.mk k i n ls ks) ≠ 0 then nodeZ v p m l d (.mk k i n ls ks) else firstE (chkL v p m l k d 0 ks) := by
      simp only [chk, nodeZ]
      split
      · simp
      · rfl
    rw [hn]
    simp only [vis, stChk]
    generalize nodeZ v p m l d (.mk k i n ls ks) = z
    by_cases hz : z = 0
    · subst hz
      simp only [if_true, ne_eq, not_true_eq_false, if_false]
      rw [wrap_id (n := s + 1) (by omega) (by omega)]
      have := visL_chk v p m l k ks (s + 1) d 0 (by omega) (by omega)
      rw [show ((Tm.mk k i n ls ks).size : Int) = 1 + Tm.sizes ks by simp [Tm.size]]
      rw [← Int.add_assoc]
      exact this
    · simp [hz]
theorem visL_chk (v p m l k : Int) : ∀ (ks : List Tm) (s d : Int) (idx : Nat), 0 ≤ s → s + Tm.sizes ks ≤ 1099511627776 →
    (firstE (chkL v p m l k d idx ks) = 0 → visL (stChk v p m l) (s, 0) k d idx ks = ((s + Tm.sizes ks, 0), true)) ∧
    (firstE (chkL v p m l k d idx ks) ≠ 0 → (visL (stChk v p m l) (s, 0) k d idx ks).2 = false ∧ (visL (stChk v p m l) (s, 0) k d idx ks).1.2 = firstE (chkL v p m l k d idx ks))
  | [], s, d, idx, _, _ => by simp [chkL, firstE, visL, Tm.sizes]
  | t :: ts, s, d, idx, h0, h1 => by
    simp only [Tm.sizes] at h1
    obtain ⟨a1, a2⟩ := vis_chk v p m l t s (d + belowZ k idx) h0 (by omega)
    simp only [chkL, firstE, visL]
    by_cases hz : chk v p m l (d + belowZ k idx) t = 0
    · rw [a1 hz]
      simp only [hz, if_true]
      have := visL_chk v p m l k ts (s + t.size) d (idx + 1) (by omega) (by omega)
      rw [show ((Tm.sizes (t :: ts) : Nat) : Int) = t.size + Tm.sizes ts by simp [Tm.sizes], ← Int.add_assoc]
      exact this
    · obtain ⟨b1, b2⟩ := a2 hz
      simp [hz, b1, b2]
end

/-- Where numbers below zero count as zero. -/
def pos0 (n : Int) : Int := if n < 0 then 0 else n

theorem levelZ_pos (p l : Int) (x : Lv) : levelZ (pos0 p) (pos0 l) x = levelZ p l x := by
  have e1 : ∀ a : Int, (decide (0 ≤ a) && decide (pos0 p ≤ a)) = (decide (0 ≤ a) && decide (p ≤ a)) := by
    intro a
    unfold pos0
    split
    · by_cases h : 0 ≤ a
      · simp [h, show p ≤ a by omega]
      · simp [h]
    · rfl
  have e2 : ∀ a : Int, (decide (a < 0) && decide (pos0 l ≤ -1 - a)) = (decide (a < 0) && decide (l ≤ -1 - a)) := by
    intro a
    unfold pos0
    split
    · by_cases h : a < 0
      · have q1 : l ≤ -1 - a := by omega
        have q2 : (0 : Int) ≤ -1 - a := by omega
        rw [decide_eq_true h, decide_eq_true q1, decide_eq_true q2]
      · simp [h]
    · rfl
  simp only [levelZ, e1, e2]

theorem headZ_pos (d v p m l k i : Int) (n : List UInt8) (ls : List Lv) : headZ d v (pos0 p) (pos0 m) (pos0 l) k i n ls = headZ d v p m l k i n ls := by
  have e1 : ls.map (levelZ (pos0 p) (pos0 l)) = ls.map (levelZ p l) := List.map_congr_left fun x _ => levelZ_pos p l x
  have e2 : (k = 12 ∧ (i < 0 ∨ pos0 m ≤ i)) ↔ (k = 12 ∧ (i < 0 ∨ m ≤ i)) := by
    unfold pos0
    split
    · constructor
      · rintro ⟨h1, h2⟩; exact ⟨h1, by omega⟩
      · rintro ⟨h1, h2⟩; exact ⟨h1, by omega⟩
    · rfl
  simp only [headZ, e1, e2]

mutual
theorem chk_pos (v p m l : Int) : ∀ (t : Tm) (d : Int), chk v (pos0 p) (pos0 m) (pos0 l) d t = chk v p m l d t
  | .mk k i n ls ks, d => by simp only [chk, headZ_pos, chkL_pos v p m l ks k d 0]
theorem chkL_pos (v p m l : Int) : ∀ (ks : List Tm) (k d : Int) (idx : Nat), chkL v (pos0 p) (pos0 m) (pos0 l) k d idx ks = chkL v p m l k d idx ks
  | [], _, _, _ => by simp only [chkL]
  | t :: ts, k, d, idx => by simp only [chkL, chk_pos v p m l t, chkL_pos v p m l ts k d (idx + 1)]
end

/-- What the program's Check answers. -/
def checkP (v p m l : Int) (t : Tm) : Int :=
  if (vis (stChk (pos0 v) (pos0 p) (pos0 m) (pos0 l)) (0, 0) 0 t).2 = false then (vis (stChk (pos0 v) (pos0 p) (pos0 m) (pos0 l)) (0, 0) 0 t).1.2
  else if 4096 < (vis (stChk (pos0 v) (pos0 p) (pos0 m) (pos0 l)) (0, 0) 0 t).1.1 then 5 else if 200 < (t.depth : Int) then 7 else 0

theorem checkP_eq (v p m l : Int) (t : Tm) (hsz : t.size ≤ 1099511627776) : checkP v p m l t = checkZ v p m l t := by
  obtain ⟨a1, a2⟩ := vis_chk (pos0 v) (pos0 p) (pos0 m) (pos0 l) t 0 0 (by omega) (by omega)
  unfold checkP checkZ
  rw [chk_pos] at a1 a2
  have e : (if v < 0 then 0 else v) = pos0 v := rfl
  rw [e]
  by_cases hz : chk (pos0 v) p m l 0 t = 0
  · rw [a1 hz]; simp [hz]
  · obtain ⟨b1, b2⟩ := a2 hz
    simp [hz, b1, b2]

/-- What the program's Name answers. -/
def nameP (n : List UInt8) : Bool := nameSt n == some false && decide ((n.length : Int) ≤ 64)

theorem nameP_eq (n : List UInt8) : nameP n = nameB n := by
  unfold nameP nameB
  have e1 : decide ((n.length : Int) ≤ 64) = !decide (64 < (n.length : Int)) := by
    by_cases h : 64 < (n.length : Int)
    · rw [decide_eq_true h, decide_eq_false (by omega)]; rfl
    · rw [decide_eq_false h, decide_eq_true (by omega)]; rfl
  rw [e1]
  cases n with
  | nil => simp [nameSt]
  | cons c n => rw [decide_eq_false (List.cons_ne_nil c n), Bool.false_or, Bool.and_comm]

end Go.Proofs.Ytppgpabjcenjdaa
