/-
  Abstraction, told plainly.
-/
import Derived.Test.YtppgpabjcenjdaaG1
namespace Go.Proofs.Ytppgpabjcenjdaa
open Go Go.AI

def absHit (part t : Tm) (d : Int) : Bool := !shiftBad d 0 0 part && sameT t (shiftT d 0 0 part)
mutual
def absT (part : Tm) (d : Int) : Tm → Tm
  | .mk k i n ls ks => if absHit part (.mk k i n ls ks) d = true then vr d else if k = 0 then (if d ≤ i then vr (i + 1) else .mk k i n ls ks) else .mk k i n ls (absL part d k 0 ks)
def absL (part : Tm) (d k : Int) (idx : Nat) : List Tm → List Tm
  | [] => []
  | t :: ts => absT part (d + belowZ k idx) t :: absL part d k (idx + 1) ts
end
mutual
def absBad (part : Tm) (d : Int) : Tm → Bool
  | .mk k i n ls ks => if absHit part (.mk k i n ls ks) d = true then decide (65535 < d) else if k = 0 then decide (d ≤ i) && decide (65535 < i + 1) else absBads part d k 0 ks
def absBads (part : Tm) (d k : Int) (idx : Nat) : List Tm → Bool
  | [] => false
  | t :: ts => absBad part (d + belowZ k idx) t || absBads part d k (idx + 1) ts
end
mutual
def absCnt (part : Tm) (d : Int) : Tm → Nat
  | .mk k i n ls ks => if absHit part (.mk k i n ls ks) d = true then 1 else if k = 0 then 0 else absCnts part d k 0 ks
def absCnts (part : Tm) (d k : Int) (idx : Nat) : List Tm → Nat
  | [] => 0
  | t :: ts => absCnt part (d + belowZ k idx) t + absCnts part d k (idx + 1) ts
end
theorem absL_snoc (part : Tm) (d k : Int) : ∀ (l : List Tm) (idx : Nat) (t : Tm), absL part d k idx (l ++ [t]) = absL part d k idx l ++ [absT part (d + belowZ k (idx + l.length : Nat)) t]
  | [], idx, t => by simp [absL]
  | x :: l, idx, t => by simp only [List.cons_append, absL, absL_snoc part d k l (idx + 1) t]; simp [Nat.add_assoc, Nat.add_comm 1]
theorem absBads_snoc (part : Tm) (d k : Int) : ∀ (l : List Tm) (idx : Nat) (t : Tm), absBads part d k idx (l ++ [t]) = (absBads part d k idx l || absBad part (d + belowZ k (idx + l.length : Nat)) t)
  | [], idx, t => by simp [absBads]
  | x :: l, idx, t => by simp only [List.cons_append, absBads, absBads_snoc part d k l (idx + 1) t]; simp [Nat.add_assoc, Nat.add_comm 1, Bool.or_assoc]
theorem absCnts_snoc (part : Tm) (d k : Int) : ∀ (l : List Tm) (idx : Nat) (t : Tm), absCnts part d k idx (l ++ [t]) = absCnts part d k idx l + absCnt part (d + belowZ k (idx + l.length : Nat)) t
  | [], idx, t => by simp [absCnts]
  | x :: l, idx, t => by simp only [List.cons_append, absCnts, absCnts_snoc part d k l (idx + 1) t]; simp [Nat.add_assoc, Nat.add_comm 1]
theorem absL_length (part : Tm) (d k : Int) : ∀ (l : List Tm) (idx : Nat), (absL part d k idx l).length = l.length
  | [], idx => rfl
  | x :: l, idx => by simp [absL, absL_length part d k l]
mutual
theorem absCnt_le (part : Tm) : ∀ (t : Tm) (d : Int), absCnt part d t ≤ t.size
  | .mk k i n ls ks, d => by
    simp only [absCnt, Tm.size]
    split
    · omega
    · split
      · omega
      · have := absCnts_le part ks d k 0; omega
theorem absCnts_le (part : Tm) : ∀ (l : List Tm) (d k : Int) (idx : Nat), absCnts part d k idx l ≤ Tm.sizes l
  | [], d, k, idx => by simp [absCnts, Tm.sizes]
  | t :: ts, d, k, idx => by
    simp only [absCnts, Tm.sizes]
    have := absCnt_le part t (d + belowZ k idx)
    have := absCnts_le part ts d k (idx + 1)
    omega
end


end Go.Proofs.Ytppgpabjcenjdaa
