import Derived.Test.YtfajdeofhioakaaGreatJA0
import Derived.Test.YtfajdeofhioakaaGreatJG1

namespace Go.Proofs.YtfajdeofhioakaaGreat

open Go Go.AI

mutual
def kL (vs : List Tm) (e n d : Int) : Tm -> Tm × Int × Int
 | .mk k i nm ls ks =>
  if 4096 < n then (.mk k i nm ls ks, e, n)
  else if k = 0 then
   (if d <= i then
    (match vs[(i - d).toNat]? with
     | some x => (dH d 0 0 x, errIf (bG d 0 0 x) e, n + x.size)
     | none => (vr (i - vs.length), errIf (decide (65535 < i - vs.length)) e, n + 1))
   else (.mk k i nm ls ks, e, n + 1))
  else (.mk k i nm ls (cS vs e (n + 1) d k 0 ks).1, (cS vs e (n + 1) d k 0 ks).2.1, (cS vs e (n + 1) d k 0 ks).2.2)
def cS (vs : List Tm) (e n d k : Int) (idx : Nat) : List Tm -> List Tm × Int × Int
 | [] => ([], e, n)
 | t :: ts =>
  ((kL vs e n (d + aJ k idx) t).1 :: (cS vs (kL vs e n (d + aJ k idx) t).2.1 (kL vs e n (d + aJ k idx) t).2.2 d k (idx + 1) ts).1,
   (cS vs (kL vs e n (d + aJ k idx) t).2.1 (kL vs e n (d + aJ k idx) t).2.2 d k (idx + 1) ts).2.1,
   (cS vs (kL vs e n (d + aJ k idx) t).2.1 (kL vs e n (d + aJ k idx) t).2.2 d k (idx + 1) ts).2.2)
end
theorem tO (vs : List Tm) (d k : Int) : ∀ (l : List Tm) (e n : Int) (idx : Nat) (t : Tm),
  cS vs e n d k idx (l ++ [t]) = ((cS vs e n d k idx l).1 ++ [(kL vs (cS vs e n d k idx l).2.1 (cS vs e n d k idx l).2.2 (d + aJ k (idx + l.length : Nat)) t).1],
   (kL vs (cS vs e n d k idx l).2.1 (cS vs e n d k idx l).2.2 (d + aJ k (idx + l.length : Nat)) t).2.1, (kL vs (cS vs e n d k idx l).2.1 (cS vs e n d k idx l).2.2 (d + aJ k (idx + l.length : Nat)) t).2.2)
 | [], e, n, idx, t => by simp [cS]
 | x :: l, e, n, idx, t => by simp only [bBj, cS, tO vs d k l _ _ (idx + 1) t]; simp [bDk, bE7 1]
theorem nJ (vs : List Tm) (d k : Int) : ∀ (l : List Tm) (e n : Int) (idx : Nat), (cS vs e n d k idx l).1.length = l.length
 | [], e, n, idx => rfl
 | x :: l, e, n, idx => by simp [cS, nJ vs d k l]

mutual
def aF1 (vs : List Tm) (d : Int) : Tm -> Tm
 | .mk k i nm ls ks =>
  if k = 0 then (if d <= i then (match vs[(i - d).toNat]? with | some x => dH d 0 0 x | none => vr (i - vs.length)) else .mk k i nm ls ks)
  else .mk k i nm ls (aF0 vs d k 0 ks)
def aF0 (vs : List Tm) (d k : Int) (idx : Nat) : List Tm -> List Tm
 | [] => []
 | t :: ts => aF1 vs (d + aJ k idx) t :: aF0 vs d k (idx + 1) ts
end

mutual
def eB (vs : List Tm) (d : Int) : Tm -> Bool
 | .mk k i _ _ ks =>
  if k = 0 then (if d <= i then (match vs[(i - d).toNat]? with | some x => bG d 0 0 x | none => decide (65535 < i - vs.length)) else false)
  else eK vs d k 0 ks
def eK (vs : List Tm) (d k : Int) (idx : Nat) : List Tm -> Bool
 | [] => false
 | t :: ts => eB vs (d + aJ k idx) t || eK vs d k (idx + 1) ts
end

mutual
def cO (vs : List Tm) (d : Int) : Tm -> Nat
 | .mk k i _ _ ks =>
  if k = 0 then (if d <= i then (match vs[(i - d).toNat]? with | some x => x.size | none => 1) else 1)
  else 1 + dI vs d k 0 ks
def dI (vs : List Tm) (d k : Int) (idx : Nat) : List Tm -> Nat
 | [] => 0
 | t :: ts => cO vs (d + aJ k idx) t + dI vs d k (idx + 1) ts
end
theorem pB (e : Int) : errIf false e = e := rfl

mutual
theorem vN (vs : List Tm) : ∀ (t : Tm) (e n d : Int), (n + cO vs d t <= 4096 -> kL vs e n d t = (aF1 vs d t, errIf (eB vs d t) e, n + cO vs d t)) /\ (4096 < n + cO vs d t -> 4096 < (kL vs e n d t).2.2)
 | .mk k i nm ls ks, e, n, d => by
  simp only [kL, aF1, eB, cO]
  by_cases hn : 4096 < n
  ·simp only [hn, if_true];exact ⟨fun h => by omega, fun _ => by first | trivial | exact hn⟩
  simp only [hn, if_false]
  by_cases hk : k = 0
  ·simp only [hk, if_true]
   by_cases hd : d <= i
   ·simp only [hd, if_true]
    cases vs[(i - d).toNat]? with
    | some x => simp
    | none => simp
   ·simp only [hd, if_false];simp [pB]
  ·simp only [hk, if_false];have := qA vs ks e (n + 1) d k 0;refine ⟨fun h => ?_, fun h => this.2 aB⟩;rw [this.1 aB];simp; omega
theorem qA (vs : List Tm) : ∀ (ks : List Tm) (e n d k : Int) (idx : Nat), (n + dI vs d k idx ks <= 4096 -> cS vs e n d k idx ks = (aF0 vs d k idx ks, errIf (eK vs d k idx ks) e, n + dI vs d k idx ks)) /\ (4096 < n + dI vs d k idx ks -> 4096 < (cS vs e n d k idx ks).2.2)
 | [], e, n, d, k, idx => by simp [cS, aF0, eK, dI, pB]
 | t :: ts, e, n, d, k, idx => by
  simp only [cS, aF0, eK, dI];have h1 := vN vs t e n (d + aJ k idx)
  by_cases hc : n + cO vs (d + aJ k idx) t <= 4096
  ·rw [h1.1 hc];simp only;have h2 := qA vs ts (errIf (eB vs (d + aJ k idx) t) e) (n + cO vs (d + aJ k idx) t) d k (idx + 1);refine ⟨fun h => ?_, fun h => h2.2 aB⟩;rw [h2.1 aB, kC];simp; omega
  ·have h3 := h1.2 aB;have h2 := qA vs ts (kL vs e n (d + aJ k idx) t).2.1 (kL vs e n (d + aJ k idx) t).2.2 d k (idx + 1);exact ⟨fun h => by omega, fun h => h2.2 aB⟩
end
def cJ (dp : Int) : Int := if 65536 < dp then 65536 else dp
theorem aMl {vs : List Tm} {i b dp : Int} (h0 : 0 <= dp) (hi : i < 65536 + b) (hd : cJ dp + b <= i) :
  (∀ x, vs[(i - (cJ dp + b)).toNat]? = some x -> (0 <= i - b - dp /\ i - b - dp < vs.length) /\ vs[(i - b - dp).toNat]? = some x /\ cJ dp + b = dp + b) /\
  (vs[(i - (cJ dp + b)).toNat]? = none -> ¬ (0 <= i - b - dp /\ i - b - dp < vs.length)) /\ cJ dp = dp := by
 have hc : cJ dp = dp := by unfold cJ at *; split at hd <;> split <;> omega
 rw [hc] at hd ⊢;rw [show i - (dp + b) = i - b - dp by omega];refine ⟨fun x hx => ?_, fun hx => ?_, rfl⟩
 ·have := (bBg.1 hx).1;exact ⟨by omega, hx, rfl⟩
 ·rw [bE2] at hx;omega

mutual
theorem zZ (vs : List Tm) (hvl : vs.length <= 1048576) (hvs : ∀ v ∈ vs, v.size <= 1099511627776) (dp : Int) (h0 : 0 <= dp) (h1 : dp <= 9223372036854775807) :
  ∀ (t : Tm) (s b : Int), t.ok (65536 + b) -> 0 <= b -> b + t.size <= 1099511627776 -> 0 <= s -> s <= 4096 ->
   (s + cO vs (cJ dp + b) t <= 4096 -> ∃ u, bld (fN dp (vs.map fun v => (v.size : Int))) s t b = .ok u (s + cO vs (cJ dp + b) t)) /\
   (4096 < s + cO vs (cJ dp + b) t -> ∃ s', bld (fN dp (vs.map fun v => (v.size : Int))) s t b = .bad 5 s')
 | .mk k i nm ls ks, s, b, hok, hb, hbs, hs0, hs1 => by
  simp only [Tm.ok, Tm.okN] at hok;simp only [Tm.size] at hbs;simp only [bld, cO]
  by_cases hk : k = 0
  ·obtain ⟨i1, i2, rfl, rfl, rfl⟩ := hok.1.1 hk;subst hk;have hvz : eD dp vs.length (.mk 0 i [] [] []) b = if 0 <= i - b - dp /\ i - b - dp < vs.length then i - b - dp else -1 := qX (len := vs.length) (t := .mk 0 i [] [] []) (b := b) h0 h1 (by simp only [Tm.index]; omega) (by simp only [Tm.index]; omega) hvl
   have hcnt : aFq dp (vs.map fun v => (v.size : Int)) (.mk 0 i [] [] []) b = (if cJ dp + b <= i then (match vs[(i - (cJ dp + b)).toNat]? with | some x => x.size | none => 1) else 1 : Nat) := by
    simp only [aFq, Tm.kind, bC9, hvz, true_and]
    by_cases hd : cJ dp + b <= i
    ·simp only [hd, if_true];have hv := aMl (vs := vs) h0 i2 hd
     cases hx : vs[(i - (cJ dp + b)).toNat]? with
     | some x =>
      obtain ⟨c1, c2, _⟩ := hv.1 x hx;rw [if_pos c1, if_pos aB];simp [c2]
     | none =>
      rw [if_neg (hv.2.1 hx), if_neg aB]; rfl
    ·simp only [hd, if_false];have : ¬ (0 <= i - b - dp /\ i - b - dp < vs.length) := by unfold cJ at hd; split at hd <;> omega
     rw [if_neg this, if_neg aB]; rfl
   have hbd : (if cJ dp + b <= i then (match vs[(i - (cJ dp + b)).toNat]? with | some x => x.size | none => 1) else 1 : Nat) <= 1099511627776 := by
    split
    ·split
     ·rename_i x hx; exact hvs x (bBu hx)
     ·omega
    ·omega
   simp only [fN, hcnt, if_true, Tm.kind];generalize (if cJ dp + b <= i then (match vs[(i - (cJ dp + b)).toNat]? with | some x => x.size | none => 1) else 1 : Nat) = z at *;rw [wrap_id (n := s + z) aB aB];constructor
   ·intro h; rw [if_neg aB]; exact ⟨_, rfl⟩
   ·intro h; rw [if_pos h]; exact ⟨_, rfl⟩
  ·simp only [hk, if_false]
   have hcnt : aFq dp (vs.map fun v => (v.size : Int)) (.mk k i nm ls ks) b = 1 := by
    simp only [aFq, Tm.kind, hk, false_and, if_false]
   simp only [fN, hcnt, Tm.kind, hk, if_false];rw [wrap_id (n := s + 1) aB aB]
   by_cases h5 : 4096 < s + 1
   ·simp only [h5, if_true];exact ⟨fun h => by omega, fun _ => ⟨_, rfl⟩⟩
   simp only [h5, if_false];have := aBy vs hvl hvs dp h0 h1 ks (s + 1) b k 0 hok.2 hb aB aB aB;constructor
   ·intro h;obtain ⟨u, hu⟩ := this.1 aB;rw [hu];simp only;exact ⟨_, by congr 1; omega⟩
   ·intro h;obtain ⟨s', hu⟩ := this.2 aB;rw [hu];exact ⟨_, rfl⟩
theorem aBy (vs : List Tm) (hvl : vs.length <= 1048576) (hvs : ∀ v ∈ vs, v.size <= 1099511627776) (dp : Int) (h0 : 0 <= dp) (h1 : dp <= 9223372036854775807) :
  ∀ (ks : List Tm) (s b k : Int) (idx : Nat), Tm.oks (65536 + b) k idx ks -> 0 <= b -> b + 1 + Tm.sizes ks <= 1099511627776 -> 0 <= s -> s <= 4096 ->
   (s + dI vs (cJ dp + b) k idx ks <= 4096 -> ∃ u, jE (fN dp (vs.map fun v => (v.size : Int))) s k b idx ks = .ok u (s + dI vs (cJ dp + b) k idx ks)) /\
   (4096 < s + dI vs (cJ dp + b) k idx ks -> ∃ s', jE (fN dp (vs.map fun v => (v.size : Int))) s k b idx ks = .bad 5 s')
 | [], s, b, k, idx, _, _, _, _, _ => by
  simp only [jE, dI];exact ⟨fun _ => ⟨_, by simp; rfl⟩, fun h => by omega⟩
 | t :: ts, s, b, k, idx, hok, hb, hbs, hs0, hs1 => by
  simp only [Tm.oks] at hok;simp only [Tm.sizes] at hbs;simp only [jE, dI];have hz := aU k idx;have e1 := zZ vs hvl hvs dp h0 h1 t s (b + aJ k idx) (by rw [<- Int.add_assoc]; exact hok.1) aB aB hs0 hs1;rw [<- Int.add_assoc] at e1
  by_cases hc : s + cO vs (cJ dp + b + aJ k idx) t <= 4096
  ·obtain ⟨u, hu⟩ := e1.1 hc;rw [hu];simp only;have e2 := aBy vs hvl hvs dp h0 h1 ts (s + cO vs (cJ dp + b + aJ k idx) t) b k (idx + 1) hok.2 hb aB aB hc;constructor
   ·intro h;obtain ⟨u2, hu2⟩ := e2.1 aB;rw [hu2];simp only;exact ⟨_, by congr 1; omega⟩
   ·intro h;obtain ⟨s2, hu2⟩ := e2.2 aB;rw [hu2];exact ⟨_, rfl⟩
  ·obtain ⟨s', hu⟩ := e1.2 aB;rw [hu];exact ⟨fun h => by omega, fun _ => ⟨_, rfl⟩⟩
end

mutual
theorem aA0 (vs : List Tm) (hvl : vs.length <= 1048576) (hvo : ∀ v ∈ vs, v.ok 65536) (dp : Int) (h0 : 0 <= dp) (h1 : dp <= 9223372036854775807) :
  ∀ (t : Tm) (s b : Int), t.ok (65536 + b) -> 0 <= b -> b + t.size <= 1099511627776 ->
   bld (bX (cV dp vs)) s t b = if eB vs (cJ dp + b) t = true then .bad 24 s else .ok (aF1 vs (cJ dp + b) t) s
 | .mk k i nm ls ks, s, b, hok, hb, hbs => by
  simp only [Tm.ok, Tm.okN] at hok;simp only [Tm.size] at hbs;simp only [bld, eB, aF1]
  by_cases hk : k = 0
  ·obtain ⟨i1, i2, rfl, rfl, rfl⟩ := hok.1.1 hk;subst hk;have hvz : eD dp vs.length (.mk 0 i [] [] []) b = if 0 <= i - b - dp /\ i - b - dp < vs.length then i - b - dp else -1 := qX (len := vs.length) (t := .mk 0 i [] [] []) (b := b) h0 h1 (by simp only [Tm.index]; omega) (by simp only [Tm.index]; omega) hvl
   obtain ⟨v, hv0⟩ : ∃ v, eD dp vs.length (.mk 0 i [] [] []) b = v := ⟨_, rfl⟩
   have hrep : cV dp vs s (.mk 0 i [] [] []) b = if 0 <= v then (match vs[v.toNat]? with
     | some x => (match nK (dp + b) 0 x with
      | .ok t' _ => .ok t' s
      | .bad e _ => .bad e s)
     | none => .ok (.mk 0 i [] [] []) s)
    else if i - b < dp then .ok (.mk 0 i [] [] []) s
    else if 65535 < i - vs.length then .bad 24 s else .ok (vr (i - vs.length)) s := by rw [<- hv0]; rfl
   rw [hv0] at hvz;simp only [bX, Tm.kind, if_true, hrep]
   by_cases hd : cJ dp + b <= i
   ·simp only [hd, if_true];have hv := aMl (vs := vs) h0 i2 hd
    cases hx : vs[(i - (cJ dp + b)).toNat]? with
    | some x =>
     obtain ⟨c1, c2, c3⟩ := hv.1 x hx;rw [if_pos c1] at hvz;rw [if_pos (show 0 <= v by omega), hvz, c2, c3];simp only [nK];rw [wN (dp + b) 0 0 aA x 0 0 (by simpa using hvo x (bBu hx))]
     by_cases hbad : bG (dp + b) 0 0 x = true
     ·simp [hbad]
     ·simp [hbad]
    | none =>
     have hc := hv.2.1 hx;have hcap := hv.2.2;rw [if_neg hc] at hvz;rw [if_neg (show ¬ 0 <= v by omega), if_neg (show ¬ i - b < dp by omega)]
     by_cases h5 : 65535 < i - vs.length
     ·simp [h5]
     ·simp [h5]
   ·simp only [hd, if_false];have : ¬ (0 <= i - b - dp /\ i - b - dp < vs.length) := by unfold cJ at hd; split at hd <;> omega
    rw [if_neg this] at hvz;rw [if_neg (show ¬ 0 <= v by omega), if_pos (show i - b < dp by unfold cJ at hd; split at hd <;> omega)];simp
  ·simp only [bX, Tm.kind, hk, if_false, Tm.bare];have e := aC1 vs hvl hvo dp h0 h1 ks s b k 0 hok.2 hb aB;simp only [e]
   by_cases hbad : eK vs (cJ dp + b) k 0 ks = true
   ·simp [hbad]
   ·simp [hbad, Tm.withKids]
theorem aC1 (vs : List Tm) (hvl : vs.length <= 1048576) (hvo : ∀ v ∈ vs, v.ok 65536) (dp : Int) (h0 : 0 <= dp) (h1 : dp <= 9223372036854775807) :
  ∀ (ks : List Tm) (s b k : Int) (idx : Nat), Tm.oks (65536 + b) k idx ks -> 0 <= b -> b + 1 + Tm.sizes ks <= 1099511627776 ->
   jE (bX (cV dp vs)) s k b idx ks = if eK vs (cJ dp + b) k idx ks = true then .bad 24 s else .ok (aF0 vs (cJ dp + b) k idx ks) s
 | [], s, b, k, idx, _, _, _ => by simp [jE, eK, aF0]
 | t :: ts, s, b, k, idx, hok, hb, hbs => by
  simp only [Tm.oks] at hok;simp only [Tm.sizes] at hbs;simp only [jE, eK, aF0];have hz := aU k idx;have e1 := aA0 vs hvl hvo dp h0 h1 t s (b + aJ k idx) (by rw [<- Int.add_assoc]; exact hok.1) aB aB;rw [<- Int.add_assoc] at e1;rw [e1]
  by_cases hb1 : eB vs (cJ dp + b + aJ k idx) t = true
  ·simp [hb1]
  ·rw [if_neg hb1];simp only;rw [aC1 vs hvl hvo dp h0 h1 ts s b k (idx + 1) hok.2 hb aB];rw [Bool.not_eq_true] at hb1
   by_cases hb2 : eK vs (cJ dp + b) k (idx + 1) ts = true
   ·simp [hb1, hb2]
   ·simp [hb1, hb2]
end
def aO (t : Tm) (vs : List Tm) (dp : Int) : Tm × Int :=
 if dp < 0 then (zT, 2)
 else if 4096 < (kL vs 0 0 (cJ dp) t).2.2 then (zT, 5)
 else if (kL vs 0 0 (cJ dp) t).2.1 ≠ 0 then (zT, (kL vs 0 0 (cJ dp) t).2.1)
 else if 200 < ((kL vs 0 0 (cJ dp) t).1.depth : Int) then (zT, 7) else ((kL vs 0 0 (cJ dp) t).1, 0)
def jV (t : Tm) (vs : List Tm) (d : Int) : Tm × Int :=
 if 4096 < (cO vs d t : Int) then (zT, 5) else if eB vs d t = true then (zT, 24) else if 200 < ((aF1 vs d t).depth : Int) then (zT, 7) else (aF1 vs d t, 0)
theorem eA (t : Tm) (vs : List Tm) (dp : Int) (h0 : 0 <= dp) : aO t vs dp = jV t vs (cJ dp) := by
 have hr := vN vs t 0 0 (cJ dp);rw [aO, if_neg aB, jV]
 by_cases hc : 4096 < (cO vs (cJ dp) t : Int)
 ·rw [if_pos (hr.2 aB), if_pos hc]
 ·rw [hr.1 aB, if_neg (by simp only; omega), if_neg hc]
  cases eB vs (cJ dp) t <;> simp [errIf, firstErr]
theorem aHy (t : Tm) (vs : List Tm) (dp : Int) (hok : t.ok 65536) (hsz : t.size <= 1048576) (hvl : vs.length <= 1048576) (hvo : ∀ v ∈ vs, v.ok 65536) (hvs : ∀ v ∈ vs, v.size <= 1099511627776) (h1 : dp <= 9223372036854775807) :
  dU t vs dp = aO t vs dp := by
 by_cases h0 : dp < 0
 ·simp [dU, aO, h0]
 rw [eA t vs dp aB, dU, if_neg h0, jV];have hc := zZ vs hvl hvs dp aB h1 t 0 0 (by simpa using hok) aB aB aB aB;have hs := aA0 vs hvl hvo dp aB h1 t 0 0 (by simpa using hok) aB aB;simp only [Int.add_zero, Int.zero_add] at hc hs
 by_cases h5 : 4096 < (cO vs (cJ dp) t : Int)
 ·obtain ⟨s', hu⟩ := hc.2 h5;rw [hu, if_pos h5]
 ·obtain ⟨u, hu⟩ := hc.1 aB;rw [hu, if_neg h5, hs];simp only
  by_cases hb : eB vs (cJ dp) t = true
  ·simp [hb]
  ·simp [hb]


mutual
theorem qF (d f : Int) : ∀ (t : Tm) (dp m : Int), t.ok m -> (dH d f dp t).size = t.size
 | .mk k i n ls ks, dp, m, h => by
  simp only [Tm.ok, Tm.okN] at h;simp only [dH]
  by_cases hk : k = 0
  ·obtain ⟨_, _, rfl, rfl, rfl⟩ := h.1.1 hk;simp only [hk, if_true];split
   ·rfl
   ·rfl
  ·simp only [hk, if_false, Tm.size];rw [qD d f ks dp k m 0 h.2]
theorem qD (d f : Int) : ∀ (l : List Tm) (dp k m : Int) (idx : Nat), Tm.oks m k idx l -> Tm.sizes (dA d f dp k idx l) = Tm.sizes l
 | [], dp, k, m, idx, _ => rfl
 | t :: ts, dp, k, m, idx, h => by
  simp only [Tm.oks] at h;simp only [dA, Tm.sizes];rw [qF d f t _ _ h.1, qD d f ts dp k m (idx + 1) h.2]
end

mutual
theorem yU (d f : Int) (hf : 0 <= f) : ∀ (t : Tm) (dp M m : Int), t.ok m -> 65536 + dp <= M -> m <= M -> 0 <= dp -> bG d f dp t = false -> (dH d f dp t).ok M
 | .mk k i n ls ks, dp, M, m, h, hM, hm, hdp, hb => by
  simp only [Tm.ok, Tm.okN] at h;simp only [dH];simp only [bG] at hb
  by_cases hk : k = 0
  ·obtain ⟨h1, h2, rfl, rfl, rfl⟩ := h.1.1 hk;simp only [hk, if_true] at hb ⊢
   by_cases hc : i < f + dp \/ i + d < f + dp
   ·rw [if_pos hc];simp only [Tm.ok, Tm.okN, Tm.oks];exact ⟨⟨fun _ => ⟨h1, by omega, trivial, trivial, trivial⟩, by simp, by simp, by simp⟩, trivial⟩
   ·rw [if_neg hc];simp only [vr, Tm.ok, Tm.okN, Tm.oks];simp at hb;exact ⟨⟨fun _ => ⟨by omega, by omega, trivial, trivial, trivial⟩, by simp, by simp, by simp⟩, trivial⟩
  ·simp only [hk, if_false] at hb ⊢;simp only [Tm.ok, Tm.okN];have hl : (dA d f dp k 0 ks).length = ks.length := gS d f dp k ks 0;exact ⟨⟨fun h0 => absurd h0 hk, h.1.2.1, h.1.2.2.1, by rw [hl]; exact h.1.2.2.2⟩, yT d f hf ks dp M m k 0 h.2 hM hm hdp hb⟩
theorem yT (d f : Int) (hf : 0 <= f) : ∀ (l : List Tm) (dp M m k : Int) (idx : Nat), Tm.oks m k idx l -> 65536 + dp <= M -> m <= M -> 0 <= dp -> aZ d f dp k idx l = false -> Tm.oks M k idx (dA d f dp k idx l)
 | [], dp, M, m, k, idx, _, _, _, _, _ => trivial
 | t :: ts, dp, M, m, k, idx, h, hM, hm, hdp, hb => by
  simp only [Tm.oks] at h;simp only [aZ, bD7] at hb;have hz := aU k idx;simp only [dA, Tm.oks];exact ⟨yU d f hf t _ _ _ h.1 aB aB aB hb.1, yT d f hf ts dp M m k (idx + 1) h.2 hM hm hdp hb.2⟩
end
theorem qK (vs : List Tm) (d k : Int) : ∀ (l : List Tm) (idx : Nat), (aF0 vs d k idx l).length = l.length
 | [], idx => rfl
 | x :: l, idx => by simp [aF0, qK vs d k l]

mutual
theorem vU (vs : List Tm) (hvo : ∀ v ∈ vs, v.ok 65536) : ∀ (t : Tm) (d m : Int), t.ok m -> 0 <= d -> 65536 + d <= m -> eB vs d t = false -> (aF1 vs d t).ok m /\ (aF1 vs d t).size = cO vs d t
 | .mk k i n ls ks, d, m, h, hd, hm, hb => by
  have h' := h;simp only [Tm.ok, Tm.okN] at h;simp only [aF1, cO];simp only [eB] at hb
  by_cases hk : k = 0
  ·obtain ⟨h1, h2, rfl, rfl, rfl⟩ := h.1.1 hk;simp only [hk, if_true] at hb ⊢
   by_cases hc : d <= i
   ·simp only [hc, if_true] at hb ⊢
    cases hx : vs[(i - d).toNat]? with
    | some x =>
     rw [hx] at hb;simp only at hb ⊢;have hxo := hvo x (bBu hx);refine ⟨yU d 0 aB x 0 m 65536 hxo aB aB aB hb, ?_⟩;exact qF d 0 x 0 65536 hxo
    | none =>
     rw [hx] at hb;simp at hb;rw [bE2] at hx;simp only [vr, Tm.ok, Tm.okN, Tm.oks];exact ⟨⟨⟨fun _ => ⟨by omega, by omega, trivial, trivial, trivial⟩, by simp, by simp, by simp⟩, trivial⟩, rfl⟩
   ·simp only [hc, if_false];exact ⟨by rw [<- hk]; exact h', rfl⟩
  ·simp only [hk, if_false] at hb ⊢;have hl := qK vs d k ks 0;have := aIc vs hvo ks d m k 0 h.2 hd hm hb;simp only [Tm.ok, Tm.okN, Tm.size];exact ⟨⟨⟨fun h0 => absurd h0 hk, h.1.2.1, h.1.2.2.1, by rw [hl]; exact h.1.2.2.2⟩, this.1⟩, by rw [this.2]⟩
theorem aIc (vs : List Tm) (hvo : ∀ v ∈ vs, v.ok 65536) : ∀ (l : List Tm) (d m k : Int) (idx : Nat), Tm.oks m k idx l -> 0 <= d -> 65536 + d <= m -> eK vs d k idx l = false -> Tm.oks m k idx (aF0 vs d k idx l) /\ Tm.sizes (aF0 vs d k idx l) = dI vs d k idx l
 | [], d, m, k, idx, _, _, _, _ => ⟨trivial, rfl⟩
 | t :: ts, d, m, k, idx, h, hd, hm, hb => by
  simp only [Tm.oks] at h;simp only [eK, bD7] at hb;have hz := aU k idx;have e1 := vU vs hvo t (d + aJ k idx) (m + aJ k idx) h.1 aB aB hb.1;have e2 := aIc vs hvo ts d m k (idx + 1) h.2 hd hm hb.2;simp only [aF0, Tm.oks, Tm.sizes, dI];exact ⟨⟨e1.1, e2.1⟩, by rw [e1.2, e2.2]⟩
end
theorem aF8 (m : Int) (hm : 0 < m) : zT.ok m := by
 simp only [zT, Tm.ok, Tm.okN, Tm.oks];exact ⟨⟨fun _ => ⟨by omega, by omega, trivial, trivial, trivial⟩, by simp, by simp, by simp⟩, trivial⟩

mutual
theorem cX : ∀ (t : Tm) (m M : Int), t.ok m -> m <= M -> t.ok M
 | .mk k i n ls ks, m, M, h, hM => by
  simp only [Tm.ok, Tm.okN] at h ⊢;exact ⟨⟨fun hk => by have := h.1.1 hk; exact ⟨this.1, by omega, this.2.2⟩, h.1.2⟩, aCj ks m M k 0 h.2 hM⟩
theorem aCj : ∀ (l : List Tm) (m M k : Int) (idx : Nat), Tm.oks m k idx l -> m <= M -> Tm.oks M k idx l
 | [], _, _, _, _, _, _ => trivial
 | t :: ts, m, M, k, idx, h, hM => by
  simp only [Tm.oks] at h ⊢;exact ⟨cX t _ _ h.1 aB, aCj ts m M k (idx + 1) h.2 hM⟩
end
theorem aHw (t : Tm) (vs : List Tm) (d : Int) (hd : 0 <= d) (hvo : ∀ v ∈ vs, v.ok 65536) (hok : t.ok 65536) : (jV t vs d).1.ok (65536 + d) /\ (jV t vs d).1.size <= 4096 := by
 unfold jV;split
 ·exact ⟨aF8 _ aB, by simp [zT, Tm.size, Tm.sizes]⟩
 ·by_cases hb : eB vs d t = true
  ·rw [if_pos hb]; exact ⟨aF8 _ aB, by simp [zT, Tm.size, Tm.sizes]⟩
  ·rw [if_neg hb];have := vU vs hvo t d (65536 + d) (cX t _ _ hok aB) hd aB (by simpa using hb);split
   ·exact ⟨aF8 _ aB, by simp [zT, Tm.size, Tm.sizes]⟩
   ·exact ⟨this.1, by rw [this.2]; omega⟩


open Go Go.AI
def aI (l : List Int) : List (List PV) := l.map fun x => [iP x]
@[simp] theorem aM7 (l : List Int) : (aI l).length = l.length := by simp [aI]
@[simp] theorem aUq (l : List Int) (i : Nat) : (aI l)[i]? = (l[i]?).map fun x => [iP x] := by simp [aI]
def pZ (to : List Int) (s : Int) (t : Tm) (d : Int) : BO Tm :=
 if t.index - d < 0 then .ok t.bare s
 else match to[(t.index - d).toNat]? with
  | none => .bad 24 s
  | some x => if x < 0 \/ 65535 - d < x then .bad 24 s else .ok (vr (x + d)) s

mutual
def aB4 (to : List Int) (d : Int) : Tm -> Tm
 | .mk k i n ls ks => if k = 0 then (if i < d then .mk k i n ls ks else match to[(i - d).toNat]? with
   | none => .mk k i n ls ks
   | some x => if x < 0 \/ 65535 - d < x then .mk k i n ls ks else vr (x + d)) else .mk k i n ls (yH to d k 0 ks)
def yH (to : List Int) (d k : Int) (idx : Nat) : List Tm -> List Tm
 | [] => []
 | t :: ts => aB4 to (d + aJ k idx) t :: yH to d k (idx + 1) ts
end

mutual
def fC (to : List Int) (d : Int) : Tm -> Bool
 | .mk k i _ _ ks => if k = 0 then (if i < d then false else match to[(i - d).toNat]? with
   | none => true
   | some x => decide (x < 0 \/ 65535 - d < x)) else cI to d k 0 ks
def cI (to : List Int) (d k : Int) (idx : Nat) : List Tm -> Bool
 | [] => false
 | t :: ts => fC to (d + aJ k idx) t || cI to d k (idx + 1) ts
end
theorem yJ (to : List Int) (d k : Int) : ∀ (l : List Tm) (idx : Nat) (t : Tm), yH to d k idx (l ++ [t]) = yH to d k idx l ++ [aB4 to (d + aJ k (idx + l.length : Nat)) t]
 | [], idx, t => by simp [yH]
 | x :: l, idx, t => by simp only [bBj, yH, yJ to d k l (idx + 1) t]; simp [bDk, bE7 1]
theorem nI (to : List Int) (d k : Int) : ∀ (l : List Tm) (idx : Nat) (t : Tm), cI to d k idx (l ++ [t]) = (cI to d k idx l || fC to (d + aJ k (idx + l.length : Nat)) t)
 | [], idx, t => by simp [cI]
 | x :: l, idx, t => by simp only [bBj, cI, nI to d k l (idx + 1) t]; simp [bDk, bE7 1, Bool.or_assoc]
theorem renL_length (to : List Int) (d k : Int) : ∀ (l : List Tm) (idx : Nat), (yH to d k idx l).length = l.length
 | [], idx => rfl
 | x :: l, idx => by simp [yH, renL_length to d k l]

mutual
theorem aFl (to : List Int) : ∀ (t : Tm) (s d m : Int), t.ok m -> bld (bX (pZ to)) s t d = if fC to d t = true then .bad 24 s else .ok (aB4 to d t) s
 | .mk k i n ls ks, s, d, m, h => by
  simp only [Tm.ok, Tm.okN] at h;simp only [bld, fC, aB4]
  by_cases hk : k = 0
  ·obtain ⟨_, _, rfl, rfl, rfl⟩ := h.1.1 hk;subst hk;simp only [bX, pZ, Tm.kind, Tm.index, if_true]
   by_cases c1 : i < d
   ·have c1' : i - d < 0 := aB;simp [c1, c1', Tm.bare]
   ·have c1' : ¬ i - d < 0 := aB;simp only [c1, c1', if_false]
    cases to[(i - d).toNat]? with
    | none => simp
    | some x =>
     simp only
     by_cases c2 : x < 0 \/ 65535 - d < x
     ·simp [c2]
     ·simp [c2]
  ·simp only [bX, Tm.kind, hk, if_false, Tm.bare];rw [aC0 to ks s k d m 0 h.2]
   by_cases hb : cI to d k 0 ks = true
   ·simp [hb]
   ·simp [hb, Tm.withKids]
theorem aC0 (to : List Int) : ∀ (ks : List Tm) (s k d m : Int) (idx : Nat), Tm.oks m k idx ks -> jE (bX (pZ to)) s k d idx ks = if cI to d k idx ks = true then .bad 24 s else .ok (yH to d k idx ks) s
 | [], s, k, d, m, idx, _ => by simp [jE, cI, yH]
 | t :: ts, s, k, d, m, idx, h => by
  simp only [Tm.oks] at h;simp only [jE, cI, yH];rw [aFl to t s (d + aJ k idx) _ h.1]
  by_cases hb : fC to (d + aJ k idx) t = true
  ·simp [hb]
  ·rw [if_neg hb];simp only;rw [aC0 to ts s k d m (idx + 1) h.2];rw [Bool.not_eq_true] at hb
   by_cases hb2 : cI to d k (idx + 1) ts = true
   ·simp [hb, hb2]
   ·simp [hb, hb2]
end
def cL (to : List Int) (t : Tm) : Tm × Int := if fC to 0 t = true then (zT, 24) else (aB4 to 0 t, 0)

mutual
theorem yK (to : List Int) : ∀ (t : Tm) (d m : Int), t.ok m -> (aB4 to d t).size = t.size
 | .mk k i n ls ks, d, m, h => by
  simp only [Tm.ok, Tm.okN] at h;simp only [aB4]
  by_cases hk : k = 0
  ·obtain ⟨_, _, rfl, rfl, rfl⟩ := h.1.1 hk;simp only [hk, if_true];split
   ·rfl
   ·split
    ·rfl
    ·split <;> rfl
  ·simp only [hk, if_false, Tm.size];rw [yI to ks d k m 0 h.2]
theorem yI (to : List Int) : ∀ (l : List Tm) (d k m : Int) (idx : Nat), Tm.oks m k idx l -> Tm.sizes (yH to d k idx l) = Tm.sizes l
 | [], d, k, m, idx, _ => rfl
 | t :: ts, d, k, m, idx, h => by
  simp only [Tm.oks] at h;simp only [yH, Tm.sizes];rw [yK to t _ _ h.1, yI to ts d k m (idx + 1) h.2]
end

mutual
theorem aHq (to : List Int) : ∀ (t : Tm) (d m : Int), t.ok m -> 0 <= d -> 65536 <= m -> (aB4 to d t).ok m
 | .mk k i n ls ks, d, m, h, hd, hm => by
  have h' := h;simp only [Tm.ok, Tm.okN] at h;simp only [aB4]
  by_cases hk : k = 0
  ·obtain ⟨h1, h2, rfl, rfl, rfl⟩ := h.1.1 hk;rw [if_pos hk];have hself : (Tm.mk k i [] [] []).ok m := h';split
   ·exact hself
   ·split
    ·exact hself
    ·split
     ·exact hself
     ·rename_i c;simp only [vr, Tm.ok, Tm.okN, Tm.oks];exact ⟨⟨fun _ => ⟨by omega, by omega, trivial, trivial, trivial⟩, by simp, by simp, by simp⟩, trivial⟩
  ·rw [if_neg hk];simp only [Tm.ok, Tm.okN];have hl := renL_length to d k ks 0;exact ⟨⟨fun h0 => absurd h0 hk, h.1.2.1, h.1.2.2.1, by rw [hl]; exact h.1.2.2.2⟩, aHp to ks d k m 0 h.2 hd hm⟩
theorem aHp (to : List Int) : ∀ (l : List Tm) (d k m : Int) (idx : Nat), Tm.oks m k idx l -> 0 <= d -> 65536 <= m -> Tm.oks m k idx (yH to d k idx l)
 | [], d, k, m, idx, _, _, _ => trivial
 | t :: ts, d, k, m, idx, h, hd, hm => by
  simp only [Tm.oks] at h;have hz := aU k idx;simp only [yH, Tm.oks];exact ⟨aHq to t _ _ h.1 aB aB, aHp to ts d k m (idx + 1) h.2 hd hm⟩
end
theorem yN (to : List Int) (t : Tm) (h : t.ok 65536) : (cL to t).1.ok 65536 /\ (cL to t).1.size <= t.size := by
 have hp := t.size_pos;unfold cL
 by_cases hb : fC to 0 t = true
 ·rw [if_pos hb]; exact ⟨aF8 _ aB, by simpa [zT, Tm.size, Tm.sizes] using hp⟩
 ·rw [if_neg hb]; exact ⟨aHq to t 0 65536 h aB aB, by simp only; rw [yK to t 0 65536 h]; exact bBh _⟩

set_option maxRecDepth 8000 in
set_option maxHeartbeats 4000000 in
theorem aL4 (h : Heap) (hh : WF h) (to : List Int) (_hl : to.length <= 1048576) (p : Nat) (hp : h[p]? = some (some (.cells [.p (.sl 1 (aI to))]))) (t : Tm) (d s : Int) (hd : Dom 65536 t d) (hk : t.kind = 0) :
  ACalls Tryz.prog 100 ([t.av, iA d] ++ [.ptr p 0]) h (RPost (fun _ => h) [] (pZ to s t d)) := by
 obtain ⟨p1, p2, p3, p4, p5, p6⟩ := idf hp;obtain ⟨i1, i2, i3⟩ := hd.var hk;have hd2 := hd.2.1;have hd3 := hd.2.2;generalize t.index = i at *;subst i3;have hw : IntKind.i64.wrap (i - d) = i - d := wrap_id aB aB;obtain ⟨r, hr⟩ : ∃ r, r = pZ to s (vr i) d := ⟨_, rfl⟩;rw [<- hr]
 have hr : r = if i - d < 0 then .ok (vr i) s else match to[(i - d).toNat]? with
  | none => .bad 24 s
  | some x => if x < 0 \/ 65535 - d < x then .bad 24 s else .ok (vr (x + d)) s := hr
 simp only [vr, bBj, bBo];refine ACalls.of_run Tryz.func100 rfl ?_;simp only [Tryz.ntmps100, bBm, bBn, Tm.av, cells_mk, List.map];refine aDb hw ?_
 by_cases c1 : i - d < 0
 ·rw [if_pos c1] at hr;subst hr;refine nV c1 ?_;refine rl (args := [(Tm.mk 0 i [] [] []).av]) rfl aF aA rfl (lN _ (hh.app aA) (vr i) ⟨by simp [vr, Tm.levels], by simp [vr, Tm.levels]⟩) ?_;refine zov5 ?_;refine zx ?_;refine Fin.ret' (h0 := h) aA rfl hh rfl aE rfl (Weak.of_eq (y := (vr i).av) (by simp [vr])) aA ?_;simp [RPost, vr]
 rw [if_neg c1] at hr;refine aD8 c1 ?_
 cases hx : to[(i - d).toNat]? with
 | none =>
  rw [hx] at hr;simp only at hr;subst hr;rw [bE2] at hx;have c2 : (to.length : Int) <= i - d := aB;refine zn ?_;refine zr2 p1 c2 ?_;exact y22
 | some x =>
  rw [hx] at hr;simp only at hr;have hxl := (bBg.1 hx).1;have c2 : ¬ (to.length : Int) <= i - d := aB;have hw2 : IntKind.i64.wrap (65535 - d) = 65535 - d := wrap_id aB aB
  by_cases c3 : x < 0
  ·rw [if_pos (.inl c3)] at hr;subst hr;refine zn ?_;refine zr5 p1 c2 c1 hx c3 ?_;exact y22
  by_cases c4 : 65535 - d < x
  ·rw [if_pos (.inr c4)] at hr;subst hr;refine zn ?_;refine zr7 p1 c2 c1 hx c3 hw2 c4 ?_;exact y22
  rw [if_neg aB] at hr;subst hr;have hw3 : IntKind.i64.wrap (x + d) = x + d := wrap_id aB aB;have c5 : ¬ 65535 < x + d := aB;have hm := fun (g : Heap) (hg : WF g) => pQ g hg (x + d)
  simp only [if_neg c5] at hm;refine zn ?_;refine zr7 p1 c2 c1 hx c3 hw2 c4 ?_;refine zf ?_;refine zr4 p1 hx c1 hw3 ?_;generalize x + d = z at hm;refine rl (args := [iA z]) rfl aF aA rfl (hm _ (hh.app aA)) ?_;refine aY8 ?_;refine zx ?_;refine Fin.ret' (h0 := h) aA rfl hh rfl aE rfl (Weak.of_eq (y := (vr z).av) (by simp [vr])) aA ?_;simp [RPost, vr]

end Go.Proofs.YtfajdeofhioakaaGreat
