/-
  The plain law of substitution: the reference's walk, its result told plainly, and that the program's building comes to the same.
-/
import Derived.Test.YtppgpabjcenjdaaTG1
import Derived.Test.YtppgpabjcenjdaaTE10
namespace Go.Proofs.Ytppgpabjcenjdaa

open Go Go.AI

mutual
/-- The reference's walk: the term, the error, the nodes. -/
def rsub (vs : List Tm) (e n d : Int) : Tm → Tm × Int × Int
  | .mk k i nm ls ks =>
    if 4096 < n then (.mk k i nm ls ks, e, n)
    else if k = 0 then
      (if d ≤ i then
        (match vs[(i - d).toNat]? with
          | some x => (shiftT d 0 0 x, errIf (shiftBad d 0 0 x) e, n + x.size)
          | none => (vr (i - vs.length), errIf (decide (65535 < i - vs.length)) e, n + 1))
      else (.mk k i nm ls ks, e, n + 1))
    else (.mk k i nm ls (rsubL vs e (n + 1) d k 0 ks).1, (rsubL vs e (n + 1) d k 0 ks).2.1, (rsubL vs e (n + 1) d k 0 ks).2.2)
def rsubL (vs : List Tm) (e n d k : Int) (idx : Nat) : List Tm → List Tm × Int × Int
  | [] => ([], e, n)
  | t :: ts =>
    ((rsub vs e n (d + belowZ k idx) t).1 :: (rsubL vs (rsub vs e n (d + belowZ k idx) t).2.1 (rsub vs e n (d + belowZ k idx) t).2.2 d k (idx + 1) ts).1,
      (rsubL vs (rsub vs e n (d + belowZ k idx) t).2.1 (rsub vs e n (d + belowZ k idx) t).2.2 d k (idx + 1) ts).2.1,
      (rsubL vs (rsub vs e n (d + belowZ k idx) t).2.1 (rsub vs e n (d + belowZ k idx) t).2.2 d k (idx + 1) ts).2.2)
end

theorem rsubL_snoc (vs : List Tm) (d k : Int) : ∀ (l : List Tm) (e n : Int) (idx : Nat) (t : Tm),
    rsubL vs e n d k idx (l ++ [t]) = ((rsubL vs e n d k idx l).1 ++ [(rsub vs (rsubL vs e n d k idx l).2.1 (rsubL vs e n d k idx l).2.2 (d + belowZ k (idx + l.length : Nat)) t).1],
      (rsub vs (rsubL vs e n d k idx l).2.1 (rsubL vs e n d k idx l).2.2 (d + belowZ k (idx + l.length : Nat)) t).2.1, (rsub vs (rsubL vs e n d k idx l).2.1 (rsubL vs e n d k idx l).2.2 (d + belowZ k (idx + l.length : Nat)) t).2.2)
  | [], e, n, idx, t => by simp [rsubL]
  | x :: l, e, n, idx, t => by simp only [List.cons_append, rsubL, rsubL_snoc vs d k l _ _ (idx + 1) t]; simp [Nat.add_assoc, Nat.add_comm 1]

theorem rsubL_length (vs : List Tm) (d k : Int) : ∀ (l : List Tm) (e n : Int) (idx : Nat), (rsubL vs e n d k idx l).1.length = l.length
  | [], e, n, idx => rfl
  | x :: l, e, n, idx => by simp [rsubL, rsubL_length vs d k l]

mutual
def subT (vs : List Tm) (d : Int) : Tm → Tm
  | .mk k i nm ls ks =>
    if k = 0 then (if d ≤ i then (match vs[(i - d).toNat]? with | some x => shiftT d 0 0 x | none => vr (i - vs.length)) else .mk k i nm ls ks)
    else .mk k i nm ls (subL vs d k 0 ks)
def subL (vs : List Tm) (d k : Int) (idx : Nat) : List Tm → List Tm
  | [] => []
  | t :: ts => subT vs (d + belowZ k idx) t :: subL vs d k (idx + 1) ts
end

mutual
def subBad (vs : List Tm) (d : Int) : Tm → Bool
  | .mk k i _ _ ks =>
    if k = 0 then (if d ≤ i then (match vs[(i - d).toNat]? with | some x => shiftBad d 0 0 x | none => decide (65535 < i - vs.length)) else false)
    else subBads vs d k 0 ks
def subBads (vs : List Tm) (d k : Int) (idx : Nat) : List Tm → Bool
  | [] => false
  | t :: ts => subBad vs (d + belowZ k idx) t || subBads vs d k (idx + 1) ts
end

mutual
def subCnt (vs : List Tm) (d : Int) : Tm → Nat
  | .mk k i _ _ ks =>
    if k = 0 then (if d ≤ i then (match vs[(i - d).toNat]? with | some x => x.size | none => 1) else 1)
    else 1 + subCnts vs d k 0 ks
def subCnts (vs : List Tm) (d k : Int) (idx : Nat) : List Tm → Nat
  | [] => 0
  | t :: ts => subCnt vs (d + belowZ k idx) t + subCnts vs d k (idx + 1) ts
end

theorem errIf_false (e : Int) : errIf false e = e := rfl

mutual
theorem rsub_law (vs : List Tm) : ∀ (t : Tm) (e n d : Int), (n + subCnt vs d t ≤ 4096 → rsub vs e n d t = (subT vs d t, errIf (subBad vs d t) e, n + subCnt vs d t)) ∧ (4096 < n + subCnt vs d t → 4096 < (rsub vs e n d t).2.2)
  | .mk k i nm ls ks, e, n, d => by
    simp only [rsub, subT, subBad, subCnt]
    by_cases hn : 4096 < n
    · simp only [hn, if_true]
      exact ⟨fun h => by omega, fun _ => by first | trivial | exact hn⟩
    simp only [hn, if_false]
    by_cases hk : k = 0
    · simp only [hk, if_true]
      by_cases hd : d ≤ i
      · simp only [hd, if_true]
        cases vs[(i - d).toNat]? with
        | some x => simp
        | none => simp
      · simp only [hd, if_false]
        simp [errIf_false]
    · simp only [hk, if_false]
      have := rsubL_law vs ks e (n + 1) d k 0
      refine ⟨fun h => ?_, fun h => this.2 (by omega)⟩
      rw [this.1 (by omega)]
      simp; omega
theorem rsubL_law (vs : List Tm) : ∀ (ks : List Tm) (e n d k : Int) (idx : Nat), (n + subCnts vs d k idx ks ≤ 4096 → rsubL vs e n d k idx ks = (subL vs d k idx ks, errIf (subBads vs d k idx ks) e, n + subCnts vs d k idx ks)) ∧ (4096 < n + subCnts vs d k idx ks → 4096 < (rsubL vs e n d k idx ks).2.2)
  | [], e, n, d, k, idx => by simp [rsubL, subL, subBads, subCnts, errIf_false]
  | t :: ts, e, n, d, k, idx => by
    simp only [rsubL, subL, subBads, subCnts]
    have h1 := rsub_law vs t e n (d + belowZ k idx)
    by_cases hc : n + subCnt vs (d + belowZ k idx) t ≤ 4096
    · rw [h1.1 hc]
      simp only
      have h2 := rsubL_law vs ts (errIf (subBad vs (d + belowZ k idx) t) e) (n + subCnt vs (d + belowZ k idx) t) d k (idx + 1)
      refine ⟨fun h => ?_, fun h => h2.2 (by omega)⟩
      rw [h2.1 (by omega), errIf_twice]
      simp; omega
    · have h3 := h1.2 (by omega)
      have h2 := rsubL_law vs ts (rsub vs e n (d + belowZ k idx) t).2.1 (rsub vs e n (d + belowZ k idx) t).2.2 d k (idx + 1)
      exact ⟨fun h => by omega, fun h => h2.2 (by omega)⟩
end

def capD (dp : Int) : Int := if 65536 < dp then 65536 else dp

theorem var_at {vs : List Tm} {i b dp : Int} (h0 : 0 ≤ dp) (hi : i < 65536 + b) (hd : capD dp + b ≤ i) :
    (∀ x, vs[(i - (capD dp + b)).toNat]? = some x → (0 ≤ i - b - dp ∧ i - b - dp < vs.length) ∧ vs[(i - b - dp).toNat]? = some x ∧ capD dp + b = dp + b) ∧
    (vs[(i - (capD dp + b)).toNat]? = none → ¬ (0 ≤ i - b - dp ∧ i - b - dp < vs.length)) ∧ capD dp = dp := by
  have hc : capD dp = dp := by unfold capD at *; split at hd <;> split <;> omega
  rw [hc] at hd ⊢
  rw [show i - (dp + b) = i - b - dp by omega]
  refine ⟨fun x hx => ?_, fun hx => ?_, rfl⟩
  · have := (List.getElem?_eq_some_iff.1 hx).1
    exact ⟨by omega, hx, rfl⟩
  · rw [List.getElem?_eq_none_iff] at hx
    omega

mutual
theorem bld_cnt (vs : List Tm) (hvl : vs.length ≤ 1048576) (hvs : ∀ v ∈ vs, v.size ≤ 1099511627776) (dp : Int) (h0 : 0 ≤ dp) (h1 : dp ≤ 9223372036854775807) :
    ∀ (t : Tm) (s b : Int), t.ok (65536 + b) → 0 ≤ b → b + t.size ≤ 1099511627776 → 0 ≤ s → s ≤ 4096 →
      (s + subCnt vs (capD dp + b) t ≤ 4096 → ∃ u, bld (visCnt dp (vs.map fun v => (v.size : Int))) s t b = .ok u (s + subCnt vs (capD dp + b) t)) ∧
      (4096 < s + subCnt vs (capD dp + b) t → ∃ s', bld (visCnt dp (vs.map fun v => (v.size : Int))) s t b = .bad 5 s')
  | .mk k i nm ls ks, s, b, hok, hb, hbs, hs0, hs1 => by
    simp only [Tm.ok, Tm.okN] at hok
    simp only [Tm.size] at hbs
    simp only [bld, subCnt]
    by_cases hk : k = 0
    · obtain ⟨i1, i2, rfl, rfl, rfl⟩ := hok.1.1 hk
      subst hk
      have hvz : valueZ dp vs.length (.mk 0 i [] [] []) b = if 0 ≤ i - b - dp ∧ i - b - dp < vs.length then i - b - dp else -1 := valueZ_eq (len := vs.length) (t := .mk 0 i [] [] []) (b := b) h0 h1 (by simp only [Tm.index]; omega) (by simp only [Tm.index]; omega) hvl
      have hcnt : cntN dp (vs.map fun v => (v.size : Int)) (.mk 0 i [] [] []) b = (if capD dp + b ≤ i then (match vs[(i - (capD dp + b)).toNat]? with | some x => x.size | none => 1) else 1 : Nat) := by
        simp only [cntN, Tm.kind, List.length_map, hvz, true_and]
        by_cases hd : capD dp + b ≤ i
        · simp only [hd, if_true]
          have hv := var_at (vs := vs) h0 i2 hd
          cases hx : vs[(i - (capD dp + b)).toNat]? with
          | some x =>
            obtain ⟨c1, c2, _⟩ := hv.1 x hx
            rw [if_pos c1, if_pos (by omega)]
            simp [c2]
          | none =>
            rw [if_neg (hv.2.1 hx), if_neg (by omega)]; rfl
        · simp only [hd, if_false]
          have : ¬ (0 ≤ i - b - dp ∧ i - b - dp < vs.length) := by unfold capD at hd; split at hd <;> omega
          rw [if_neg this, if_neg (by omega)]; rfl
      have hbd : (if capD dp + b ≤ i then (match vs[(i - (capD dp + b)).toNat]? with | some x => x.size | none => 1) else 1 : Nat) ≤ 1099511627776 := by
        split
        · split
          · rename_i x hx; exact hvs x (List.mem_of_getElem? hx)
          · omega
        · omega
      simp only [visCnt, hcnt, if_true, Tm.kind]
      generalize (if capD dp + b ≤ i then (match vs[(i - (capD dp + b)).toNat]? with | some x => x.size | none => 1) else 1 : Nat) = z at *
      rw [wrap_id (n := s + z) (by omega) (by omega)]
      constructor
      · intro h; rw [if_neg (by omega)]; exact ⟨_, rfl⟩
      · intro h; rw [if_pos h]; exact ⟨_, rfl⟩
    · simp only [hk, if_false]
      have hcnt : cntN dp (vs.map fun v => (v.size : Int)) (.mk k i nm ls ks) b = 1 := by
        simp only [cntN, Tm.kind, hk, false_and, if_false]
      simp only [visCnt, hcnt, Tm.kind, hk, if_false]
      rw [wrap_id (n := s + 1) (by omega) (by omega)]
      by_cases h5 : 4096 < s + 1
      · simp only [h5, if_true]
        exact ⟨fun h => by omega, fun _ => ⟨_, rfl⟩⟩
      simp only [h5, if_false]
      have := bldL_cnt vs hvl hvs dp h0 h1 ks (s + 1) b k 0 hok.2 hb (by omega) (by omega) (by omega)
      constructor
      · intro h
        obtain ⟨u, hu⟩ := this.1 (by omega)
        rw [hu]
        simp only
        exact ⟨_, by congr 1; omega⟩
      · intro h
        obtain ⟨s', hu⟩ := this.2 (by omega)
        rw [hu]
        exact ⟨_, rfl⟩
theorem bldL_cnt (vs : List Tm) (hvl : vs.length ≤ 1048576) (hvs : ∀ v ∈ vs, v.size ≤ 1099511627776) (dp : Int) (h0 : 0 ≤ dp) (h1 : dp ≤ 9223372036854775807) :
    ∀ (ks : List Tm) (s b k : Int) (idx : Nat), Tm.oks (65536 + b) k idx ks → 0 ≤ b → b + 1 + Tm.sizes ks ≤ 1099511627776 → 0 ≤ s → s ≤ 4096 →
      (s + subCnts vs (capD dp + b) k idx ks ≤ 4096 → ∃ u, bldL (visCnt dp (vs.map fun v => (v.size : Int))) s k b idx ks = .ok u (s + subCnts vs (capD dp + b) k idx ks)) ∧
      (4096 < s + subCnts vs (capD dp + b) k idx ks → ∃ s', bldL (visCnt dp (vs.map fun v => (v.size : Int))) s k b idx ks = .bad 5 s')
  | [], s, b, k, idx, _, _, _, _, _ => by
    simp only [bldL, subCnts]
    exact ⟨fun _ => ⟨_, by simp; rfl⟩, fun h => by omega⟩
  | t :: ts, s, b, k, idx, hok, hb, hbs, hs0, hs1 => by
    simp only [Tm.oks] at hok
    simp only [Tm.sizes] at hbs
    simp only [bldL, subCnts]
    have hz := belowZ_01' k idx
    have e1 := bld_cnt vs hvl hvs dp h0 h1 t s (b + belowZ k idx) (by rw [← Int.add_assoc]; exact hok.1) (by omega) (by omega) hs0 hs1
    rw [← Int.add_assoc] at e1
    by_cases hc : s + subCnt vs (capD dp + b + belowZ k idx) t ≤ 4096
    · obtain ⟨u, hu⟩ := e1.1 hc
      rw [hu]
      simp only
      have e2 := bldL_cnt vs hvl hvs dp h0 h1 ts (s + subCnt vs (capD dp + b + belowZ k idx) t) b k (idx + 1) hok.2 hb (by omega) (by omega) hc
      constructor
      · intro h
        obtain ⟨u2, hu2⟩ := e2.1 (by omega)
        rw [hu2]
        simp only
        exact ⟨_, by congr 1; omega⟩
      · intro h
        obtain ⟨s2, hu2⟩ := e2.2 (by omega)
        rw [hu2]
        exact ⟨_, rfl⟩
    · obtain ⟨s', hu⟩ := e1.2 (by omega)
      rw [hu]
      exact ⟨fun h => by omega, fun _ => ⟨_, rfl⟩⟩
end

mutual
theorem bld_sub (vs : List Tm) (hvl : vs.length ≤ 1048576) (hvo : ∀ v ∈ vs, v.ok 65536) (dp : Int) (h0 : 0 ≤ dp) (h1 : dp ≤ 9223372036854775807) :
    ∀ (t : Tm) (s b : Int), t.ok (65536 + b) → 0 ≤ b → b + t.size ≤ 1099511627776 →
      bld (visVar (repUnder dp vs)) s t b = if subBad vs (capD dp + b) t = true then .bad 24 s else .ok (subT vs (capD dp + b) t) s
  | .mk k i nm ls ks, s, b, hok, hb, hbs => by
    simp only [Tm.ok, Tm.okN] at hok
    simp only [Tm.size] at hbs
    simp only [bld, subBad, subT]
    by_cases hk : k = 0
    · obtain ⟨i1, i2, rfl, rfl, rfl⟩ := hok.1.1 hk
      subst hk
      have hvz : valueZ dp vs.length (.mk 0 i [] [] []) b = if 0 ≤ i - b - dp ∧ i - b - dp < vs.length then i - b - dp else -1 := valueZ_eq (len := vs.length) (t := .mk 0 i [] [] []) (b := b) h0 h1 (by simp only [Tm.index]; omega) (by simp only [Tm.index]; omega) hvl
      obtain ⟨v, hv0⟩ : ∃ v, valueZ dp vs.length (.mk 0 i [] [] []) b = v := ⟨_, rfl⟩
      have hrep : repUnder dp vs s (.mk 0 i [] [] []) b = if 0 ≤ v then (match vs[v.toNat]? with
          | some x => (match shiftB (dp + b) 0 x with
            | .ok t' _ => .ok t' s
            | .bad e _ => .bad e s)
          | none => .ok (.mk 0 i [] [] []) s)
        else if i - b < dp then .ok (.mk 0 i [] [] []) s
        else if 65535 < i - vs.length then .bad 24 s else .ok (vr (i - vs.length)) s := by rw [← hv0]; rfl
      rw [hv0] at hvz
      simp only [visVar, Tm.kind, if_true, hrep]
      by_cases hd : capD dp + b ≤ i
      · simp only [hd, if_true]
        have hv := var_at (vs := vs) h0 i2 hd
        cases hx : vs[(i - (capD dp + b)).toNat]? with
        | some x =>
          obtain ⟨c1, c2, c3⟩ := hv.1 x hx
          rw [if_pos c1] at hvz
          rw [if_pos (show 0 ≤ v by omega), hvz, c2, c3]
          simp only [shiftB]
          rw [bld_shift (dp + b) 0 0 (by simp) x 0 0 (by simpa using hvo x (List.mem_of_getElem? hx))]
          by_cases hbad : shiftBad (dp + b) 0 0 x = true
          · simp [hbad]
          · simp [hbad]
        | none =>
          have hc := hv.2.1 hx
          have hcap := hv.2.2
          rw [if_neg hc] at hvz
          rw [if_neg (show ¬ 0 ≤ v by omega), if_neg (show ¬ i - b < dp by omega)]
          by_cases h5 : 65535 < i - vs.length
          · simp [h5]
          · simp [h5]
      · simp only [hd, if_false]
        have : ¬ (0 ≤ i - b - dp ∧ i - b - dp < vs.length) := by unfold capD at hd; split at hd <;> omega
        rw [if_neg this] at hvz
        rw [if_neg (show ¬ 0 ≤ v by omega), if_pos (show i - b < dp by unfold capD at hd; split at hd <;> omega)]
        simp
    · simp only [visVar, Tm.kind, hk, if_false, Tm.bare]
      have e := bldL_sub vs hvl hvo dp h0 h1 ks s b k 0 hok.2 hb (by omega)
      simp only [e]
      by_cases hbad : subBads vs (capD dp + b) k 0 ks = true
      · simp [hbad]
      · simp [hbad, Tm.withKids]
theorem bldL_sub (vs : List Tm) (hvl : vs.length ≤ 1048576) (hvo : ∀ v ∈ vs, v.ok 65536) (dp : Int) (h0 : 0 ≤ dp) (h1 : dp ≤ 9223372036854775807) :
    ∀ (ks : List Tm) (s b k : Int) (idx : Nat), Tm.oks (65536 + b) k idx ks → 0 ≤ b → b + 1 + Tm.sizes ks ≤ 1099511627776 →
      bldL (visVar (repUnder dp vs)) s k b idx ks = if subBads vs (capD dp + b) k idx ks = true then .bad 24 s else .ok (subL vs (capD dp + b) k idx ks) s
  | [], s, b, k, idx, _, _, _ => by simp [bldL, subBads, subL]
  | t :: ts, s, b, k, idx, hok, hb, hbs => by
    simp only [Tm.oks] at hok
    simp only [Tm.sizes] at hbs
    simp only [bldL, subBads, subL]
    have hz := belowZ_01' k idx
    have e1 := bld_sub vs hvl hvo dp h0 h1 t s (b + belowZ k idx) (by rw [← Int.add_assoc]; exact hok.1) (by omega) (by omega)
    rw [← Int.add_assoc] at e1
    rw [e1]
    by_cases hb1 : subBad vs (capD dp + b + belowZ k idx) t = true
    · simp [hb1]
    · rw [if_neg hb1]
      simp only
      rw [bldL_sub vs hvl hvo dp h0 h1 ts s b k (idx + 1) hok.2 hb (by omega)]
      rw [Bool.not_eq_true] at hb1
      by_cases hb2 : subBads vs (capD dp + b) k (idx + 1) ts = true
      · simp [hb1, hb2]
      · simp [hb1, hb2]
end

def resRefUnder (t : Tm) (vs : List Tm) (dp : Int) : Tm × Int :=
  if dp < 0 then (zT, 2)
  else if 4096 < (rsub vs 0 0 (capD dp) t).2.2 then (zT, 5)
  else if (rsub vs 0 0 (capD dp) t).2.1 ≠ 0 then (zT, (rsub vs 0 0 (capD dp) t).2.1)
  else if 200 < ((rsub vs 0 0 (capD dp) t).1.depth : Int) then (zT, 7) else ((rsub vs 0 0 (capD dp) t).1, 0)

/-- The substitution, told plainly. -/
def resSub (t : Tm) (vs : List Tm) (d : Int) : Tm × Int :=
  if 4096 < (subCnt vs d t : Int) then (zT, 5) else if subBad vs d t = true then (zT, 24) else if 200 < ((subT vs d t).depth : Int) then (zT, 7) else (subT vs d t, 0)

theorem resRef_plain (t : Tm) (vs : List Tm) (dp : Int) (h0 : 0 ≤ dp) : resRefUnder t vs dp = resSub t vs (capD dp) := by
  have hr := rsub_law vs t 0 0 (capD dp)
  rw [resRefUnder, if_neg (by omega), resSub]
  by_cases hc : 4096 < (subCnt vs (capD dp) t : Int)
  · rw [if_pos (hr.2 (by omega)), if_pos hc]
  · rw [hr.1 (by omega), if_neg (by simp only; omega), if_neg hc]
    cases subBad vs (capD dp) t <;> simp [errIf, firstErr]

theorem res_under (t : Tm) (vs : List Tm) (dp : Int) (hok : t.ok 65536) (hsz : t.size ≤ 1048576) (hvl : vs.length ≤ 1048576) (hvo : ∀ v ∈ vs, v.ok 65536) (hvs : ∀ v ∈ vs, v.size ≤ 1099511627776) (h1 : dp ≤ 9223372036854775807) :
    resUnder t vs dp = resRefUnder t vs dp := by
  by_cases h0 : dp < 0
  · simp [resUnder, resRefUnder, h0]
  rw [resRef_plain t vs dp (by omega), resUnder, if_neg h0, resSub]
  have hc := bld_cnt vs hvl hvs dp (by omega) h1 t 0 0 (by simpa using hok) (by omega) (by omega) (by omega) (by omega)
  have hs := bld_sub vs hvl hvo dp (by omega) h1 t 0 0 (by simpa using hok) (by omega) (by omega)
  simp only [Int.add_zero, Int.zero_add] at hc hs
  by_cases h5 : 4096 < (subCnt vs (capD dp) t : Int)
  · obtain ⟨s', hu⟩ := hc.2 h5
    rw [hu, if_pos h5]
  · obtain ⟨u, hu⟩ := hc.1 (by omega)
    rw [hu, if_neg h5, hs]
    simp only
    by_cases hb : subBad vs (capD dp) t = true
    · simp [hb]
    · simp [hb]

/- What comes out is small and in order. -/

mutual
theorem shiftT_size (d f : Int) : ∀ (t : Tm) (dp m : Int), t.ok m → (shiftT d f dp t).size = t.size
  | .mk k i n ls ks, dp, m, h => by
    simp only [Tm.ok, Tm.okN] at h
    simp only [shiftT]
    by_cases hk : k = 0
    · obtain ⟨_, _, rfl, rfl, rfl⟩ := h.1.1 hk
      simp only [hk, if_true]
      split
      · rfl
      · rfl
    · simp only [hk, if_false, Tm.size]
      rw [shiftL_size d f ks dp k m 0 h.2]
theorem shiftL_size (d f : Int) : ∀ (l : List Tm) (dp k m : Int) (idx : Nat), Tm.oks m k idx l → Tm.sizes (shiftL d f dp k idx l) = Tm.sizes l
  | [], dp, k, m, idx, _ => rfl
  | t :: ts, dp, k, m, idx, h => by
    simp only [Tm.oks] at h
    simp only [shiftL, Tm.sizes]
    rw [shiftT_size d f t _ _ h.1, shiftL_size d f ts dp k m (idx + 1) h.2]
end

mutual
/-- What is shifted without an error is in order. -/
theorem shiftT_ok (d f : Int) (hf : 0 ≤ f) : ∀ (t : Tm) (dp M m : Int), t.ok m → 65536 + dp ≤ M → m ≤ M → 0 ≤ dp → shiftBad d f dp t = false → (shiftT d f dp t).ok M
  | .mk k i n ls ks, dp, M, m, h, hM, hm, hdp, hb => by
    simp only [Tm.ok, Tm.okN] at h
    simp only [shiftT]
    simp only [shiftBad] at hb
    by_cases hk : k = 0
    · obtain ⟨h1, h2, rfl, rfl, rfl⟩ := h.1.1 hk
      simp only [hk, if_true] at hb ⊢
      by_cases hc : i < f + dp ∨ i + d < f + dp
      · rw [if_pos hc]
        simp only [Tm.ok, Tm.okN, Tm.oks]
        exact ⟨⟨fun _ => ⟨h1, by omega, trivial, trivial, trivial⟩, by simp, by simp, by simp⟩, trivial⟩
      · rw [if_neg hc]
        simp only [vr, Tm.ok, Tm.okN, Tm.oks]
        simp at hb
        exact ⟨⟨fun _ => ⟨by omega, by omega, trivial, trivial, trivial⟩, by simp, by simp, by simp⟩, trivial⟩
    · simp only [hk, if_false] at hb ⊢
      simp only [Tm.ok, Tm.okN]
      have hl : (shiftL d f dp k 0 ks).length = ks.length := shiftL_length d f dp k ks 0
      exact ⟨⟨fun h0 => absurd h0 hk, h.1.2.1, h.1.2.2.1, by rw [hl]; exact h.1.2.2.2⟩, shiftL_ok d f hf ks dp M m k 0 h.2 hM hm hdp hb⟩
theorem shiftL_ok (d f : Int) (hf : 0 ≤ f) : ∀ (l : List Tm) (dp M m k : Int) (idx : Nat), Tm.oks m k idx l → 65536 + dp ≤ M → m ≤ M → 0 ≤ dp → shiftBads d f dp k idx l = false → Tm.oks M k idx (shiftL d f dp k idx l)
  | [], dp, M, m, k, idx, _, _, _, _, _ => trivial
  | t :: ts, dp, M, m, k, idx, h, hM, hm, hdp, hb => by
    simp only [Tm.oks] at h
    simp only [shiftBads, Bool.or_eq_false_iff] at hb
    have hz := belowZ_01' k idx
    simp only [shiftL, Tm.oks]
    exact ⟨shiftT_ok d f hf t _ _ _ h.1 (by omega) (by omega) (by omega) hb.1, shiftL_ok d f hf ts dp M m k (idx + 1) h.2 hM hm hdp hb.2⟩
end

theorem subL_length (vs : List Tm) (d k : Int) : ∀ (l : List Tm) (idx : Nat), (subL vs d k idx l).length = l.length
  | [], idx => rfl
  | x :: l, idx => by simp [subL, subL_length vs d k l]

mutual
theorem subT_ok (vs : List Tm) (hvo : ∀ v ∈ vs, v.ok 65536) : ∀ (t : Tm) (d m : Int), t.ok m → 0 ≤ d → 65536 + d ≤ m → subBad vs d t = false → (subT vs d t).ok m ∧ (subT vs d t).size = subCnt vs d t
  | .mk k i n ls ks, d, m, h, hd, hm, hb => by
    have h' := h
    simp only [Tm.ok, Tm.okN] at h
    simp only [subT, subCnt]
    simp only [subBad] at hb
    by_cases hk : k = 0
    · obtain ⟨h1, h2, rfl, rfl, rfl⟩ := h.1.1 hk
      simp only [hk, if_true] at hb ⊢
      by_cases hc : d ≤ i
      · simp only [hc, if_true] at hb ⊢
        cases hx : vs[(i - d).toNat]? with
        | some x =>
          rw [hx] at hb
          simp only at hb ⊢
          have hxo := hvo x (List.mem_of_getElem? hx)
          refine ⟨shiftT_ok d 0 (by omega) x 0 m 65536 hxo (by omega) (by omega) (by omega) hb, ?_⟩
          exact shiftT_size d 0 x 0 65536 hxo
        | none =>
          rw [hx] at hb
          simp at hb
          rw [List.getElem?_eq_none_iff] at hx
          simp only [vr, Tm.ok, Tm.okN, Tm.oks]
          exact ⟨⟨⟨fun _ => ⟨by omega, by omega, trivial, trivial, trivial⟩, by simp, by simp, by simp⟩, trivial⟩, rfl⟩
      · simp only [hc, if_false]
        exact ⟨by rw [← hk]; exact h', rfl⟩
    · simp only [hk, if_false] at hb ⊢
      have hl := subL_length vs d k ks 0
      have := subL_ok vs hvo ks d m k 0 h.2 hd hm hb
      simp only [Tm.ok, Tm.okN, Tm.size]
      exact ⟨⟨⟨fun h0 => absurd h0 hk, h.1.2.1, h.1.2.2.1, by rw [hl]; exact h.1.2.2.2⟩, this.1⟩, by rw [this.2]⟩
theorem subL_ok (vs : List Tm) (hvo : ∀ v ∈ vs, v.ok 65536) : ∀ (l : List Tm) (d m k : Int) (idx : Nat), Tm.oks m k idx l → 0 ≤ d → 65536 + d ≤ m → subBads vs d k idx l = false → Tm.oks m k idx (subL vs d k idx l) ∧ Tm.sizes (subL vs d k idx l) = subCnts vs d k idx l
  | [], d, m, k, idx, _, _, _, _ => ⟨trivial, rfl⟩
  | t :: ts, d, m, k, idx, h, hd, hm, hb => by
    simp only [Tm.oks] at h
    simp only [subBads, Bool.or_eq_false_iff] at hb
    have hz := belowZ_01' k idx
    have e1 := subT_ok vs hvo t (d + belowZ k idx) (m + belowZ k idx) h.1 (by omega) (by omega) hb.1
    have e2 := subL_ok vs hvo ts d m k (idx + 1) h.2 hd hm hb.2
    simp only [subL, Tm.oks, Tm.sizes, subCnts]
    exact ⟨⟨e1.1, e2.1⟩, by rw [e1.2, e2.2]⟩
end

mutual
theorem ok_mono : ∀ (t : Tm) (m M : Int), t.ok m → m ≤ M → t.ok M
  | .mk k i n ls ks, m, M, h, hM => by
    simp only [Tm.ok, Tm.okN] at h ⊢
    exact ⟨⟨fun hk => by have := h.1.1 hk; exact ⟨this.1, by omega, this.2.2⟩, h.1.2⟩, oks_mono ks m M k 0 h.2 hM⟩
theorem oks_mono : ∀ (l : List Tm) (m M k : Int) (idx : Nat), Tm.oks m k idx l → m ≤ M → Tm.oks M k idx l
  | [], _, _, _, _, _, _ => trivial
  | t :: ts, m, M, k, idx, h, hM => by
    simp only [Tm.oks] at h ⊢
    exact ⟨ok_mono t _ _ h.1 (by omega), oks_mono ts m M k (idx + 1) h.2 hM⟩
end

end Go.Proofs.Ytppgpabjcenjdaa
