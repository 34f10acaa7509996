import Derived.Test.YtfajdeofhioakaaGreatJA0
import Derived.Laws.Strings
import Derived.Test.YtfajdeofhioakaaGreatJC
import Derived.Test.YtfajdeofhioakaaGreatJFD
set_option maxRecDepth 8000
set_option maxHeartbeats 8000000


namespace Go.Proofs.YtfajdeofhioakaaGreat

open Go Go.AI

mutual
theorem yA : ∀ (t : Tm) (m : Int), t.ok m -> m + t.size <= 1099511627776 -> t.idx
 | .mk k i n ls ks, m, h, hm => by
  simp only [Tm.ok, Tm.okN] at h;simp only [Tm.size] at hm;simp only [Tm.idx];exact ⟨fun hk => by have := h.1.1 hk; omega, aH8 ks m k 0 h.2 aB⟩
theorem aH8 : ∀ (l : List Tm) (m k : Int) (idx : Nat), Tm.oks m k idx l -> m + 1 + Tm.sizes l <= 1099511627776 -> Tm.idxs l
 | [], _, _, _, _, _ => trivial
 | t :: ts, m, k, idx, h, hm => by
  simp only [Tm.oks] at h;simp only [Tm.sizes] at hm;have := aU k idx;exact ⟨yA t _ h.1 aB, aH8 ts m k (idx + 1) h.2 aB⟩
end
def aB6 (by_ fr : Int) (t : Tm) : Tm × Int :=
 if fr < 0 \/ by_ < -65536 \/ 65536 < by_ then (zT, 2)
 else if bG by_ (if 65536 < fr then 65536 else fr) 0 t = true then (zT, 24) else (dH by_ (if 65536 < fr then 65536 else fr) 0 t, 0)


open Go Go.AI
@[simp] theorem bAv : aEh Tryz.prog 146 = true := aC
def aW (p : Nat -> Bool) (n : Nat) : Bool := (List.range n).all p
theorem allTo_succ (p : Nat -> Bool) (n : Nat) : aW p (n + 1) = (aW p n && p n) := by simp [aW, List.range_succ]
theorem allTo_false {p : Nat -> Bool} {n j : Nat} (hj : j < n) (h : p j = false) : aW p n = false := by
 rw [aW, List.all_eq_false]; exact ⟨j, bCq.2 hj, by simp [h]⟩
theorem gD {p : Nat -> Bool} {n : Nat} (h : aW p n = true) {j : Nat} (hj : j < n) : p j = true := by
 rw [aW, bC0] at h; exact h j (bCq.2 hj)
theorem fT {p : Nat -> Bool} {n : Nat} : aW p n = true ↔ ∀ j, j < n -> p j = true :=
 ⟨fun h _ hj => gD h hj, fun h => by rw [aW, bC0]; exact fun j hj => h j (bCq.1 hj)⟩
def fP (c : Int) : Bool := (decide (97 <= c) && decide (c <= 122)) || ((decide (65 <= c) && decide (c <= 90)) || c == 95)
theorem sW (h : Heap) (hh : WF h) (c : Int) : AC 190 [.p (.prim (.int .u8 c))] h (bA (fP c)) := by
 refine zER Tryz.func190 Tryz.ntmps190 ?_;refine Run.regJ [] 2 (fP c) (fun K J => ?_) ?_
 ·simp
  repeat' (first | apply And.intro | intro _)
  all_goals
   refine y6 ?_
   repeat' first | exact wn | apply wc
   all_goals first | exact Weak.junk _ | (refine Weak.bool ?_; clear J; rw [bCd]; simp [fP]; done) | (refine Weak.bool ?_; clear J; rw [bCd]; simp [fP]; omega) | (refine Weak.bool ?_; clear J; simp_all; done) | (refine Weak.bool ?_; clear J; simp [*]; done) | (refine Weak.bool ?_; clear J; rw [bCd]; simp [*]; omega) | exact Weak.refl _
 simp only [setMany, keepT, keepT.go, bDw, bDl];simp;refine Run.ret ?_;exact y63
def xS (k : Int) : Int := if k = 4 \/ k = 5 \/ k = 6 \/ k = 7 then 2 else if k = 8 \/ k = 11 then 3 else if k = 9 \/ k = 10 then 1 else 0


open Go Go.AI
theorem aK4 (h : Heap) (hh : WF h) (k : Int) : AC 189 [iA k] h (iA (xS k)) := by
 have hcase : k = 4 \/ k = 5 \/ k = 6 \/ k = 7 \/ k = 8 \/ k = 11 \/ k = 9 \/ k = 10 \/ ((k == 4) = false /\ (k == 5) = false /\ (k == 6) = false /\ (k == 7) = false /\ (k == 8) = false /\ (k == 11) = false /\ (k == 9) = false /\ (k == 10) = false) := by simp; omega
 refine zE Tryz.func189 Tryz.ntmps189 ?_;refine nv ?_;rcases hcase with rfl | rfl | rfl | rfl | rfl | rfl | rfl | rfl | ⟨e1, e2, e3, e4, e5, e6, e7, e8⟩
 case inr.inr.inr.inr.inr.inr.inr.inr =>
  repeat (first | refine nw ?_ | (refine Run.reg fun K J => ?_; simp [e1, e2, e3, e4, e5, e6, e7, e8]; (try (simp (disch := omega) only [wrap_id])); refine J _ _ _ ?_; clear J) | refine ct rfl ?_ | refine cf rfl ?_ | refine Run.exit rfl ?_ | refine Run.ret ?_)
  simp only [beq_eq_false_iff_ne, ne_eq] at *;refine zF3 hh ?_;exact ⟨by simp [xS, *], rfl⟩
 all_goals
  refine zA ?_;refine zF3 hh ?_;exact ⟨by simp [xS], rfl⟩
def vX (c : Int) (vs : List (Int × Int)) (j : Nat) : Bool :=
 match vs[j]? with
 | some v => !(decide (v.1 < -65536) || decide (8 <= v.1) || decide (v.2 < 0) || decide (100 < v.2)) &&
   !(decide (0 < j) && (match vs[j - 1]? with | some u => decide (v.1 <= u.1) | none => false)) && !(decide (0 < c) && decide (c <= v.2))
 | none => true
def nM (l : Lv) : Bool := !(decide (l.c < 0) || decide (100 < l.c)) && aW (vX l.c l.vars) l.vars.length
theorem aIj (h : Heap) (hh : WF h) (l : Lv) (hb : l.vars.length <= 1048576) : AC 191 [l.av] h (bA (nM l)) := by
 obtain ⟨c, vs⟩ := l;simp only at hb;simp only [Lv.av, Lv.cells, List.map];refine zER Tryz.func191 Tryz.ntmps191 ?_;refine Run.regJ [0, 1, 2] 12 (decide (c < 0) || decide (100 < c)) (fun K J => ?_) ?_
 ·simp;exact y1f
 refine y5 ?_;simp;refine Run.condB rfl (fun hc => ?_) (fun hc => ?_)
 ·refine zA ?_;refine zF2 hh ?_;exact ⟨by simp [nM, hc], rfl⟩
 ·refine znr ?_;refine Run.loopS [1] (fun j : Nat => j <= vs.length /\ aW (vX c vs) j = true) (fun j => vs.length - j) (fun j => [(3, iA j)]) (fun _ => _) 0 (by simp [aW]) ?_ rfl ?_
  ·exact zS
  ·rintro j ⟨hj, hall⟩ IH;refine eU ?_
   by_cases hjl : j < vs.length
   ·have hg : vs[j]? = some vs[j] := bBf hjl;obtain ⟨⟨x, y⟩, hxy⟩ : ∃ p, vs[j] = p := ⟨_, rfl⟩;rw [hxy] at hg;refine lZ hjl hg ?_;refine Run.regJ [1, 3, 4] 42 (decide (x < -65536) || decide (8 <= x) || decide (y < 0) || decide (100 < y)) (fun K J => ?_) ?_
    ·simp;exact y1f
    refine y5 ?_;simp;refine Run.condB rfl (fun h1 => ?_) (fun h1 => ?_)
    ·refine zA ?_;refine Fin.ret' aA rfl hh rfl rfl rfl (Weak.refl _) rfl ⟨?_, rfl⟩;have : vX c vs j = false := by simp only [vX, hg, h1]; simp
     simp [nM, allTo_false hjl this]
    ·obtain ⟨b2, hb2⟩ : ∃ b, b = (decide (0 < j) && (match vs[j - 1]? with | some u => decide (x <= u.1) | none => false)) := ⟨_, rfl⟩
     have hjj : (∃ u, 0 < j /\ vs[j - 1]? = some u) \/ j = 0 := by
      rcases Nat.eq_zero_or_pos j with e | e
      ·exact .inr e
      ·exact .inl ⟨_, e, bBf (show j - 1 < vs.length by omega)⟩
     refine nv ?_;refine Run.draw [0, 0, 0, 0, 0, 0, 0, 0, 0, 0, 0, 0, 0, 0] [0, 0, 0, 0, 0, 0, 0, 0, 0, 0, 0, 0, 0, 0] [0, 1, 3, 7, 15, 7, 39, 127, 255, 511, 7, 1031, 4095, 8191] [0, 1, 2, 3, 4, 5, 6, 7, 8, 9, 10, 11, 12, 13] aC aC ?_;refine DR.goJ [1, 3, 4] 56 b2 (fun K J => ?_) ?_
     ·subst hb2;rcases hjj with ⟨u, hj0, hu⟩ | hj0
      ·have hw : IntKind.i64.wrap ((j : Int) - 1) = (j : Int) - 1 := wrap_id aB aB;have hn : ¬ ((j : Int) - 1 < 0) := aB;have ht : ((j : Int) - 1).toNat = j - 1 := aB;simp [hw, hn, ht, hu, hj0]
       repeat' (first | apply And.intro | intro _)
       all_goals
        try (simp (disch := omega) only [wrap_id])
        refine J _ _ ?_;simp
        repeat' first | exact wn | apply wc
        all_goals first | exact Weak.junk _ | (refine Weak.bool ?_; clear J; rw [bCd]; simp [hu, hj0]; done) | (refine Weak.bool ?_; clear J; rw [bCd]; simp [hw, hn, ht, hu, hj0]; omega) | (refine Weak.bool ?_; clear J; simp_all; done) | (refine Weak.bool ?_; clear J; simp [*]; done) | (refine Weak.bool ?_; clear J; rw [bCd]; simp [*]; omega) | exact Weak.refl _
      ·subst hj0;simp
       repeat' (first | apply And.intro | intro _)
       all_goals
        try (simp (disch := omega) only [wrap_id])
        refine J _ _ ?_;simp
        repeat' first | exact wn | apply wc
        all_goals first | exact Weak.junk _ | (refine Weak.bool ?_; clear J; rw [bCd]; simp; done) | (refine Weak.bool ?_; clear J; rw [bCd]; simp; omega) | (refine Weak.bool ?_; clear J; simp_all; done) | (refine Weak.bool ?_; clear J; simp [*]; done) | (refine Weak.bool ?_; clear J; rw [bCd]; simp [*]; omega) | exact Weak.refl _
     refine y5 ?_;simp;refine Run.condB rfl (fun h2 => ?_) (fun h2 => ?_)
     ·refine zA ?_;refine Fin.ret' aA rfl hh rfl rfl rfl (Weak.refl _) rfl ⟨?_, rfl⟩;have : vX c vs j = false := by simp only [vX, hg, h1, <- hb2, h2]; simp
      simp [nM, allTo_false hjl this]
     ·refine nv ?_;refine Run.regJ [1, 3] 66 (decide (0 < c) && decide (c <= y)) (fun K J => ?_) ?_
      ·simp;exact y1f
      refine y5 ?_;simp;refine Run.condB rfl (fun h3 => ?_) (fun h3 => ?_)
      ·refine zA ?_;refine Fin.ret' aA rfl hh rfl rfl rfl (Weak.refl _) rfl ⟨?_, rfl⟩;have : vX c vs j = false := by simp only [vX, hg, h1, <- hb2, h2, h3]; simp
       simp [nM, allTo_false hjl this]
      ·refine znr ?_;refine Run.cutAt 1 hh rfl aB aA aA aA rfl ?_;refine IH (j + 1) _ _ ⟨by omega, ?_⟩ aB ?_ ?_
       ·rw [allTo_succ, hall];simp only [vX, hg, h1, <- hb2, h2, h3]; simp
       ·exact zS
       ·simp
   ·have hje : j = vs.length := aB;subst hje;refine znfen ?_;refine zA ?_;refine Fin.ret' aA rfl hh rfl rfl rfl (Weak.refl _) rfl ⟨by simp [nM, hc, hall], rfl⟩


open Go Go.AI
def eO (params levels : Int) (l : Lv) : Int :=
 if nM l = false then 3
 else if aW (fun j => match l.vars[j]? with | some v => !(decide (0 <= v.1) && decide (params <= v.1)) | none => true) l.vars.length = false then 15
 else if aW (fun j => match l.vars[j]? with | some v => !(decide (v.1 < 0) && decide (levels <= -1 - v.1)) | none => true) l.vars.length = false then 23 else 0
theorem aGz (h : Heap) (hh : WF h) (l : Lv) (params levels : Int) (hb : l.vars.length <= 1048576) (hr : ∀ v ∈ l.vars, -9223372036854775808 <= v.1) :
  AC 140 [l.av, iA params, iA levels] h (iA (eO params levels l)) := by
 have hval := aIj (h ++ [some (.cells (l.cells.map .p))]) (hh.app aA) l hb;obtain ⟨c, vs⟩ := l;simp only at hb hr;simp only [Lv.av, Lv.cells, List.map] at hval ⊢;refine nU Tryz.func140 Tryz.ntmps140 ?_;refine Run.call rfl rfl aA rfl hval ?_ ?_
 ·rintro v h' ⟨hv, rfl⟩;simp only [AOut.ret.injEq] at hv;subst hv
  cases hvb : nM ⟨c, vs⟩ with
  | false =>
   refine zo ?_;refine zA ?_;refine zF2 hh ?_;exact ⟨by simp [eO, hvb], rfl⟩
  | true =>
   refine zofr ?_;refine Run.loopS [1, 2, 3] (fun j : Nat => j <= vs.length /\ aW (fun j => match vs[j]? with | some v => !(decide (0 <= v.1) && decide (params <= v.1)) | none => true) j = true) (fun j => vs.length - j) (fun j => [(7, iA j)]) (fun _ => _) 0 (by simp [aW]) ?_ rfl ?_
   ·exact zS
   ·rintro j ⟨hj, hall⟩ IH;refine eU ?_
    by_cases hjl : j < vs.length
    ·have hg : vs[j]? = some vs[j] := bBf hjl;obtain ⟨⟨x, y⟩, hxy⟩ : ∃ p, vs[j] = p := ⟨_, rfl⟩;rw [hxy] at hg;refine znt1 hjl ?_;refine Run.regJ [1, 2, 3, 7] 35 (decide (0 <= x) && decide (params <= x)) (fun K J => ?_) ?_
     ·simp [hg];exact y1f
     refine y5 ?_;simp;refine Run.condB rfl (fun h1 => ?_) (fun h1 => ?_)
     ·refine zA ?_;refine Fin.ret' aA rfl hh rfl rfl rfl (Weak.refl _) rfl ⟨?_, rfl⟩;have := allTo_false (p := fun j => match vs[j]? with | some v => !(decide (0 <= v.1) && decide (params <= v.1)) | none => true) hjl (by simp only [hg, h1]; rfl);simp only [eO, hvb, this, if_true]; rfl
     ·refine znr ?_;refine IH (j + 1) _ _ ⟨by omega, ?_⟩ aB ?_ rfl
      ·rw [allTo_succ, hall]; simp only [hg, h1]; rfl
      ·exact zS
    ·have hje : j = vs.length := aB;subst hje;refine lY ?_;refine Run.loopS [1, 2, 3] (fun j : Nat => j <= vs.length /\ aW (fun j => match vs[j]? with | some v => !(decide (v.1 < 0) && decide (levels <= -1 - v.1)) | none => true) j = true) (fun j => vs.length - j) (fun j => [(8, iA j)]) (fun _ => _) 0 (by simp [aW]) ?_ rfl ?_
     ·exact zS
     ·rintro i ⟨hi, hall2⟩ IH2;refine eU ?_
      by_cases hil : i < vs.length
      ·have hg : vs[i]? = some vs[i] := bBf hil;have hr2 := hr _ (bBi hil);obtain ⟨⟨x, y⟩, hxy⟩ : ∃ p, vs[i] = p := ⟨_, rfl⟩;rw [hxy] at hg hr2;simp only at hr2;refine znt1 hil ?_;refine Run.regJ [1, 2, 3, 8] 60 (decide (x < 0) && decide (levels <= -1 - x)) (fun K J => ?_) ?_
       ·by_cases hx : x < 0
        ·have hw : IntKind.i64.wrap (-1 - x) = -1 - x := wrap_id aB aB;simp [hg, hx, hw]
         repeat' (first | apply And.intro | intro _)
         all_goals
          refine y6 ?_
          repeat' first | exact wn | apply wc
          all_goals first | exact Weak.junk _ | (refine Weak.bool ?_; clear J; rw [bCd]; simp [hx]; done) | (refine Weak.bool ?_; clear J; rw [bCd]; simp [hg, hx, hw]; omega) | (refine Weak.bool ?_; clear J; simp_all; done) | (refine Weak.bool ?_; clear J; simp [*]; done) | (refine Weak.bool ?_; clear J; rw [bCd]; simp [*]; omega) | exact Weak.refl _
        ·simp [hg, hx]
         repeat' (first | apply And.intro | intro _)
         all_goals
          refine y6 ?_
          repeat' first | exact wn | apply wc
          all_goals first | exact Weak.junk _ | (refine Weak.bool ?_; clear J; rw [bCd]; simp [hx]; done) | (refine Weak.bool ?_; clear J; rw [bCd]; simp [hg, hx]; omega) | (refine Weak.bool ?_; clear J; simp_all; done) | (refine Weak.bool ?_; clear J; simp [*]; done) | (refine Weak.bool ?_; clear J; rw [bCd]; simp [*]; omega) | exact Weak.refl _
       refine y5 ?_;simp;refine Run.condB rfl (fun h1 => ?_) (fun h1 => ?_)
       ·refine zA ?_;refine Fin.ret' aA rfl hh rfl rfl rfl (Weak.refl _) rfl ⟨?_, rfl⟩;have := allTo_false (p := fun j => match vs[j]? with | some v => !(decide (v.1 < 0) && decide (levels <= -1 - v.1)) | none => true) hil (by simp only [hg, h1]; rfl);simp only [eO, hvb, hall, this, if_true]; rfl
       ·refine znr ?_;refine IH2 (i + 1) _ _ ⟨by omega, ?_⟩ aB ?_ rfl
        ·rw [allTo_succ, hall2]; simp only [hg, h1]; rfl
        ·exact zS
      ·have hie : i = vs.length := aB;subst hie;refine znfen ?_;refine zA ?_;refine Fin.ret' aA rfl hh rfl rfl rfl (Weak.refl _) rfl ⟨?_, rfl⟩;simp only [eO, hvb, hall, hall2]; rfl
 ·rintro v h' ⟨hv, _⟩; cases hv


open Go Go.AI

attribute [simp] ByteArray.toList_eq
def xZ : Option Bool -> UInt8 -> Option Bool
 | none, _ => none
 | some true, c => if fP c.toNat then some false else none
 | some false, c => if (c.toNat : Int) == 46 then some true else if fP c.toNat || (c.toNat : Int) == 39 || (decide (48 <= (c.toNat : Int)) && decide ((c.toNat : Int) <= 57)) then some false else none
def jS (l : List UInt8) : Option Bool := l.foldl xZ (some true)
def nameB (n : List UInt8) : Bool := !(decide (n = []) || decide (64 < (n.length : Int))) && jS n == some false
theorem aKi (l : List UInt8) : l.foldl xZ none = none := by
 induction l with
 | nil => rfl
 | cons c l ih => exact ih
theorem aKj {n : List UInt8} {j : Nat} {c : UInt8} (h : n[j]? = some c) : jS (n.take (j + 1)) = xZ (jS (n.take j)) c := by
 have : n.take (j + 1) = n.take j ++ [c] := by
  obtain ⟨hj, rfl⟩ := bBg.1 h;exact bBq hj
 rw [this, jS, bE1]; rfl
theorem nst_dead {n : List UInt8} {j : Nat} (h : jS (n.take j) = none) : jS n = none := by
 have e : n = n.take j ++ n.drop j := (bCp j n).symm;rw [e, jS, bE1];rw [jS] at h;rw [h]; exact aKi _
theorem aKe (h : Heap) (hh : WF h) (n : List UInt8) : AC 139 [.p (sP n)] h (bA (nameB n)) := by
 refine zER Tryz.func139 Tryz.ntmps139 ?_;refine Run.regJ [0, 2] 12 (decide (n = []) || decide (64 < (n.length : Int))) (fun K J => ?_) ?_
 ·simp [ByteArray.size];exact y1f
 refine y5 ?_;simp;refine Run.condB rfl (fun hc => ?_) (fun hc => ?_)
 ·refine zA ?_;refine zF3 hh ?_;exact ⟨by simp [nameB, hc], rfl⟩
 ·have hn64 : n.length <= 64 := by simp at hc; omega
  refine znrr ?_;refine Run.loopS (ι := Nat × Bool) [0, 2] (fun p => p.1 <= n.length /\ jS (n.take p.1) = some p.2) (fun p => n.length - p.1) (fun p => [(3, bA p.2), (4, iA p.1)]) (fun _ => _) (0, true) (by simp [jS]) ?_ rfl ?_
  ·exact zS
  ·rintro ⟨j, fst⟩ ⟨hj, hst⟩ IH;simp only at hj hst;refine zs ?_;refine zn ?_;refine Run.reg fun K J => ?_
   simp [ByteArray.size];refine zj ?_; clear J
   by_cases hjl : j < n.length
   ·have hg : n[j]? = some n[j] := bBf hjl;obtain ⟨c, hcj⟩ : ∃ c, n[j] = c := ⟨_, rfl⟩;rw [hcj] at hg;have hsn := aKj hg;rw [hst] at hsn;refine lZ hjl hg ?_;refine zr ?_
    cases fst with
    | true =>
     refine zn ?_;refine yi ?_;refine Run.call rfl rfl aA rfl (sW _ hh c.toNat) ?_ ?_
     ·rintro v h' ⟨hv, rfl⟩;simp only [AOut.ret.injEq] at hv;subst hv
      cases hlb : fP c.toNat with
      | false =>
       refine zo ?_;refine zA ?_;simp only [xZ, hlb] at hsn;exact y5k
      | true =>
       refine zofr ?_;refine ze ?_;refine znr ?_;simp only [xZ, hlb, if_true] at hsn;exact y64
     ·rintro v h' ⟨hv, _⟩; cases hv
    | false =>
     refine aMo ?_
     by_cases h46 : (c.toNat : Int) = 46
     ·refine nV h46 ?_;refine ze ?_;refine znr ?_;refine IH (j + 1, true) _ _ ⟨by simp only; omega, by rw [hsn]; simp [xZ, h46]⟩ (by simp only; omega) ?_ rfl;exact zS
     ·refine znf1r h46 ?_;refine Run.call rfl rfl aA rfl (sW _ hh c.toNat) ?_ ?_
      ·rintro v h' ⟨hv, rfl⟩;simp only [AOut.ret.injEq] at hv;subst hv
       have fin : ∀ b : Bool, b = (!fP c.toNat && ((c.toNat : Int) != 39 && (decide ((c.toNat : Int) < 48) || decide (57 < (c.toNat : Int))))) -> xZ (some false) c = if b then none else some false := by
        intro b hb;subst hb;simp only [xZ, beq_iff_eq, h46, if_false]
        cases fP c.toNat <;> simp
        by_cases q1 : (c.toNat : Int) = 39 <;> simp [q1]
        by_cases q2 : 48 <= (c.toNat : Int) <;> by_cases q3 : (c.toNat : Int) <= 57 <;> simp [q2, q3] <;> omega
       obtain ⟨lb, hlb⟩ : ∃ lb, fP c.toNat = lb := ⟨_, rfl⟩;obtain ⟨z, hz⟩ : ∃ z : Int, (c.toNat : Int) = z := ⟨_, rfl⟩;rw [hz] at hlb h46 fin;rw [hlb] at fin;rw [hz, hlb];refine Run.opsJ [0, 2, 3, 4, 5] 42 (!lb && (z != 39 && (decide (z < 48) || decide (57 < z)))) (fun K J => ?_) ?_
       ·simp;exact y1f
       simp only [setMany, keepT];simp;refine Run.condB rfl (fun h1 => ?_) (fun h1 => ?_)
       ·refine zA ?_;have hf := fin _ h1.symm;simp only [if_true] at hf;rw [hf] at hsn;exact y5k
       ·refine znr ?_;have hf := fin _ h1.symm;simp only [bBy, if_false] at hf;rw [hf] at hsn;exact y64
      ·rintro v h' ⟨hv, _⟩; cases hv
   ·have hje : j = n.length := aB;subst hje;refine znfen ?_;refine zA ?_;rw [bC6] at hst;refine Fin.ret' aA rfl hh (bBl _).symm rfl rfl (Weak.refl _) rfl ⟨?_, rfl⟩;simp only [nameB, hst, hc]
    cases fst <;> rfl


open Go Go.AI
def uT (k i : Int) (n : List UInt8) (lsl ksl : Int) : Bool :=
 !(decide (k < 0) || decide (13 <= k) || ksl != xS k) && !(i != 0 && (k != 0 && k != 12)) && !(!decide (n = []) && k != 3) && (if k = 2 then lsl == 1 else (lsl == 0 || k == 3))
def kE : Tm -> Bool
 | .mk k i n ls ks => uT k i n ls.length ks.length
theorem aJq (h : Heap) (hh : WF h) (t : Tm) : AC 138 [t.av] h (bA (kE t)) := by
 obtain ⟨k, i, n, ls, ks⟩ := t;have hk := aK4 (h ++ [some (.cells [iA k, iA i, .p (sP n), .p (.sl 2 (bR ls)), .p (.sl 5 (aP ks))])]) (hh.app aA) k;refine ACalls.of_run Tryz.func138 rfl ?_;simp only [Tryz.ntmps138, bBm, bBn, Tm.av, cells_mk, List.map];refine znr ?_;have hcase : (k < 0) \/ (¬ k < 0 /\ 13 <= k) \/ (¬ k < 0 /\ ¬ 13 <= k) := aB;rcases hcase with c1 | ⟨c1, c2⟩ | ⟨c1, c2⟩
 ·refine y7 ?_;refine zd1 c1 ?_;refine y8 ?_;refine nv ?_;refine zA ?_;refine zF2 hh ?_;exact ⟨by simp [kE, uT, c1], rfl⟩
 ·refine y7 ?_;refine zd2 c1 c2 ?_;refine y8 ?_;refine nv ?_;refine zA ?_;refine zF2 hh ?_;exact ⟨by simp [kE, uT, c1, c2], rfl⟩
 ·refine y7 ?_;refine zd2 c1 c2 ?_;refine DR.call (args := [iA k]) rfl rfl aA aA rfl hk ?_;refine zd ?_;refine y8 ?_;refine nv ?_;refine Run.condB rfl (fun h1 => ?_) (fun h1 => ?_)
  ·refine zA ?_;refine zF2 hh ?_;exact ⟨by simp only [kE, uT, h1]; simp, rfl⟩
  ·refine nv ?_;refine Run.regJ [1] 32 (i != 0 && (k != 0 && k != 12)) (fun K J => ?_) ?_
   ·simp;exact y1f
   refine y5 ?_;simp;refine Run.condB rfl (fun h2 => ?_) (fun h2 => ?_)
   ·refine zA ?_;refine zF2 hh ?_;exact ⟨by simp only [kE, uT, h2]; simp, rfl⟩
   ·refine nv ?_;refine Run.regJ [1] 40 (!decide (n = []) && k != 3) (fun K J => ?_) ?_
    ·simp;exact y1f
    refine y5 ?_;simp;refine Run.condB rfl (fun h3 => ?_) (fun h3 => ?_)
    ·refine zA ?_;refine zF2 hh ?_;exact ⟨by simp only [kE, uT, h3]; simp, rfl⟩
    ·refine znr ?_
     have h1' : (decide (k < 0) || decide (13 <= k) || (ks.length : Int) != xS k) = false := by
      simp [c1, c2]; simpa using h1
     by_cases c4 : k = 2
     ·refine znt1rx c4 ?_;refine Fin.ret' aA rfl hh rfl rfl rfl (Weak.refl _) rfl ⟨?_, rfl⟩;have e : kE (.mk k i n ls ks) = ((ls.length : Int) == 1) := by simp only [kE, uT, h1', h2, h3]; rw [if_pos c4]; rfl
      rw [e]; rfl
     ·refine aD8 c4 ?_;refine Run.regJ [1] 2 ((ls.length : Int) == 0 || k == 3) (fun K J => ?_) ?_
      ·simp;exact y1f
      refine y5 ?_;simp;refine Run.ret ?_;refine Fin.ret' aA rfl hh rfl rfl rfl (Weak.refl _) rfl ⟨?_, rfl⟩;have e : kE (.mk k i n ls ks) = ((ls.length : Int) == 0 || k == 3) := by simp only [kE, uT, h1', h2, h3]; rw [if_neg c4]; rfl
      rw [e]; rfl


open Go Go.AI

mutual
def Tm.depth : Tm -> Nat
 | .mk _ _ _ _ ks => Tm.depths ks + 1
def Tm.depths : List Tm -> Nat
 | [] => 0
 | t :: ts => max t.depth (Tm.depths ts)
end
theorem depths_snoc (l : List Tm) (t : Tm) : Tm.depths (l ++ [t]) = max (Tm.depths l) t.depth := by
 induction l with
 | nil => simp [Tm.depths]
 | cons x l ih => simp only [bBj, Tm.depths, ih]; omega

mutual
theorem eP : ∀ t : Tm, t.depth <= t.size
 | .mk _ _ _ _ ks => by simp only [Tm.depth, Tm.size]; have := depths_le_sizes ks; omega
theorem depths_le_sizes : ∀ l : List Tm, Tm.depths l <= Tm.sizes l
 | [] => by simp [Tm.depths, Tm.sizes]
 | t :: ts => by simp only [Tm.depths, Tm.sizes]; have := eP t; have := depths_le_sizes ts; omega
end
theorem jO (l : List Tm) (i : Nat) : Tm.depths (l.take i) <= Tm.sizes l := bDc (depths_le_sizes _) (bQ l i)
theorem oZ (N : Nat) : ∀ (t : Tm) (h : Heap), t.size <= N -> t.size <= 1099511627776 -> WF h -> AC 36 [t.av] h (iA t.depth) := by
 induction N with
 | zero => intro t h hN; cases t; simp [Tm.size] at hN
 | succ N ih =>
 intro t h hN hsz hh;obtain ⟨k, i, n, ls, ks⟩ := t;simp only [Tm.size] at hN hsz;refine ACalls.of_run Tryz.func36 rfl ?_;simp only [Tryz.ntmps36, bBm, bBn, Tm.av, cells_mk, List.map];refine aIv ?_;refine Run.loopS [1] (fun j : Nat => j <= ks.length) (fun j => ks.length - j) (fun j => [(3, iA (Tm.depths (ks.take j) : Nat)), (4, iA j)]) (fun _ => _) 0 aA ?_ rfl ?_
 ·simp [Tm.depths];exact zK
 ·intro j hj IH;refine eU ?_
  by_cases hjl : j < ks.length
  ·have hg : ks[j]? = some ks[j] := bBf hjl;have hs := dD hjl;have htk : ks.take (j + 1) = ks.take j ++ [ks[j]] := bBq hjl;have hd1 := eP ks[j];have hll := aR ks;have hd2 := jO ks j;refine lZ hjl hg ?_;refine Run.call (args := [ks[j].av]) rfl rfl aA rfl (ih ks[j] _ aB aB (hh.app aA)) ?_ ?_
   ·rintro v h' ⟨hv, rfl⟩;simp only [AOut.ret.injEq] at hv;subst hv;refine zor ?_;refine IH (j + 1) _ _ aB aB ?_ rfl;exact y3z
   ·rintro v h' ⟨hv, _⟩; cases hv
  ·exact y3g
def bT (l : List Int) : Int := match l with
 | [] => 0
 | e :: l => if e = 0 then bT l else e
theorem gK (l : List Int) (e : Int) : bT (l ++ [e]) = if bT l = 0 then e else bT l := by
 induction l with
 | nil => simp only [bBo, bT]; split <;> simp_all
 | cons x l ih => simp only [bBj, bT, ih]; split <;> simp_all
theorem pG {l : List Int} {j : Nat} (h : bT (l.take j) ≠ 0) : bT l = bT (l.take j) := by
 induction l generalizing j with
 | nil => simp
 | cons x l ih =>
  cases j with
  | zero => simp [bT] at h
  | succ j =>
   simp only [bCf, bT] at h ⊢;split
   ·rename_i hx; simp only [hx, if_true] at h; exact ih h
   ·rfl
def uW (depth vars params metas levels : Int) (k i : Int) (n : List UInt8) (ls : List Lv) : Int :=
 if k = 3 /\ nameB n = false then 29
 else if 8 < ls.length then 6
 else if bT (ls.map (eO params levels)) ≠ 0 then bT (ls.map (eO params levels))
 else if k = 0 /\ (i < 0 \/ vars <= i - depth) then 24
 else if k = 12 /\ (i < 0 \/ metas <= i) then 23 else 0

mutual
def chk (vars params metas levels : Int) (depth : Int) : Tm -> Int
 | .mk k i n ls ks => if kE (.mk k i n ls ks) = false then 3 else
   if uW depth vars params metas levels k i n ls ≠ 0 then uW depth vars params metas levels k i n ls else bT (uN vars params metas levels k depth 0 ks)
def uN (vars params metas levels : Int) (k depth : Int) (idx : Nat) : List Tm -> List Int
 | [] => []
 | t :: ts => chk vars params metas levels (depth + aJ k idx) t :: uN vars params metas levels k depth (idx + 1) ts
end
theorem kS (v p m l k d : Int) : ∀ (ks : List Tm) (idx j : Nat), (uN v p m l k d idx ks).take j = uN v p m l k d idx (ks.take j)
 | [], _, _ => by simp [uN]
 | t :: ts, idx, 0 => by simp [uN]
 | t :: ts, idx, j + 1 => by simp only [uN, bCf, kS v p m l k d ts (idx + 1) j]
theorem wS (v p m l k d : Int) : ∀ (ks : List Tm) (idx : Nat) (t : Tm), uN v p m l k d idx (ks ++ [t]) = uN v p m l k d idx ks ++ [chk v p m l (d + aJ k (idx + ks.length : Nat)) t]
 | [], idx, t => by simp [uN]
 | x :: ks, idx, t => by simp only [bBj, uN, wS v p m l k d ks (idx + 1) t]; simp [bDk, bE7 1]


open Go Go.AI

mutual
def Tm.fit : Tm -> Prop
 | .mk _ i _ ls ks => ls.length <= 1048576 /\ (∀ l ∈ ls, l.vars.length <= 1048576 /\ ∀ v ∈ l.vars, -9223372036854775808 <= v.1) /\ -9223372036854775808 <= i /\ i <= 9223372036854775807 /\ Tm.fits ks
def Tm.fits : List Tm -> Prop
 | [] => True
 | t :: ts => t.fit /\ Tm.fits ts
end
theorem Tm.fits_at {l : List Tm} (h : Tm.fits l) : ∀ t ∈ l, t.fit := by
 induction l with
 | nil => intro t ht; cases ht
 | cons x l ih =>
  simp only [Tm.fits] at h;intro t ht
  cases bC1.1 ht with
  | inl e => subst e; exact h.1
  | inr e => exact ih h.2 t e
theorem aN9 (vars params metas levels : Int) (N : Nat) : ∀ (t : Tm) (depth : Int) (h : Heap), t.size <= N -> t.fit -> 0 <= depth -> depth + t.size <= 1099511627776 -> WF h ->
  AC 91 [t.av, iA depth, iA vars, iA params, iA metas, iA levels] h (iA (chk vars params metas levels depth t)) := by
 induction N with
 | zero => intro t _ h hN; cases t; simp [Tm.size] at hN
 | succ N ih =>
 intro t depth h hN hfit hd0 hd1 hh;have hform := aJq (h ++ [some (.cells (t.cells.map .p))]) (hh.app aA) t;obtain ⟨k, i, n, ls, ks⟩ := t;have hname := aKe (h ++ [some (.cells [iA k, iA i, .p (sP n), .p (.sl 2 (bR ls)), .p (.sl 5 (aP ks))])]) (hh.app aA) n;simp only [Tm.size] at hN hd1;simp only [Tm.fit] at hfit;obtain ⟨hf1, hf2, hf3, hf4, hf5⟩ := hfit;refine ACalls.of_run Tryz.func91 rfl ?_;simp only [Tryz.ntmps91, bBm, bBn, Tm.av, cells_mk, List.map];refine znrr ?_;refine rl rfl rfl aA rfl hform ?_;refine zo ?_;refine Run.condB rfl (fun h1 => ?_) (fun h1 => ?_)
 ·refine zA ?_;have h1' : kE (.mk k i n ls ks) = false := by simpa using h1
  refine zF2 hh ?_;exact ⟨by simp only [chk, h1', if_true]; rfl, rfl⟩
 have h1' : kE (.mk k i n ls ks) = true := by simpa using h1
 have hchk : chk vars params metas levels depth (.mk k i n ls ks) = if uW depth vars params metas levels k i n ls ≠ 0 then uW depth vars params metas levels k i n ls else bT (uN vars params metas levels k depth 0 ks) := by
  simp only [chk, h1', Bool.true_eq_false, if_false]
 rw [hchk];clear hchk h1 h1' hform;have hll := aR ks;obtain ⟨hz, hH⟩ : ∃ e, uW depth vars params metas levels k i n ls = e := ⟨_, rfl⟩;rw [hH];unfold uW at hH;refine nv ?_;refine Run.join [1, 2, 3, 4, 5, 6] 28 (k == 3 && !nameB n) (fun hJ => ?_) ?_
 ·by_cases hk3 : k = 3
  ·subst hk3;refine znr ?_;refine Run.call rfl aA aA rfl hname ?_ ?_
   ·rintro v h' ⟨hv, rfl⟩;simp only [AOut.ret.injEq] at hv;subst hv;refine zo ?_;refine hJ _ ?_;exact zS
   ·rintro v h' ⟨hv, _⟩; cases hv
  ·have hk4 : (k == 3) = false := by simpa using hk3
   refine uC hk4 ?_;refine hJ _ ?_;simp [hk4];exact zK
 refine y5 ?_;simp;refine Run.condB rfl (fun h2 => ?_) (fun h2 => ?_)
 ·refine zA ?_;rw [if_pos (by simpa using h2)] at hH;exact y30
 rw [if_neg (by simpa using h2)] at hH;refine znr ?_
 by_cases h3 : 8 < ls.length
 ·have h3' : 8 < (ls.length : Int) := aB;refine znt1 h3' ?_;refine zA ?_;rw [if_pos h3] at hH;exact y30
 rw [if_neg h3] at hH;have h3' : ¬ 8 < (ls.length : Int) := aB;refine znf1r h3' ?_;refine Run.loopS [1, 2, 3, 4, 5, 6] (fun j : Nat => j <= ls.length /\ bT ((ls.map (eO params levels)).take j) = 0) (fun j => ls.length - j) (fun j => [(13, iA j)]) (fun _ => _) 0 (by simp [bT]) ?_ rfl ?_
 ·exact zS
 rintro j ⟨hj, hall⟩ IH;refine eU ?_
 by_cases hjl : j < ls.length
 ·have hg : ls[j]? = some ls[j] := bBf hjl;have hl := hf2 _ (bBi hjl);generalize ls[j] = u at hg hl
  have htk : (ls.map (eO params levels)).take (j + 1) = (ls.map (eO params levels)).take j ++ [eO params levels u] := by
   rw [bD1, bDo, hg]; rfl
  refine lZ hjl hg ?_;refine Run.call (args := [u.av, iA params, iA levels]) rfl rfl aA rfl (aGz _ (hh.app aA) u params levels hl.1 hl.2) ?_ ?_
  ·rintro v h' ⟨hv, rfl⟩;simp only [AOut.ret.injEq] at hv;subst hv;refine zor ?_
   by_cases h4 : eO params levels u = 0
   ·refine znf1r h4 ?_;refine IH (j + 1) _ _ ⟨by omega, by rw [htk, gK, hall, if_pos rfl, h4]⟩ aB ?_ rfl;exact zS
   ·refine znt1 h4 ?_;refine zA ?_
    have hst : bT (ls.map (eO params levels)) = eO params levels u := by
     have e : bT ((ls.map (eO params levels)).take (j + 1)) = eO params levels u := by rw [htk, gK, hall, if_pos rfl]
     rw [pG (j := j + 1) (by rw [e]; exact h4), e]
    rw [if_pos (by rw [hst]; exact h4), hst] at hH;refine zF2 hh ?_;exact ⟨by simp [<- hH, h4], rfl⟩
  ·rintro v h' ⟨hv, _⟩; cases hv
 have hje : j = ls.length := aB;subst hje;rw [bBr aA] at hall;rw [if_neg (by simp [hall])] at hH;refine znfen ?_;refine Run.regJ [1, 2, 3, 4, 5, 6] 66 (k == 0 && (decide (i < 0) || decide (vars <= i - depth))) (fun K J => ?_) ?_
 ·by_cases hi : i < 0
  ·simp [hi];exact y27
  ·have hw : IntKind.i64.wrap (i - depth) = i - depth := wrap_id aB aB;simp [hi, hw];exact y27
 refine y5 ?_;simp;refine Run.condB rfl (fun h4 => ?_) (fun h4 => ?_)
 ·refine zA ?_;rw [if_pos (by simpa using h4)] at hH;exact y30
 rw [if_neg (by simpa using h4)] at hH;refine nv ?_;refine Run.regJ [1, 2, 3, 4, 5, 6] 80 (k == 12 && (decide (i < 0) || decide (metas <= i))) (fun K J => ?_) ?_
 ·simp;exact y1f
 refine y5 ?_;simp;refine Run.condB rfl (fun h5 => ?_) (fun h5 => ?_)
 ·refine zA ?_;rw [if_pos (by simpa using h5)] at hH;exact y30
 rw [if_neg (by simpa using h5)] at hH;subst hH;refine znr ?_;refine Run.loopS [1, 2, 3, 4, 5, 6] (fun j : Nat => j <= ks.length /\ bT ((uN vars params metas levels k depth 0 ks).take j) = 0) (fun j => ks.length - j) (fun j => [(15, iA j)]) (fun _ => _) 0 (by simp [bT]) ?_ rfl ?_
 ·exact zS
 rintro j ⟨hj, hall⟩ IH2;refine eU ?_
 by_cases hjl : j < ks.length
 ·have hg : ks[j]? = some ks[j] := bBf hjl;have hs := dD hjl;have hfj := Tm.fits_at hf5 _ (bBi hjl);have hbz := aU k j;have htk : ks.take (j + 1) = ks.take j ++ [ks[j]] := bBq hjl;generalize ks[j] = u at hg hs hfj htk
  have hck : (uN vars params metas levels k depth 0 ks).take (j + 1) = (uN vars params metas levels k depth 0 ks).take j ++ [chk vars params metas levels (depth + aJ k j) u] := by
   rw [kS, kS, htk, wS, bC7, bCg, bCw hj]
  obtain ⟨e, he⟩ : ∃ e, chk vars params metas levels (depth + aJ k j) u = e := ⟨_, rfl⟩;have hrec := ih u (depth + aJ k j) (h ++ [some (.cells [iA k, iA i, .p (sP n), .p (.sl 2 (bR ls)), .p (.sl 5 (aP ks))])]) aB hfj aB aB (hh.app aA);rw [he] at hck hrec;refine znt1 hjl ?_;refine Run.draw [0, 0, 0, 0, 0, 0, 0, 0, 0, 0, 1, 0, 0, 0, 0, 1, 2] [0, 0, 0, 0, 0, 0, 0, 0, 0, 0, 0, 0, 0, 0, 0, 1, 0] [0, 1, 0, 7, 15, 0, 0, 64, 0, 448, 992, 0, 0, 0, 0, 32767, 65535] [6, 7, 8, 9, 0, 1, 2, 3, 4, 5, 10, 11, 12, 13, 14, 15, 16] aC aC ?_;refine y18 ?_;refine zd1 hg ?_;refine DR.call (args := [u.av, iA (depth + aJ k j), iA vars, iA params, iA metas, iA levels]) rfl rfl rfl aA rfl hrec ?_;refine zd ?_;refine y8 ?_;refine znr ?_
  by_cases h6 : e = 0
  ·refine znf1r h6 ?_;refine IH2 (j + 1) _ _ ⟨by omega, by rw [hck, gK, hall, if_pos rfl, h6]⟩ aB ?_ rfl;exact zS
  ·refine znt1 h6 ?_;refine zA ?_
   have hst : bT (uN vars params metas levels k depth 0 ks) = e := by
    have e1 : bT ((uN vars params metas levels k depth 0 ks).take (j + 1)) = e := by rw [hck, gK, hall, if_pos rfl]
    rw [pG (j := j + 1) (by rw [e1]; exact h6), e1]
   refine zF2 hh ?_;exact ⟨by simp [hst], rfl⟩
 have hje : j = ks.length := aB;subst hje;rw [kS, bC6] at hall;refine znfen ?_;refine zA ?_;refine zF2 hh ?_;exact ⟨by simp [hall], rfl⟩

end Go.Proofs.YtfajdeofhioakaaGreat
