import Derived.Test.YtfajdeofhioakaaGreatJA0
import Derived.Test.YtfajdeofhioakaaGreatJYU
import Derived.Test.YtfajdeofhioakaaGreatJYS
import Derived.Test.YtfajdeofhioakaaGreatJYI
import Derived.Test.YtfajdeofhioakaaGreatJHP
set_option maxRecDepth 8000
set_option maxHeartbeats 8000000

namespace Go.Proofs.YtfajdeofhioakaaGreat

open Go Go.AI
def rM (n : Nat) (order : List Int) (i : Nat) : Bool := match order[i]? with
 | some v => decide (0 <= v) && decide (v < n) && !decide (v ∈ order.take i)
 | none => true
def aKm (n : Nat) (order : List Int) : Bool := aW (rM n order) order.length
def kI (n : Nat) (order : List Int) (j : Nat) : List Bool := (List.range n).map fun i : Nat => decide ((i : Int) ∈ order.take j)
theorem aI4 (n : Nat) (order : List Int) (j : Nat) : (kI n order j).length = n := by simp [kI]
theorem aEv (n : Nat) (order : List Int) : kI n order 0 = List.replicate n false := by
 simp only [kI, bDx, List.not_mem_nil, decide_false]
 induction n with
 | zero => rfl
 | succ n ih => rw [List.range_succ, bCi, ih, List.replicate_succ']; rfl
theorem aI3 (n : Nat) (order : List Int) (j m : Nat) (hm : m < n) : (kI n order j)[m]? = some (decide ((m : Int) ∈ order.take j)) := by simp [kI, hm]
theorem aI5 (n : Nat) (order : List Int) (j m : Nat) (hj : order[j]? = some (m : Int)) : (kI n order j).set m true = kI n order (j + 1) := by
 have htk : order.take (j + 1) = order.take j ++ [(m : Int)] := by
  rw [bD1, hj]; rfl
 apply bD3;intro i;refine y13 ?_;simp only [kI, htk, bC9, List.length_range, bDo]
 by_cases hi : i < n
 ·rw [List.getElem?_range hi]
  by_cases e : m = i
  ·subst e; simp [hi]
  ·have : ¬ (i : Int) = m := aB;simp [e, this]
 ·rw [bDj (by simpa using hi)]
  by_cases e : m = i
  ·subst e; simp [hi]
  ·simp [e]
theorem aAw {n : Nat} {order : List Int} (h : aKm n order = true) : ∀ i ∈ order, 0 <= i /\ i < n := by
 intro v hv;obtain ⟨q, hq, he⟩ := List.mem_iff_getElem.1 hv;have h1 := gD h hq;simp only [rM, bBf hq, he, bBs, bC2] at h1;exact ⟨h1.1.1, h1.1.2⟩
def qN (kn : List Bool) (va : List Tm) (order : List Int) (t : Tm) : Tm × Int :=
 if aKm kn.length order = true then (if (hC kn va t).2 ≠ 0 then (zT, (hC kn va t).2) else cL (cG kn.length order order.length) (hC kn va t).1) else (zT, 1)
theorem aB5 (kn : List Bool) (va : List Tm) (t : Tm) (hn : kn.length <= 1000) (ht : t.ok 65536) (hv : ∀ v ∈ va, v.ok 65536 /\ v.size <= 4096) : (hC kn va t).1.ok 65536 /\ (hC kn va t).1.size <= 4096 := by
 refine ⟨?_, (aCs kn va t hn ht hv).2⟩;have hcap : cJ 0 = 0 := by simp [cJ]
 have hz : zT.ok 65536 := aF8 _ aB;unfold hC;split
 ·exact hz
 ·unfold tM;rw [eA _ _ _ aB, hcap];unfold jV;split
  ·exact hz
  ·split
   ·exact hz
   ·split
    ·exact hz
    ·rename_i h2 _;exact (vU _ (fun v hvv => ((qL (m := 65536) aB hv) v hvv).1) t 0 65536 ht aB aB (by simpa using h2)).1
theorem aF3 (p : Pb) (order : List Int) (t : Tm) (h : Heap) (hh : WF h) (hn : p.kn.length <= 1000) (hty : p.ty.length = p.kn.length) (hl : p.va.length = p.kn.length) (ho : order.length <= 1000) (ht : t.ok p.kn.length) (hsz : t.size <= 4096) (hv : ∀ v ∈ p.va, v.ok 1001 /\ v.size <= 4096 /\ v.depth <= 200 /\ v.lvs) :
  AC 16 [p.av, .p (.sl 1 (aI order)), t.av] h (.tup [(qN p.kn p.va order t).1.av, iA (qN p.kn p.va order t).2]) := by
 have c62 := fun g hw => vK p.kn p.va t g hw hn hl ht hsz hv
 have hat := aB5 p.kn p.va t hn (cX t _ _ ht aB) (fun v h => ⟨cX v _ _ (hv v h).1 aB, (hv v h).2.1⟩);have c56 := fun (hob : aKm p.kn.length order = true) (g : Heap) (hw : WF g) => jU g hw p.kn.length order hn ho (aAw hob)
 have hrl := cR p.kn.length order order.length;have c55 := fun g hw => tK g hw (hC p.kn p.va t).1 (cG p.kn.length order order.length) aB ⟨by simpa using hat.1, by omega, by have := hat.2; omega⟩
 obtain ⟨r, hr⟩ : ∃ r, qN p.kn p.va order t = r := ⟨_, rfl⟩;rw [hr];unfold qN at hr;generalize cL (cG p.kn.length order order.length) (hC p.kn p.va t).1 = w at c55 hr;generalize cG p.kn.length order order.length = W at c55 c56;generalize hC p.kn p.va t = R at c62 c55 hr;clear hat hv hrl;obtain ⟨ty, kn, va, ⟨d0, d1, d2, d3, d4⟩⟩ := p;obtain ⟨⟨r0, r1, r2, r3, r4⟩, e⟩ := R;obtain ⟨k, i, nm, ls, ks⟩ := t;obtain ⟨⟨w0, w1, w2, w3, w4⟩, we⟩ := w;simp only [Tm.av, cells_mk, List.map] at c62 c55 hn hty hl hr c56 ⊢;have hkl : (aI order).length = order.length := by simp [aI]
 have hm2 : kn.length <= 1099511627776 := aB;have hm1 : kn.length * 1 <= 140737488355328 := aB;have hm3 : kn.length <= 140737488355328 := aB;have hsz0 : List.replicate kn.length (AV.p (.prim (.bool false))) = (kI kn.length order 0).map bA := by rw [aEv, List.map_replicate]
 refine zE Tryz.func16 Tryz.ntmps16 ?_;refine wB hty ?_;refine zr2 hm2 hm3 ?_;rw [hsz0];refine uC hkl ?_;refine Run.loopS [0, 1, 3, 5, 6, 7, 8, 9, 19, 20] (fun j : Nat => j <= order.length /\ aW (rM kn.length order) j = true) (fun j => order.length - j) (fun j => [(21, iA j)]) (fun j => h ++ [some (.cells [.p (.sl 5 (aP ty)), .p (.sl 1 (boPs kn)), .p (.sl 5 (aP va)), iA d0, iA d1, .p (sP d2), .p (.sl 2 (bR d3)), .p (.sl 5 (aP d4))]), some (.cells [iA k, iA i, .p (sP nm), .p (.sl 2 (bR ls)), .p (.sl 5 (aP ks))]), some (.cells zTm), some (.cells ((kI kn.length order j).map bA))]) 0 ⟨by omega, by simp [aW]⟩ ?_ aA ?_
 ·exact zS
 intro j ⟨hj, hall⟩ IH;refine eU ?_
 by_cases hjl : j < order.length
 ·have hg : order[j]? = some order[j] := bBf hjl;have hgi : (aI order)[j]? = some [iP order[j]] := by simp [aI, hg]
  have hat : rM kn.length order j = (decide (0 <= order[j]) && decide (order[j] < kn.length) && !decide (order[j] ∈ order.take j)) := by simp only [rM, hg]
  have bad : rM kn.length order j = false -> r = (zT, 1) := fun e => by
   rw [<- hr, if_neg];unfold aKm;rw [allTo_false hjl e]
   decide
  generalize order[j] = b at hg hgi hat;have hgq : ∀ q : j < (aI order).length, (aI order)[j]'q = [iP b] := fun q => by rw [bBf q] at hgi; exact bD0 hgi
  refine znt1 hjl ?_;refine zr3 hgq hkl hjl ?_
  by_cases hb0 : b < 0
  ·refine wA hb0 ?_;have e1 := bad (by rw [hat]; simp; omega);exact y1r
  ·by_cases hbn : b < kn.length
   ·obtain ⟨m, rfl⟩ : ∃ m : Nat, b = m := ⟨b.toNat, by omega⟩;have hmn : m < kn.length := aB;have hsl := aI4 kn.length order j;have hsg := aI3 kn.length order j m hmn;have hss := aI5 kn.length order j m hg;generalize hdd : decide ((m : Int) ∈ order.take j) = dd at hsg hat;generalize kI kn.length order j = S at hsl hsg hss ⊢;have hsm : (S.map bA)[m]? = some (bA dd) := by rw [bDo, hsg]; rfl
    have hsm2 : ∀ q : m < (S.map bA).length, (S.map bA)[m]'q = bA dd := fun q => by rw [bBf q] at hsm; exact bD0 hsm
    have hsm3 : ∀ q : m < S.length, S[m]'q = dd := fun q => by rw [bBf q] at hsg; exact bD0 hsg
    have hsml : (S.map bA).length = kn.length := by rw [bC9, hsl]
    have hsms : (S.map bA).set m (bA true) = (S.set m true).map bA := by rw [List.map_set]
    rw [hss] at hsms;have hm1' : m + 1 <= kn.length := aB;have hb4 : ¬ kn.length <= m := aB
    cases dd with
    | true =>
     generalize S.map bA = B at hsm hsm2 hsml hsms ⊢;refine zn ?_;refine zr5 hb0 hb4 hsm2 hsml hmn ?_;refine yi ?_;refine zx ?_;have e1 := bad (by rw [hat]; simp);exact y1r
    | false =>
     generalize S.map bA = B at hsm hsm2 hsml hsms ⊢;refine zn ?_;refine zr5 hb0 hb4 hsm2 hsml hmn ?_;refine zf ?_;refine zr4 hm1' hsml hsms hmn ?_;refine zr ?_;exact y5n
   ·have hb1 : (kn.length : Int) <= b := aB;refine zn ?_;refine zr2 hb0 hb1 ?_;refine yi ?_;refine zx ?_;have e1 := bad (by rw [hat]; simp; omega);exact y1r
 ·have hje : j = order.length := aB;subst hje;have hob : aKm kn.length order = true := hall;rw [if_pos hob] at hr;have c56' := c56 hob
  have hbu : ∀ n, AV.underL n ((kI kn.length order order.length).map bA) = true := fun n => by
   generalize kI kn.length order order.length = S
   induction S with
   | nil => rfl
   | cons a S ih => simp only [bBx, AV.underL, AV.under, ih]; rfl
  generalize (kI kn.length order order.length).map bA = B at hbu ⊢;have hwf : WF (h ++ [some (.cells [.p (.sl 5 (aP ty)), .p (.sl 1 (boPs kn)), .p (.sl 5 (aP va)), iA d0, iA d1, .p (sP d2), .p (.sl 2 (bR d3)), .p (.sl 5 (aP d4))]), some (.cells [iA k, iA i, .p (sP nm), .p (.sl 2 (bR ls)), .p (.sl 5 (aP ks))]), some (.cells zTm), some (.cells B)]) := hh.app (by simp [AO.under, hbu]);refine lY ?_;refine rl (args := [.p (.sl 1 (boPs kn)), .p (.sl 5 (aP va)), .agg [iA k, iA i, .p (sP nm), .p (.sl 2 (bR ls)), .p (.sl 5 (aP ks))]]) rfl aF aA rfl (c62 _ hwf) ?_;refine zo ?_
  by_cases he : e = 0
  ·have heb : (e != 0) = false := by simpa using he
   rw [if_neg (by simpa using he)] at hr;refine znr1f heb ?_;refine yn ?_;refine DR.call rfl rfl rfl aA rfl (c56' _ (hh.app (by simp [AO.under, hbu]))) ?_;refine zd ?_;refine DR.call rfl rfl rfl aA rfl (c55 _ (hh.app (by simp [AO.under, hbu]))) ?_;refine zd ?_;refine y8 ?_;refine znx ?_;exact y2i
  ·have heb : (e != 0) = true := by simpa using he
   rw [if_pos (by simpa using he)] at hr;subst hr;refine wA heb ?_;exact Fin.ret' (h0 := h) (xs := [.agg zTm, iA e]) aA rfl hh rfl aA rfl (Weak.tup (WeakL.cons Weak.zT (WeakL.refl _))) aA ⟨rfl, rfl⟩


open Go Go.AI
theorem lQ (n : Nat) (order : List Int) (ho : ∀ i ∈ order, 0 <= i /\ i < n) : ∀ k, k <= order.length -> ∀ i, i < n -> (cG n order k)[i]? = some (dZ n i order k)
 | 0, _, i, hi => by simp [cG, dZ, hi]
 | k + 1, hk, i, hi => by
  have ih := lQ n order ho k aB i hi;have hkl : k < order.length := hk;have hg : order[k]? = some order[k] := bBf hkl;have hb := ho _ (bBi hkl);simp only [cG, dZ, List.getD_eq_getElem?_getD, hg, bBw, List.getElem?_set, cR];generalize order[k] = b at hb
  by_cases e : b = (n : Int) - 1 - i
  ·subst e;rw [if_pos aB, if_pos aB, if_pos rfl]
  ·rw [if_neg aB, if_neg (by simpa using e), ih]
theorem pV (n : Int) (order : List Int) : ∀ j i, i < j -> (dF n order j)[i]? = some (dZ n i order order.length)
 | 0, i, h => by omega
 | j + 1, i, h => by
  simp only [dF];rw [List.getElem?_append, gO]
  by_cases e : i < j
  ·rw [if_pos e, pV n order j i e]
  ·obtain rfl : i = j := aB;simp
theorem yC (n : Nat) (order : List Int) (ho : ∀ i ∈ order, 0 <= i /\ i < n) : dF n order n = cG n order order.length := by
 apply bD3;intro i
 by_cases hi : i < n
 ·rw [lQ n order ho _ (bBh _) i hi, pV _ _ _ _ hi]
 ·rw [bDj (by rw [gO]; omega), bDj (by rw [cR]; omega)]
theorem aCq (n : Nat) (order : List Int) (ho : ∀ i ∈ order, 0 <= i /\ i < n) : ∀ x ∈ cG n order order.length, -1 <= x /\ x <= order.length := by
 intro x hx;obtain ⟨i, hi, he⟩ := List.mem_iff_getElem.1 hx;have h1 := bBf hi;rw [cR] at hi;rw [lQ n order ho _ (bBh _) i hi, he] at h1;have := lM n i order order.length (bBh _)
 injection h1 with h1
 omega
theorem aB8 (p : Pb) (order : List Int) (t : Tm) (h : Heap) (hh : WF h) (hn : p.kn.length <= 1000) (hty : p.ty.length = p.kn.length) (hl : p.va.length = p.kn.length) (ho : order.length <= 1000) (ht : t.ok p.kn.length) (hsz : t.size <= 4096) (hv : ∀ v ∈ p.va, v.ok 1001 /\ v.size <= 4096) :
  AC 17 [p.av, .p (.sl 1 (aI order)), t.av] h (.tup [(qN p.kn p.va order t).1.av, iA (qN p.kn p.va order t).2]) := by
 have hv' : ∀ v ∈ p.va, v.ok 65536 /\ v.size <= 4096 := fun v h => ⟨cX v _ _ (hv v h).1 aB, (hv v h).2⟩
 have c64 := fun (q : Nat) (g : Heap) (hw : WF g) (hq : g[q]? = some (ltB false)) => aBd p.kn p.va t q g hw hq hn hl (cX t _ _ ht aB) hsz hv'
 have hat := aB5 p.kn p.va t hn (cX t _ _ ht aB) hv';have c61 := fun (hob : aKm p.kn.length order = true) (g : Heap) (hw : WF g) => (yC p.kn.length order (aAw hob)) ▸ pU g hw p.kn.length order hn ho
 have hrl := cR p.kn.length order order.length;have c60 := fun (hob : aKm p.kn.length order = true) (g : Heap) (hw : WF g) => tI g hw (hC p.kn p.va t).1 (cG p.kn.length order order.length) aB (fun x hx => by have := aCq p.kn.length order (aAw hob) x hx; omega) (by have := hat.2; omega) (yA _ 65536 hat.1 (by have := hat.2; omega))
 have c58 := fun (j : Nat) (b : Int) (g : Heap) (hw : WF g) => uX g hw (order.take j) b (by rw [bC7]; omega)
 obtain ⟨r, hr⟩ : ∃ r, qN p.kn p.va order t = r := ⟨_, rfl⟩;rw [hr];unfold qN at hr;have hR2 : (hC p.kn p.va t).2 ≠ 0 -> (hC p.kn p.va t).2 = 11 := by unfold hC; split <;> simp
 generalize cL (cG p.kn.length order order.length) (hC p.kn p.va t).1 = w at c60 hr;generalize cG p.kn.length order order.length = W at c60 c61;generalize hC p.kn p.va t = R at c64 c60 hr hR2;clear hat hv hrl hv';obtain ⟨ty, kn, va, ⟨d0, d1, d2, d3, d4⟩⟩ := p;obtain ⟨⟨r0, r1, r2, r3, r4⟩, e⟩ := R;obtain ⟨k, i, nm, ls, ks⟩ := t;obtain ⟨⟨w0, w1, w2, w3, w4⟩, we⟩ := w;have hik : ∀ j, aI (order.take j) = (aI order).take j := fun j => by simp [aI]
 simp only [Tm.av, cells_mk, List.map, hik] at c64 c60 hn hty hl hr c61 c58 hR2 ⊢;have hkl : (aI order).length = order.length := by simp [aI]
 refine zE Tryz.func17 Tryz.ntmps17 ?_;refine aDb hty ?_;refine Run.loopS [0, 1, 3, 5, 6, 7, 8] (fun j : Nat => j <= order.length /\ aW (rM kn.length order) j = true) (fun j => order.length - j) (fun j => [(9, iA j)]) (fun _ => _) 0 ⟨by omega, by simp [aW]⟩ ?_ rfl ?_
 ·exact zS
 intro j ⟨hj, hall⟩ IH;refine wC hkl ?_
 by_cases hjl : j < order.length
 ·have hg : order[j]? = some order[j] := bBf hjl;have hgi : (aI order)[j]? = some [iP order[j]] := by simp [aI, hg]
  have hat : rM kn.length order j = (decide (0 <= order[j]) && decide (order[j] < kn.length) && !decide (order[j] ∈ order.take j)) := by simp only [rM, hg]
  have bad : rM kn.length order j = false -> r = (zT, 1) := fun e => by
   rw [<- hr, if_neg];unfold aKm;rw [allTo_false hjl e]
   decide
  have c58' := c58 j order[j];generalize order[j] = b at hg hgi hat c58';generalize hdd : decide (b ∈ order.take j) = dd at hat c58';have hgq : ∀ q : j < (aI order).length, (aI order)[j]'q = [iP b] := fun q => by rw [bBf q] at hgi; exact bD0 hgi
  have hjle : j <= order.length := hj;refine znt1 hjl ?_;refine Run.draw [0, 0, 0, 0, 0, 0, 0, 0, 0, 0, 0, 0, 0, 0, 0, 0, 0, 0, 0, 0, 0, 0, 1] [0, 0, 0, 0, 0, 0, 0, 0, 0, 0, 0, 0, 0, 0, 0, 0, 0, 0, 0, 0, 0, 0, 0] [0, 0, 3, 7, 15, 31, 63, 63, 255, 511, 63, 2047, 4095, 8191, 16383, 16383, 65535, 16383, 16383, 409599, 933887, 2097151, 4194303] [0, 1, 2, 3, 4, 5, 6, 7, 8, 9, 10, 11, 12, 13, 14, 15, 16, 17, 18, 19, 20, 21, 22] aC aC ?_
  by_cases hb0 : b < 0
  ·refine zd4 hgq hkl hjl hb0 ?_;refine y8 ?_;refine aLw ?_;have e1 := bad (by rw [hat]; simp; omega);exact y1r
  ·by_cases hbn : b < kn.length
   ·have hb1 : ¬ (kn.length : Int) <= b := aB;refine zd6 hgq hkl hjl hjle hb0 hb1 ?_;refine DR.call rfl rfl rfl aA rfl (c58' _ (hh.app aA)) ?_
    cases dd with
    | true =>
     refine zd ?_;refine y8 ?_;refine aLw ?_;have e1 := bad (by rw [hat]; simp);exact y1r
    | false =>
     refine zd ?_;refine y8 ?_;refine aMo ?_;exact y5n
   ·have hb1 : (kn.length : Int) <= b := aB;refine zd5 hgq hkl hjl hb0 hb1 ?_;refine y8 ?_;refine aLw ?_;have e1 := bad (by rw [hat]; simp; omega);exact y1r
 ·have hje : j = order.length := aB;subst hje;have hob : aKm kn.length order = true := hall;rw [if_pos hob] at hr;have c61' := c61 hob;have c60' := c60 hob;refine lY ?_;refine zL (aEa _ (hh.app aA)) ?_;refine zor ?_;refine rl (args := [.p (.sl 1 (boPs kn)), .p (.sl 5 (aP va)), .agg [iA k, iA i, .p (sP nm), .p (.sl 2 (bR ls)), .p (.sl 5 (aP ks))], .ptr (h.length + 3) 0]) rfl aF aA rfl (c64 (h.length + 3) _ (hh.app aA) aA) ?_;refine zo ?_
  by_cases he : e = 0
  ·rw [if_neg (by simpa using he)] at hr;subst he;refine znr ?_;refine zf ?_;refine yn ?_;refine DR.call rfl rfl rfl aA rfl (c61' _ (hh.app aA)) ?_;refine zd ?_;refine DR.call rfl rfl rfl aA rfl (c60' _ (hh.app aA)) ?_;refine zd ?_;refine y8 ?_;refine znx ?_;exact y2i
  ·rw [if_pos (by simpa using he), hR2 he] at hr;subst hr;refine wA he ?_;exact Fin.ret' (h0 := h) (xs := [.agg zTm, iA 11]) aA rfl hh rfl aA rfl (Weak.tup (WeakL.cons Weak.zT (WeakL.refl _))) aA ⟨rfl, rfl⟩


open Go Go.AI

mutual
theorem aMg (to : List Int) : ∀ (t : Tm) (d : Int), (∀ x ∈ dN d t, ∃ y, to[x.toNat]? = some y /\ 0 <= y /\ y <= 1000) -> 0 <= d -> d + t.size <= 60000 -> fC to d t = false
 | .mk k i nm ls ks, d, h, hd, hs => by
  simp only [Tm.size] at hs;simp only [fC]
  by_cases hk : k = 0
  ·rw [if_pos hk]
   by_cases c : i < d
   ·rw [if_pos c]
   ·rw [if_neg c];obtain ⟨y, h1, h2, h3⟩ := h (i - d) (by simp only [dN, bC8]; exact .inl (by rw [if_pos ⟨hk, by omega⟩]; simp));rw [h1];simp only [bD9, not_or];omega
  ·rw [if_neg hk];exact aHr to ks d k 0 (fun x hx => h x (by simp only [dN, bC8]; exact .inr hx)) hd aB
theorem aHr (to : List Int) : ∀ (l : List Tm) (d k : Int) (idx : Nat), (∀ x ∈ bK k d idx l, ∃ y, to[x.toNat]? = some y /\ 0 <= y /\ y <= 1000) -> 0 <= d -> d + 1 + Tm.sizes l <= 60000 -> cI to d k idx l = false
 | [], d, k, idx, _, _, _ => rfl
 | t :: ts, d, k, idx, h, hd, hs => by
  simp only [Tm.sizes] at hs;have hz := aU k idx;simp only [cI, bD7];refine ⟨aMg to t _ (fun x hx => h x (by simp only [bK, bC8]; exact .inl hx)) aB aB, aHr to ts d k (idx + 1) (fun x hx => h x (by simp only [bK, bC8]; exact .inr hx)) hd aB⟩
end
theorem yB (n i : Int) (order : List Int) : ∀ k, k <= order.length -> (n - 1 - i) ∈ order.take k -> 0 <= dZ n i order k
 | 0, _, h => by simp at h
 | k + 1, hk, h => by
  have hg : order[k]? = some order[k] := bBf hk;rw [bD1, hg] at h;simp only [dZ, hg]
  by_cases e : order[k] = n - 1 - i
  ·rw [if_pos (by rw [e])]; omega
  ·rw [if_neg (by simpa using e)];refine yB n i order k aB ?_;simp only [Option.toList, bC8, List.mem_singleton] at h;rcases h with h | h
   ·exact h
   ·exact absurd h.symm e
theorem aHx (n : Nat) (order : List Int) (t : Tm) (_hn : n <= 1000) (hl : order.length <= 1000) (ho : ∀ i ∈ order, 0 <= i /\ i < n) (hok : t.ok n) (hs : t.size <= 4096) (hr : readyB n order t = true) : cL (cG n order order.length) t = (aB4 (cG n order order.length) 0 t, 0) := by
 have : fC (cG n order order.length) 0 t = false := by
  refine aMg _ t 0 (fun x hx => ?_) aB aB;have h1 := pI t 0 x hx;have h2 := nY t 0 n hok x hx;have hm := bC0.1 hr x ((iL t x).2 hx);rw [bC2] at hm;refine ⟨_, lQ n order ho _ (bBh _) x.toNat aB, ?_, ?_⟩
  ·refine yB n _ order _ (bBh _) ?_;rw [bC6, show ((n : Int) - 1 - (x.toNat : Int)) = n - 1 - x by omega];exact hm
  ·have := lM n x.toNat order order.length (bBh _); omega
 unfold cL;rw [this]; simp
def cY (kn : List Bool) (order : List Int) (v : Nat) : Bool := decide (kn[v]? = some false) && !decide ((v : Int) ∈ order)
def wP (ty : List Tm) (kn : List Bool) (order : List Int) (v : Nat) : Bool := cY kn order v && (match ty[v]? with | some t => readyB kn.length order t | none => false)
def dE (kn : List Bool) (order : List Int) : List Nat := (List.range kn.length).filter (cY kn order)
def rT (ty : List Tm) (kn : List Bool) (order : List Int) (v : Nat) : Tm := (cL (cG kn.length order order.length) (ty.getD v zT)).1
def jT (ty : List Tm) (kn : List Bool) : Nat -> List Int -> List Tm -> List Int × List Tm × Int
 | 0, order, tel => (order, tel, 0)
 | f + 1, order, tel =>
  if dE kn order = [] then (order, tel, 0) else
  match (List.range kn.length).find? (wP ty kn order) with
  | none => ([], [], 19)
  | some v => jT ty kn f (order ++ [(v : Int)]) (tel ++ [rT ty kn order v])
theorem xX (kn : List Bool) (order : List Int) (v : Nat) : dE kn (order ++ [(v : Int)]) = (dE kn order).filter fun u => decide (u ≠ v) := by
 unfold dE;rw [List.filter_filter];refine List.filter_congr fun u _ => ?_
 simp only [cY, bC8, List.mem_singleton, Int.ofNat_inj]
 by_cases e : u = v
 ·simp [e]
 ·simp [e]
theorem sV (kn : List Bool) (order : List Int) : (dE kn order).Nodup := List.nodup_range.filter _
theorem kV : ∀ (l : List Nat) (v : Nat), l.Nodup -> v ∈ l -> (l.filter fun u => decide (u ≠ v)).length + 1 = l.length
 | [], v, _, h => by simp at h
 | a :: l, v, hn, h => by
  rw [bCx] at hn;rw [List.filter_cons]
  by_cases e : a = v
  ·subst e
   have : (l.filter fun u => decide (u ≠ a)) = l := List.filter_eq_self.2 fun u hu => by
    have : u ≠ a := fun e => hn.1 (e ▸ hu)
    simp [this]
   rw [if_neg aA, this]; rfl
  ·have hv : v ∈ l := by
    rcases bC1.1 h with h | h
    ·exact absurd h.symm e
    ·exact h
   have := kV l v hn.2 hv;simp only [ne_eq, e, not_false_eq_true, decide_true, if_true, bBm];simpa using this
theorem vF {kn : List Bool} {order : List Int} {v : Nat} : v ∈ dE kn order ↔ v < kn.length /\ cY kn order v = true := by simp [dE]
theorem lI (kn : List Bool) (order : List Int) (v : Nat) (h : v ∈ dE kn order) : (dE kn (order ++ [(v : Int)])).length + 1 = (dE kn order).length := by
 rw [xX]; exact kV _ _ (sV kn order) h
theorem vC (kn : List Bool) (order : List Int) : (dE kn order).length <= kn.length := by
 have := List.length_filter_le (cY kn order) (List.range kn.length);simpa [dE] using this

end Go.Proofs.YtfajdeofhioakaaGreat
