import Derived.Test.YtfajdeofhioakaaGreatJA0
import Derived.Test.YtfajdeofhioakaaGreatJYS
set_option maxRecDepth 8000
set_option maxHeartbeats 8000000

namespace Go.Proofs.YtfajdeofhioakaaGreat

open Go Go.AI
theorem aBp (kn : List Bool) (va : List Tm) (t : Tm) (h : Heap) (hh : WF h) (hn : kn.length <= 1000) (hl : va.length = kn.length) (ht : t.ok kn.length) (hv : ∀ v ∈ va, v.lvs /\ v.size <= 1099511627776) :
  AC 108 [.p (.sl 1 (boPs kn)), .p (.sl 5 (aP va)), t.av] h (bA (zeroB kn va t)) := by
 have hkl : (boPs kn).length = kn.length := aA;have hvl : (aP va).length = kn.length := by simp [hl]
 obtain ⟨k, i, nm, ls, ks⟩ := t
 by_cases hk : k = 0
 ·simp only [Tm.ok, Tm.okN] at ht;obtain ⟨h1, h2, rfl, rfl, rfl⟩ := ht.1.1 hk;subst hk;obtain ⟨j, rfl⟩ : ∃ j : Nat, i = j := ⟨i.toNat, by omega⟩;obtain ⟨m, hm⟩ : ∃ m : Nat, (kn.length : Int) - 1 - j = m := ⟨((kn.length : Int) - 1 - j).toNat, by omega⟩;have hmk : m < kn.length := aB;have hmv : m < va.length := aB;have hgk : kn[m]? = some kn[m] := bBf hmk;have hgv : va[m]? = some va[m] := bBf hmv;have cs := fun g hw => yY va[m].size va[m] zT g (bBh _) (hv _ (bBi hmv)).2 (hv _ (bBi hmv)).1 hw
  have hz : zeroB kn va (.mk 0 j [] [] []) = if kn[m] = true then sameT va[m] zT else decide ((j : Int) = 0) := by
   unfold zeroB;rw [if_neg (by simp [Tm.kind])];simp only [Tm.index, hm, bC4, hgk, hgv]
   cases kn[m] <;> simp
  rw [hz];clear hz;generalize kn[m] = b at hgk ⊢;generalize va[m] = y at hgv cs ⊢;generalize sameT y zT = sm at cs ⊢;obtain ⟨y0, y1, y2, y3, y4⟩ := y;simp only [Tm.av, cells_mk, List.map] at cs;have cs' := fun g hw => ACalls.weak (args := [.agg [iA y0, iA y1, .p (sP y2), .p (.sl 2 (bR y3)), .p (.sl 5 (aP y4))], .agg [iA 0, iA 0, .p (sP []), .p (.prim (.slice none 0 0)), .p (.prim (.slice none 0 0))]]) (WeakL.cons (Weak.refl _) (WeakL.cons Weak.zT WeakL.nil)) (cs g hw)
  have hgy : ∀ q : m < (aP va).length, (aP va)[m]'q = [iP y0, iP y1, sP y2, .sl 2 (bR y3), .sl 5 (aP y4)] := fun q => by
   exact y44
  have hgb : ∀ q : m < (boPs kn).length, (boPs kn)[m]'q = [bP b] := fun q => by
   exact y2z
  have hgk2 : ∀ q : m < kn.length, kn[m]'q = b := fun q => by rw [bBf q] at hgk; exact bD0 hgk
  have hgv2 : ∀ q : m < va.length, va[m]'q = .mk y0 y1 y2 y3 y4 := fun q => by rw [bBf q] at hgv; exact bD0 hgv
  have hj0 : ((j : Int) == 0) = decide (j = 0) := by rw [bCd]; simp
  have hmin : Nat.min kn.length kn.length = kn.length := Nat.min_self _;have hmin2 : min kn.length kn.length = kn.length := Nat.min_self _;have hmini : min (kn.length : Int) kn.length = kn.length := aB;have m0 : (0 : Int) <= m := aB;refine ACalls.of_run Tryz.func108 rfl ?_;simp only [Tryz.ntmps108, bBm, bBn, Tm.av, cells_mk, List.map];refine znrr ?_;refine zf ?_;refine zr1 hkl ?_;rw [hm]
  cases b with
  | true =>
   refine zn ?_;refine zr5 hkl hvl hmk hgb m0 ?_;refine zt ?_;refine zr3 hgv2 hgy hmv ?_;refine zL (cs' _ (hh.app aA)) ?_;refine zox ?_;refine zF1 hh ?_;exact ⟨rfl, rfl⟩
  | false =>
   refine zn ?_;refine zr5 hkl hvl hmk hgb m0 ?_;refine y12 ?_;refine zx ?_;exact Fin.ret' (h0 := h) aA rfl hh rfl aE rfl (Weak.of_eq (by simp [hj0])) aA ⟨rfl, rfl⟩
 ·have hkb : (k != 0) = true := by simpa using hk
  have hz : zeroB kn va (.mk k i nm ls ks) = false := by simp [zeroB, Tm.kind, hk]
  rw [hz];refine ACalls.of_run Tryz.func108 rfl ?_;simp only [Tryz.ntmps108, bBm, bBn, Tm.av, cells_mk, List.map];refine aDc hkb ?_;refine zF1 hh ?_;exact ⟨rfl, rfl⟩

def rawA (kn : List Bool) (va : List Tm) (i : Nat) : List PV := match kn[kn.length - 1 - i]?, va[kn.length - 1 - i]? with
 | some true, some v => v.cells
 | _, _ => vc i
def gX (kn : List Bool) (va : List Tm) (j : Nat) : List (List PV) := (List.range j).map (rawA kn va) ++ List.replicate (kn.length - j) z5
theorem aCp (kn : List Bool) (va : List Tm) (i : Nat) : (rawA kn va i).length = 5 := by
 unfold rawA;split
 ·rename_i v _ _; obtain ⟨a, b, c, d, e⟩ := v; rfl
 ·rfl
theorem aB0 (kn : List Bool) (va : List Tm) (j : Nat) : ∀ e ∈ gX kn va j, e.length = 5 := by
 intro e he;rcases bC8.1 he with h | h
 ·obtain ⟨i, _, rfl⟩ := bCb.1 h; exact aCp kn va i
 ·rw [(bE9.1 h).2]; rfl
theorem vI (kn : List Bool) (va : List Tm) (j : Nat) (hj : j <= kn.length) : (gX kn va j).length = kn.length := by simp [gX]; omega
theorem aEn (kn : List Bool) (va : List Tm) (j : Nat) (hj : j < kn.length) : (gX kn va j).set j (rawA kn va j) = gX kn va (j + 1) := by
 unfold gX;rw [bCz _ _ aA, show kn.length - j = kn.length - (j + 1) + 1 by omega, bCn];simp only [bC9, List.length_range, Nat.sub_self, bDl, List.range_succ, bCi, bBx, bCv, bC3, bBj, bBo]
theorem aB1 (kn : List Bool) (va : List Tm) : (List.replicate kn.length [iA 0, iA 0, AV.p (sP []), AV.p (.prim (.slice none 0 0)), AV.p (.prim (.slice none 0 0))]).flatten = buf 5 (gX kn va 0) 0 := by
 rw [lG];simp [bY, buf, gX, aP]
theorem pX (kn : List Bool) (va : List Tm) : ∀ l : List Nat, WeakPs (l.map (rawA kn va)) (aP (l.map (aBh kn va)))
 | [] => WeakPs.nil
 | i :: l => by
  simp only [bBx, aP];refine WeakPs.cons ?_ (pX kn va l)
  have key : (∃ v, rawA kn va i = v.cells /\ aBh kn va i = v) \/ (rawA kn va i = vc i /\ aBh kn va i = vr i) := by
   unfold rawA aBh;generalize kn[kn.length - 1 - i]? = a;generalize va[kn.length - 1 - i]? = b
   cases a with
   | none => exact .inr ⟨rfl, rfl⟩
   | some a =>
    cases a with
    | false => exact .inr ⟨rfl, rfl⟩
    | true =>
     cases b with
     | none => exact .inr ⟨rfl, rfl⟩
     | some v => exact .inl ⟨v, rfl, rfl⟩
  rcases key with ⟨v, e1, e2⟩ | ⟨e1, e2⟩
  ·rw [e1, e2]; exact WeakPL.refl _
  ·rw [e1, e2];simp only [vr, cells_mk]
   repeat' (first | exact WeakPL.nil | apply WeakPL.cons)
   all_goals first | exact WeakP.refl _ | exact WeakP.nil _
theorem rQ (kn : List Bool) (va : List Tm) (t : Tm) (h : Heap) (hh : WF h) (hn : kn.length <= 1000) (hl : va.length = kn.length) (ht : t.ok 65536) (hsz : t.size <= 4096) (hv : ∀ v ∈ va, v.ok 65536 /\ v.size <= 4096) :
  AC 148 [.p (.sl 1 (boPs kn)), .p (.sl 5 (aP va)), t.av] h (.tup [(hC kn va t).1.av, bA (decide ((tM kn va t).2 = 0))]) := by
 have hkl : (boPs kn).length = kn.length := aA;have hvl : (aP va).length = kn.length := by simp [hl]
 have csub := fun g hw => (qM t (tS kn va) ht hsz (by simp [tS]; omega) (qL aB hv) g hw).1
 have hrr : hC kn va t = if (tM kn va t).2 ≠ 0 then (zT, 11) else ((tM kn va t).1, 0) := rfl
 change ∀ (g : Heap), WF g -> ACalls Tryz.prog 172 [t.av, .p (.sl 5 (aP (tS kn va)))] g fun o h' => o = .ret (.tup [(tM kn va t).1.av, iA (tM kn va t).2]) /\ h' = g at csub
 have hw5 := pX kn va (List.range kn.length);rw [show (List.range kn.length).map (aBh kn va) = tS kn va from rfl] at hw5;generalize hC kn va t = R at hrr ⊢;generalize tM kn va t = q at csub hrr ⊢;generalize tS kn va = V at csub hw5;obtain ⟨⟨q0, q1, q2, q3, q4⟩, e⟩ := q;obtain ⟨k, i, nm, ls, ks⟩ := t;simp only [Tm.av, cells_mk, List.map] at csub;have hm1 : kn.length * 80 <= 140737488355328 := aB;have hm2 : kn.length <= 1099511627776 := aB;refine ACalls.of_run Tryz.func148 rfl ?_;simp only [Tryz.ntmps148, bBm, bBn, Tm.av, cells_mk, List.map];refine wB hkl ?_;refine zr2 hm1 hm2 ?_;rw [aB1 kn va];refine znr ?_;refine Run.loopS [0, 1, 5, 6, 8, 9, 19] (fun j : Nat => j <= kn.length) (fun j => kn.length - j) (fun j => [(20, iA j)]) (fun j => h ++ [some (.cells [iA k, iA i, .p (sP nm), .p (.sl 2 (bR ls)), .p (.sl 5 (aP ks))]), some (.cells zTm), some (.cells (buf 5 (gX kn va j) 0))]) 0 aA ?_ aA ?_
 ·exact zS
 intro j hj IH;refine eU ?_
 by_cases hjl : j < kn.length
 ·obtain ⟨m, hm⟩ : ∃ m : Nat, (kn.length : Int) - 1 - j = m := ⟨((kn.length : Int) - 1 - j).toNat, by omega⟩;have hmk : m < kn.length := aB;have hmv : m < va.length := aB;have hgk : kn[m]? = some kn[m] := bBf hmk;have hgv : va[m]? = some va[m] := bBf hmv
  have hra : rawA kn va j = if kn[m] = true then va[m].cells else vc j := by
   exact y6m
  have hL := vI kn va j hj;have hL5 := aB0 kn va j;have hset := aEn kn va j hjl;generalize gX kn va j = L at hL hL5 hset ⊢;generalize rawA kn va j = ra at hra hset;generalize kn[m] = b at hgk hra;generalize va[m] = y at hgv hra;obtain ⟨y0, y1, y2, y3, y4⟩ := y;simp only [cells_mk] at hra
  have hgy : ∀ q : m < (aP va).length, (aP va)[m]'q = [iP y0, iP y1, sP y2, .sl 2 (bR y3), .sl 5 (aP y4)] := fun q => by
   exact y44
  have hgb : ∀ q : m < (boPs kn).length, (boPs kn)[m]'q = [bP b] := fun q => by
   exact y2z
  have hgk2 : ∀ q : m < kn.length, kn[m]'q = b := fun q => by rw [bBf q] at hgk; exact bD0 hgk
  have hgv2 : ∀ q : m < va.length, va[m]'q = .mk y0 y1 y2 y3 y4 := fun q => by rw [bBf q] at hgv; exact bD0 hgv
  have hput : patch (buf 5 L 0) (j * 5) [iA 0, iA j, .p (sP []), .p (.prim (.slice none 0 0)), .p (.prim (.slice none 0 0))] = buf 5 (L.set j (vc j)) 0 :=
   Go.AI.buf_set (m := 0) (k := j) (e := vc j) hL5 aB rfl
  have hlen : j * 5 + 5 <= (buf 5 L 0).length := by rw [aFm hL5, hL]; omega
  have hL5b : ∀ e ∈ L.set j (vc j), e.length = 5 := fun e he => by
   rcases List.mem_or_eq_of_mem_set he with h1 | h1
   ·exact hL5 e h1
   ·rw [h1]; rfl
  have hput2 : patch (buf 5 (L.set j (vc j)) 0) (j * 5) [iA y0, iA y1, .p (sP y2), .p (.sl 2 (bR y3)), .p (.sl 5 (aP y4))] = buf 5 (L.set j [iP y0, iP y1, sP y2, .sl 2 (bR y3), .sl 5 (aP y4)]) 0 := by
   have := Go.AI.buf_set (m := 0) (k := j) (e := [iP y0, iP y1, sP y2, .sl 2 (bR y3), .sl 5 (aP y4)]) hL5b (by simp; omega) rfl;rw [List.set_set] at this;exact this
  have hlen2 : j * 5 + 5 <= (buf 5 (L.set j (vc j)) 0).length := by rw [aFm hL5b, bDe, hL]; omega
  generalize buf 5 L 0 = B at hput hlen ⊢;simp [patch] at hput;refine nV hjl ?_;refine zr2 hjl hlen ?_;rw [hput];refine znr ?_;rw [hm]
  cases b with
  | true =>
   simp only [if_true] at hra;rw [hra] at hset;generalize buf 5 (L.set j (vc j)) 0 = B2 at hput2 hlen2 ⊢;simp [patch] at hput2;refine zn ?_;refine zr4 hkl hvl hmk hgb ?_;refine zt ?_;refine zr5 hgv2 hgy hmv hjl hlen2 ?_;refine zr ?_;refine IH (j + 1) _ _ aB aB ?_ ?_
   ·exact zS
   ·rw [hput2, hset]
  | false =>
   simp only [bBy, if_false] at hra;rw [hra] at hset;refine zn ?_;refine zr3 hkl hmk hgb ?_;refine y12 ?_;refine IH (j + 1) _ _ aB aB ?_ ?_
   ·exact zS
   ·rw [hset]
 ·have hje : j = kn.length := aB;subst hje;refine znfen ?_;have hfin : gX kn va kn.length = (List.range kn.length).map (rawA kn va) := by simp [gX]
  rw [hfin];refine Run.freezeS 9 (id := h.length + 2) (n := kn.length) (cap := kn.length) (sz := 5) (m := 0) (es := (List.range kn.length).map (rawA kn va)) aA aA (fun e he => by obtain ⟨i, _, rfl⟩ := bCb.1 he; exact aCp kn va i) aA (bBh _) ?_;generalize (List.range kn.length).map (rawA kn va) = W at hw5 ⊢;refine eU ?_;refine rl (args := [.agg [iA k, iA i, .p (sP nm), .p (.sl 2 (bR ls)), .p (.sl 5 (aP ks))], .p (.sl 5 W)]) rfl aF aA rfl (ACalls.weak (WeakL.cons (Weak.refl _) (WeakL.cons (WeakP.sl hw5).av WeakL.nil)) (csub _ (hh.app aA))) ?_;refine zo ?_
  by_cases he : e = 0
  ·have heb : (e != 0) = false := by simpa using he
   rw [if_neg (by simpa using he)] at hrr;subst hrr;refine znr1f heb ?_;refine zr ?_;refine zx ?_;refine zF1 hh ?_;exact ⟨by simp [he], rfl⟩
  ·have heb : (e != 0) = true := by simpa using he
   rw [if_pos (by simpa using he)] at hrr;subst hrr;refine wA heb ?_;exact Fin.ret' (h0 := h) (xs := [.agg zTm, bA false]) aA rfl hh rfl aA rfl (Weak.tup (WeakL.cons Weak.zT (WeakL.refl _))) aA ⟨by simp [he], rfl⟩
theorem rP (kn : List Bool) (va : List Tm) (t : Tm) (h : Heap) (hh : WF h) (hn : kn.length <= 1000) (hl : va.length = kn.length) (ht : t.ok 65536) (hsz : t.size <= 4096) (hv : ∀ v ∈ va, v.ok 65536 /\ v.size <= 4096) :
  ACalls Tryz.prog 107 [.p (.sl 1 (boPs kn)), .p (.sl 5 (aP va)), t.av] h fun o h' => o = .ret (hC kn va t).1.av /\ h' = h := by
 have c1 := fun g hw => rQ kn va t g hw hn hl ht hsz hv
 generalize hC kn va t = R at c1 ⊢;generalize decide ((tM kn va t).2 = 0) = d at c1;obtain ⟨⟨r0, r1, r2, r3, r4⟩, e⟩ := R;obtain ⟨k, i, nm, ls, ks⟩ := t;simp only [Tm.av, cells_mk, List.map] at c1;refine ACalls.of_run Tryz.func107 rfl ?_;simp only [Tryz.ntmps107, bBm, bBn, Tm.av, cells_mk, List.map];refine znrr ?_;refine zL (c1 _ (hh.app aA)) ?_;refine zorx ?_;refine zF1 hh ?_;exact ⟨rfl, rfl⟩
theorem aCs (kn : List Bool) (va : List Tm) (t : Tm) (hn : kn.length <= 1000) (ht : t.ok 65536) (hv : ∀ v ∈ va, v.ok 65536 /\ v.size <= 4096) : (hC kn va t).1.lvs /\ (hC kn va t).1.size <= 4096 := by
 have := rO t (tS kn va) 0 ht (fun v hvv => ((qL (m := 65536) aB hv) v hvv).1);unfold hC tM;split
 ·simp [zT, Tm.lvs, Tm.lvss, Tm.size, Tm.sizes]
 ·exact this
theorem vK (kn : List Bool) (va : List Tm) (t : Tm) (h : Heap) (hh : WF h) (hn : kn.length <= 1000) (hl : va.length = kn.length) (ht : t.ok kn.length) (hsz : t.size <= 4096) (hv : ∀ v ∈ va, v.ok 1001 /\ v.size <= 4096 /\ v.depth <= 200 /\ v.lvs) :
  AC 62 [.p (.sl 1 (boPs kn)), .p (.sl 5 (aP va)), t.av] h (.tup [(hC kn va t).1.av, iA (hC kn va t).2]) := by
 have ht' : t.ok 65536 := cX t _ _ ht aB;have hv' : ∀ v ∈ va, v.ok 65536 /\ v.size <= 4096 := fun v h => ⟨cX v _ _ (hv v h).1 aB, (hv v h).2.1⟩
 have c1 := fun g hw => rP kn va t g hw hn hl ht' hsz hv'
 have hlv := aCs kn va t hn ht' hv';have c2 := fun g hw => yY (hC kn va t).1.size (hC kn va t).1 zT g (bBh _) aB hlv.1 hw
 have c3 := fun g hw => aBp kn va t g hw hn hl ht (fun v h => ⟨(hv v h).2.2.2, by have := (hv v h).2.1; omega⟩)
 have hz := aHu kn va t hn hl ht (fun v h => ⟨(hv v h).1, (hv v h).2.1, (hv v h).2.2.1⟩)
 have hR : (hC kn va t).2 = (if (sameT (hC kn va t).1 zT && !zeroB kn va t) = true then 11 else 0) /\ ((sameT (hC kn va t).1 zT && !zeroB kn va t) = true -> (hC kn va t).1 = zT) := by
  have hzz : sameT zT zT = true := by simp [zT, sameT, cF, Tm.kind, Tm.index, Tm.name, Tm.levels, Tm.kids, fD, sameLvs, aW]
  unfold hC
  by_cases he : (tM kn va t).2 = 0
  ·rw [if_neg (by simpa using he), hz]; simp [he]
  ·rw [if_pos he]
   have hf : zeroB kn va t = false := by
    simp only [ne_eq, he, not_false_eq_true, decide_true, bBs, bCk] at hz;exact hz.2
   rw [hf, hzz]; simp
 clear hz;generalize hC kn va t = R at c1 c2 hR ⊢;generalize zeroB kn va t = z at c3 hR;generalize sameT R.1 zT = s at c2 hR;obtain ⟨⟨r0, r1, r2, r3, r4⟩, e⟩ := R;obtain ⟨k, i, nm, ls, ks⟩ := t;simp only [Tm.av, cells_mk, List.map] at c1 c2 c3;have c2' := fun g hw => ACalls.weak (args := [.agg [iA r0, iA r1, .p (sP r2), .p (.sl 2 (bR r3)), .p (.sl 5 (aP r4))], .agg [iA 0, iA 0, .p (sP []), .p (.prim (.slice none 0 0)), .p (.prim (.slice none 0 0))]]) (WeakL.cons (Weak.refl _) (WeakL.cons Weak.zT WeakL.nil)) (c2 g hw)
 obtain ⟨hR1, hR2⟩ := hR;simp only at hR1 hR2;refine ACalls.of_run Tryz.func62 rfl ?_;simp only [Tryz.ntmps62, bBm, bBn, Tm.av, cells_mk, List.map];refine znrr ?_;refine zL (c1 _ (hh.app aA)) ?_;refine zor ?_;refine zL (c2' _ (hh.app aA)) ?_
 cases s with
 | false =>
  exact y50
 | true =>
  refine zo ?_;refine zL (c3 _ (hh.app aA)) ?_
  cases z with
  | false =>
   refine zotrx ?_;have e1 := hR2 rfl;simp only [zT, Tm.mk.injEq] at e1;obtain ⟨rfl, rfl, rfl, rfl, rfl⟩ := e1;exact Fin.ret' (h0 := h) (xs := [.agg zTm, iA 11]) aA rfl hh rfl aA rfl (Weak.tup (WeakL.cons Weak.zT (WeakL.refl _))) aA ⟨by rw [hR1]; rfl, rfl⟩
  | true =>
   exact y50


open Go Go.AI
theorem kJ (kn : List Bool) (va : List Tm) (h : Heap) (hh : WF h) (hn : kn.length <= 1000) (hl : va.length = kn.length) :
  AC 110 [.p (.sl 1 (boPs kn)), .p (.sl 5 (aP va))] h (.p (.sl 5 (aP (tS kn va)))) := by
 have hkl : (boPs kn).length = kn.length := aA;have hvl : (aP va).length = kn.length := by simp [hl]
 have hw5 := pX kn va (List.range kn.length);rw [show (List.range kn.length).map (aBh kn va) = tS kn va from rfl] at hw5;generalize tS kn va = V at hw5;refine nU Tryz.func110 Tryz.ntmps110 ?_;refine Run.tok 5 5 aA ?_;refine wC hkl ?_;refine Run.loopS [0, 1] (fun j : Nat => j <= kn.length) (fun j => kn.length - j) (fun j => [(5, .own h.length 5 ((List.range j).map (rawA kn va))), (6, iA ((kn.length : Int) - 1 - j))]) (fun j => h ++ [some (.tok j 5)]) 0 aA ?_ aA ?_
 ·exact zS
 intro j hj IH;simp
 by_cases hjl : j < kn.length
 ·obtain ⟨m, hm⟩ : ∃ m : Nat, (kn.length : Int) - 1 - j = m := ⟨((kn.length : Int) - 1 - j).toNat, by omega⟩;rw [hm];have hmk : m < kn.length := aB;have hmv : m < va.length := aB;have hgk : kn[m]? = some kn[m] := bBf hmk;have hgv : va[m]? = some va[m] := bBf hmv
  have hra : rawA kn va j = if kn[m] = true then va[m].cells else vc j := by
   exact y6m
  have hsn : (List.range (j + 1)).map (rawA kn va) = (List.range j).map (rawA kn va) ++ [rawA kn va j] := by simp [List.range_succ]
  have hll : ((List.range j).map (rawA kn va)).length = j := aA;have hb1 : (j + 1) * 80 <= 140737488355328 := aB;have hb2 : j + 1 <= 9223372036854775807 := aB;generalize (List.range j).map (rawA kn va) = L at hsn hll ⊢;generalize rawA kn va j = ra at hra hsn;generalize kn[m] = b at hgk hra;generalize va[m] = y at hgv hra;obtain ⟨y0, y1, y2, y3, y4⟩ := y;simp only [cells_mk] at hra
  have hgy : ∀ q : m < (aP va).length, (aP va)[m]'q = [iP y0, iP y1, sP y2, .sl 2 (bR y3), .sl 5 (aP y4)] := fun q => by
   exact y44
  have hgv2 : ∀ q : m < va.length, va[m]'q = .mk y0 y1 y2 y3 y4 := fun q => by rw [bBf q] at hgv; exact bD0 hgv
  have hgb : ∀ q : m < (boPs kn).length, (boPs kn)[m]'q = [bP b] := fun q => by
   exact y2z
  have hgk2 : ∀ q : m < kn.length, kn[m]'q = b := fun q => by rw [bBf q] at hgk; exact bD0 hgk
  have hmj : (kn.length : Int) - 1 - m = j := aB;have hmj2 : (m : Int) - 1 = (kn.length : Int) - 1 - (j + 1 : Nat) := aB;refine znr ?_;refine zt ?_;refine zr3 hkl hmk hgb ?_
  cases b with
  | true =>
   simp only [if_true] at hra;subst hra;refine zn ?_;refine zt ?_;refine zr6 hgv2 hgy hmv hb1 hb2 hll ?_;refine zr ?_;refine IH (j + 1) _ _ aB aB ?_ aA;rw [hsn];simp [hmj2];exact zK
  | false =>
   simp only [bBy, if_false] at hra;subst hra;refine zn ?_;refine zf ?_;refine zr4 hkl hb1 hb2 hll ?_;refine zr ?_;refine IH (j + 1) _ _ aB aB ?_ aA;rw [hsn];simp [hmj2, hmj];exact zK
 ·have hje : j = kn.length := aB;subst hje;have hlt : (kn.length : Int) - 1 < kn.length := aB;refine znr ?_;refine zf1 hlt ?_;refine ze ?_;refine znr ?_;refine zx ?_;generalize (List.range kn.length).map (rawA kn va) = W at hw5 ⊢;exact Fin.ret' (h0 := h) (xs := [.own h.length 5 W]) aA rfl hh rfl aA rfl (fun E w v r => (WeakP.sl hw5).av E w v (Weak.own _ _ _ E w v r)) aA ⟨rfl, rfl⟩
abbrev ltB (ov : Bool) : Option AO := some (.cells [iA 0, iA 0, iA 0, iA 1000, bA ov])
theorem aEa (h : Heap) (hh : WF h) : ACalls Tryz.prog 63 [] h fun o h' => o = .ret (.ptr h.length 0) /\ h' = h ++ [ltB false] := by
 refine ACalls.of_run Tryz.func63 rfl ?_;simp only [Tryz.ntmps63, bBn];refine aPu ?_;exact Fin.retM (h0 := h ++ [ltB false]) (l := []) aA aA (hh.app aA) (bBl _).symm aE rfl (Weak.refl _) aA ⟨rfl, rfl⟩
theorem aBd (kn : List Bool) (va : List Tm) (t : Tm) (q : Nat) (h : Heap) (hh : WF h) (hq : h[q]? = some (ltB false)) (hn : kn.length <= 1000) (hl : va.length = kn.length) (ht : t.ok 65536) (hsz : t.size <= 4096) (hv : ∀ v ∈ va, v.ok 65536 /\ v.size <= 4096) :
  ACalls Tryz.prog 64 [.p (.sl 1 (boPs kn)), .p (.sl 5 (aP va)), t.av, .ptr q 0] h fun o h' => o = .ret (hC kn va t).1.av /\ h' = h.set q (ltB (decide ((hC kn va t).2 ≠ 0))) := by
 obtain ⟨q1, q2, q3, q4, q5, qlt⟩ := idf hq;have c1 := fun g hw => kJ kn va g hw hn hl
 have csub := fun g hw => (qM t (tS kn va) ht hsz (by simp [tS]; omega) (qL aB hv) g hw).2
 have hrr : hC kn va t = if (tM kn va t).2 ≠ 0 then (zT, 11) else ((tM kn va t).1, 0) := rfl
 change ∀ (g : Heap), WF g -> ACalls Tryz.prog 109 [t.av, .p (.sl 5 (aP (tS kn va)))] g fun o h' => o = .ret (.tup [(tM kn va t).1.av, iA (tM kn va t).2]) /\ h' = g at csub
 generalize hC kn va t = R at hrr ⊢;generalize tM kn va t = q at csub hrr ⊢;generalize tS kn va = V at csub c1;obtain ⟨⟨r0, r1, r2, r3, r4⟩, e⟩ := q;obtain ⟨k, i, nm, ls, ks⟩ := t;simp only [Tm.av, cells_mk, List.map] at csub;refine ACalls.of_run Tryz.func64 rfl ?_;simp only [Tryz.ntmps64, bBm, bBn, Tm.av, cells_mk, List.map];refine znr ?_;refine ND.Run.drawP (pc := [3, 4]) [0, 0, 0, 0, 0, 0, 0, 0, 0, 1, 2] [0, 0, 0, 0, 0, 0, 0, 0, 0, 1, 0] [0, 0, 0, 6, 15, 31, 63, 63, 0, 383, 1023] [8, 0, 1, 2, 3, 4, 5, 6, 9, 7, 10] aC aC ?_;refine zm ?_;refine ND.DR.pcall rfl rfl rfl aA rfl rfl (fun g hg => (c1) g ?_) ?_
 ·exact y29
 refine zm ?_;refine ND.DR.pcall rfl rfl rfl aA rfl rfl (fun g hg => (csub) g ?_) ?_
 ·exact y29
 refine zm ?_;refine y8 ?_;refine nv ?_
 by_cases he : e = 0
 ·have heb : (e != 0) = false := by simpa using he
  rw [if_neg (by simpa using he)] at hrr;subst hrr;refine znr1f heb ?_;refine zr ?_;refine zx ?_;refine zF1 hh ?_;exact ⟨rfl, by simp [fM hq]⟩
 ·have heb : (e != 0) = true := by simpa using he
  rw [if_pos (by simpa using he)] at hrr;subst hrr;refine uC heb ?_;refine zt ?_;refine bBd q1 q2 ?_;refine zr ?_;refine zx ?_;exact Fin.ret' (h0 := h.set q (ltB true)) (xs := [.agg zTm]) aA aA (hh.set aA) rfl aA rfl Weak.zT aA ⟨rfl, by simp⟩

end Go.Proofs.YtfajdeofhioakaaGreat
