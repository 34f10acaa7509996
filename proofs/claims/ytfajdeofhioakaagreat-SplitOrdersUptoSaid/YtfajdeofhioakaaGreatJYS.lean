import Derived.Test.YtfajdeofhioakaaGreatJA0
import Derived.Test.YtfajdeofhioakaaGreatJYI
import Derived.Test.YtfajdeofhioakaaGreatJYH
import Derived.Test.YtfajdeofhioakaaGreatJFF
import Derived.Test.YtfajdeofhioakaaGreatJE1
import Derived.Test.YtfajdeofhioakaaGreatJYL
import Derived.Test.YtfajdeofhioakaaGreatJFH
import Derived.Test.YtfajdeofhioakaaGreatJE7
set_option maxRecDepth 8000

namespace Go.Proofs.YtfajdeofhioakaaGreat

open Go Go.AI
def pY (n d : Nat) : List Int := List.replicate d (-1) ++ List.replicate (n - d) 0
theorem oH (n d : Nat) (h : d <= n) : (pY n d).length = n := by simp [pY]; omega
theorem aHs (n d e : Nat) (he : e <= d) (hd : d + e <= n) :
  (pY n d).take d ++ (pY n d).take e ++ (pY n d).drop (d + e) = pY n (d + e) := by
 unfold pY;rw [bCh (by simp : d <= (List.replicate d (-1 : Int)).length), bCh (by simp; omega), List.drop_append, List.drop_eq_nil_of_le aA];simp only [List.take_replicate, List.drop_replicate, List.length_replicate, bBo];rw [show min d d = d by omega, show min e d = e by omega, List.replicate_append_replicate, show n - d - (d + e - d) = n - (d + e) by omega]
theorem aJo {P : Program} {fn : Func} {R : AOut -> Heap -> Prop} {T : List AV} {h h0 : Heap} {n : Nat} {l : List (Option AO)} {x y : AV} {xs : List AV} {ax : AX} (hax : (∀ v, ax ≠ .panic v) /\ ∀ i, ax ≠ .exit i) (hn : n <= h0.length) (hh : WF h0) (e : h = h0 ++ l) (hr : aV P T h fn.results.toList = some xs) (hx : bO xs = x) (hw : Weak x y) (hy : y.under h0.length = true) (hR : R (.ret y) h0) :
  Fin P fn n R ax T h [] := by
 subst e hx
 have : ∃ l' y' h' m, aV P T (h0 ++ l) fn.results.toList = some l' /\ Settles (bO l') (h0 ++ l) y' h' /\ n <= m /\ m <= h'.length /\ y'.under m = true /\ (h'.take m).all (AO.under m) = true /\ R (.ret y') (h'.take m) := by
  exact y54
 cases ax with
 | panic v => exact absurd rfl (hax.1 v)
 | exit v => exact absurd rfl (hax.2 v)
 | normal => exact ⟨rfl, this⟩
 | ret => exact ⟨rfl, this⟩
theorem vJ (n : Nat) (hn : n <= 1048576) (h : Heap) (hh : WF h) : ACalls Tryz.prog 105 [.p (.sl 1 [[iP (-1)]]), iA n] h fun o h' => o = .ret (.sm h.length 0 n n 1) /\ h' = h ++ [some (.cells (buf 1 (aI (List.replicate n (-1))) 0))] := by
 have c1 := aEc n aB aB h hh;have n0 : ¬ (n : Int) < 0 := aB
 have wn : IntKind.u64.wrap (n : Int) = n := by
  simp only [IntKind.wrap, IntKind.bits, IntKind.signed, Bool.false_and];simp;omega
 have w1 : IntKind.u64.wrap 1 = 1 := rfl;refine zE Tryz.func105 Tryz.ntmps105 ?_;refine wB n0 ?_;refine zf ?_;refine bBb w1 ?_;refine zL (c1) ?_;refine zo ?_;have n1 : ¬ (9223372036854775807 : Int) < n := aB
 have wi : IntKind.i64.wrap (n : Int) = n := by
  simp only [IntKind.wrap, IntKind.bits, IntKind.signed, Bool.true_and];simp;omega
 have n2 : (n : Int) * 8 <= 140737488355328 := aB;have n3 : n * 8 <= 140737488355328 := aB;refine znr1f n1 ?_;have n4 : n <= 1099511627776 := aB;refine zn ?_;refine bBc n3 n4 ?_;have e1 : List.replicate n (iA 0) = buf 1 (aI (pY n 0)) 0 := by simp [eG, pY]
 rw [e1];obtain ⟨d0, hd0⟩ : ∃ d, d = min 1 n := ⟨_, rfl⟩;have hd1 : d0 <= n := aB;have hd2 : n = 0 \/ 1 <= d0 := aB;have m1 : Nat.min 1 n = d0 := hd0.symm;have m2 : min 1 n = d0 := hd0.symm
 have hs : ∀ H, cW H 1 d0 (.p (.sl 1 [[iP (-1)]])) = some ((List.replicate d0 (-1)).map iP) := fun H => by
  have : d0 = 0 \/ d0 = 1 := aB;rcases this with e | e <;> subst e <;> rfl
 have hput := oF (h := h ++ [some (.cells (buf 1 (aI (pY n 0)) 0))]) (id := h.length) (zs := pY n 0) (m := 0) (by simp [Heap.at]) 0 (List.replicate d0 (-1)) (by simp [oH]; omega)
 have hr : (pY n 0).take 0 ++ List.replicate d0 (-1) ++ (pY n 0).drop (0 + (List.replicate d0 (-1 : Int)).length) = pY n d0 := by
  simp [pY]
 rw [hr] at hput;simp only [bCz _ _ (bBh _), Nat.sub_self, bDl] at hput;clear hr;generalize (List.replicate d0 (-1) : List Int) = R0 at hs hput;refine zn ?_;refine zr3 m1 hs hput ?_;refine Run.loopS [0, 1, 7] (fun d : Nat => d <= n /\ (n = 0 \/ 1 <= d)) (fun d => n - d) (fun d => [(8, iA d)]) (fun d => h ++ [some (.cells (buf 1 (aI (pY n d)) 0))]) d0 ⟨hd1, hd2⟩ ?_ rfl ?_
 ·simp;exact y1j
 intro d ⟨hd, hdz⟩ IH;refine eU ?_
 by_cases hdn : d < n
 ·have hdn' : (d : Int) < n := aB;have hd1' : 1 <= d := aB;have hnd : ¬ n = d := aB;have hn0 : ¬ n = 0 := aB;have hd0' : ¬ d = 0 := aB;have hdl : d <= n := hd;have hdi : (d : Int) <= n := aB;obtain ⟨e, he⟩ : ∃ e, e = min d (n - d) := ⟨_, rfl⟩;have he1 : e <= d := aB;have he2 : d + e <= n := aB;have he3 : 1 <= e := aB;have k1 : Nat.min d (n - d) = e := he.symm;have k2 : min d (n - d) = e := he.symm;have hat : (h ++ [some (.cells (buf 1 (aI (pY n d)) 0))] : Heap).at h.length = some (.cells (buf 1 (aI (pY n d)) 0)) := by simp [Heap.at]
  have hs2 := vT hat 0 d n e he1 (by rw [oH n d hd]; omega);have hl2 : ((pY n d).take e).length = e := by simp [oH n d hd]; omega
  have hput2 := oF hat d ((pY n d).take e) (by rw [hl2, oH n d hd]; omega);rw [hl2, aHs n d e he1 he2] at hput2;simp only [bCz _ _ (bBh _), Nat.sub_self, bDl] at hput2;simp only [List.drop_zero] at hs2;clear hat;have hi2 : (d : Int) + e <= 9223372036854775807 := aB;generalize (pY n d).take e = R1 at hs2 hput2;refine znt1 hdn ?_;refine Run.draw [0, 0, 0, 0, 0, 0, 0, 0, 1, 1] [0, 0, 0, 0, 0, 0, 0, 0, 0, 0] [0, 0, 0, 6, 0, 0, 48, 126, 255, 511] [1, 2, 3, 4, 5, 6, 7, 0, 8, 9] aC aC ?_;refine zd6 hnd hn0 hdi k1 hs2 hput2 ?_;refine zd ?_;refine y8 ?_;refine nv ?_;refine IH (d + e) _ _ ⟨he2, Or.inr aB⟩ aB ?_ rfl;simp;exact y1j
 ·refine aD9 hdn ?_;have hde : d = n := aB;subst hde;have hrn : pY d d = List.replicate d (-1) := by simp [pY]
  rw [hrn];exact aJo (h0 := h ++ [some (.cells (buf 1 (aI (List.replicate d (-1))) 0))]) aA aA (WF.app hh (l := [some (.cells (buf 1 (aI (List.replicate d (-1))) 0))]) (by simp [AO.under, iD])) (bBl _).symm aE rfl (Weak.refl _) (by simp [AV.under]) ⟨rfl, rfl⟩


open Go Go.AI
def cG (n : Nat) (order : List Int) : Nat -> List Int
 | 0 => List.replicate n (-1)
 | k + 1 => (cG n order k).set ((n : Int) - 1 - order.getD k 0).toNat ((order.length : Int) - 1 - k)
theorem cR (n : Nat) (order : List Int) : ∀ k, (cG n order k).length = n
 | 0 => by simp [cG]
 | k + 1 => by simp [cG, cR n order k]
theorem jU (h : Heap) (hh : WF h) (n : Nat) (order : List Int) (hn : n <= 1000) (hl : order.length <= 1000) (ho : ∀ i ∈ order, 0 <= i /\ i < n) :
  AC 56 [iA n, .p (.sl 1 (aI order))] h (.p (.sl 1 (aI (cG n order order.length)))) := by
 have hkl : (aI order).length = order.length := by simp [aI]
 have c1 := vJ n aB h hh;refine nU Tryz.func56 Tryz.ntmps56 ?_;refine zL (c1) ?_;refine zo ?_;refine zr1 hkl ?_;refine Run.loopS [0, 1, 5, 11, 12] (fun k : Nat => k <= order.length) (fun k => order.length - k) (fun k => [(13, iA k)]) (fun k => h ++ [some (.cells (buf 1 (aI (cG n order k)) 0))]) 0 aA ?_ rfl ?_
 ·simp;exact y1j
 intro k hk IH;refine eU ?_
 by_cases hkl2 : k < order.length
 ·refine znt1 hkl2 ?_;have hg : order[k]? = some order[k] := bBf hkl2;have hgi : (aI order)[k]? = some [iP order[k]] := by simp [aI, hg]
  have hob := ho _ (bBi hkl2)
  have hst : cG n order (k + 1) = (cG n order k).set ((n : Int) - 1 - order[k]).toNat ((order.length : Int) - 1 - k) := by
   simp only [cG, List.getD_eq_getElem?_getD, hg, bBw]
  have hrl := cR n order k;generalize cG n order k = L at hst hrl ⊢;generalize order[k] = b at hg hgi hob hst;have hgq : ∀ q : k < (aI order).length, (aI order)[k]'q = [iP b] := fun q => by rw [bBf q] at hgi; exact bD0 hgi
  obtain ⟨m, hm⟩ : ∃ m : Nat, (n : Int) - 1 - b = m := ⟨((n : Int) - 1 - b).toNat, by omega⟩;have hmn : m < n := aB;have hmn1 : m + 1 <= n := hmn;rw [hm, bC4] at hst;have hbl : (buf 1 (aI L) 0).length = n := by rw [eG]; simp [hrl]
  have hset : ∀ v : Int, (buf 1 (aI L) 0).set m (.p (.prim (.int .i64 v))) = buf 1 (aI (L.set m v)) 0 := fun v => by rw [eG, eG]; simp [<- List.map_set]
  refine zn ?_;refine zr3 hgq hkl hkl2 ?_;generalize buf 1 (aI L) 0 = B at hbl hset ⊢;refine nv ?_;refine Run.regPre 10 fun K J => ?_
  refine yj ?_;simp [hkl];refine zi ?_; clear J;refine yd ?_;refine Run.opsPre 1 fun K J => ?_
  refine yj ?_;simp [hm, hmn];refine zi ?_; clear J;refine yd ?_;refine zo3 hmn1 hbl hset ?_;refine zr ?_;refine IH (k + 1) _ _ aB aB ?_ (by rw [hst]);simp;exact y1j
 ·refine aD8 hkl2 ?_;refine ze ?_;refine znr ?_;have hke : k = order.length := aB;subst hke;have hrl := cR n order order.length;generalize cG n order order.length = W at hrl ⊢;refine Run.freezeS 4 (id := h.length) (n := n) (cap := n) (sz := 1) (m := 0) (es := aI W) aA aA (fun e he => by obtain ⟨x, _, rfl⟩ := bCb.1 he; rfl) (by simp [hrl]) (bBh _) ?_;simp;refine Run.ret ?_;exact y2o


open Go Go.AI

mutual
theorem aMh : ∀ (t : Tm) (dp m : Int), t.ok (m + dp) -> 0 <= dp -> m + dp + t.size <= 65537 -> dH 0 0 dp t = t /\ bG 0 0 dp t = false
 | .mk k i n ls ks, dp, m, h, hd, hs => by
  simp only [Tm.ok, Tm.okN] at h;simp only [Tm.size] at hs;simp only [dH, bG]
  by_cases hk : k = 0
  ·obtain ⟨h1, h2, rfl, rfl, rfl⟩ := h.1.1 hk;subst hk;simp only [if_true];refine ⟨?_, ?_⟩
   ·split
    ·rfl
    ·simp [vr]
   ·by_cases c : i < 0 + dp
    ·simp; omega
    ·have : ¬ (65535 : Int) < i + 0 := aB;have c2 : ¬ i + 0 < 0 + dp := aB;simp only [c, c2, this, decide_false, Bool.or_self, Bool.and_false]
  ·simp only [hk, if_false];have := aI7 ks k dp m 0 (by simpa using h.2) hd aB;rw [this.1, this.2];exact ⟨rfl, rfl⟩
theorem aI7 : ∀ (l : List Tm) (k dp m : Int) (idx : Nat), Tm.oks (m + dp) k idx l -> 0 <= dp -> m + dp + 1 + Tm.sizes l <= 65537 -> dA 0 0 dp k idx l = l /\ aZ 0 0 dp k idx l = false
 | [], k, dp, m, idx, _, _, _ => ⟨rfl, rfl⟩
 | t :: ts, k, dp, m, idx, h, hd, hs => by
  simp only [Tm.oks] at h;simp only [Tm.sizes] at hs;have hz := aU k idx;have h1 := aMh t (dp + aJ k idx) m (by rw [<- Int.add_assoc]; exact h.1) aB aB;have h2 := aI7 ts k dp m (idx + 1) h.2 hd (by have := t.size_pos; omega);simp only [dA, aZ, h1.1, h1.2, h2.1, h2.2];exact ⟨trivial, rfl⟩
end
def aBh (kn : List Bool) (va : List Tm) (i : Nat) : Tm := match kn[kn.length - 1 - i]?, va[kn.length - 1 - i]? with
 | some true, some v => v
 | _, _ => vr i
def tS (kn : List Bool) (va : List Tm) : List Tm := (List.range kn.length).map (aBh kn va)
def tM (kn : List Bool) (va : List Tm) (t : Tm) : Tm × Int := aO t (tS kn va) 0
def hC (kn : List Bool) (va : List Tm) (t : Tm) : Tm × Int := if (tM kn va t).2 ≠ 0 then (zT, 11) else ((tM kn va t).1, 0)
def zeroB (kn : List Bool) (va : List Tm) (t : Tm) : Bool := if t.kind ≠ 0 then false else match kn[((kn.length : Int) - 1 - t.index).toNat]?, va[((kn.length : Int) - 1 - t.index).toNat]? with
 | some true, some v => sameT v zT
 | _, _ => decide (t.index = 0)
theorem qL {kn : List Bool} {va : List Tm} {m : Int} (hm : (kn.length : Int) <= m) (hv : ∀ v ∈ va, v.ok m /\ v.size <= 4096) : ∀ v ∈ tS kn va, v.ok m /\ v.size <= 4096 := by
 intro v h;obtain ⟨i, hi, rfl⟩ := bCb.1 h;have hi := bCq.1 hi;unfold aBh
 have hvr : (vr i).ok m /\ (vr i).size <= 4096 := by
  simp only [vr, Tm.ok, Tm.okN, Tm.oks, Tm.size, Tm.sizes];exact ⟨⟨⟨fun _ => ⟨by omega, by omega, trivial, trivial, trivial⟩, by simp, by simp, by simp⟩, trivial⟩, by omega⟩
 split
 ·rename_i h2; exact hv _ (bBu h2)
 ·exact hvr
theorem aLc (kn : List Bool) (va : List Tm) (i : Nat) (h : i < kn.length) : (tS kn va)[i]? = some (aBh kn va i) := by
 simp [tS, h]
theorem aEu {k i : Int} {nm : List UInt8} {ls : List Lv} {ks : List Tm} (hk : k ≠ 0) : sameT (.mk k i nm ls ks) zT = false := by
 simp only [zT, sameT, cF, Tm.kind];have : (k != 0) = true := by simpa using hk
 simp [this]
theorem aHu (kn : List Bool) (va : List Tm) (t : Tm) (hn : kn.length <= 1000) (hl : va.length = kn.length) (ht : t.ok kn.length) (hv : ∀ v ∈ va, v.ok 1001 /\ v.size <= 4096 /\ v.depth <= 200) :
  (sameT (tM kn va t).1 zT && !zeroB kn va t) = decide ((tM kn va t).2 ≠ 0) := by
 have hcap : cJ 0 = 0 := by simp [cJ]
 unfold tM;rw [eA _ _ _ aB, hcap];obtain ⟨k, i, nm, ls, ks⟩ := t
 by_cases hk : k = 0
 ·have h' := ht;simp only [Tm.ok, Tm.okN] at ht;obtain ⟨h1, h2, rfl, rfl, rfl⟩ := ht.1.1 hk;subst hk;obtain ⟨j, rfl⟩ : ∃ j : Nat, i = j := ⟨i.toNat, by omega⟩;have hj : j < kn.length := aB;have hg := aLc kn va j hj;have hok := qL (kn := kn) (m := 1001) aB (fun v h => ⟨(hv v h).1, (hv v h).2.1⟩) _ (bBu hg)
  have hd : (aBh kn va j).depth <= 200 := by
   unfold aBh;split
   ·rename_i h2; exact (hv _ (bBu h2)).2.2
   ·simp [vr, Tm.depth, Tm.depths]
  have hz := aMh (aBh kn va j) 0 1001 (by simpa using hok.1) aB aB;have e1 : cO (tS kn va) 0 (.mk 0 j [] [] []) = (aBh kn va j).size := by simp [cO, hg]
  have e2 : eB (tS kn va) 0 (.mk 0 j [] [] []) = false := by simp [eB, hg, hz.2]
  have e3 : aF1 (tS kn va) 0 (.mk 0 j [] [] []) = aBh kn va j := by simp [aF1, hg, hz.1]
  rw [jV, e1, e2, e3, if_neg aB, if_neg aA, if_neg aB];have e4 : ((kn.length : Int) - 1 - j).toNat = kn.length - 1 - j := aB;simp only [ne_eq, bE0, decide_false, zeroB, Tm.kind, Tm.index, if_false, e4];unfold aBh;split
  ·cases h : sameT _ zT <;> simp
  ·have : sameT (vr j) zT = decide ((j : Int) = 0) := by
    simp only [vr, zT, sameT, cF, Tm.kind, Tm.index, Tm.name, Tm.levels, Tm.kids, fD, sameLvs]
    by_cases h0 : j = 0
    ·subst h0; simp [aW]
    ·have h1 : ¬ (j : Int) = 0 := aB;have h2 : ((0 : Int) != 0) = false := rfl;have h3 : ((j : Int) != 0) = true := by simpa using h0
     simp [h0, h3]
   rw [this]
   by_cases h0 : j = 0 <;> simp [h0]
 ·have hzb : zeroB kn va (.mk k i nm ls ks) = false := by simp [zeroB, Tm.kind, hk]
  rw [hzb];have hzz : sameT zT zT = true := by simp [zT, sameT, cF, Tm.kind, Tm.index, Tm.name, Tm.levels, Tm.kids, fD, sameLvs, aW]
  unfold jV;split
  ·rw [hzz]; rfl
  ·split
   ·rw [hzz]; rfl
   ·split
    ·rw [hzz]; rfl
    ·simp only [aF1, if_neg hk, aEu hk]
     rfl

end Go.Proofs.YtfajdeofhioakaaGreat
