import Derived.Test.YtfajdeofhioakaaGreatJA0
import Derived.Test.YtfajdeofhioakaaGreatJD
import Derived.Test.YtfajdeofhioakaaGreatJE1
set_option maxRecDepth 8000
set_option maxHeartbeats 4000000

namespace Go.Proofs.YtfajdeofhioakaaGreat

open Go Go.AI
theorem aF2 (N : Nat) : ∀ (t : Tm) (h : Heap), t.size <= N -> t.size <= 1099511627776 -> WF h -> AC 237 [t.av] h (iA t.depth) := by
 induction N with
 | zero => intro t h hN; cases t; simp [Tm.size] at hN
 | succ N ih =>
 intro t h hN hsz hh;obtain ⟨k, i, n, ls, ks⟩ := t;simp only [Tm.size] at hN hsz;have hll := aR ks;refine ACalls.of_run Tryz.func237 rfl ?_;simp only [Tryz.ntmps237, bBm, bBn, Tm.av, cells_mk, List.map];refine aIv ?_;refine Run.loopS [7, 8] (fun j : Nat => j <= ks.length) (fun j => ks.length - j) (fun j => [(3, iA (Tm.depths (ks.take j) : Nat)), (9, iA j)]) (fun _ => _) 0 aA ?_ rfl ?_
 ·simp [Tm.depths];exact zK
 ·intro j hj IH;refine eU ?_
  by_cases hjl : j < ks.length
  ·have hg : ks[j]? = some ks[j] := bBf hjl;have hs := dD hjl;have htk : ks.take (j + 1) = ks.take j ++ [ks[j]] := bBq hjl;have hd1 := eP ks[j];have hd2 := jO ks j;refine lZ hjl hg ?_;refine zr ?_;refine Run.call (args := [ks[j].av]) rfl rfl aA rfl (ih ks[j] _ aB aB (hh.app aA)) ?_ ?_
   ·rintro v h' ⟨hv, rfl⟩;simp only [AOut.ret.injEq] at hv;subst hv;refine zor ?_;refine Run.keep [3, 7, 8, 9] ?_;simp;refine Run.cutAt 1 hh rfl aB aA aA aA rfl ?_;refine IH (j + 1) _ _ aB aB ?_ aA;exact y3z
   ·rintro v h' ⟨hv, _⟩; cases hv
  ·exact y3g
@[simp] theorem patch2 (a b : AV) (t : Lv) : patch [a, b] 0 (t.cells.map AV.p) = t.cells.map AV.p := by cases t; rfl
def sB (xs ys : List (Int × Int)) : Bool := !((xs.length : Int) != ys.length) && aW (varsAt xs ys) xs.length
theorem aE0 (h : Heap) (hh : WF h) (xs ys : List (Int × Int)) (hb : xs.length <= 1048576) : AC 131 [.p (.sl 2 (vY xs)), .p (.sl 2 (vY ys))] h (bA (sB xs ys)) := by
 refine nU Tryz.func131 Tryz.ntmps131 ?_
 by_cases hl : xs.length = ys.length
 ·have h0 : ((xs.length : Int) != ys.length) = false := by simp [hl]
  refine znf1r hl ?_;refine Run.loopS [0, 1, 11, 12] (fun j : Nat => j <= xs.length /\ aW (varsAt xs ys) j = true) (fun j => xs.length - j) (fun j => [(13, iA j)]) (fun _ => _) 0 (by simp [aW]) ?_ rfl ?_
  ·exact zS
  ·rintro j ⟨hj, hall⟩ IH;refine eU ?_
   by_cases hjl : j < xs.length
   ·have hg : xs[j]? = some xs[j] := bBf hjl;have hg' : ys[j]? = some ys[j] := bBf aB;generalize xs[j] = u at hg;generalize ys[j]'aB = v at hg';obtain ⟨x, y⟩ := u;obtain ⟨x', y'⟩ := v;refine nV hjl ?_;refine yr ?_;refine zd2 hg hg' ?_;refine y8 ?_;refine nv ?_;refine Run.condB rfl (fun h1 => ?_) (fun h1 => ?_)
    ·refine zA ?_;have h2 : sameVar (x, y) (x', y') = false := by simp only [sameVar]; simp at h1 ⊢; omega
     have := allTo_false (p := varsAt xs ys) hjl (by simp only [varsAt, hg, hg', h2]);refine zF3 hh ?_;exact ⟨by simp only [sB, this]; simp, rfl⟩
    ·exact y3m
   ·have hje : j = xs.length := aB;subst hje;refine znfen ?_;refine zA ?_;refine zF3 hh ?_;exact ⟨by simp only [sB, h0, hall]; simp, rfl⟩
 ·have h0 : ((xs.length : Int) != ys.length) = true := by simp; omega
  have hl' : ¬ (xs.length : Int) = ys.length := aB;refine znt1 hl' ?_;refine zA ?_;refine zF3 hh ?_;exact ⟨by simp only [sB, h0]; simp, rfl⟩
theorem aI2 (a b : Lv) : fL a b = (a.c == b.c && sB a.vars b.vars) := by
 simp only [fL, sB]
 cases h1 : a.c != b.c <;> cases h2 : (a.vars.length : Int) != b.vars.length <;> simp_all
theorem vP (h : Heap) (hh : WF h) (a b : Lv) (hb : a.vars.length <= 1048576) : AC 82 [a.av, b.av] h (bA (fL a b)) := by
 rw [aI2];obtain ⟨c, vs⟩ := a;obtain ⟨c', vs'⟩ := b;simp only at hb ⊢;have he := aE0 (h ++ [some (.cells [iA c, .p (.sl 2 (vY vs))]), some (.cells [iA c', .p (.sl 2 (vY vs'))])]) (hh.app aA) vs vs' hb;simp only [Lv.av, Lv.cells, List.map];refine zER Tryz.func82 Tryz.ntmps82 ?_
 cases h1 : c == c' with
 | false =>
  refine uC h1 ?_;refine zx ?_;refine zF2 hh ?_;exact ⟨rfl, rfl⟩
 | true =>
  refine uC h1 ?_;refine Run.call rfl aA aA rfl he ?_ ?_
  ·rintro v h' ⟨hv, rfl⟩;simp only [AOut.ret.injEq] at hv;subst hv;refine zox ?_;exact Fin.ret' aA rfl hh rfl rfl rfl (Weak.of_eq (by simp [bO])) rfl ⟨rfl, rfl⟩
  ·rintro v h' ⟨hv, _⟩; cases hv
theorem aFz (h : Heap) (hh : WF h) (xs ys : List Lv) (hb : xs.length <= 1048576) (hbv : ∀ l ∈ xs, l.vars.length <= 1048576) :
  AC 81 [.p (.sl 2 (bR xs)), .p (.sl 2 (bR ys)), .p (.prim (.func (.func 82) #[] #[]))] h (bA (sameLvs xs ys)) := by
 refine nU Tryz.func81 Tryz.ntmps81 ?_
 by_cases hl : xs.length = ys.length
 ·have h0 : ((xs.length : Int) != ys.length) = false := by simp [hl]
  refine znf1r hl ?_;refine Run.loopS [0, 1, 2, 15, 16] (fun j : Nat => j <= xs.length /\ aW (rK xs ys) j = true) (fun j => xs.length - j) (fun j => [(17, iA j)]) (fun _ => _) 0 (by simp [aW]) ?_ rfl ?_
  ·exact zS
  ·rintro j ⟨hj, hall⟩ IH;refine eU ?_
   by_cases hjl : j < xs.length
   ·have hg : xs[j]? = some xs[j] := bBf hjl;have hg' : ys[j]? = some ys[j] := bBf aB;have hv := hbv _ (bBi hjl);generalize xs[j] = u at hg hv;generalize ys[j]'aB = v at hg';refine lZ hjl hg ?_;refine zr1 hg' ?_;refine zr ?_;refine Run.call (args := [u.av, v.av]) rfl rfl aA rfl (vP _ (hh.app aA) u v hv) ?_ ?_
    rotate_left
    ·rintro v h' ⟨hv, _⟩; cases hv
    rintro v0 h' ⟨hv0, rfl⟩;simp only [AOut.ret.injEq] at hv0;subst hv0;refine zo ?_;refine Run.condB rfl (fun h1 => ?_) (fun h1 => ?_)
    ·refine zA ?_;have h2 : fL u v = false := by simpa using h1
     have := allTo_false (p := rK xs ys) hjl (by simp only [rK, hg, hg', h2]);refine zF2 hh ?_;exact ⟨by simp only [sameLvs, this]; simp, rfl⟩
    ·refine znr ?_;have h2 : fL u v = true := by simpa using h1
     refine y15 ?_;refine IH (j + 1) _ _ ⟨by omega, by rw [allTo_succ, hall]; simp only [rK, hg, hg', h2]; rfl⟩ aB ?_ aA;exact zS
   ·exact y3o
 ·exact y2r
theorem aG1 (h : Heap) (hh : WF h) (xs ys : List Tm) (hb : xs.length <= 1099511627776) (H : ∀ u ∈ xs, ∀ (v : Tm) (h : Heap), WF h -> AC 27 [u.av, v.av] h (bA (sameT u v))) :
  AC 83 [.p (.sl 5 (aP xs)), .p (.sl 5 (aP ys)), .p (.prim (.func (.func 27) #[] #[]))] h (bA (!((xs.length : Int) != ys.length) && fD xs ys)) := by
 rw [qB];refine nU Tryz.func83 Tryz.ntmps83 ?_
 by_cases hl : xs.length = ys.length
 ·have h0 : ((xs.length : Int) != ys.length) = false := by simp [hl]
  rw [h0];refine aMo ?_;refine Run.loopS [0, 1, 2, 15, 16] (fun j : Nat => j <= xs.length /\ aW (tmsAt xs ys) j = true) (fun j => xs.length - j) (fun j => [(17, iA j)]) (fun _ => _) 0 (by simp [aW]) ?_ rfl ?_
  ·exact zS
  ·rintro j ⟨hj, hall⟩ IH;refine eU ?_
   by_cases hjl : j < xs.length
   ·have hg : xs[j]? = some xs[j] := bBf hjl;have hg' : ys[j]? = some ys[j] := bBf aB;have hv := H _ (bBi hjl);generalize xs[j] = u at hg hv;generalize ys[j]'aB = v at hg';refine lZ hjl hg ?_;refine zr1 hg' ?_;refine zr ?_;refine Run.call (args := [u.av, v.av]) rfl rfl aA rfl (hv v _ (hh.app aA)) ?_ ?_
    rotate_left
    ·rintro v h' ⟨hv, _⟩; cases hv
    rintro v0 h' ⟨hv0, rfl⟩;simp only [AOut.ret.injEq] at hv0;subst hv0;refine zo ?_;refine Run.condB rfl (fun h1 => ?_) (fun h1 => ?_)
    ·refine zA ?_;have h2 : sameT u v = false := by simpa using h1
     have := allTo_false (p := tmsAt xs ys) hjl (by simp only [tmsAt, hg, hg', h2]);refine zF2 hh ?_;exact ⟨by simp only [this]; simp, rfl⟩
    ·refine znr ?_;have h2 : sameT u v = true := by simpa using h1
     refine y15 ?_;refine IH (j + 1) _ _ ⟨by omega, by rw [allTo_succ, hall]; simp only [tmsAt, hg, hg', h2]; rfl⟩ aB ?_ aA;exact zS
   ·have hje : j = xs.length := aB;subst hje;refine znfen ?_;refine zA ?_;refine zF3 hh ?_;exact ⟨by simp only [hall]; simp, rfl⟩
 ·have h0 : ((xs.length : Int) != ys.length) = true := by simp; omega
  have hl' : ¬ (xs.length : Int) = ys.length := aB;rw [h0];refine zn ?_;refine zt ?_;refine zA ?_;refine zF3 hh ?_;exact ⟨by simp, rfl⟩
theorem yY (N : Nat) : ∀ (a b : Tm) (h : Heap), a.size <= N -> a.size <= 1099511627776 -> a.lvs -> WF h -> AC 27 [a.av, b.av] h (bA (sameT a b)) := by
 induction N with
 | zero => intro t _ h hN; cases t; simp [Tm.size] at hN
 | succ N ih =>
 intro a b h hN hsz hlv hh;obtain ⟨k, i, n, ls, ks⟩ := a;obtain ⟨k', i', n', ls', ks'⟩ := b;simp only [Tm.size] at hN hsz;simp only [Tm.lvs] at hlv;have hll := aR ks;obtain ⟨H, hH⟩ : ∃ H : Heap, H = h ++ [some (.cells [iA k, iA i, .p (sP n), .p (.sl 2 (bR ls)), .p (.sl 5 (aP ks))]), some (.cells [iA k', iA i', .p (sP n'), .p (.sl 2 (bR ls')), .p (.sl 5 (aP ks'))])] := ⟨_, rfl⟩;have hwf : WF H := by rw [hH]; exact hh.app aA
 have hlvs := aFz H hwf ls ls' hlv.1 hlv.2.1
 have htms := aG1 H hwf ks ks' aB (fun u hu v h hh => by
  obtain ⟨j, hj, rfl⟩ := List.mem_iff_getElem.1 hu;have := dD hj;exact ih _ v h aB aB (Tm.lvss_at hlv.2.2 _ hu) hh)
 rw [hH] at hlvs htms;refine ACalls.of_run Tryz.func27 rfl ?_;simp only [Tryz.ntmps27, bBm, bBn, Tm.av, cells_mk, List.map];refine znr ?_
 have hst : sameT (.mk k i n ls ks) (.mk k' i' n' ls' ks') = (!(k != k') && (!(i != i') && ((n == n') && (sameLvs ls ls' && (!((ks.length : Int) != ks'.length) && fD ks ks'))))) := by
  simp only [sameT, cF, Tm.kind, Tm.index, Tm.name, Tm.levels, Tm.kids]
  cases k != k' <;> cases i != i' <;> cases n == n' <;> cases sameLvs ls ls' <;> cases (ks.length : Int) != ks'.length <;> simp
 rw [hst]
 cases c1 : k == k' with
 | false =>
  have c1' : (k != k') = true := by simp only [bne, c1]; rfl
  refine uC c1 ?_;refine zx ?_;refine zF2 hh ?_;exact ⟨by rw [c1']; rfl, rfl⟩
 | true =>
 have c1' : (k != k') = false := by simp only [bne, c1]; rfl
 cases c2 : i == i' with
 | false =>
  have c2' : (i != i') = true := by simp only [bne, c2]; rfl
  refine zn ?_;refine zr2 c1 c2 ?_;refine zx ?_;exact y2w
 | true =>
 have c2' : (i != i') = false := by simp only [bne, c2]; rfl
 cases c3 : n == n' with
 | false =>
  refine zn ?_;refine zr3 c1 c2 c3 ?_;refine zx ?_;exact y2w
 | true =>
 refine zn ?_;refine zr3 c1 c2 c3 ?_;refine Run.call rfl aA aA rfl hlvs ?_ ?_
 rotate_left
 ·rintro v h' ⟨hv, _⟩; cases hv
 rintro v0 h' ⟨hv0, rfl⟩;simp only [AOut.ret.injEq] at hv0;subst hv0
 cases c4 : sameLvs ls ls' with
 | false =>
  refine zox ?_;exact y2w
 | true =>
 refine zo ?_;refine Run.call rfl aA aA rfl htms ?_ ?_
 rotate_left
 ·rintro v h' ⟨hv, _⟩; cases hv
 rintro v0 h' ⟨hv0, rfl⟩;simp only [AOut.ret.injEq] at hv0;subst hv0;refine zox ?_;exact y2w

end Go.Proofs.YtfajdeofhioakaaGreat
