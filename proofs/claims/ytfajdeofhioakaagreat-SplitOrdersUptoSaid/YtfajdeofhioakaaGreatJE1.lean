import Derived.Test.YtfajdeofhioakaaGreatJA0
import Derived.Laws.Strings
import Derived.Test.YtfajdeofhioakaaGreatJD
set_option maxRecDepth 8000
set_option maxHeartbeats 4000000

namespace Go.Proofs.YtfajdeofhioakaaGreat

open Go Go.AI
def sameVar (a b : Int × Int) : Bool := a.1 == b.1 && a.2 == b.2
abbrev varsAt (xs ys : List (Int × Int)) (j : Nat) : Bool := match xs[j]?, ys[j]? with | some u, some v => sameVar u v | _, _ => true
def fL (a b : Lv) : Bool :=
 !(a.c != b.c || (a.vars.length : Int) != b.vars.length) && aW (varsAt a.vars b.vars) a.vars.length
theorem aEt (h : Heap) (hh : WF h) (a b : Lv) (hb : a.vars.length <= 1048576) : AC 111 [a.av, b.av] h (bA (fL a b)) := by
 obtain ⟨c, vs⟩ := a;obtain ⟨c', vs'⟩ := b;simp only at hb;simp only [Lv.av, Lv.cells, List.map];refine zER Tryz.func111 Tryz.ntmps111 ?_;refine Run.regJ [2, 3] 19 (c != c' || (vs.length : Int) != vs'.length) (fun K J => ?_) ?_
 ·simp;exact y1f
 refine y5 ?_;simp;refine Run.condB rfl (fun h0 => ?_) (fun h0 => ?_)
 ·refine zA ?_;refine zF2 hh ?_;exact ⟨by simp only [fL, h0]; simp, rfl⟩
 ·have hl : vs.length = vs'.length := by simp at h0; omega
  refine znr ?_;refine Run.loopS [2, 3] (fun j : Nat => j <= vs.length /\ aW (varsAt vs vs') j = true) (fun j => vs.length - j) (fun j => [(5, iA j)]) (fun _ => _) 0 (by simp [aW]) ?_ rfl ?_
  ·exact zS
  ·rintro j ⟨hj, hall⟩ IH;refine eU ?_
   by_cases hjl : j < vs.length
   ·have hg : vs[j]? = some vs[j] := bBf hjl;have hg' : vs'[j]? = some vs'[j] := bBf aB;obtain ⟨⟨x, y⟩, hxy⟩ : ∃ p, vs[j] = p := ⟨_, rfl⟩;obtain ⟨⟨x', y'⟩, hxy'⟩ : ∃ p, vs'[j]'aB = p := ⟨_, rfl⟩;rw [hxy] at hg;rw [hxy'] at hg';refine znt1 hjl ?_;refine Run.draw [0, 0, 0, 0, 0, 0, 0, 0, 0, 0, 0] [0, 0, 0, 0, 0, 0, 0, 0, 0, 0, 0] [0, 1, 0, 7, 15, 0, 32, 0, 224, 480, 1023] [0, 1, 2, 3, 4, 5, 6, 7, 8, 9, 10] aC aC ?_;refine zd2 hg hg' ?_;refine y8 ?_;refine nv ?_;refine Run.condB rfl (fun h1 => ?_) (fun h1 => ?_)
    ·refine zA ?_;have h2 : sameVar (x, y) (x', y') = false := by simp only [sameVar]; simp at h1 ⊢; omega
     have := allTo_false (p := varsAt vs vs') hjl (by simp only [varsAt, hg, hg', h2]);refine zF2 hh ?_;exact ⟨by simp only [fL, this]; simp, rfl⟩
    ·exact y3m
   ·have hje : j = vs.length := aB;subst hje;refine znfen ?_;refine zA ?_;refine zF2 hh ?_;exact ⟨by simp only [fL, h0, hall]; simp, rfl⟩
abbrev rK (xs ys : List Lv) (j : Nat) : Bool := match xs[j]?, ys[j]? with | some u, some v => fL u v | _, _ => true
def sameLvs (xs ys : List Lv) : Bool :=
 !((xs.length : Int) != ys.length) && aW (rK xs ys) xs.length
@[simp] theorem aY5 (t : Lv) : List.take 2 (List.map AV.p t.cells) = List.map AV.p t.cells := aBi t
theorem aBb (h : Heap) (hh : WF h) (xs ys : List Lv) (hb : xs.length <= 1048576) (hbv : ∀ l ∈ xs, l.vars.length <= 1048576) : AC 65 [.p (.sl 2 (bR xs)), .p (.sl 2 (bR ys))] h (bA (sameLvs xs ys)) := by
 refine nU Tryz.func65 Tryz.ntmps65 ?_
 by_cases hl : xs.length = ys.length
 ·have h0 : ((xs.length : Int) != ys.length) = false := by simp [hl]
  refine znf1r hl ?_;refine Run.loopS [0, 1] (fun j : Nat => j <= xs.length /\ aW (rK xs ys) j = true) (fun j => xs.length - j) (fun j => [(5, iA j)]) (fun _ => _) 0 (by simp [aW]) ?_ rfl ?_
  ·exact zS
  ·rintro j ⟨hj, hall⟩ IH;refine eU ?_
   by_cases hjl : j < xs.length
   ·have hg : xs[j]? = some xs[j] := bBf hjl;have hg' : ys[j]? = some ys[j] := bBf aB;have hv := hbv _ (bBi hjl);generalize xs[j] = u at hg hv;generalize ys[j]'aB = v at hg';refine znt1 hjl ?_;refine yo ?_;refine zd2 hg hg' ?_;refine DR.call (args := [u.av, v.av]) rfl rfl rfl aA rfl (aEt h hh u v hv) ?_;refine zd ?_;refine y8 ?_;refine nv ?_;refine Run.condB rfl (fun h1 => ?_) (fun h1 => ?_)
    ·refine zA ?_;have h2 : fL u v = false := by simpa using h1
     have := allTo_false (p := rK xs ys) hjl (by simp only [rK, hg, hg', h2]);refine zF3 hh ?_;exact ⟨by simp only [sameLvs, this]; simp, rfl⟩
    ·refine znr ?_;have h2 : fL u v = true := by simpa using h1
     refine IH (j + 1) _ _ ⟨by omega, by rw [allTo_succ, hall]; simp only [rK, hg, hg', h2]; rfl⟩ aB ?_ rfl;exact zS
   ·exact y3o
 ·exact y2r
def cF (a b : Tm) : Bool :=
 !(a.kind != b.kind || a.index != b.index || !(a.name == b.name) || !sameLvs a.levels b.levels || (a.kids.length : Int) != b.kids.length)

mutual
def sameT : Tm -> Tm -> Bool
 | .mk k i n ls ks, .mk k' i' n' ls' ks' => cF (.mk k i n ls ks) (.mk k' i' n' ls' ks') && fD ks ks'
def fD : List Tm -> List Tm -> Bool
 | a :: xs, b :: ys => sameT a b && fD xs ys
 | _, _ => true
end
abbrev tmsAt (xs ys : List Tm) (j : Nat) : Bool := match xs[j]?, ys[j]? with | some u, some v => sameT u v | _, _ => true
theorem qB : ∀ (xs ys : List Tm), fD xs ys = aW (tmsAt xs ys) xs.length
 | [], ys => by simp [fD, aW]
 | x :: xs, [] => by simp only [fD]; symm; rw [fT]; intro j _; simp [tmsAt]
 | x :: xs, y :: ys => by
  simp only [fD, qB xs ys];rw [bCd, bBs, fT, fT];constructor
  ·rintro ⟨h1, h2⟩ j hj
   cases j with
   | zero => simpa [tmsAt] using h1
   | succ j => simpa [tmsAt] using h2 j (by simpa using hj)
  ·intro h;exact ⟨by simpa [tmsAt] using h 0 aA, fun j hj => by simpa [tmsAt] using h (j + 1) (by simpa using hj)⟩

mutual
def Tm.lvs : Tm -> Prop
 | .mk _ _ _ ls ks => ls.length <= 1048576 /\ (∀ l ∈ ls, l.vars.length <= 1048576) /\ Tm.lvss ks
def Tm.lvss : List Tm -> Prop
 | [] => True
 | t :: ts => t.lvs /\ Tm.lvss ts
end
theorem Tm.lvss_at {l : List Tm} (h : Tm.lvss l) : ∀ t ∈ l, t.lvs := by
 induction l with
 | nil => intro t ht; cases ht
 | cons x l ih =>
  simp only [Tm.lvss] at h;intro t ht
  cases bC1.1 ht with
  | inl e => subst e; exact h.1
  | inr e => exact ih h.2 t e
theorem oI (N : Nat) : ∀ (a b : Tm) (h : Heap), a.size <= N -> a.size <= 1099511627776 -> a.lvs -> WF h -> AC 20 [a.av, b.av] h (bA (sameT a b)) := by
 induction N with
 | zero => intro t _ h hN; cases t; simp [Tm.size] at hN
 | succ N ih =>
 intro a b h hN hsz hlv hh;obtain ⟨k, i, n, ls, ks⟩ := a;obtain ⟨k', i', n', ls', ks'⟩ := b;simp only [Tm.size] at hN hsz;have hll := aR ks;simp only [Tm.lvs] at hlv;have hlvs := aBb (h ++ [some (.cells [iA k, iA i, .p (sP n), .p (.sl 2 (bR ls)), .p (.sl 5 (aP ks))]), some (.cells [iA k', iA i', .p (sP n'), .p (.sl 2 (bR ls')), .p (.sl 5 (aP ks'))])]) (hh.app aA) ls ls' hlv.1 hlv.2.1;refine ACalls.of_run Tryz.func20 rfl ?_;simp only [Tryz.ntmps20, bBm, bBn, Tm.av, cells_mk, List.map];refine znr ?_
 have hcase : (k != k') = true \/ ((k != k') = false /\ (i != i') = true) \/ ((k != k') = false /\ (i != i') = false /\ (n == n') = false) \/ ((k != k') = false /\ (i != i') = false /\ (n == n') = true) := by
  cases k != k' <;> cases i != i' <;> cases (n == n') <;> simp
 have no : cF (.mk k i n ls ks) (.mk k' i' n' ls' ks') = false -> sameT (.mk k i n ls ks) (.mk k' i' n' ls' ks') = false := fun e => by simp only [sameT, e]; rfl
 rcases hcase with c1 | ⟨c1, c2⟩ | ⟨c1, c2, c3⟩ | ⟨c1, c2, c3⟩
 ·have := no (by simp only [cF, Tm.kind, c1]; rfl);refine uC c1 ?_;exact y2p
 ·have := no (by simp only [cF, Tm.kind, Tm.index, c1, c2]; rfl);refine zn ?_;refine zr2 c1 c2 ?_;exact y2p
 ·have := no (by simp only [cF, Tm.kind, Tm.index, Tm.name, c1, c2, c3]; rfl);refine zn ?_;refine zr3 c1 c2 c3 ?_;exact y2p
 ·have hd0 : cF (.mk k i n ls ks) (.mk k' i' n' ls' ks') = !(!sameLvs ls ls' || (ks.length : Int) != ks'.length) := by
   simp only [cF, Tm.kind, Tm.index, Tm.name, Tm.levels, Tm.kids, c1, c2, c3, bDq, bE8]
  refine zn ?_;refine zr3 c1 c2 c3 ?_;refine Run.call rfl aA aA rfl hlvs ?_ ?_
  ·rintro v h' ⟨hv, rfl⟩;simp only [AOut.ret.injEq] at hv;subst hv;refine Run.opsJ [2, 3] 41 (!sameLvs ls ls' || (ks.length : Int) != ks'.length) (fun K J => ?_) ?_
   ·simp;exact y1f
   simp only [setMany, keepT];simp;refine Run.condB rfl (fun h0 => ?_) (fun h0 => ?_)
   ·have := no (by rw [hd0, h0]; rfl);exact y2p
   ·have hl : ks.length = ks'.length := by simp at h0; omega
    have hst : sameT (.mk k i n ls ks) (.mk k' i' n' ls' ks') = fD ks ks' := by simp only [sameT, hd0, h0]; rfl
    rw [qB] at hst;refine znr ?_;refine Run.loopS [2, 3] (fun j : Nat => j <= ks.length /\ aW (tmsAt ks ks') j = true) (fun j => ks.length - j) (fun j => [(5, iA j)]) (fun _ => _) 0 (by simp [aW]) ?_ rfl ?_
    ·exact zS
    ·rintro j ⟨hj, hall⟩ IH;refine eU ?_
     by_cases hjl : j < ks.length
     ·have hg : ks[j]? = some ks[j] := bBf hjl;have hg' : ks'[j]? = some ks'[j] := bBf aB;have hs := dD hjl;have hlj := Tm.lvss_at hlv.2.2 _ (bBi hjl);generalize ks[j] = u at hg hs hlj;generalize ks'[j]'aB = v at hg';refine znt1 hjl ?_;refine Run.draw [0, 0, 0, 0, 0, 0, 0, 0, 0, 0, 0, 1] [0, 0, 0, 0, 0, 0, 0, 0, 0, 0, 0, 0] [0, 1, 0, 7, 15, 0, 32, 0, 224, 480, 1023, 2047] [0, 1, 2, 3, 4, 5, 6, 7, 8, 9, 10, 11] aC aC ?_;refine zd2 hg hg' ?_;refine DR.call (args := [u.av, v.av]) rfl rfl rfl aA rfl (ih u v _ aB aB hlj (hh.app aA)) ?_;refine zd ?_;refine y8 ?_;refine nv ?_;refine Run.condB rfl (fun h1 => ?_) (fun h1 => ?_)
      ·refine zA ?_;have h2 : sameT u v = false := by simpa using h1
       have := allTo_false (p := tmsAt ks ks') hjl (by simp only [tmsAt, hg, hg', h2]);refine zF2 hh ?_;exact ⟨by rw [hst, this]; rfl, rfl⟩
      ·exact y3w
     ·have hje : j = ks.length := aB;subst hje;refine znfen ?_;refine zA ?_;refine zF2 hh ?_;exact ⟨by rw [hst, hall]; rfl, rfl⟩
  ·rintro v h' ⟨hv, _⟩; cases hv

end Go.Proofs.YtfajdeofhioakaaGreat
