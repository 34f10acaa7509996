import Derived.Test.YtfajdeofhioakaaGreatJA0
import Derived.Test.YtfajdeofhioakaaGreatJYXc
import Derived.Test.YtfajdeofhioakaaGreatJYH
import Derived.Test.YtfajdeofhioakaaGreatJYK

namespace Go.Proofs.YtfajdeofhioakaaGreat

open Go Go.AI
theorem aCk (ty : List Tm) (kn : List Bool) : ∀ (f : Nat) (order : List Int) (tel : List Tm), (jT ty kn f order tel).1.length <= order.length + f /\ (jT ty kn f order tel).2.1.length <= tel.length + f
 | 0, order, tel => ⟨bBh _, bBh _⟩
 | f + 1, order, tel => by
  simp only [jT];split
  ·exact ⟨by simp only; omega, by simp only; omega⟩
  ·split
   ·exact ⟨by simp, by simp⟩
   ·rename_i v _;have := aCk ty kn f (order ++ [(v : Int)]) (tel ++ [rT ty kn order v]);simp only [bBp, bDi] at this;omega
theorem aCl (ty : List Tm) (kn : List Bool) (P : Tm -> Prop) (hP : ∀ order v, P (rT ty kn order v)) : ∀ (f : Nat) (order : List Int) (tel : List Tm), (∀ t ∈ tel, P t) -> ∀ t ∈ (jT ty kn f order tel).2.1, P t
 | 0, order, tel, h => h
 | f + 1, order, tel, h => by
  simp only [jT];split
  ·exact h
  ·split
   ·simp
   ·rename_i v _;refine aCl ty kn P hP f _ _ fun t ht => ?_
    rcases bC8.1 ht with ht | ht
    ·exact h t ht
    ·simp only [List.mem_singleton] at ht;subst ht;exact hP _ _

structure Pb.few (p : Pb) : Prop where
 n : p.kn.length <= 20
 ty : p.ty.length = p.kn.length
 va : p.va.length = p.kn.length
 tyo : ∀ t ∈ p.ty, t.good /\ t.ok p.kn.length /\ t.size <= 120
 vao : ∀ t ∈ p.va, t.good /\ t.ok (p.kn.length + 1 : Nat) /\ t.size <= 120
 tgo : p.tg.good /\ p.tg.ok p.kn.length /\ p.tg.size <= 120
theorem aUo (p : Pb) (hg : p.gd) (hf : aOs p = true) : p.few := by
 obtain ⟨g1, g2, g3, g4, g5, g6⟩ := hg;simp only [aOs, tH, bBs, bC2] at hf;obtain ⟨⟨⟨⟨⟨f1, f2⟩, f3⟩, f4⟩, f5⟩, ⟨⟨⟨⟨⟨⟨_, f6⟩, f7⟩, f8⟩, f9⟩, _⟩, _⟩⟩ := hf;have hlen : p.kn.length = p.ty.length := aB;have hvl : p.va.length = p.ty.length := aB;refine ⟨by omega, by omega, by omega, fun t ht => ?_, fun v hv => ?_, g6, ?_, f3⟩
 ·obtain ⟨i, hi, he⟩ := List.mem_iff_getElem.1 ht;have hgt : p.ty[i]? = some t := by rw [bBf hi, he]
  have h1 := gD f9 hi;have h2 := gD f4 hi;have hk : p.kn[i]? = some (p.kn[i]'aB) := bBf aB;have hv : p.va[i]? = some (p.va[i]'aB) := bBf aB;simp only [aJt, hgt, hk, hv, bBs, bC2] at h1;simp only [aJ1, hgt, bC2] at h2;refine ⟨g2 t ht, ?_, h2⟩;rw [hlen];exact jF (g2 t ht).2.2 h1.1.1
 ·obtain ⟨i, hi, he⟩ := List.mem_iff_getElem.1 hv;have hgv : p.va[i]? = some v := by rw [bBf hi, he]
  have h1 := gD f9 (show i < p.ty.length by omega);have h2 := gD f5 hi;have hk : p.kn[i]? = some (p.kn[i]'aB) := bBf aB;have ht : p.ty[i]? = some (p.ty[i]'aB) := bBf aB;simp only [aJt, ht, hk, hgv, bBs, bC2] at h1;simp only [aJ1, hgv, bC2] at h2;refine ⟨g5 v hv, ?_, h2⟩;rw [hlen];exact jF (g5 v hv).2.2 (by simpa using h1.1.2)
 ·rw [hlen]; exact jF g6.2.2 f8
set_option maxRecDepth 8000 in
set_option maxHeartbeats 8000000 in
theorem qG (h : Heap) (hh : WF h) (p : Pb) (hg : p.gd) (t : Tm) (hsz : t.size <= 1048576) (hlv : t.lvs) (hf : t.fit) (order : List Int) (hol : order.length <= 1048576) :
  AC 4 [p.av, t.av, .p (.sl 1 (aI order))] h (bA true) := by
 have hfew := fun g hw => aGa p hg g hw
 have hfew5 := fun g hw => aJn g hw t p.ty.length aB hf
 have hall : aOs p = true -> aOq p.ty.length t = true -> order.length <= 30 -> ∃ (a : List Int) (x : List Tm) (e : Int) (c : Tm) (f : Int),
   (∀ g, WF g -> AC 14 [p.av] g (.tup [.p (.sl 1 (aI a)), .p (.sl 5 (aP x)), iA e])) /\
   (∀ g, WF g -> AC 15 [p.av] g (.tup [.p (.sl 1 (aI a)), .p (.sl 5 (aP x)), iA e])) /\
   (∀ g, WF g -> AC 16 [p.av, .p (.sl 1 (aI order)), t.av] g (.tup [c.av, iA f])) /\
   (∀ g, WF g -> AC 17 [p.av, .p (.sl 1 (aI order)), t.av] g (.tup [c.av, iA f])) /\
   (∀ g, WF g -> AC 18 [.p (.sl 1 (aI a)), .p (.sl 1 (aI a))] g (bA true)) /\
   (∀ g, WF g -> AC 19 [.p (.sl 5 (aP x)), .p (.sl 5 (aP x))] g (bA true)) /\
   (∀ g, WF g -> AC 20 [c.av, c.av] g (bA true)) := by
  intro hb hb5 ho30;obtain ⟨n1, n2, n3, n4, n5, n6⟩ := aUo p hg hb;have q := aOr aB hlv hb5;have htok : t.ok p.kn.length := by rw [<- n2]; exact q.1
  have hty : ∀ t ∈ p.ty, t.good /\ t.ok p.kn.length /\ t.size <= 4096 := fun t ht => ⟨(n4 t ht).1, (n4 t ht).2.1, by have := (n4 t ht).2.2; omega⟩
  have hva : ∀ v ∈ p.va, v.ok 1001 /\ v.size <= 4096 /\ v.depth <= 200 /\ v.lvs := fun v hv => ⟨cX v _ _ (n5 v hv).2.1 aB, by have := (n5 v hv).2.2; omega, by have := (n5 v hv).2.2; have := eP v; omega, (n5 v hv).1.2.2⟩
  have hl := aCk p.ty p.kn p.kn.length [] []
  have hlt := aCl p.ty p.kn (fun t => t.lvs /\ t.size <= 1099511627776) (fun order v => by
   have h0 : (p.ty.getD v zT).ok 65536 /\ (p.ty.getD v zT).size <= 4096 := by
    rw [List.getD_eq_getElem?_getD]
    cases hq : p.ty[v]? with
    | none => exact ⟨aF8 _ aB, by have := aH1.2; simp only [bEf]; omega⟩
    | some u => exact ⟨cX u _ _ (hty u (bBu hq)).2.1 aB, (hty u (bBu hq)).2.2⟩
   have := yN (cG p.kn.length order order.length) _ h0.1;exact ⟨tB _ _ this.1, by have := this.2; simp only [rT]; omega⟩) p.kn.length [] [] aA
  have hc : (qN p.kn p.va order t).1.lvs /\ (qN p.kn p.va order t).1.size <= 1099511627776 := by
   have hr := aB5 p.kn p.va t aB (cX t _ _ htok aB) (fun v hv => ⟨cX v _ _ (hva v hv).1 aB, (hva v hv).2.1⟩);have hz : zT.lvs /\ zT.size <= 1099511627776 := ⟨aH1.1, by have := aH1.2; omega⟩;unfold qN;split
   ·split
    ·exact hz
    ·have := yN (cG p.kn.length order order.length) _ hr.1;exact ⟨tB _ _ this.1, by have := this.2; have := hr.2; omega⟩
   ·exact hz
  simp only [bBn, bCg] at hl
  exact ⟨_, _, _, _, _, fun g hw => aAx p g hw aB n2 hty, fun g hw => yO p g hw aB n2 hty,
   fun g hw => aF3 p order t g hw aB n2 n3 aB htok aB hva,
   fun g hw => aB8 p order t g hw aB n2 n3 aB htok aB (fun v hv => ⟨(hva v hv).1, (hva v hv).2.1⟩),
   fun g hw => yP _ aB g hw, fun g hw => aWc _ aB hlt g hw, fun g hw => bB4 _ hc.1 hc.2 g hw⟩
 have hkl : (aI order).length = order.length := by simp [aI]
 obtain ⟨ty, kn, va, ⟨d0, d1, d2, d3, d4⟩⟩ := p;obtain ⟨i0, i1, i2, i3, i4⟩ := t;simp only [Pb.av, Pb.cells, Tm.av, cells_mk, List.map] at hfew hfew5 hall ⊢
 cases hb : aOs ⟨ty, kn, va, .mk d0 d1 d2 d3 d4⟩ with
 | false =>
  rw [hb] at hfew;refine nU Tryz.func4 Tryz.ntmps4 ?_;refine zL (hfew _ (hh.app aA)) ?_;refine zo ?_;refine yi ?_;refine yk ?_;refine zox ?_;exact y1p
 | true =>
  rw [hb] at hfew
  cases hb5 : aOq ty.length (Tm.mk i0 i1 i2 i3 i4) with
  | false =>
   rw [hb5] at hfew5;refine nU Tryz.func4 Tryz.ntmps4 ?_;refine zL (hfew _ (hh.app aA)) ?_;refine zo ?_;refine zL (hfew5 _ (hh.app aA)) ?_;refine zo ?_;refine yi ?_;refine yk ?_;refine zox ?_;exact y1p
  | true =>
   rw [hb5] at hfew5
   by_cases ho : order.length <= 30
   ·have ho1 : ¬ (30 : Int) < order.length := aB;obtain ⟨a, x, e, ⟨c0, c1, c2, c3, c4⟩, f, k1, k2, k3, k4, k5, k6, k7⟩ := hall hb hb5 ho;simp only [cells_mk, List.map] at k3 k4 k7;refine nU Tryz.func4 Tryz.ntmps4 ?_;refine zL (hfew _ (hh.app aA)) ?_;refine zo ?_;refine zL (hfew5 _ (hh.app aA)) ?_;refine zo2 hkl ho1 ?_;refine y12 ?_;refine zL (k1 _ (hh.app aA)) ?_;refine zor ?_;refine zL (k2 _ (hh.app aA)) ?_;refine zor ?_;refine zL (k3 _ (hh.app aA)) ?_;refine zor ?_;refine zL (k4 _ (hh.app aA)) ?_;refine zor ?_;refine yk ?_;refine zo ?_;refine zL (k5 _ (hh.app aA)) ?_;refine zo ?_;refine zL (k6 _ (hh.app aA)) ?_;refine zo ?_;refine zL (k7 _ (hh.app aA)) ?_;refine zox ?_;exact y1p
   ·have ho1 : (30 : Int) < order.length := aB;refine nU Tryz.func4 Tryz.ntmps4 ?_;refine zL (hfew _ (hh.app aA)) ?_;refine zo ?_;refine zL (hfew5 _ (hh.app aA)) ?_;refine zo2 hkl ho1 ?_;refine yi ?_;refine yk ?_;refine zox ?_;exact y1p

end Go.Proofs.YtfajdeofhioakaaGreat
