import Derived.Test.YtfajdeofhioakaaGreatJA0
import Derived.Test.YtfajdeofhioakaaGreatJYL
import Derived.Test.YtfajdeofhioakaaGreatJX0
import Derived.Test.YtfajdeofhioakaaGreatJG1
import Derived.Test.YtfajdeofhioakaaGreatJH2
set_option maxRecDepth 8000

namespace Go.Proofs.YtfajdeofhioakaaGreat

open Go Go.AI

structure Pb.gd (p : Pb) : Prop where
 tyl : p.ty.length <= 1048576
 ty : ∀ t ∈ p.ty, t.good
 knl : p.kn.length <= 1048576
 val : p.va.length <= 1048576
 va : ∀ t ∈ p.va, t.good
 tg : p.tg.good
def iX (kn : List Bool) : Nat -> List Int
 | 0 => []
 | j + 1 => iX kn j ++ (if kn[j]? = some false then [(j : Int)] else [])
theorem qT (kn : List Bool) : ∀ j, (iX kn j).length <= j
 | 0 => by simp [iX]
 | j + 1 => by
  have := qT kn j;simp only [iX, bBp];split <;> simp <;> omega
def aJt (p : Pb) (i : Nat) : Bool := match p.ty[i]?, p.kn[i]?, p.va[i]? with
 | some t, some k, some v => decide (eM p.ty.length 8 0 0 t = 0) && decide (eM (p.ty.length + 1 : Int) 8 0 0 v = 0) && (k || sameT v zT)
 | _, _, _ => true
def aOw (p : Pb) (U : List Int) (i : Nat) : Bool := match p.ty[i]?, p.kn[i]?, p.va[i]? with
 | some t, some k, some v => readyB p.ty.length U t && !(k && !readyB p.ty.length U v)
 | _, _, _ => true
def tH (p : Pb) : Bool := decide (p.ty.length <= 60) && decide (p.kn.length = p.ty.length) && decide (p.va.length = p.ty.length) && decide (eM p.ty.length 8 0 0 p.tg = 0) &&
 aW (aJt p) p.ty.length && aW (aOw p (iX p.kn p.ty.length)) p.ty.length && readyB p.ty.length (iX p.kn p.ty.length) p.tg
theorem jF {n : Nat} {t : Tm} (hl : t.lvs) (h : eM n 8 0 0 t = 0) : t.ok n := by
 unfold eM at h;rw [if_neg (by omega : ¬ (n : Int) < 0)] at h
 by_cases hc : chk n 8 0 0 0 t = 0
 ·simpa using aFp n 8 0 0 t 0 hl hc
 ·rw [if_pos hc] at h; exact absurd h hc
theorem oG (h : Heap) (hh : WF h) {n m : Nat} (U : List Int) (t : Tm) (hn : n <= 1000) (hm : m <= 1000) (hU : U.length <= 1000) (hg : t.good) (hok : t.ok m) :
  AC 59 [iA n, .p (.sl 1 (aI U)), t.av] h (bA (readyB n U t)) := by
 refine aB2 h hh n U t ⟨by omega, by omega⟩ aB hg.2.1 hg.1 (fun x hx => ⟨aC9 t x hx, ?_⟩) ?_
 ·have := nY t 0 m hok x ((iL t x).1 hx); omega
 ·have := xD t; have := kX t 0; have := hg.1; omega
set_option maxHeartbeats 16000000 in
theorem aE6 (p : Pb) (hg : p.gd) (h : Heap) (hh : WF h) : AC 49 [p.av, iA 8] h (bA (tH p)) := by
 obtain ⟨r, hr⟩ : ∃ r, tH p = r := ⟨_, rfl⟩;rw [hr];unfold tH at hr;obtain ⟨g1, g2, g3, g4, g5, g6⟩ := hg;have ck := fun (n : Int) (t : Tm) (ht : t.good) (g : Heap) (hw : WF g) => wR g hw t n 8 0 0 (by have := ht.1; omega) ht.2.1
 obtain ⟨ty, kn, va, tg⟩ := p;simp only at hr g1 g2 g3 g4 g5 g6;have ctg := fun g hw => ck ty.length tg g6 g hw
 have hkl : (boPs kn).length = kn.length := aA;generalize htz : eM ty.length 8 0 0 tg = z at ctg hr;have htok : z = 0 -> tg.ok ty.length := fun e => jF g6.2.2 (htz.trans e)
 have crt := fun (U : List Int) (hU : U.length <= 1000) (hn : ty.length <= 60) (hz : z = 0) (g : Heap) (hw : WF g) => oG g hw (n := ty.length) U tg aB aB hU g6 (htok hz)
 obtain ⟨d0, d1, d2, d3, d4⟩ := tg;simp only [Tm.av, cells_mk, List.map] at ctg crt ⊢
 by_cases h60 : ty.length <= 60
 ·have q1 : ¬ (60 : Int) < ty.length := aB
  by_cases hk : kn.length = ty.length
  ·have q2 : ((kn.length : Int) != ty.length) = false := by simp [hk]
   by_cases hv : va.length = ty.length
   ·have q3 : ((va.length : Int) != ty.length) = false := by simp [hv]
    by_cases hz : z = 0
    ·have q4 : (z != 0) = false := by simpa using hz
     have crt := fun (U : List Int) (hU : U.length <= 1000) (g : Heap) (hw : WF g) => crt U hU h60 hz g hw
     have hgd : (decide (ty.length <= 60) && decide (kn.length = ty.length) && decide (va.length = ty.length) && decide (z = 0)) = true := by simp [h60, hk, hv, hz]
     rw [hgd, Bool.true_and] at hr;refine nU Tryz.func49 Tryz.ntmps49 ?_;refine zr3 q1 q2 q3 ?_;refine zL (ctg _ (hh.app aA)) ?_;refine aLx q4 ?_;refine Run.tok 6 1 aA ?_;refine eU ?_
     refine Run.loopS [0, 1, 2, 5] (fun j : Nat => j <= ty.length /\ aW (aJt ⟨ty, kn, va, .mk d0 d1 d2 d3 d4⟩) j = true) (fun j => ty.length - j) (fun j => [(6, .own (h.length + 1) 1 (aI (iX kn j))), (7, iA j)])
      (fun j => h ++ [some (.cells [.p (.sl 5 (aP ty)), .p (.sl 1 (boPs kn)), .p (.sl 5 (aP va)), iA d0, iA d1, .p (sP d2), .p (.sl 2 (bR d3)), .p (.sl 5 (aP d4))]), some (.tok (iX kn j).length 1)]) 0 (by simp [aW]) ?_ (by simp [iX]) ?_
     ·simp [iX, aI];exact zK
     intro j ⟨hj, hall⟩ IH;refine eU ?_
     by_cases hjl : j < ty.length
     ·have ht : ty[j]? = some ty[j] := bBf hjl;have hkj : kn[j]? = some (kn[j]'aB) := bBf aB;have hvj : va[j]? = some (va[j]'aB) := bBf aB;have tg1 := g2 _ (bBi hjl);have vg1 := g5 _ (bBi (show j < va.length by omega))
      have hf : aJt ⟨ty, kn, va, .mk d0 d1 d2 d3 d4⟩ j = (decide (eM ty.length 8 0 0 ty[j] = 0) && decide (eM (ty.length + 1 : Int) 8 0 0 (va[j]'aB) = 0) && ((kn[j]'aB) || sameT (va[j]'aB) zT)) := by
       simp only [aJt, ht, hkj, hvj]
      have hul := qT kn j;have hus : iX kn (j + 1) = iX kn j ++ (if kn[j]? = some false then [(j : Int)] else []) := rfl;rw [hkj] at hus;have ckx := ck ty.length ty[j] tg1;have cky := ck (ty.length + 1 : Int) (va[j]'aB) vg1;have csm := fun g hw => oI (va[j]'aB).size (va[j]'aB) zT g (bBh _) (by have := vg1.1; omega) vg1.2.2 hw
      generalize ty[j] = x at ht hf ckx tg1;generalize kn[j]'aB = b at hkj hf hus;generalize va[j]'aB = y at hvj hf cky vg1 csm;generalize eM ty.length 8 0 0 x = e1 at ckx hf;generalize eM (ty.length + 1 : Int) 8 0 0 y = e2 at cky hf;generalize sameT y zT = sm at csm hf;generalize iX kn j = U at hul hus ⊢;obtain ⟨x0, x1, x2, x3, x4⟩ := x;obtain ⟨y0, y1, y2, y3, y4⟩ := y;simp only [Tm.av, cells_mk, List.map] at ckx cky csm;have csm' := fun g hw => ACalls.weak (args := [.agg [iA y0, iA y1, .p (sP y2), .p (.sl 2 (bR y3)), .p (.sl 5 (aP y4))], .agg [iA 0, iA 0, .p (sP []), .p (.prim (.slice none 0 0)), .p (.prim (.slice none 0 0))]]) (WeakL.cons (Weak.refl _) (WeakL.cons Weak.zT WeakL.nil)) (csm g hw)
      have hb1 : (U.length + 1) * 8 <= 140737488355328 := aB;have hb2 : U.length + 1 <= 9223372036854775807 := aB;have hjk : j < kn.length := aB;have hjv : j < va.length := aB;have bad : aJt ⟨ty, kn, va, .mk d0 d1 d2 d3 d4⟩ j = false -> (aW (aJt ⟨ty, kn, va, .mk d0 d1 d2 d3 d4⟩) ty.length && aW (aOw ⟨ty, kn, va, .mk d0 d1 d2 d3 d4⟩ (iX kn ty.length)) ty.length && readyB ty.length (iX kn ty.length) (.mk d0 d1 d2 d3 d4)) = false := fun e => by rw [allTo_false hjl e]; rfl
      have hgx : ∀ q : j < (aP ty).length, (aP ty)[j]'q = [iP x0, iP x1, sP x2, .sl 2 (bR x3), .sl 5 (aP x4)] := fun q => by
       exact y45
      have hgy : ∀ q : j < (aP va).length, (aP va)[j]'q = [iP y0, iP y1, sP y2, .sl 2 (bR y3), .sl 5 (aP y4)] := fun q => by
       exact y66
      have hgb : ∀ q : j < (boPs kn).length, (boPs kn)[j]'q = [bP b] := fun q => by
       exact y52
      have hgk : ∀ q : j < kn.length, kn[j]'q = b := fun q => by rw [bBf q] at hkj; exact bD0 hkj
      refine znt1 hjl ?_;refine zr2 hgx hjl ?_;refine zL (ckx _ (hh.app aA)) ?_
      by_cases he1 : e1 = 0
      ·have q5 : (e1 != 0) = false := by simpa using he1
       refine zo3 q5 hgy hjv ?_;refine zL (cky _ (hh.app aA)) ?_
       by_cases he2 : e2 = 0
       ·have q6 : (e2 != 0) = false := by simpa using he2
        refine zo1 q6 ?_;refine zf ?_;refine zr2 hgb hjk ?_
        cases b with
        | true =>
         refine aMo ?_;simp only [bBk, Bool.true_eq_false, if_false, bBl] at hus;refine IH (j + 1) _ _ ⟨by omega, ?_⟩ aB ?_ (by simp [hus])
         ·rw [allTo_succ, hall, hf]; simp [he1, he2]
         ·rw [hus];exact zS
        | false =>
         refine zn ?_;refine zt ?_;simp only [if_true] at hus;refine zn ?_;refine zr2 hb1 hb2 ?_;refine zr2 hgy hjv ?_;refine zL (csm' _ (hh.app aA)) ?_;refine zo ?_
         cases sm with
         | false =>
          refine aLw ?_;refine zF1 hh ?_;exact ⟨by rw [<- hr, bad (by rw [hf]; simp)]; rfl, rfl⟩
         | true =>
          refine aMo ?_;refine IH (j + 1) _ _ ⟨by omega, ?_⟩ aB ?_ (by simp [hus])
          ·rw [allTo_succ, hall, hf]; simp [he1, he2]
          ·rw [hus];simp [aI];exact zK
       ·have q6 : (e2 != 0) = true := by simpa using he2
        refine zo1trx q6 ?_;refine zF1 hh ?_;exact ⟨by rw [<- hr, bad (by rw [hf]; simp [he2])]; rfl, rfl⟩
      ·have q5 : (e1 != 0) = true := by simpa using he1
       refine zo1trx q5 ?_;refine zF1 hh ?_;exact ⟨by rw [<- hr, bad (by rw [hf]; simp [he1])]; rfl, rfl⟩
     ·have hje : j = ty.length := aB;subst hje;have hul := qT kn ty.length;have crt' := fun g hw => crt (iX kn ty.length) aB g hw
      have okx : ∀ (i : Nat) (t : Tm), ty[i]? = some t -> t.ok ty.length /\ ∀ v, va[i]? = some v -> v.ok (ty.length + 1 : Nat) := by
       intro i x hx;have hi := (bBg.1 hx).1;have h1 := gD hall hi;have hkx : kn[i]? = some (kn[i]'aB) := bBf aB;have hvx : va[i]? = some (va[i]'aB) := bBf aB;simp only [aJt, hx, hkx, hvx, bBs, bC2] at h1;refine ⟨jF (g2 x (bBu hx)).2.2 h1.1.1, fun v hv' => ?_⟩;rw [hvx] at hv';have e := bD0 hv';subst e;exact jF (g5 _ (bBi _)).2.2 (by simpa using h1.1.2)
      rw [hall, Bool.true_and] at hr;generalize iX kn ty.length = U at hul crt' hr ⊢;have bad : ∀ j, j < ty.length -> aOw ⟨ty, kn, va, .mk d0 d1 d2 d3 d4⟩ U j = false -> (aW (aOw ⟨ty, kn, va, .mk d0 d1 d2 d3 d4⟩ U) ty.length && readyB ty.length U (.mk d0 d1 d2 d3 d4)) = false := fun j hj e => by rw [allTo_false hj e]; rfl
      refine lY ?_;refine Run.loopS [0, 1, 2, 5, 6] (fun j : Nat => j <= ty.length /\ aW (aOw ⟨ty, kn, va, .mk d0 d1 d2 d3 d4⟩ U) j = true) (fun j => ty.length - j) (fun j => [(8, iA j)]) (fun _ => _) 0 (by simp [aW]) ?_ rfl ?_
      ·exact zS
      intro j ⟨hj, hall2⟩ IH2;refine eU ?_
      by_cases hjl2 : j < ty.length
      ·have ht : ty[j]? = some ty[j] := bBf hjl2;have hkj : kn[j]? = some (kn[j]'aB) := bBf aB;have hvj : va[j]? = some (va[j]'aB) := bBf aB
       have hf : aOw ⟨ty, kn, va, .mk d0 d1 d2 d3 d4⟩ U j = (readyB ty.length U ty[j] && !((kn[j]'aB) && !readyB ty.length U (va[j]'aB))) := by
        simp only [aOw, ht, hkj, hvj]
       have crx := fun g hw => oG g hw (n := ty.length) U ty[j] aB aB aB (g2 _ (bBi hjl2)) (okx j _ ht).1
       have cry := fun g hw => oG g hw (n := ty.length) U (va[j]'aB) aB aB aB (g5 _ (bBi _)) ((okx j _ ht).2 _ hvj)
       generalize ty[j] = x at ht hf crx;generalize kn[j]'aB = b at hkj hf;generalize va[j]'aB = y at hvj hf cry;generalize readyB ty.length U x = rx at crx hf;generalize readyB ty.length U y = ry at cry hf;obtain ⟨x0, x1, x2, x3, x4⟩ := x;obtain ⟨y0, y1, y2, y3, y4⟩ := y;simp only [Tm.av, cells_mk, List.map] at crx cry;have crx' := fun g hw => ACalls.weak (args := [iA ty.length, .own (h.length + 1) 1 (aI U), .agg [iA x0, iA x1, .p (sP x2), .p (.sl 2 (bR x3)), .p (.sl 5 (aP x4))]]) (WeakL.cons (Weak.refl _) (WeakL.cons (Weak.own _ _ _) (WeakL.cons (Weak.refl _) WeakL.nil))) (crx g hw)
       have cry' := fun g hw => ACalls.weak (args := [iA ty.length, .own (h.length + 1) 1 (aI U), .agg [iA y0, iA y1, .p (sP y2), .p (.sl 2 (bR y3)), .p (.sl 5 (aP y4))]]) (WeakL.cons (Weak.refl _) (WeakL.cons (Weak.own _ _ _) (WeakL.cons (Weak.refl _) WeakL.nil))) (cry g hw)
       have hjk : j < kn.length := aB;have hjv : j < va.length := aB
       have hgx : ∀ q : j < (aP ty).length, (aP ty)[j]'q = [iP x0, iP x1, sP x2, .sl 2 (bR x3), .sl 5 (aP x4)] := fun q => by
        exact y45
       have hgy : ∀ q : j < (aP va).length, (aP va)[j]'q = [iP y0, iP y1, sP y2, .sl 2 (bR y3), .sl 5 (aP y4)] := fun q => by
        exact y66
       have hgb : ∀ q : j < (boPs kn).length, (boPs kn)[j]'q = [bP b] := fun q => by
        exact y52
       have hgk : ∀ q : j < kn.length, kn[j]'q = b := fun q => by rw [bBf q] at hkj; exact bD0 hkj
       refine znt1 hjl2 ?_;refine zr2 hgx hjl2 ?_;refine zL (crx' _ (hh.app aA)) ?_
       cases rx with
       | false =>
        exact y4k
       | true =>
        cases b with
        | false =>
         refine zo2 hgb hjk ?_;refine y12 ?_;exact y5t
        | true =>
         refine zo4 hgb hjk hgy hjv ?_;refine zL (cry' _ (hh.app aA)) ?_
         cases ry with
         | false =>
          exact y4k
         | true =>
          refine zofr ?_;exact y5t
      ·have hje : j = ty.length := aB;subst hje;rw [hall2, Bool.true_and] at hr;refine lY ?_;refine zL (ACalls.weak (args := [iA ty.length, .own (h.length + 1) 1 (aI U), .agg [iA d0, iA d1, .p (sP d2), .p (.sl 2 (bR d3)), .p (.sl 5 (aP d4))]]) (WeakL.cons (Weak.refl _) (WeakL.cons (Weak.own _ _ _) (WeakL.cons (Weak.refl _) WeakL.nil))) (crt' _ (hh.app aA))) ?_;refine zox ?_;exact y2i
    ·have q4 : (z != 0) = true := by simpa using hz
     refine nU Tryz.func49 Tryz.ntmps49 ?_;refine zr3 q1 q2 q3 ?_;refine zL (ctg _ (hh.app aA)) ?_;refine zo1trx q4 ?_;refine zF1 hh ?_;exact ⟨by rw [<- hr]; simp [hz], rfl⟩
   ·have q3 : ((va.length : Int) != ty.length) = true := by simpa using (by omega : ¬ ((va.length : Int) = ty.length))
    refine nU Tryz.func49 Tryz.ntmps49 ?_;refine zr3 q1 q2 q3 ?_;refine yi ?_;refine zx ?_;refine zF1 hh ?_;exact ⟨by rw [<- hr]; simp [hv], rfl⟩
  ·have q2 : ((kn.length : Int) != ty.length) = true := by simpa using (by omega : ¬ ((kn.length : Int) = ty.length))
   refine nU Tryz.func49 Tryz.ntmps49 ?_;refine zr2 q1 q2 ?_;refine yi ?_;refine zx ?_;refine zF1 hh ?_;exact ⟨by rw [<- hr]; simp [hk], rfl⟩
 ·have q1 : (60 : Int) < ty.length := aB;refine nU Tryz.func49 Tryz.ntmps49 ?_;refine zr1 q1 ?_;refine yi ?_;refine zx ?_;refine zF1 hh ?_;exact ⟨by rw [<- hr]; simp [h60], rfl⟩


open Go Go.AI

open Rows (uptoBulk uptoBulkAll)

open Go.ChangeShapes Go.WideShapes Go.ChangeAt Go.RowKit

section

variable {H : Type} {enc : TypeId × Value -> H} {W : World} {sp : Nat -> Bool} {held : Bool}
theorem aSr : Tryz.prog.cellsOf 4 = 1 := aC
theorem aN7 : Tryz.prog.cellsOf 30 = 8 := aC
theorem aVc {n : Nat} {cs : List Value} {x : DataW H × List MemPlace} (h : DataW.trod enc Tryz.prog W 0 sp held n 4 cs = some x) : ∃ b : Bool, cs = [.bool b] /\ RepP (gC W) W (bP b) (.bool b) := by
 obtain ⟨b, rfl, _⟩ := DataW.trod_bool Tryz.underlying4 h;exact ⟨b, rfl, by simp [RepP, isPrim]⟩
theorem aCy {ts : List Tm} {elems : List (DataW H)} (hG : GL GTm ts elems) (hb : uptoBulkAll elems <= 1048576) : ts.length <= 1048576 /\ ∀ t ∈ ts, t.good := by
 refine ⟨by have := iJ elems; have := rU hG; omega, fun t ht => ?_⟩;obtain ⟨d, hd, hg⟩ := wE hG t ht;have h1 := aHd hd;have := hg aB;exact ⟨by omega, this.2⟩
theorem aPb {n : Nat} {cs : List Value} {x : DataW H × List MemPlace} (h : DataW.trod enc Tryz.prog W 0 sp held n 30 cs = some x) : ∃ p : Pb, RepL (gC W) W p.cells cs /\ (uptoBulk x.1 <= 1048576 -> p.gd) := by
 obtain ⟨xs, m, rfl, rfl, hl, hlen, hf⟩ := DataW.trod_struct Tryz.underlying30 h;rw [aN7] at hl;obtain ⟨c0, c1, c2, c3, c4, c5, c6, c7, rfl⟩ : ∃ a b c d e f g h, cs = [a, b, c, d, e, f, g, h] := by match cs, hl with | [a, b, c, d, e, f, g, h], _ => exact ⟨a, b, c, d, e, f, g, h, rfl⟩
 obtain ⟨x0, x1, x2, x3, rfl⟩ : ∃ a b c d, xs = [a, b, c, d] := by match xs, hlen with | [a, b, c, d], _ => exact ⟨a, b, c, d, rfl⟩
 have h0 := hf 0 _ rfl;have h1 := hf 1 _ rfl;have h2 := hf 2 _ rfl;have h3 := hf 3 _ rfl;simp only [bCe, bCc] at h0 h1 h2 h3;obtain ⟨ty, v0, e0, r0, hG0⟩ := dP (α := Tm) Tryz.underlying23 uM aD Tm.cells GTm (fun t => by cases t; rfl) (fun m' _ cs y hy => vH m' m' cs y (bBh _) hy) h0
 obtain ⟨kn, v1, e1, r1, hG1⟩ := dP (α := Bool) Tryz.underlying28 aSr aD (fun b => [bP b]) (fun _ (_ : DataW H) => True) (fun _ => rfl) (fun m' _ cs y hy => by
  obtain ⟨b, rfl, hb⟩ := aVc hy;exact ⟨b, by simp only [bBx, bCv, RepL, Rep]; exact ⟨_, _, rfl, hb, rfl⟩, trivial⟩) h1
 obtain ⟨va, v2, e2, r2, hG2⟩ := dP (α := Tm) Tryz.underlying23 uM aD Tm.cells GTm (fun t => by cases t; rfl) (fun m' _ cs y hy => vH m' m' cs y (bBh _) hy) h2;obtain ⟨tg, r3, g3⟩ := vH m m _ _ (bBh _) h3
 injection e0 with e0; injection e1 with e1; injection e2 with e2
 subst e0; subst e1; subst e2;refine ⟨⟨ty, kn, va, tg⟩, ?_, fun hb => ?_⟩
 ·simp only [RepL, Rep, fR];exact ⟨_, _, rfl, r0, _, _, rfl, r1, _, _, rfl, r2, r3⟩
 ·simp only [bBx, bCv, uptoBulk, uptoBulkAll] at hb
  have a0 : ty.length <= 1048576 /\ ∀ t ∈ ty, t.good := by
   rcases hG0 with ⟨rfl, _⟩ | ⟨elems, rest, he, hG⟩
   ·simp
   ·rw [he] at hb; simp only [uptoBulk] at hb; exact aCy hG aB
  have a2 : va.length <= 1048576 /\ ∀ t ∈ va, t.good := by
   rcases hG2 with ⟨rfl, _⟩ | ⟨elems, rest, he, hG⟩
   ·simp
   ·rw [he] at hb; simp only [uptoBulk] at hb; exact aCy hG aB
  have a1 : kn.length <= 1048576 := by
   rcases hG1 with ⟨rfl, _⟩ | ⟨elems, rest, he, hG⟩
   ·simp
   ·rw [he] at hb; simp only [uptoBulk] at hb;have := iJ elems; have := rU hG; omega
  have a3 := g3 aB;have a31 := a3.1;exact ⟨a0.1, a0.2, a1, a2.1, a2.2, ⟨by simp only; omega, a3.2⟩⟩

end
theorem aSn {H : Type} {enc : TypeId × Value -> H} {W : World} {v : Value} {d : DataW H} {p : List MemPlace} {base : Nat}
  (hv : Value.okWide Tryz.prog W .any base 30 v) (h : DataW.Trod enc Tryz.prog W 0 (fun _ => true) true 30 v d p) : ∃ t : Pb, Rep (gC W) W t.av v /\ (uptoBulk d <= 1048576 -> t.gd) := by
 obtain ⟨cs, rfl, hcs⟩ := okWide_struct Tryz.underlying30 hv;obtain ⟨n, hn⟩ := h;obtain ⟨t, ht, hG⟩ := aPb hn;exact y5z

end Go.Proofs.YtfajdeofhioakaaGreat
