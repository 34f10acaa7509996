import Derived.Test.YtfajdeofhioakaaGreatJA0
import Derived.Test.YtfajdeofhioakaaGreatJYXa
import Derived.Test.YtfajdeofhioakaaGreatJYH
set_option maxRecDepth 8000

namespace Go.Proofs.YtfajdeofhioakaaGreat

open Go Go.AI
theorem tU (l : List Tm) (t : Tm) : aP (l ++ [t]) = aP l ++ [t.cells] := by simp [fR]
theorem aDo (p : Nat -> Bool) (k : Nat) : (List.range (k + 1)).any p = ((List.range k).any p || p k) := by simp [List.range_succ]
theorem aGc {p : Nat -> Bool} {n v : Nat} (hv : v < n) (hp : p v = true) (hn : ∀ u, u < v -> p u = false) : (List.range n).find? p = some v := by
 rw [List.find?_range_eq_some];exact ⟨hp, bCq.2 hv, fun u hu => by simp [hn u hu]⟩
theorem aGb {p : Nat -> Bool} {n : Nat} (hn : ∀ u, u < n -> p u = false) : (List.range n).find? p = none := by
 rw [List.find?_eq_none];intro u hu;simp [hn u (bCq.1 hu)]
theorem aCg {kn : List Bool} {order : List Int} : dE kn order = [] ↔ (List.range kn.length).any (cY kn order) = false := by
 rw [dE, List.filter_eq_nil_iff, List.any_eq_false]

structure OInv (ty : List Tm) (kn : List Bool) (N : Nat) (order : List Int) (tel : List Tm) (f : Nat) : Prop where
 eq : jT ty kn N [] [] = jT ty kn f order tel
 le : (dE kn order).length <= f
 len : order.length + f = N
 ln2 : tel.length = order.length
 ok : ∀ i ∈ order, 0 <= i /\ i < kn.length
set_option maxHeartbeats 16000000 in
theorem yO (p : Pb) (h : Heap) (hh : WF h) (hn : p.kn.length <= 60) (hty : p.ty.length = p.kn.length) (ht : ∀ t ∈ p.ty, t.good /\ t.ok p.kn.length /\ t.size <= 4096) :
  AC 15 [p.av] h (.tup [.p (.sl 1 (aI (jT p.ty p.kn p.kn.length [] []).1)), .p (.sl 5 (aP (jT p.ty p.kn p.kn.length [] []).2.1)), iA (jT p.ty p.kn p.kn.length [] []).2.2]) := by
 have crd := fun (order : List Int) (ho : order.length <= 1000) (v : Nat) (x : Tm) (hx : p.ty[v]? = some x) (g : Heap) (hw : WF g) => oG g hw (n := p.kn.length) (m := p.kn.length) order x aB aB ho (ht x (bBu hx)).1 (ht x (bBu hx)).2.1
 have cin := fun (order : List Int) (ho : order.length <= 1000) (v : Int) (g : Heap) (hw : WF g) => uX g hw order v aB
 have cpl := fun (order : List Int) (ho : order.length <= 1000) (hb : ∀ i ∈ order, 0 <= i /\ i < p.kn.length) (g : Heap) (hw : WF g) => (yC p.kn.length order hb) ▸ pU g hw p.kn.length order aB ho
 have crn := fun (order : List Int) (ho : order.length <= 1000) (hb : ∀ i ∈ order, 0 <= i /\ i < p.kn.length) (v : Nat) (x : Tm) (hx : p.ty[v]? = some x) (g : Heap) (hw : WF g) => tI g hw x (cG p.kn.length order order.length) (by rw [cR]; omega) (fun y hy => by have := aCq p.kn.length order hb y hy; omega) (by have := (ht x (bBu hx)).2.2; omega) (yA _ p.kn.length (ht x (bBu hx)).2.1 (by have := (ht x (bBu hx)).2.2; omega))
 obtain ⟨r, hr⟩ : ∃ r, jT p.ty p.kn p.kn.length [] [] = r := ⟨_, rfl⟩;rw [hr];clear ht;obtain ⟨ty, kn, va, ⟨d0, d1, d2, d3, d4⟩⟩ := p;simp only [Tm.av] at crd cpl crn hn hty hr ⊢;have hkl : (boPs kn).length = kn.length := aA;have htl : (aP ty).length = kn.length := by simp [hty]
 refine zE Tryz.func15 Tryz.ntmps15 ?_;refine aDb hty ?_;refine zr ?_;refine Run.tok 6 1 aA ?_;simp;refine Run.tok 7 5 aA ?_;simp
 refine Run.loopS [1, 2, 3, 4, 5] (fun s : List Int × List Tm × Nat => OInv ty kn kn.length s.1 s.2.1 s.2.2) (fun s => s.2.2) (fun s => [(6, .own (h.length + 1) 1 (aI s.1)), (7, .own (h.length + 2) 5 (aP s.2.1))])
  (fun s => h ++ [some (.cells [.p (.sl 5 (aP ty)), .p (.sl 1 (boPs kn)), .p (.sl 5 (aP va)), iA d0, iA d1, .p (sP d2), .p (.sl 2 (bR d3)), .p (.sl 5 (aP d4))]), some (.tok s.1.length 1), some (.tok s.2.1.length 5)]) ([], [], kn.length) ⟨rfl, vC kn [], by simp, rfl, by simp⟩ ?_ aA ?_
 ·simp [aI, aP];exact zK
 rintro ⟨order, tel, f⟩ ⟨heq, hle, hlen, hln2, hok⟩ IH;simp only at heq hle hlen hln2 hok;have ho : order.length <= 1000 := aB;refine eU ?_;refine zr ?_;refine zr ?_;have hany0 : (List.range 0).any (cY kn order) = false := aA;have hanys := aDo (cY kn order);have hcand : ∀ v, wP ty kn order v = (cY kn order v && (match ty[v]? with | some t => readyB kn.length order t | none => false)) := fun _ => rfl
 have hisl : ∀ v, cY kn order v = (decide (kn[v]? = some false) && !decide ((v : Int) ∈ order)) := fun _ => rfl
 refine Run.loopS [1, 2, 3, 4, 5, 6, 7] (fun s : Nat × Int => s.1 <= kn.length /\ ((s.2 = -1 /\ ∀ u, u < s.1 -> wP ty kn order u = false) \/ ∃ v : Nat, s.2 = v /\ v < kn.length /\ v < s.1 /\ wP ty kn order v = true /\ ∀ u, u < v -> wP ty kn order u = false)) (fun s => kn.length - s.1) (fun s => [(8, iA s.2), (9, bA ((List.range s.1).any (cY kn order))), (10, iA s.1)]) (fun _ => _) (0, -1) ⟨by simp, .inl ⟨rfl, fun u hu => by simp at hu⟩⟩ ?_ rfl ?_
 ·exact zS
 ·rintro ⟨k, nx⟩ ⟨hk, hcase⟩ IH2;simp only at hk hcase;simp;rcases hcase with ⟨rfl, hnone⟩ | ⟨v, rfl, hv1, hv2, hv3, hv4⟩
  ·by_cases hkn : k < kn.length
   ·have hg : kn[k]? = some kn[k] := bBf hkn;have hgt : ty[k]? = some (ty[k]'aB) := bBf aB;have c1 := fun g hw => ACalls.weak (args := [.own (h.length + 1) 1 (aI order), iA k]) (WeakL.cons (Weak.own _ _ _) (WeakL.refl _)) (cin order ho k g hw)
    have c2 := fun g hw => crd order ho k _ hgt g hw
    have hc := hcand k;have hi := hisl k;have hs := hanys k;rw [hgt] at hc;rw [hg] at hi;simp only at hc;generalize kn[k] = b at hg hi;generalize ty[k]'aB = x at hgt c2 hc;generalize readyB kn.length order x = rd at c2 hc;obtain ⟨x0, x1, x2, x3, x4⟩ := x;simp only [cells_mk, List.map] at c2;have c2' := fun g hw => ACalls.weak (args := [iA kn.length, .own (h.length + 1) 1 (aI order), .agg [iA x0, iA x1, .p (sP x2), .p (.sl 2 (bR x3)), .p (.sl 5 (aP x4))]]) (WeakL.cons (Weak.refl _) (WeakL.cons (Weak.own _ _ _) (WeakL.refl _))) (c2 g hw)
    have hkt : k < ty.length := aB
    have hgy : ∀ q : k < (aP ty).length, (aP ty)[k]'q = [iP x0, iP x1, sP x2, .sl 2 (bR x3), .sl 5 (aP x4)] := fun q => by
     have := tmPs_get ty k; rw [hgt, bBf q] at this; exact bD0 this
    have hgt2 : ∀ q : k < ty.length, ty[k]'q = .mk x0 x1 x2 x3 x4 := fun q => by rw [bBf q] at hgt; exact bD0 hgt
    have hgb : ∀ q : k < (boPs kn).length, (boPs kn)[k]'q = [bP b] := fun q => by
     have h1 : (boPs kn)[k]? = (kn[k]?).map fun b => [bP b] := aA
     rw [hg, bBf q] at h1; exact bD0 h1
    have hgk : ∀ q : k < kn.length, kn[k]'q = b := fun q => by rw [bBf q] at hg; exact bD0 hg
    generalize hin : decide ((k : Int) ∈ order) = inn at c1 hi
    have skip : cY kn order k = false -> ∀ u, u < k + 1 -> wP ty kn order u = false := fun e u hu => by
     by_cases hq : u = k
     ·subst hq; rw [hc, e]; rfl
     ·exact hnone u aB
    generalize (List.range k).any (cY kn order) = an at hs ⊢;refine uC hkn ?_;refine zt ?_
    cases b with
    | true =>
     simp only [bBk, Bool.true_eq_false, decide_false, Bool.false_and] at hi;rw [hi, Bool.or_false] at hs;refine zn ?_;refine zr2 hgb hkn ?_;exact y4f
    | false =>
     refine zn ?_;refine zr2 hgb hkn ?_;refine zL (c1 _ (hh.app aA)) ?_
     cases inn with
     | true =>
      simp only [bE8, Bool.and_false] at hi;rw [hi, Bool.or_false] at hs;refine zo ?_;exact y4f
     | false =>
      simp only [decide_true, bDs, Bool.and_self] at hi;rw [hi, Bool.or_true] at hs;rw [hi, Bool.true_and] at hc;refine zofr ?_;refine zr2 hgy hkt ?_;refine zL (c2' _ (hh.app aA)) ?_
      cases rd with
      | true =>
       refine zo ?_;refine yi ?_;refine zr ?_;refine IH2 (k + 1, k) _ _ ⟨by simp only; omega, .inr ⟨k, rfl, hkn, by simp, hc, hnone⟩⟩ (by simp only; omega) ?_ rfl;simp only [hs];exact zS
      | false =>
       refine zofr ?_;refine IH2 (k + 1, -1) _ _ ⟨by simp only; omega, .inl ⟨rfl, fun u hu => ?_⟩⟩ (by simp only; omega) ?_ rfl
       ·by_cases hq : u = k
        ·subst hq; exact hc
        ·exact hnone u aB
       ·simp only [hs];exact zS
   ·have hke : k = kn.length := aB;subst hke;have hfn := aGb hnone;refine znr ?_;refine zf ?_;refine ze ?_;refine zn ?_
    cases han : (List.range kn.length).any (cY kn order) with
    | false =>
     have hnl := aCg.2 han
     have hre : jT ty kn f order tel = (order, tel, 0) := by
      cases f with
      | zero => rfl
      | succ f => simp only [jT, hnl, if_true]
     rw [heq, hre] at hr;subst hr;refine aMp ?_;exact Fin.ret' (h0 := h) (xs := [.own (h.length + 1) 1 (aI order), .own (h.length + 2) 5 (aP tel), iA 0]) aA rfl hh rfl aA rfl (Weak.tup (WeakL.cons (Weak.own _ _ _) (WeakL.cons (Weak.own _ _ _) (WeakL.refl _)))) aA ⟨rfl, rfl⟩
    | true =>
     have hnl : dE kn order ≠ [] := fun e => by rw [aCg.1 e] at han; cases han
     have hre : jT ty kn f order tel = ([], [], 19) := by
      cases f with
      | zero => exact absurd (bEa.1 aB) hnl
      | succ f => simp only [jT, hnl, if_false, hfn]
     rw [heq, hre] at hr;subst hr;refine znr ?_;refine y12 ?_;refine yi ?_;refine zx ?_;exact y39
  ·have hfs := aGc hv1 hv3 hv4
   have hil : cY kn order v = true := by
    have := hcand v;rw [hv3] at this;simp only [Bool.true_eq, bBs] at this;exact this.1
   have hmem : v ∈ dE kn order := vF.2 ⟨hv1, hil⟩;have hnl : dE kn order ≠ [] := fun e => by rw [e] at hmem; cases hmem
   have hsl := lI kn order v hmem
   obtain ⟨f', rfl⟩ : ∃ f', f = f' + 1 := ⟨f - 1, by
    have : (dE kn order).length ≠ 0 := fun e => hnl (bEa.1 e)
    omega⟩
   have hre : jT ty kn (f' + 1) order tel = jT ty kn f' (order ++ [(v : Int)]) (tel ++ [rT ty kn order v]) := by
    simp only [jT, hnl, if_false, hfs]
   have han : (List.range k).any (cY kn order) = true := bE4.2 ⟨v, bCq.2 hv2, hil⟩;have hgt : ty[v]? = some (ty[v]'aB) := bBf aB
   have htr : rT ty kn order v = (cL (cG kn.length order order.length) (ty[v]'aB)).1 := by
    unfold rT; rw [List.getD_eq_getElem?_getD, hgt]; rfl
   have c1 := fun g hw => ACalls.weak (args := [iA kn.length, .own (h.length + 1) 1 (aI order)]) (WeakL.cons (Weak.refl _) (WeakL.cons (Weak.own _ _ _) WeakL.nil)) (cpl order ho hok g hw)
   have c2 := fun g hw => crn order ho hok v _ hgt g hw
   have hvt : v < ty.length := aB;generalize cG kn.length order order.length = W at c1 c2 htr;generalize ty[v]'aB = x at hgt c2 htr;generalize cL W x = y at c2 htr;rw [htr] at hre;obtain ⟨x0, x1, x2, x3, x4⟩ := x;obtain ⟨⟨y0, y1, y2, y3, y4⟩, e⟩ := y;simp only [cells_mk, List.map] at c2
   have hgy : ∀ q : v < (aP ty).length, (aP ty)[v]'q = [iP x0, iP x1, sP x2, .sl 2 (bR x3), .sl 5 (aP x4)] := fun q => by
    exact y65
   have hgt2 : ∀ q : v < ty.length, ty[v]'q = .mk x0 x1 x2 x3 x4 := fun q => by rw [bBf q] at hgt; exact bD0 hgt
   have hol : (aI order).length = order.length := by simp [aI]
   have htl2 : (aP tel).length = order.length := by simp [hln2]
   have hb1 : (order.length + 1) * 8 <= 140737488355328 := aB;have hb2 : order.length + 1 <= 9223372036854775807 := aB;have hb3 : (order.length + 1) * 80 <= 140737488355328 := aB;have hvn : ¬ (v : Int) < 0 := aB;refine nv ?_;refine Run.regJ [1, 2, 3, 4, 5, 6, 7, 8, 9] 22 (false) (fun K J => ?_) ?_
   ·simp [hvn]
    repeat' (first | apply And.intro | intro _)
    all_goals
     refine y6 ?_
     repeat' first | exact wn | apply wc
     all_goals first | exact Weak.junk _ | (refine Weak.bool ?_; clear J; rw [bCd]; simp [hvn]; done) | (refine Weak.bool ?_; clear J; rw [bCd]; simp [hvn]; omega) | (refine Weak.bool ?_; clear J; simp_all; done) | (refine Weak.bool ?_; clear J; simp [*]; done) | (refine Weak.bool ?_; clear J; rw [bCd]; simp [*]; omega) | exact Weak.refl _
   refine y5 ?_;refine zs ?_;refine znfen ?_;refine zr1 han ?_;refine zf ?_;refine zr1 hvn ?_;refine zf ?_;refine yh ?_;refine zm2 hgy hvt ?_;refine ND.DR.pcall rfl rfl rfl aA rfl rfl (fun g hg => (c1) g ?_) ?_
   ·exact y29
   refine zm ?_;refine ND.DR.pcall rfl rfl rfl aA rfl rfl (fun g hg => (c2) g ?_) ?_
   ·exact y29
   refine zm ?_;refine y8 ?_;refine nv ?_;refine Run.draw [0, 0, 0, 0, 0, 0, 0, 1, 2, 2] [0, 0, 0, 0, 0, 0, 0, 1, 0, 0] [0, 0, 2, 7, 0, 0, 32, 127, 255, 511] [0, 1, 2, 3, 4, 5, 6, 7, 8, 9] aC aC ?_;refine zd6 hol htl2 hb1 hb2 hb3 hln2 ?_;refine y8 ?_;refine nv ?_;refine Run.keep [1, 2, 3, 4, 5, 6, 7] ?_;simp;refine Run.cutAt 3 hh rfl aB aA aA aA rfl ?_;refine IH (order ++ [(v : Int)], tel ++ [.mk y0 y1 y2 y3 y4], f') _ _ ⟨by simp only; rw [heq, hre], by simp only; omega, by simp only [bBp, bBm, bBn]; omega, by simp [hln2], ?_⟩ (by simp only; omega) ?_ ?_
   ·exact y6b
   ·simp [aI, tU];exact zK
   ·simp [hln2]


open Go Go.AI
theorem tE (ty : List Tm) (rd : List Int) (n v : Nat) : nS ty rd n v = (match ty[v]? with | some t => readyB n rd t | none => false) := by
 unfold nS readyB;rw [bC4]
 cases ty[v]? with
 | none => rfl
 | some t =>
  simp only;rw [List.not_any_eq_all_not]
  congr 1
  funext x
  rw [Bool.not_not, bCd];simp 
theorem rG (f : Int -> Bool) (g : FuncId) (cap : List AV) (l : List Int) (hl : l.length <= 1048576) (id c m : Nat) (h : Heap) (hh : WF h) (hid : h[id]? = some (some (.cells (buf 1 (aI l) m)))) (_hcap : l.length <= c) (hg : aL Tryz.prog g = true)
  (hc : ∀ b ∈ l, ACalls Tryz.prog g (iA b :: cap) h fun o h' => o = .ret (bA (f b)) /\ h' = h) :
  AC 50 [.sm id 0 l.length c 1, .fn (.func g) [] cap] h (iA (zO f l)) := by
 obtain ⟨p1, p2, p3, p4, p5, plt⟩ := idf hid
 have hB : ∀ (j : Nat) (b : Int), l[j]? = some b -> (buf 1 (aI l) m)[j]? = some (iA b) := fun j b hj => by
  rw [eG, bBt (by have := (bBg.1 hj).1; simpa using this), bDo, hj]; rfl
 generalize buf 1 (aI l) m = B at hid hB p1;refine nU Tryz.func50 Tryz.ntmps50 ?_;refine Run.loopS [0, 1, 4, 7] (fun j : Nat => j <= l.length /\ ∀ q, q < j -> ∀ c, l[q]? = some c -> f c = false) (fun j => l.length - j) (fun j => [(8, iA j)]) (fun _ => h) 0 ⟨by omega, fun q hq => by omega⟩ ?_ rfl ?_
 ·exact zS
 intro j hj IH;obtain ⟨hj, hn⟩ := hj;refine eU ?_
 by_cases hjl : j < l.length
 ·have hg' : l[j]? = some l[j] := bBf hjl;have hcb := hc _ (bBi hjl);have hBj := hB j _ hg';generalize l[j] = b at hg' hcb hBj;have hBl : j < B.length := (bBg.1 hBj).1;have hBq : ∀ q : j < B.length, B[j]'q = iA b := fun q => by rw [bBf q] at hBj; exact bD0 hBj
  refine nV hjl ?_;refine zr4 hjl hid hBl hBq ?_;refine Run.call rfl aF aA hg hcb ?_ ?_
  rotate_left
  ·rintro v h' ⟨hv, _⟩; cases hv
  rintro v h' ⟨hv, rfl⟩;exact y26
 ·have hje : j = l.length := aB;subst hje;refine jB ?_;rw [aAd hn];exact y1z
theorem aAz (rd : List Int) (n x : Int) (p q tk : Nat) (h : Heap) (hh : WF h) (hp : h[p]? = some (some (.cells [.own tk 1 (aI rd)]))) (hq : h[q]? = some (some (.cells [iA n])))
  (hr : rd.length <= 1048576) (hn : -1099511627776 <= n /\ n <= 1099511627776) (hx : -1099511627776 <= x /\ x <= 1099511627776) :
  AC 53 [iA x, .ptr p 0, .ptr q 0] h (bA (!(rd.any (n - 1 - x == ·)))) := by
 obtain ⟨p1, p2, p3, p4, p5, plt⟩ := idf hp;obtain ⟨q1, q2, q3, q4, q5, qlt⟩ := idf hq;have c1 := fun g hw => ACalls.weak (args := [.own tk 1 (aI rd), iA (n - 1 - x)]) (WeakL.cons (Weak.own _ _ _) (WeakL.refl _)) (rF rd hr (n - 1 - x) g hw)
 generalize hb : rd.any (n - 1 - x == ·) = b at c1;refine zER Tryz.func53 Tryz.ntmps53 ?_;refine zr2 hp hq ?_;refine zL (c1 _ hh) ?_;refine zox ?_;exact y2c
theorem aAy (p : Pb) (rd : List Int) (n : Int) (v : Nat) (b i q tk : Nat) (h : Heap) (hh : WF h)
  (hb : h[b]? = some (some (.cells p.cells))) (hi : h[i]? = some (some (.cells [.own tk 1 (aI rd)]))) (hq : h[q]? = some (some (.cells [iA n])))
  (hv : v < p.ty.length) (hty : p.ty.length <= 1048576) (hfi : ∀ t ∈ p.ty, t.fit /\ t.size <= 1048576 /\ ∀ x ∈ eW t, x <= 1048576)
  (hr : rd.length <= 1048576) (hn : -1099511627776 <= n /\ n <= 1099511627776) :
  AC 51 [iA v, .ptr b 0, .ptr i 0, .ptr q 0] h (bA (nS p.ty rd n v)) := by
 have hg : p.ty[v]? = some p.ty[v] := bBf hv;obtain ⟨f1, f2, f3⟩ := hfi _ (bBi hv);have hkl : (aP p.ty).length = p.ty.length := aA;have ho : nS p.ty rd n v = !((eW p.ty[v]).any fun x => !(rd.any (n - 1 - x == ·))) := by simp [nS, hg]
 have hgt : (aP p.ty)[v]? = some (p.ty[v].cells) := by simp [hg]
 rw [ho];have fl : (eW p.ty[v]).length <= 1048576 := by have := xD p.ty[v]; have := kX p.ty[v] 0; omega
 have fn0 := aC9 p.ty[v];have c1 := fun g hw => aJr g hw p.ty[v] f1 aB
 have c2 := kT (fun x => !(rd.any (n - 1 - x == ·))) 53 [.ptr i 0, .ptr q 0] (eW p.ty[v]) fl h hh rfl (fun x hx => aAz rd n x i q tk h hh hi hq hr hn ⟨by have := fn0 x hx; omega, by have := f3 x hx; omega⟩);generalize p.ty[v] = t at hg hgt c1 c2 ⊢;generalize ((eW t).any fun x => !(rd.any (n - 1 - x == ·))) = r at c2 ⊢;generalize eW t = F at c1 c2 fl;obtain ⟨ty, kn, va, ⟨d0, d1, d2, d3, d4⟩⟩ := p;obtain ⟨k, j, nm, ls, ks⟩ := t;simp only [Tm.av, cells_mk, List.map] at c1 hb hv hkl hgt hg;have hgq : ∀ q : v < (aP ty).length, (aP ty)[v]'q = [iP k, iP j, sP nm, .sl 2 (bR ls), .sl 5 (aP ks)] := fun q => by rw [bBf q] at hgt; exact bD0 hgt
 refine zER Tryz.func51 Tryz.ntmps51 ?_;refine zr4 hb hgq hkl hv ?_;refine zL (c1 _ hh) ?_;refine zo ?_;refine zL (c2) ?_;refine zox ?_;exact y2c
theorem aJf (l : List Int) (x : Int) (m : Nat) : WeakL (buf 1 (aI (l ++ [x])) m) (buf 1 (aI l) (m + 1)) := by
 rw [eG, eG, bCi, bC3, bCn]
 induction l with
 | nil =>
  simp only [bCv, bBo, bBx, bBj];exact WeakL.cons (Weak.junk _) (WeakL.refl _)
 | cons a l ih => exact WeakL.cons (Weak.refl _) ih

end Go.Proofs.YtfajdeofhioakaaGreat
