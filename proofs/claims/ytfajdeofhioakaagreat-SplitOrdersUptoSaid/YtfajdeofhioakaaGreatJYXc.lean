import Derived.Test.YtfajdeofhioakaaGreatJA0
import Derived.Test.YtfajdeofhioakaaGreatJYXb

namespace Go.Proofs.YtfajdeofhioakaaGreat

open Go Go.AI
def aHf (kn : List Bool) (j : Nat) : List Int := ((List.range j).filter (cY kn [])).map fun v : Nat => (v : Int)
def bN (kn : List Bool) (order : List Int) : List Int := (dE kn order).map fun v : Nat => (v : Int)
theorem aKw (kn : List Bool) (j : Nat) : (aHf kn j).length <= j := by
 have := List.length_filter_le (cY kn []) (List.range j);simpa [aHf] using this
theorem aHg (kn : List Bool) (j : Nat) : aHf kn (j + 1) = aHf kn j ++ (if kn[j]? = some false then [(j : Int)] else []) := by
 simp only [aHf, List.range_succ, List.filter_append, bCi]
 congr 1
 by_cases h : kn[j]? = some false
 ·simp [cY, h]
 ·simp [cY, h]
theorem lH (kn : List Bool) (order : List Int) : (bN kn order).length = (dE kn order).length := by simp [bN]
theorem wZ {ty : List Tm} {kn : List Bool} {order : List Int} : (List.range kn.length).find? (wP ty kn order) = (dE kn order).find? fun v : Nat => nS ty order kn.length (v : Int) := by
 unfold dE;rw [List.find?_filter]
 congr 1
 funext v
 rw [tE, bCd];unfold wP
 cases ty[v]? <;> simp
theorem aJm (g : Int -> Bool) (l : List Nat) : (zO g (l.map fun v : Nat => (v : Int)) = -1 /\ l.find? (fun v : Nat => g (v : Int)) = none) \/ ∃ (i v : Nat), zO g (l.map fun v : Nat => (v : Int)) = i /\ l[i]? = some v /\ l.find? (fun v : Nat => g (v : Int)) = some v := by
 unfold zO
 cases h : (l.map fun v : Nat => (v : Int)).findIdx? g with
 | none =>
  refine .inl ⟨rfl, ?_⟩;rw [List.findIdx?_eq_none_iff] at h;rw [List.find?_eq_none];intro x hx;simp [h (x : Int) (bCb.2 ⟨x, hx, rfl⟩)]
 | some i =>
  obtain ⟨hl, hf, hn⟩ := List.findIdx?_eq_some_iff_getElem.1 h;simp only [bC9] at hl;refine .inr ⟨i, l[i], rfl, bBf hl, ?_⟩;rw [List.find?_eq_some_iff_getElem];refine ⟨by simpa using hf, i, hl, rfl, fun j hj => ?_⟩;have := hn j hj;simpa using this
theorem aC5 : ∀ (l : List Nat) (i v : Nat), l.Nodup -> l[i]? = some v -> l.take i ++ l.drop (i + 1) = l.filter fun u => decide (u ≠ v)
 | [], i, v, _, h => by simp at h
 | a :: l, 0, v, hn, h => by
  rw [bCx] at hn;simp only [bCe, bBk] at h;subst h;rw [List.filter_cons, if_neg aA];simp only [bDx, bBo, bDp, List.drop_zero]
  symm
  exact List.filter_eq_self.2 fun u hu => by
   have : u ≠ a := fun e => hn.1 (e ▸ hu)
   simp [this]
 | a :: l, i + 1, v, hn, h => by
  rw [bCx] at hn;simp only [bCc] at h;have hv := bBu h;have hav : a ≠ v := fun e => hn.1 (e ▸ hv)
  rw [List.filter_cons, if_pos (by simpa using hav)];simp only [bCf, bDp, bBj];rw [aC5 l i v hn.2 h]
theorem aGy (kn : List Bool) (order : List Int) (i v : Nat) (h : (dE kn order)[i]? = some v) : (bN kn order).take i ++ (bN kn order).drop (i + 1) = bN kn (order ++ [(v : Int)]) := by
 unfold bN;rw [xX, <- aC5 _ i v (sV kn order) h];simp
set_option maxRecDepth 8000 in
set_option maxHeartbeats 16000000 in
theorem aAx (p : Pb) (h : Heap) (hh : WF h) (hn : p.kn.length <= 60) (hty : p.ty.length = p.kn.length) (ht : ∀ t ∈ p.ty, t.good /\ t.ok p.kn.length /\ t.size <= 4096) :
  AC 14 [p.av] h (.tup [.p (.sl 1 (aI (jT p.ty p.kn p.kn.length [] []).1)), .p (.sl 5 (aP (jT p.ty p.kn p.kn.length [] []).2.1)), iA (jT p.ty p.kn p.kn.length [] []).2.2]) := by
 have c51 := fun (rd : List Int) (hr : rd.length <= 1000) (v : Nat) (hv : v < p.kn.length) (b i q tk : Nat) (g : Heap) (hw : WF g) (hb : g[b]? = some (some (.cells p.cells))) (hi : g[i]? = some (some (.cells [.own tk 1 (aI rd)]))) (hq : g[q]? = some (some (.cells [iA p.kn.length]))) =>
  aAy p rd p.kn.length v b i q tk g hw hb hi hq aB aB (fun t hm => ⟨(ht t hm).1.2.1, (ht t hm).1.1, fun x hx => by have := nY t 0 _ (ht t hm).2.1 x ((iL t x).1 hx); omega⟩) aB ⟨by omega, by omega⟩
 have c56 := fun (order : List Int) (ho : order.length <= 1000) (hb : ∀ i ∈ order, 0 <= i /\ i < p.kn.length) (g : Heap) (hw : WF g) => jU g hw p.kn.length order aB ho hb
 have c55 := fun (order : List Int) (ho : order.length <= 1000) (hb : ∀ i ∈ order, 0 <= i /\ i < p.kn.length) (v : Nat) (x : Tm) (hx : p.ty[v]? = some x) (hr : nS p.ty order p.kn.length v = true) (g : Heap) (hw : WF g) => (show (cL (cG p.kn.length order order.length) x).2 = 0 by
  rw [tE, hx] at hr;rw [aHx p.kn.length order x aB ho hb (ht x (bBu hx)).2.1 (ht x (bBu hx)).2.2 hr]) ▸ tK g hw x (cG p.kn.length order order.length) (by rw [cR]; omega) ⟨cX x _ _ (ht x (bBu hx)).2.1 aB, by omega, by have := (ht x (bBu hx)).2.2; omega⟩
 obtain ⟨r, hr⟩ : ∃ r, jT p.ty p.kn p.kn.length [] [] = r := ⟨_, rfl⟩;rw [hr];clear ht;obtain ⟨ty, kn, va, ⟨d0, d1, d2, d3, d4⟩⟩ := p;simp only [Tm.av, cells_mk, List.map, Pb.cells] at c51 c56 c55 hn hty hr ⊢;have hkl : (boPs kn).length = kn.length := aA;have htl : (aP ty).length = kn.length := by simp [hty]
 refine zE Tryz.func14 Tryz.ntmps14 ?_;refine aDb hty ?_;refine Run.vecS 6 1 aA ?_;refine wC hkl ?_
 refine Run.loopS [1, 2, 3, 4, 5, 19, 20] (fun j : Nat => j <= kn.length) (fun j => kn.length - j) (fun j => [(6, .vec (h.length + 2) (aHf kn j).length), (21, iA j)])
  (fun j => h ++ [some (.cells [.p (.sl 5 (aP ty)), .p (.sl 1 (boPs kn)), .p (.sl 5 (aP va)), iA d0, iA d1, .p (sP d2), .p (.sl 2 (bR d3)), .p (.sl 5 (aP d4))]), some (.cells [iA kn.length]), some (.vec 1 (aI (aHf kn j)))]) 0 aA ?_ (by simp [aHf, aI]) ?_
 ·simp [aHf];exact zK
 intro j hj IH;refine eU ?_
 by_cases hjl : j < kn.length
 ·have hg : kn[j]? = some kn[j] := bBf hjl;have hps := aHg kn j;have hpl := aKw kn j;rw [hg] at hps;generalize kn[j] = b at hg hps
  have hgb : ∀ q : j < (boPs kn).length, (boPs kn)[j]'q = [bP b] := fun q => by
   have h1 : (boPs kn)[j]? = (kn[j]?).map fun b => [bP b] := aA
   rw [hg, bBf q] at h1; exact bD0 h1
  have hgk : ∀ q : j < kn.length, kn[j]'q = b := fun q => by rw [bBf q] at hg; exact bD0 hg
  generalize aHf kn j = L at hps hpl ⊢;refine znt1 hjl ?_;refine zr3 hgb hkl hjl ?_;refine zr ?_
  cases b with
  | true =>
   simp only [bBk, Bool.true_eq_false, if_false, bBl] at hps;refine aMo ?_;refine IH (j + 1) _ _ aB aB ?_ (by simp [hps]);rw [hps];exact zS
  | false =>
   simp only [if_true] at hps;refine zn ?_;refine zt ?_;refine Run.regPre 3 fun K J => ?_
   refine yj ?_;simp;refine zi ?_; clear J;refine yd ?_;refine Run.appendV (id := h.length + 2) (es := aI L) (ys := [[iP j]]) (sz := 1) (by_ := 8) (e := 3) rfl (by simp [awanted]) rfl rfl rfl rfl aA aA (fun e he => by obtain ⟨x, _, rfl⟩ := bCb.1 he; rfl) aA aA aA (by simp; omega) (by simp; omega) ?_;refine zs ?_;refine zor ?_;refine IH (j + 1) _ _ aB aB ?_ (by simp [hps, aI]);rw [hps];exact zS
 ·have hje : j = kn.length := aB;subst hje;have hpre : aHf kn kn.length = bN kn [] := rfl;rw [hpre];refine lY ?_;refine Run.tokAt (h.length + 3) 0 1 (cs := [.p (.prim (.slice none 0 0))]) (by simp [Heap.at]) rfl ?_;refine eU ?_;refine Run.tok 10 5 aA ?_;simp
  by_cases hl0 : (bN kn []).length = 0
  ·have hnl : dE kn [] = [] := by rw [lH] at hl0; exact bEa.1 hl0
   have hre : jT ty kn kn.length [] [] = ([], [], 0) := by
    cases hq : kn.length with
    | zero => rfl
    | succ f => simp only [jT, hnl, if_true]
   rw [hre] at hr;subst hr;have hl00 : bN kn [] = [] := bEa.1 hl0;rw [hl00];refine Run.freezeV 6 (id := h.length + 2) (n := 0) (sz := 1) (es := []) aA (by simp [Heap.at, aI]) aA rfl ?_;simp;refine Run.loopS [1, 2, 3, 4, 5, 6, 9, 10] (fun _ : Unit => True) (fun _ => 0) (fun _ => []) (fun _ => _) () trivial ?_ rfl ?_
   ·exact zS
   intro _ _ _;refine eU ?_;refine zf ?_;refine ze ?_;refine znr ?_;refine zx ?_;exact Fin.ret' (h0 := h) (xs := [.own (h.length + 4) 1 [], .own (h.length + 5) 5 [], iA 0]) aA rfl hh rfl aA rfl (Weak.tup (WeakL.cons (Weak.own _ _ _) (WeakL.cons (Weak.own _ _ _) (WeakL.refl _)))) aA ⟨rfl, rfl⟩
  ·refine Run.thawS 6 (id := h.length + 2) (n := (bN kn []).length) (sz := 1) (es := aI (bN kn [])) aA (by simp [Heap.at]) (fun e he => by obtain ⟨x, _, rfl⟩ := bCb.1 he; rfl) aA aB fun cap hcap => ?_
   simp
   refine Run.loopS [1, 2, 3, 4, 5, 9] (fun s : List Int × List Tm × Nat => OInv ty kn kn.length s.1 s.2.1 s.2.2 /\ (bN kn s.1).length <= cap) (fun s => s.2.2) (fun s => [(6, .sm (h.length + 6) 0 (bN kn s.1).length cap 1), (10, .own (h.length + 5) 5 (aP s.2.1))])
    (fun s => h ++ [some (.cells [.p (.sl 5 (aP ty)), .p (.sl 1 (boPs kn)), .p (.sl 5 (aP va)), iA d0, iA d1, .p (sP d2), .p (.sl 2 (bR d3)), .p (.sl 5 (aP d4))]), some (.cells [iA kn.length]), none, some (.cells [.own (h.length + 4) 1 (aI s.1)]), some (.tok s.1.length 1), some (.tok s.2.1.length 5), some (.cells (buf 1 (aI (bN kn s.1)) (cap - (bN kn s.1).length)))]) ([], [], kn.length) ⟨⟨rfl, vC kn [], by simp, rfl, by simp⟩, hcap⟩ ?_ (by simp [aI]) ?_
   ·simp [aP];exact zK
   rintro ⟨order, tel, f⟩ ⟨⟨heq, hle, hlen, hln2, hok⟩, hcp⟩ IH;simp only at heq hle hlen hln2 hok hcp;have ho : order.length <= 1000 := aB;have hll := lH kn order;have hll2 := vC kn order;have hbu := fun n m => iD n 1 (aI (bN kn order)) m
   refine eU ?_
   by_cases hl1 : dE kn order = []
   ·have hre : jT ty kn f order tel = (order, tel, 0) := by
     cases f with
     | zero => rfl
     | succ f => simp only [jT, hl1, if_true]
    have hz : (bN kn order).length = 0 := by rw [hll, hl1]; rfl
    rw [heq, hre] at hr;subst hr;refine aD9 hz ?_;exact Fin.ret' (h0 := h) (xs := [.own (h.length + 4) 1 (aI order), .own (h.length + 5) 5 (aP tel), iA 0]) aA rfl hh rfl aA rfl (Weak.tup (WeakL.cons (Weak.own _ _ _) (WeakL.cons (Weak.own _ _ _) (WeakL.refl _)))) aA ⟨rfl, rfl⟩
   ·have hlp : 0 < (bN kn order).length := by
     rw [hll];exact Nat.pos_of_ne_zero fun e => hl1 (bEa.1 e)
    have hlpz : ¬ (bN kn order).length = 0 := aB;obtain ⟨f', rfl⟩ : ∃ f', f = f' + 1 := ⟨f - 1, by omega⟩
    have hmemL : ∀ b ∈ bN kn order, ∃ v : Nat, b = v /\ v < kn.length := fun b hb => by
     obtain ⟨v, hv, rfl⟩ := bCb.1 hb;exact ⟨v, rfl, (vF.1 hv).1⟩
    have c50 : ∀ G : Heap, WF G -> G[h.length]? = some (some (.cells [.p (.sl 5 (aP ty)), .p (.sl 1 (boPs kn)), .p (.sl 5 (aP va)), iA d0, iA d1, .p (sP d2), .p (.sl 2 (bR d3)), .p (.sl 5 (aP d4))])) -> G[h.length + 1]? = some (some (.cells [iA kn.length])) -> G[h.length + 3]? = some (some (.cells [.own (h.length + 4) 1 (aI order)])) -> G[h.length + 6]? = some (some (.cells (buf 1 (aI (bN kn order)) (cap - (bN kn order).length)))) ->
      AC 50 [.sm (h.length + 6) 0 (bN kn order).length cap 1, .fn (.func 51) [] [.ptr h.length 0, .ptr (h.length + 3) 0, .ptr (h.length + 1) 0]] G (iA (zO (nS ty order kn.length) (bN kn order))) := fun G hw g1 g2 g3 g4 =>
     rG (nS ty order kn.length) 51 [.ptr h.length 0, .ptr (h.length + 3) 0, .ptr (h.length + 1) 0] (bN kn order) aB (h.length + 6) cap _ G hw g4 hcp rfl (fun b hb => by
      obtain ⟨v, rfl, hv⟩ := hmemL b hb;exact c51 order ho v hv h.length (h.length + 3) (h.length + 1) (h.length + 4) G hw g1 g3 g2)
    have hfm := aJm (nS ty order kn.length) (dE kn order);rw [show (dE kn order).map (fun v : Nat => (v : Int)) = bN kn order from rfl] at hfm;generalize zO (nS ty order kn.length) (bN kn order) = ix at c50 hfm;refine nV hlp ?_;refine zL (c50 _ (hh.app (by simp [AO.under, hbu])) aA aA aA aA) ?_;refine zo ?_;rcases hfm with ⟨rfl, hfn⟩ | ⟨i, v, rfl, hiv, hfs⟩
    ·have hre : jT ty kn (f' + 1) order tel = ([], [], 19) := by
      simp only [jT, hl1, if_false, wZ, hfn]
     rw [heq, hre] at hr;subst hr;refine aMp ?_;exact y39
    ·have hmem : v ∈ dE kn order := bBu hiv;have hv1 := (vF.1 hmem).1
     have hop : nS ty order kn.length v = true := by
      have := List.find?_some hfs;simpa using this
     have hre : jT ty kn (f' + 1) order tel = jT ty kn f' (order ++ [(v : Int)]) (tel ++ [rT ty kn order v]) := by
      simp only [jT, hl1, if_false, wZ, hfs]
     have hsl := lI kn order v hmem
     have hil : i < (bN kn order).length := by
      rw [hll]; exact (bBg.1 hiv).1
     have hiI : (bN kn order)[i]? = some (v : Int) := by simp [bN, hiv]
     have hgt : ty[v]? = some (ty[v]'aB) := bBf aB
     have htr : rT ty kn order v = (cL (cG kn.length order order.length) (ty[v]'aB)).1 := by
      unfold rT; rw [List.getD_eq_getElem?_getD, hgt]; rfl
     have c1 := fun g hw => ACalls.weak (args := [iA kn.length, .own (h.length + 4) 1 (aI order)]) (WeakL.cons (Weak.refl _) (WeakL.cons (Weak.own _ _ _) WeakL.nil)) (c56 order ho hok g hw)
     have c2 := fun g hw => c55 order ho hok v _ hgt hop g hw
     have hvt : v < ty.length := aB;generalize cG kn.length order order.length = W at c1 c2 htr;generalize ty[v]'aB = x at hgt c2 htr;generalize cL W x = y at c2 htr;rw [htr] at hre;obtain ⟨x0, x1, x2, x3, x4⟩ := x;obtain ⟨⟨y0, y1, y2, y3, y4⟩, e⟩ := y;simp only [cells_mk, List.map] at c2
     have hgy : ∀ q : v < (aP ty).length, (aP ty)[v]'q = [iP x0, iP x1, sP x2, .sl 2 (bR x3), .sl 5 (aP x4)] := fun q => by
      exact y65
     have hgt2 : ∀ q : v < ty.length, ty[v]'q = .mk x0 x1 x2 x3 x4 := fun q => by rw [bBf q] at hgt; exact bD0 hgt
     have hB : (buf 1 (aI (bN kn order)) (cap - (bN kn order).length))[i]? = some (iA v) := by
      rw [eG, bBt (by simpa using hil), bDo, hiI]; rfl
     have hdel := aGy kn order i v hiv;have hlenD : (bN kn (order ++ [(v : Int)])).length = (bN kn order).length - 1 := by rw [lH, lH]; omega
     have hcd := fun (G : Heap) (hw : WF G) (hat : G[h.length + 6]? = some (some (.cells (buf 1 (aI (bN kn order)) (cap - (bN kn order).length))))) => wV (bN kn order) cap i (h.length + 6) G hw hil hcp hat
     rw [hdel] at hcd;have hless := aJf (bN kn (order ++ [(v : Int)])) 0 (cap - (bN kn order).length);rw [show cap - (bN kn order).length + 1 = cap - (bN kn (order ++ [(v : Int)])).length by omega] at hless;have hcp2 : (bN kn (order ++ [(v : Int)])).length <= cap := aB;rw [<- hlenD] at hcd;have hlb : (bN kn order).length <= 60 := aB;generalize hLL : bN kn (order ++ [(v : Int)]) = L2 at hcd hless hlenD hcp2;generalize bN kn order = L at hlb hB hcd hil hlenD hbu hlp hlpz hcp hless ⊢;have hBl : i < (buf 1 (aI L) (cap - L.length)).length := (bBg.1 hB).1;have hBq : ∀ q : i < (buf 1 (aI L) (cap - L.length)).length, (buf 1 (aI L) (cap - L.length))[i]'q = iA v := fun q => by rw [bBf q] at hB; exact bD0 hB
     generalize hBB : buf 1 (aI L) (cap - L.length) = B at hB hBl hBq hcd ⊢;have hbu2 : ∀ n, AV.underL n B = true := fun n => by rw [<- hBB]; exact hbu n _
     generalize hB2 : buf 1 (aI (L2 ++ [0])) (cap - L.length) = B2 at hcd hless;have hbu3 : ∀ n, AV.underL n B2 = true := fun n => by rw [<- hB2]; exact iD n 1 _ _
     have hol : (aI order).length = order.length := by simp [aI]
     have htl2 : (aP tel).length = order.length := by simp [hln2]
     have hb1 : (order.length + 1) * 8 <= 140737488355328 := aB;have hb2 : order.length + 1 <= 9223372036854775807 := aB;have hb3 : (order.length + 1) * 80 <= 140737488355328 := aB;have hii : (i : Int) < L.length := aB;refine znr ?_;refine zf ?_;refine zr3 hBl hBq hii ?_;refine yh ?_;refine zm2 hgy hvt ?_;refine ND.DR.pcall rfl rfl rfl aA rfl rfl (fun g hg => c1 g ?_) ?_
     ·exact y58
     refine zm ?_;refine ND.DR.pcall rfl rfl rfl aA rfl rfl (fun g hg => c2 g ?_) ?_
     ·exact y58
     refine zm ?_;refine y8 ?_;refine znr ?_;refine zf ?_;refine Run.regPre 4 fun K J => ?_
     refine yj ?_;simp;refine zi ?_; clear J;refine yd ?_;refine zL (hcd _ (hh.app (by simp [AO.under, hbu2])) aA) ?_;refine zo ?_;refine Run.draw [0, 0, 0, 0, 0, 0, 0, 1, 2, 3] [0, 0, 0, 0, 0, 0, 0, 1, 2, 0] [0, 0, 2, 7, 0, 0, 32, 127, 255, 511] [0, 1, 2, 3, 4, 5, 6, 7, 8, 9] aC aC ?_;refine zd6 hol htl2 hb1 hb2 hb3 hln2 ?_;refine y8 ?_;refine nv ?_;refine Run.weakH (h.length + 6) (cs := B2) (by simp [Heap.at]) hless ?_;have hbu4 : ∀ n, AV.underL n (buf 1 (aI L2) (cap - L2.length)) = true := fun n => iD n 1 _ _
     refine Run.keep [1, 2, 3, 4, 5, 6, 9, 10] ?_;simp;refine Run.cutAt 7 hh rfl aB aA aA (by simp [AO.under, hbu4]) rfl ?_;refine IH (order ++ [(v : Int)], tel ++ [.mk y0 y1 y2 y3 y4], f') _ _ ⟨⟨by simp only; rw [heq, hre], by simp only; omega, by simp only [bBp, bBm, bBn]; omega, by simp [hln2], ?_⟩, by simp only [hLL]; exact hcp2⟩ (by simp only; omega) ?_ ?_
     ·exact y6b
     ·simp [hLL, tU];exact zK
     ·simp [hln2, hLL, aI]

end Go.Proofs.YtfajdeofhioakaaGreat
