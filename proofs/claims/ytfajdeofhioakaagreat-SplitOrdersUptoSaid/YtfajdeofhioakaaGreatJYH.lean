import Derived.Test.YtfajdeofhioakaaGreatJA0
import Derived.Test.YtfajdeofhioakaaGreatJHP
import Derived.Test.YtfajdeofhioakaaGreatJYE
import Derived.Test.YtfajdeofhioakaaGreatJYL
set_option maxRecDepth 8000

namespace Go.Proofs.YtfajdeofhioakaaGreat

open Go Go.AI
def aJ1 (l : List Tm) (i : Nat) : Bool := match l[i]? with | some t => decide (t.size <= 120) | none => true
def aOs (p : Pb) : Bool := decide (p.ty.length <= 20) && decide (p.va.length <= 20) && decide (p.tg.size <= 120) && aW (aJ1 p.ty) p.ty.length && aW (aJ1 p.va) p.va.length && tH p
set_option maxHeartbeats 16000000 in
theorem aGa (p : Pb) (hg : p.gd) (h : Heap) (hh : WF h) : AC 13 [p.av] h (bA (aOs p)) := by
 have cgd := fun g hw => aE6 p hg g hw
 obtain ⟨r, hr⟩ : ∃ r, aOs p = r := ⟨_, rfl⟩;rw [hr];unfold aOs at hr;obtain ⟨g1, g2, g3, g4, g5, g6⟩ := hg;have cs := fun (t : Tm) (ht : t.good) (g : Heap) (hw : WF g) => oK t.size t g (bBh _) (by have := ht.1; omega) hw
 generalize tH p = gd at cgd hr;obtain ⟨ty, kn, va, tg⟩ := p;simp only at hr g1 g2 g3 g4 g5 g6;have ctg := cs tg g6;generalize tg.size = z at ctg hr;obtain ⟨d0, d1, d2, d3, d4⟩ := tg;simp only [Pb.av, Pb.cells, Tm.av, cells_mk, List.map] at ctg cgd ⊢
 by_cases h1 : ty.length <= 20
 ·have q1 : ¬ (20 : Int) < ty.length := aB
  by_cases h2 : va.length <= 20
  ·have q2 : ¬ (20 : Int) < va.length := aB
   by_cases h3 : z <= 120
   ·have q3 : ¬ (120 : Int) < z := aB;have hgd : (decide (ty.length <= 20) && decide (va.length <= 20) && decide (z <= 120)) = true := by simp [h1, h2, h3]
    rw [hgd, Bool.true_and] at hr;refine zER Tryz.func13 Tryz.ntmps13 ?_;refine zr2 q1 q2 ?_;refine zL (ctg _ (hh.app aA)) ?_;refine aLx q3 ?_;refine Run.loopS [0, 1] (fun j : Nat => j <= ty.length /\ aW (aJ1 ty) j = true) (fun j => ty.length - j) (fun j => [(3, iA j)]) (fun _ => _) 0 (by simp [aW]) ?_ rfl ?_
    ·exact zS
    intro j ⟨hj, hall⟩ IH;refine eU ?_
    by_cases hjl : j < ty.length
    ·have ht : ty[j]? = some ty[j] := bBf hjl;have hf : aJ1 ty j = decide (ty[j].size <= 120) := by simp only [aJ1, ht]
     have cx := cs ty[j] (g2 _ (bBi hjl));generalize ty[j] = x at ht hf cx;generalize x.size = s at hf cx;obtain ⟨x0, x1, x2, x3, x4⟩ := x;simp only [Tm.av, cells_mk, List.map] at cx
     have hgx : ∀ q : j < (aP ty).length, (aP ty)[j]'q = [iP x0, iP x1, sP x2, .sl 2 (bR x3), .sl 5 (aP x4)] := fun q => by
      exact y45
     refine znt1 hjl ?_;refine zr2 hgx hjl ?_;refine zL (cx _ (hh.app aA)) ?_
     by_cases hs : s <= 120
     ·have q4 : ¬ (120 : Int) < s := aB;refine aLx q4 ?_;refine IH (j + 1) _ _ ⟨by omega, ?_⟩ aB ?_ rfl
      ·rw [allTo_succ, hall, hf]; simp [hs]
      ·exact zS
     ·exact y3l
    ·have hje : j = ty.length := aB;subst hje;rw [hall, Bool.true_and] at hr;refine lY ?_;refine Run.loopS [0, 1] (fun j : Nat => j <= va.length /\ aW (aJ1 va) j = true) (fun j => va.length - j) (fun j => [(4, iA j)]) (fun _ => _) 0 (by simp [aW]) ?_ rfl ?_
     ·exact zS
     intro j ⟨hj, hall2⟩ IH2;refine eU ?_
     by_cases hjl : j < va.length
     ·have ht : va[j]? = some va[j] := bBf hjl;have hf : aJ1 va j = decide (va[j].size <= 120) := by simp only [aJ1, ht]
      have cx := cs va[j] (g5 _ (bBi hjl));generalize va[j] = x at ht hf cx;generalize x.size = s at hf cx;obtain ⟨x0, x1, x2, x3, x4⟩ := x;simp only [Tm.av, cells_mk, List.map] at cx
      have hgx : ∀ q : j < (aP va).length, (aP va)[j]'q = [iP x0, iP x1, sP x2, .sl 2 (bR x3), .sl 5 (aP x4)] := fun q => by
       have := tmPs_get va j; rw [ht, bBf q] at this; exact bD0 this
      refine znt1 hjl ?_;refine zr2 hgx hjl ?_;refine zL (cx _ (hh.app aA)) ?_
      by_cases hs : s <= 120
      ·have q4 : ¬ (120 : Int) < s := aB;refine aLx q4 ?_;refine IH2 (j + 1) _ _ ⟨by omega, ?_⟩ aB ?_ rfl
       ·rw [allTo_succ, hall2, hf]; simp [hs]
       ·exact zS
      ·exact y3l
     ·have hje : j = va.length := aB;subst hje;rw [hall2, Bool.true_and] at hr;refine lY ?_;refine zL (cgd _ (hh.app aA)) ?_;refine zox ?_;exact y2i
   ·have q3 : (120 : Int) < z := aB;refine zER Tryz.func13 Tryz.ntmps13 ?_;refine zr2 q1 q2 ?_;refine zL (ctg _ (hh.app aA)) ?_;refine zo1trx q3 ?_;refine zF1 hh ?_;exact ⟨by rw [<- hr]; simp [h3], rfl⟩
  ·have q2 : (20 : Int) < va.length := aB;refine zER Tryz.func13 Tryz.ntmps13 ?_;refine zr2 q1 q2 ?_;refine yi ?_;refine zx ?_;refine zF1 hh ?_;exact ⟨by rw [<- hr]; simp [h2], rfl⟩
 ·have q1 : (20 : Int) < ty.length := aB;refine zE Tryz.func13 Tryz.ntmps13 ?_;refine aDc q1 ?_;refine zF1 hh ?_;exact ⟨by rw [<- hr]; simp [h1], rfl⟩

end Go.Proofs.YtfajdeofhioakaaGreat

namespace Go.AI

open Go

section

variable {P : Program} {rd : Option Nat} {nb : Nat} {k : List It} {T : List AV} {h : Heap} {D : List AD} {Q : AX -> List AV -> Heap -> List AD -> Prop}
theorem Run.vecS (slot sz : Nat) (hs : tget T slot = .p (.prim (.slice none 0 0))) (r : Run P rd nb k (T.set slot (.vec h.length 0)) (h ++ [some (.vec sz [])]) D Q) : Run P rd nb k T h D Q := by
 intro E w a s;obtain ⟨t1, t2, t3⟩ := s.rel.newTk s.fresh (tk := .vec sz []) (sz := sz) rfl;have s' := s.move t2 t1 (by simpa using t3);have hv := s.tmps.get slot;rw [<- tget_eq, hs] at hv;simp only [Rep, RepP] at hv
 have hx : Rep { E with t := fun id => if id = h.length then some ⟨none, 0, 0⟩ else E.t id } w (.vec h.length 0) (.slice none 0 0) := by
  exact y5r
 exact y24
theorem Run.thawS (slot : Nat) {id n sz : Nat} {es : List (List PV)} (hs : tget T slot = .vec id n) (hat : h.at id = some (.vec sz es)) (hes : ∀ e ∈ es, e.length = sz) (hn : es.length = n) (hpos : 0 < n)
  (r : ∀ cap, n <= cap -> Run P rd nb k (T.set slot (.sm h.length 0 n cap sz)) (h.set id none ++ [some (.cells (buf sz es (cap - n)))]) D Q) : Run P rd nb k T h D Q := by
 intro E w a s;subst hn;have hlt := bF hat;obtain ⟨blk, cap, ht, k1, k2, k3⟩ := s.rel.toks id _ _ _ _ _ hat rfl
 obtain ⟨b, rfl⟩ : ∃ b, blk = some b := by
  cases blk with
  | none => have := k2 rfl; omega
  | some b => exact ⟨b, rfl⟩
 obtain ⟨t1, t2, t3, _⟩ := s.rel.thaw s.fresh hat ht hes;have hl1 : (h.set id none ++ [some (AO.cells (buf sz es (cap - es.length)))]).length = h.length + 1 := aA;have s' := s.move t2 t1 (by rw [hl1]; exact t3);have hvr := s'.tmps.get slot;rw [<- tget_eq, hs] at hvr;simp only [Rep] at hvr;obtain ⟨L, hL, _, ad, cap0, hv, hcur⟩ := hvr;rw [ht] at hL; cases hL;obtain ⟨e1, e2⟩ := hcur rfl;simp only [bCm] at e1 e2;subst e1;have e3 := e2.symm;subst e3
 have hx : Rep { E with g := fun i => if i = h.length then some b else E.g i } w (.sm h.length 0 es.length cap sz) (.slice (some ⟨b, 0, none⟩) es.length cap) := by
  simp only [Rep];exact ⟨b, by simp, rfl⟩
 have hset := s'.tmps.set hx slot
 have hsame : (a.tmps.toList).set slot (.slice (some ⟨b, 0, none⟩) es.length cap) = a.tmps.toList := by
  exact y3f
 rw [hsame] at hset;exact K_mono (P := P) (rd := rd) (Post.of_fr (Q := Q) t2) k _ _ _ (r cap k1 _ w a ⟨s'.rel, s'.fresh, hset, s'.defers⟩)

end

end Go.AI

namespace Go.Proofs.YtfajdeofhioakaaGreat

open Go Go.AI
theorem eG (l : List Int) (m : Nat) : buf 1 (aI l) m = l.map iA ++ List.replicate m .junk := by
 unfold buf aI;rw [Nat.mul_one]
 congr 1
 induction l with
 | nil => rfl
 | cons a l ih => simp [ih]
theorem sF : ∀ (l : List Int), xC (l.map iA) = some (l.map iP)
 | [] => rfl
 | a :: l => by simp only [bBx, xC, sF l]; rfl
theorem vT {h : Heap} {id : Nat} {zs : List Int} {m : Nat} (hat : h.at id = some (.cells (buf 1 (aI zs) m))) (off len cap k : Nat) (hk : k <= len) (hl : off + k <= zs.length) :
  cW h 1 k (.sm id off len cap 1) = some (((zs.drop off).take k).map iP) := by
 have e : ((buf 1 (aI zs) m).drop off).take (k * 1) = ((zs.drop off).take k).map iA := by
  rw [eG, List.drop_append_of_le_length (by simp; omega), bCh (by simp; omega), <- List.map_drop, <- List.map_take, Nat.mul_one]
 have el : (((zs.drop off).take k).map iP).length = k * 1 := by simp; omega
 simp only [cW, hk, hat, e, sF, true_and, if_true, if_pos el]
theorem aL8 {α : Type} (l : List α) (k : Nat) (v : α) (rest : List α) (hk : k + (rest.length + 1) <= l.length) :
  (l.set k v).take (k + 1) ++ rest ++ (l.set k v).drop (k + 1 + rest.length) = l.take k ++ (v :: rest) ++ l.drop (k + (rest.length + 1)) := by
 have h1 : (l.set k v).take (k + 1) = l.take k ++ [v] := by
  rw [bD1, List.getElem?_set, if_pos rfl, if_pos aB, List.take_set_of_le (bBh _)]
  rfl
 have h2 : (l.set k v).drop (k + 1 + rest.length) = l.drop (k + (rest.length + 1)) := by
  rw [List.drop_set_of_lt aB]
  congr 1; omega
 rw [h1, h2];simp
theorem aEk (l : List Int) : ∀ (zs : List Int) (off m : Nat), off + l.length <= zs.length -> patch (buf 1 (aI zs) m) off ((l.map iP).map .p) = buf 1 (aI (zs.take off ++ l ++ zs.drop (off + l.length))) m := by
 induction l with
 | nil => intro zs off m _; simp [patch]
 | cons a l ih =>
  intro zs off m hl;simp only [bBm] at hl;simp only [bBx, patch]
  have e : (buf 1 (aI zs) m).set off (.p (iP a)) = buf 1 (aI (zs.set off a)) m := by
   rw [eG, eG, bCa _ _ (by simp; omega), <- List.map_set]
  rw [e, ih (zs.set off a) (off + 1) m (by simp; omega)]
  congr 2
  have := aL8 zs off a l aB;simpa using this
theorem oF {h : Heap} {id : Nat} {zs : List Int} {m : Nat} (hat : h.at id = some (.cells (buf 1 (aI zs) m))) (off : Nat) (l : List Int) (hl : off + l.length <= zs.length) :
  aL0 h id off (l.map iP) = some (h.set id (some (.cells (buf 1 (aI (zs.take off ++ l ++ zs.drop (off + l.length))) m)))) := by
 have hbl : (buf 1 (aI zs) m).length = zs.length + m := by rw [eG]; simp
 simp only [aL0, hat];rw [if_pos (by rw [hbl, bC9]; omega), aEk l zs off m hl]
theorem wV (l : List Int) (cap i id : Nat) (h : Heap) (hh : WF h) (hi : i < l.length) (hcap : l.length <= cap)
  (hat : h[id]? = some (some (.cells (buf 1 (aI l) (cap - l.length))))) :
  ACalls Tryz.prog 57 [.sm id 0 l.length cap 1, iA i, iA (i + 1)] h fun o h' => o = .ret (.sm id 0 (l.length - 1) cap 1) /\ h' = h.set id (some (.cells (buf 1 (aI (l.take i ++ l.drop (i + 1) ++ [0])) (cap - l.length)))) := by
 obtain ⟨p1, p2, p3, p4, p5, plt⟩ := idf hat;generalize hn : l.length = n at hi hcap hat ⊢;have i1 : (i : Int) <= i + 1 := aB;have i2 : (i : Int) + 1 <= n := aB;have i3 : ¬ n = i := aB;have i4 : ¬ (i : Int) = i + 1 := aB;have i5 : (0 : Int) <= (i : Int) + 1 := aB;have i6 : i + (n - (i + 1)) <= cap := aB;have h0c : ¬ cap = 0 := aB
 have hs : cW h 1 (n - (i + 1)) (.sm id (if cap = i + 1 then 0 else i + 1) (n - (i + 1)) (cap - (i + 1)) 1) = some ((l.drop (i + 1)).map iP) := by
  by_cases hc : cap = i + 1
  ·rw [if_pos hc, vT (zs := l) (m := cap - n) (by simp [Heap.at, hat]) 0 _ _ _ (bBh _) aB, show n - (i + 1) = 0 by omega, List.drop_eq_nil_of_le (show l.length <= i + 1 by omega)]
   rfl
  ·rw [if_neg hc, vT (zs := l) (m := cap - n) (by simp [Heap.at, hat]) (i + 1) _ _ _ (bBh _) aB, bBr (by simp; omega)]
 have hput := oF (h := h) (id := id) (zs := l) (m := cap - n) (by simp [Heap.at, hat]) i (l.drop (i + 1)) (by simp; omega);have i7 : i <= cap := aB;obtain ⟨m, hm⟩ : ∃ m, m = i + (n - (i + 1)) := ⟨_, rfl⟩;have m1 : (m : Int) <= n := aB;have m2 : ¬ cap = m := aB;have m3 : n - m = 1 := aB;generalize hq : l.take i ++ l.drop (i + 1) ++ l.drop (i + (l.drop (i + 1)).length) = q at hput;have hql : q.length = n := by rw [<- hq]; simp; omega
 have hput2 := oF (h := h.set id (some (.cells (buf 1 (aI q) (cap - n))))) (id := id) (zs := q) (m := cap - n) (by simp [Heap.at, plt]) m [0] (by simp; omega)
 have hqe : q.take m ++ [0] ++ q.drop (m + 1) = l.take i ++ l.drop (i + 1) ++ [0] := by
  have e1 : q.drop (m + 1) = [] := List.drop_eq_nil_of_le aB
  have e2 : q.take m = l.take i ++ l.drop (i + 1) := by
   rw [<- hq, bCh (by simp; omega), bBr (by simp; omega)]
  rw [e1, e2, bBl]
 rw [<- hqe];clear hqe;clear hq;generalize hds : l.drop (i + 1) = ds at hs hput;simp only [bBx, bCv, bBm, bBn] at hput2;generalize q.take m ++ [0] ++ q.drop (m + (0 + 1)) = q2 at hput2 ⊢;refine zER Tryz.func57 Tryz.ntmps57 ?_;refine zr4 i1 i2 hcap i3 ?_;refine zr ?_;refine zf1 i4 ?_;refine zr ?_;refine Run.draw [0, 0, 0, 0, 0, 0, 0, 1] [0, 0, 0, 0, 0, 0, 0, 0] [0, 0, 3, 0, 0, 24, 63, 127] [0, 1, 2, 3, 4, 5, 6, 7] aC aC ?_;refine zd8 i2 i5 hcap i6 i7 hs hput h0c ?_;refine y8 ?_;refine nv ?_;rw [<- hm];refine zn ?_;refine zr5 m1 m2 m3 hcap hput2 ?_;refine zr ?_;refine zx ?_;exact Fin.ret' (h0 := h.set id (some (.cells (buf 1 (aI q2) (cap - n))))) aA aA (hh.set (by simp [AO.under, iD])) (bBl _).symm aE rfl (Weak.refl _) (by simp [AV.under, plt]) ⟨by rw [show n - 1 = m by omega]; rfl, rfl⟩

end Go.Proofs.YtfajdeofhioakaaGreat
