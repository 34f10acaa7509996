import Derived.Test.YtfajdeofhioakaaGreatJA0
import Derived.Test.YtfajdeofhioakaaGreatJYE
import Derived.Test.YtfajdeofhioakaaGreatJT1
import Derived.Test.YtfajdeofhioakaaGreatJX0
import Derived.Test.YtfajdeofhioakaaGreatJG1
set_option maxRecDepth 8000
set_option maxHeartbeats 8000000

namespace Go.Proofs.YtfajdeofhioakaaGreat

open Go Go.AI
def zO (f : Int -> Bool) (l : List Int) : Int := match l.findIdx? f with
 | some i => i
 | none => -1
theorem fIdx_at {f : Int -> Bool} {l : List Int} {j : Nat} {b : Int} (hb : l[j]? = some b) (hf : f b = true) (hn : ∀ q, q < j -> ∀ c, l[q]? = some c -> f c = false) : zO f l = j := by
 obtain ⟨hl, he⟩ := bBg.1 hb
 have : l.findIdx? f = some j := by
  rw [List.findIdx?_eq_some_iff_getElem];exact ⟨hl, by rw [he]; exact hf, fun q hq => by simp [hn q hq _ (bBf aB)]⟩
 simp [zO, this]
theorem aAd {f : Int -> Bool} {l : List Int} (hn : ∀ q, q < l.length -> ∀ c, l[q]? = some c -> f c = false) : zO f l = -1 := by
 have : l.findIdx? f = none := by
  rw [List.findIdx?_eq_none_iff];intro x hx;obtain ⟨q, hq, he⟩ := List.mem_iff_getElem.1 hx;exact hn q hq x (by rw [bBf hq, he])
 simp [zO, this]
theorem aC7 (f : Int -> Bool) (l : List Int) : (decide (0 <= zO f l)) = l.any f := by
 unfold zO
 cases h : l.findIdx? f with
 | some i =>
  obtain ⟨hl, hf, _⟩ := List.findIdx?_eq_some_iff_getElem.1 h;have : l.any f = true := bE4.2 ⟨l[i], bBi _, hf⟩;simp [this]
 | none =>
  rw [List.findIdx?_eq_none_iff] at h;have : l.any f = false := List.any_eq_false.2 fun x hx => by simp [h x hx]
  simp [this]
theorem aAi (l : List Int) (hl : l.length <= 1048576) (x : Int) (h : Heap) (hh : WF h) : AC 97 [.p (.sl 1 (aI l)), iA x] h (iA (zO (x == ·) l)) := by
 have hkl : (aI l).length = l.length := by simp [aI]
 refine zE Tryz.func97 Tryz.ntmps97 ?_;refine wB hkl ?_;refine Run.loopS [0, 1, 4, 7] (fun j : Nat => j <= l.length /\ ∀ q, q < j -> ∀ c, l[q]? = some c -> (x == c) = false) (fun j => l.length - j) (fun j => [(8, iA j)]) (fun _ => h) 0 ⟨by omega, fun q hq => by omega⟩ ?_ rfl ?_
 ·exact zS
 intro j hj IH;obtain ⟨hj, hn⟩ := hj;refine eU ?_
 by_cases hjl : j < l.length
 ·have hg : l[j]? = some l[j] := bBf hjl;have hgi : (aI l)[j]? = some [iP l[j]] := by simp [aI, hg]
  generalize l[j] = b at hg hgi;have hgq : ∀ q : j < (aI l).length, (aI l)[j]'q = [iP b] := fun q => by rw [bBf q] at hgi; exact bD0 hgi
  refine nV hjl ?_;refine zr3 hgq hkl hjl ?_
  by_cases hb : (x == b) = true
  ·refine znt1rx hb ?_;have hr := fIdx_at hg hb hn;rw [hr];exact y1z
  ·have hb' : (x == b) = false := by simpa using hb
   refine znf1r hb' ?_;refine IH (j + 1) _ _ ⟨by omega, fun q hq c hc => ?_⟩ aB ?_ rfl
   ·by_cases hqj : q = j
    ·subst hqj;rw [hg] at hc;cases hc;exact hb'
    ·exact hn q aB c hc
   ·exact zS
 ·have hje : j = l.length := aB;subst hje;refine jB ?_;rw [aAd hn];exact y1z
theorem rF (l : List Int) (hl : l.length <= 1048576) (x : Int) (h : Heap) (hh : WF h) : AC 54 [.p (.sl 1 (aI l)), iA x] h (bA (l.any (x == ·))) := by
 have c1 := fun g hw => aAi l hl x g hw
 have hm := aC7 (x == ·) l;generalize hr : zO (x == ·) l = r at c1 hm;refine nU Tryz.func54 Tryz.ntmps54 ?_;refine zL (c1 _ hh) ?_;exact y4y
theorem pK (f : Int -> Bool) (g : FuncId) (cap : List AV) (l : List Int) (hl : l.length <= 1048576) (h : Heap) (hh : WF h) (hg : aL Tryz.prog g = true)
  (hc : ∀ b ∈ l, ACalls Tryz.prog g (iA b :: cap) h fun o h' => o = .ret (bA (f b)) /\ h' = h) :
  AC 50 [.p (.sl 1 (aI l)), .fn (.func g) [] cap] h (iA (zO f l)) := by
 have hkl : (aI l).length = l.length := by simp [aI]
 refine zE Tryz.func50 Tryz.ntmps50 ?_;refine wB hkl ?_;refine Run.loopS [0, 1, 4, 7] (fun j : Nat => j <= l.length /\ ∀ q, q < j -> ∀ c, l[q]? = some c -> f c = false) (fun j => l.length - j) (fun j => [(8, iA j)]) (fun _ => h) 0 ⟨by omega, fun q hq => by omega⟩ ?_ rfl ?_
 ·exact zS
 intro j hj IH;obtain ⟨hj, hn⟩ := hj;refine eU ?_
 by_cases hjl : j < l.length
 ·have hg' : l[j]? = some l[j] := bBf hjl;have hgi : (aI l)[j]? = some [iP l[j]] := by simp [aI, hg']
  have hcb := hc _ (bBi hjl);generalize l[j] = b at hg' hgi hcb;have hgq : ∀ q : j < (aI l).length, (aI l)[j]'q = [iP b] := fun q => by rw [bBf q] at hgi; exact bD0 hgi
  refine nV hjl ?_;refine zr3 hgq hkl hjl ?_;refine Run.call rfl aF aA hg hcb ?_ ?_
  rotate_left
  ·rintro v h' ⟨hv, _⟩; cases hv
  rintro v h' ⟨hv, rfl⟩;exact y26
 ·have hje : j = l.length := aB;subst hje;refine jB ?_;rw [aAd hn];exact y1z
theorem kT (f : Int -> Bool) (g : FuncId) (cap : List AV) (l : List Int) (hl : l.length <= 1048576) (h : Heap) (hh : WF h) (hg : aL Tryz.prog g = true)
  (hc : ∀ b ∈ l, ACalls Tryz.prog g (iA b :: cap) h fun o h' => o = .ret (bA (f b)) /\ h' = h) :
  AC 52 [.p (.sl 1 (aI l)), .fn (.func g) [] cap] h (bA (l.any f)) := by
 have c1 := pK f g cap l hl h hh hg hc;have hm := aC7 f l;generalize hr : zO f l = r at c1 hm;refine nU Tryz.func52 Tryz.ntmps52 ?_;refine zL (c1) ?_;exact y4y


open Go Go.AI
def nS (ty : List Tm) (rd : List Int) (n v : Int) : Bool := match ty[v.toNat]? with
 | some t => !((eW t).any fun x => !(rd.any (n - 1 - x == ·)))
 | none => false
theorem xD (t : Tm) : (eW t).length <= (dN 0 t).length := by
 have h1 : (eW t).Nodup := (aFj t).imp fun h => Int.ne_of_lt h
 have h2 : eW t ⊆ dN 0 t := fun x hx => (iL t x).1 hx
 exact lL h1 h2


open Go Go.AI
theorem aL1 (h : Heap) (hh : WF h) (l : List Int) (n : Int) (hl : l.length <= 1099511627776) : AC 156 [.p (.sl 1 (aI l)), iA n] h (.p (.sl 1 (aI (mA l n)))) := by
 refine nU Tryz.func156 Tryz.ntmps156 ?_;refine Run.tok 5 1 aA ?_;refine eU ?_;refine zr ?_;refine Run.loopS [0, 1] (fun j : Nat => j <= l.length /\ n ∉ l.take j) (fun j => l.length - j) (fun j => [(5, .own h.length 1 (aI (aCm n (l.take j)))), (6, bA (dnB n (l.take j))), (7, iA j)]) (fun j => h ++ [some (.tok (aCm n (l.take j)).length 1)]) 0 aA ?_ (by simp [aCm, dnB]) ?_
 ·simp [aCm, dnB, aI];exact zK
 rintro j ⟨hj, hall⟩ IH;have hol := aKn n (l.take j);have hmin : min j l.length = j := bCw hj;rw [bC7, hmin] at hol;refine eU ?_
 by_cases hjl : j < l.length
 ·have hg : l[j]? = some l[j] := bBf hjl;have htk : l.take (j + 1) = l.take j ++ [l[j]] := bBq hjl;have hmem : l[j] ∈ l := bBi hjl;have hs1 := fun (hx : n < l[j]) hd => aEg (n := n) (x := l[j]) (m := l.take j) hx hd
  have hs2 := fun (hx : ¬ (n < l[j] /\ dnB n (l.take j) = false)) => aHc (n := n) (x := l[j]) (m := l.take j) hx
  have hs3 := uP n l[j] (l.take j);rw [<- htk] at hs1 hs2 hs3;generalize l[j] = x at hg htk hmem hs1 hs2 hs3;generalize hof : aCm n (l.take j) = of at hol hs1 hs2 ⊢;generalize hdn : dnB n (l.take j) = dn at hs1 hs2 hs3 ⊢;refine lZ hjl hg ?_
  by_cases hx : x = n
  ·refine znt1 hx ?_;refine zA ?_;have : mA l n = l := by rw [mA, if_pos (hx ▸ hmem)]
   refine zF2 hh ?_;exact ⟨by rw [this]; rfl, rfl⟩
  refine aD8 hx ?_;have hni : n ∉ l.take (j + 1) := by rw [htk]; simp [hall]; exact fun e => hx e.symm
  have hb1 : (of.length + 1) * 8 <= 140737488355328 := aB;have hb2 : of.length + 1 <= 9223372036854775807 := aB;have hb3 : (of.length + 1 + 1) * 8 <= 140737488355328 := aB;have hb4 : of.length + 1 + 1 <= 9223372036854775807 := aB
  by_cases hc : n < x /\ dn = false
  ·obtain ⟨hc1, rfl⟩ := hc;refine zn ?_;refine zr2 hg hc1 ?_;refine zt ?_;refine zr2 hb1 hb2 ?_;refine zr ?_;refine zr3 hg hb3 hb4 ?_;refine zr ?_;refine IH (j + 1) _ _ ⟨by omega, hni⟩ aB ?_ ?_
   ·rw [hs1 hc1 rfl, hs3];simp [hc1, aI];exact zK
   ·rw [hs1 hc1 rfl];simp
  ·have hc' : (decide (n < x) && !dn) = false := by
    cases dn with
    | true => simp
    | false => simp at hc; simp [hc]
   refine nv ?_;refine Run.regJ [0, 1, 5, 6, 7] 30 (decide (n < x) && !dn) (fun K J => ?_) ?_
   ·simp [hg];exact y1f
   refine y5 ?_;simp;rw [hc'];refine zn ?_;refine zf ?_;refine zr3 hg hb1 hb2 ?_;refine zr ?_;refine IH (j + 1) _ _ ⟨by omega, hni⟩ aB ?_ ?_
   ·rw [hs2 hc, hs3]
    have e : (dn || decide (n < x)) = dn := by
     cases dn with
     | true => rfl
     | false => simpa using hc'
    rw [e];simp [aI];exact zK
   ·rw [hs2 hc];simp
 ·have hje : j = l.length := aB;subst hje;rw [bC6] at hall hol ⊢;have hadd : mA l n = rH n l := by rw [mA, if_neg hall]
  have hend := aCb n l;rw [hadd];refine lY ?_;unfold aCm at *
  cases hd : dnB n l with
  | true =>
   rw [hd] at hol;simp only [if_true] at hol;refine zs ?_;refine aMo ?_;refine zx ?_;exact Fin.ret' (h0 := h) (xs := [.own h.length 1 (aI (rH n l))]) aA rfl hh rfl aA rfl (Weak.own _ _ _) rfl ⟨rfl, rfl⟩
  | false =>
   rw [hend hd];have hb1 : (l.length + 1) * 8 <= 140737488355328 := aB;have hb2 : l.length + 1 <= 9223372036854775807 := aB;refine zs ?_;refine zn ?_;refine zt ?_;refine zr2 hb1 hb2 ?_;refine zr ?_;refine zx ?_;exact Fin.ret' (h0 := h) (xs := [.own h.length 1 (aI (l ++ [n]))]) aA rfl hh rfl (by simp [aI]) rfl (Weak.own _ _ _) rfl ⟨rfl, rfl⟩
theorem sI (F G l : List Int) : (F ++ G).foldl mA l = G.foldl mA (F.foldl mA l) := bE1
theorem aHz (N : Nat) : ∀ (t : Tm) (l : List Int) (d : Int) (h : Heap), t.size <= N -> t.fit -> l.length + t.size <= 1099511627776 -> 0 <= d -> d + t.size <= 1099511627776 -> WF h ->
  AC 114 [.p (.sl 1 (aI l)), t.av, iA d] h (.p (.sl 1 (aI ((dN d t).foldl mA l)))) := by
 induction N with
 | zero => intro t _ _ _ hN; have := t.size_pos; omega
 | succ N ih =>
 intro t l d h hN hfit hl hd0 hd1 hh;obtain ⟨k, i, n, ls, ks⟩ := t;simp only [Tm.size] at hN hd1 hl;simp only [Tm.fit] at hfit;obtain ⟨-, -, hf3, hf4, hf5⟩ := hfit;have hll := aR ks;obtain ⟨l1, hl1⟩ : ∃ l1, l1 = (if k = 0 /\ d <= i then [i - d] else []).foldl mA l := ⟨_, rfl⟩;have hfr : (dN d (.mk k i n ls ks)).foldl mA l = (bK k d 0 ks).foldl mA l1 := by rw [hl1, dN, sI]
 have hl1l : l1.length <= l.length + 1 := by
  rw [hl1];split
  ·exact aBt _ _
  ·simp
 rw [hfr];refine ACalls.of_run Tryz.func114 rfl ?_;simp only [Tryz.ntmps114, bBm, bBn, Tm.av, cells_mk, List.map];refine znr ?_;refine Run.regJ [0, 2, 4] 16 (k == 0 && decide (d <= i)) (fun K J => ?_) ?_
 ·simp;exact y1f
 refine y5 ?_;simp;refine Run.joinA [2, 4] [(0, .p (.sl 1 (aI l1)))] (fun hJ => ?_) ?_
 ·by_cases hc : k = 0 /\ d <= i
  ·have hw : IntKind.i64.wrap (i - d) = i - d := wrap_id aB aB;have hcall := aL1 (h ++ [some (.cells [iA k, iA i, .p (sP n), .p (.sl 2 (bR ls)), .p (.sl 5 (aP ks))])]) (hh.app aA) l (i - d) aB;rw [if_pos hc] at hl1;simp only [List.foldl_cons, List.foldl_nil] at hl1;rw [<- hl1] at hcall;have hcb : (k == 0 && decide (d <= i)) = true := by simp [hc]
   rw [hcb];refine nv ?_;refine ct aA ?_
   repeat (first | refine Run.skip ?_ | refine Run.opsNil ?_ | refine Run.inBlock ?_)
   refine zn ?_;refine zq1 hw ?_
   repeat (first | refine Run.skip ?_ | refine Run.opsNil ?_ | refine Run.inBlock ?_)
   refine zL (hcall) ?_;refine Run.ops fun K J => ?_
   simp;refine zi ?_; clear J;exact y2m
  ·rw [if_neg hc] at hl1;simp only [List.foldl_nil] at hl1;have hcb : (k == 0 && decide (d <= i)) = false := by simpa using hc
   rw [hcb];refine nv ?_;refine cf aA ?_
   repeat (first | refine Run.skip ?_ | refine Run.opsNil ?_ | refine Run.inBlock ?_)
   refine hJ _ ?_;rw [hl1];exact zS
 simp only [setMany, keepT, keepT.go, List.contains_cons, bDl];refine eU ?_;refine Run.loopS [2, 4] (fun j : Nat => j <= ks.length) (fun j => ks.length - j) (fun j => [(0, .p (.sl 1 (aI ((bK k d 0 (ks.take j)).foldl mA l1)))), (7, iA j)]) (fun _ => _) 0 aA ?_ rfl ?_
 ·simp [bK];exact zK
 rintro j hj IH;refine eU ?_
 by_cases hjl : j < ks.length
 ·have hg : ks[j]? = some ks[j] := bBf hjl;have hs := dD hjl;have hst := dR ks j _ hg;have hst2 := bQ ks (j + 1);have hfj := Tm.fits_at hf5 _ (bBi hjl);have hbz := aU k j;have htk : ks.take (j + 1) = ks.take j ++ [ks[j]] := bBq hjl;have hfl := mH (ks.take j) k d 0;have hal := uE (bK k d 0 (ks.take j)) l1;have hsn := pH k d (ks.take j) 0 ks[j];rw [<- htk, bC7, bCg, bCw hj] at hsn;generalize ks[j] = u at hg hs hst hfj htk hsn;obtain ⟨lj, hlj⟩ : ∃ lj, (bK k d 0 (ks.take j)).foldl mA l1 = lj := ⟨_, rfl⟩;rw [hlj] at hal ⊢;have hrec := ih u lj (d + aJ k j) (h ++ [some (.cells [iA k, iA i, .p (sP n), .p (.sl 2 (bR ls)), .p (.sl 5 (aP ks))])]) aB hfj aB aB aB (hh.app aA);refine znt1 hjl ?_;refine Run.draw [0, 0, 0, 0, 0, 0, 0, 0, 0, 0, 0, 1, 1, 2] [0, 0, 0, 0, 0, 0, 0, 0, 0, 0, 0, 0, 1, 0] [0, 0, 2, 0, 14, 30, 0, 0, 128, 0, 896, 1984, 4095, 8191] [7, 8, 9, 10, 0, 1, 2, 3, 4, 5, 6, 11, 12, 13] aC aC ?_;refine y18 ?_;refine zd1 hg ?_;refine DR.call (args := [.p (.sl 1 (aI lj)), u.av, iA (d + aJ k j)]) rfl rfl rfl aA rfl (hrec) ?_;refine zd ?_;refine y8 ?_;refine znr ?_;refine IH (j + 1) _ _ aB aB ?_ rfl;rw [hsn, sI, hlj];exact zS
 ·have hje : j = ks.length := aB;subst hje;rw [bC6];refine znfen ?_;refine zA ?_;refine zF2 hh ?_;exact ⟨rfl, rfl⟩
theorem aHn (h : Heap) (hh : WF h) (t : Tm) (hfit : t.fit) (hsz : t.size <= 1048576) : AC 68 [t.av] h (.p (.sl 1 (aI (eW t)))) := by
 have hc := ACalls.weak (args := [.p (.prim (.slice none 0 0)), t.av, iA 0]) (WeakL.cons (Weak.nil 1) (WeakL.cons (Weak.refl _) (WeakL.cons (Weak.refl _) WeakL.nil))) (aHz t.size t [] 0 (h ++ [some (.cells (t.cells.map .p))]) (bBh _) hfit (by simp; omega) aB aB (hh.app aA));rw [show (dN 0 t).foldl mA [] = eW t from rfl] at hc;generalize eW t = F at hc;obtain ⟨k, i, n, ls, ks⟩ := t;simp only [Tm.av, cells_mk, List.map] at hc ⊢;refine nU Tryz.func68 Tryz.ntmps68 ?_;refine zL (hc) ?_;refine zox ?_;exact Fin.ret' (h0 := h) aA rfl hh rfl aE rfl (Weak.refl _) rfl ⟨rfl, rfl⟩


open Go Go.AI
theorem uX (h : Heap) (hh : WF h) (l : List Int) (n : Int) (hl : l.length <= 1048576) : AC 58 [.p (.sl 1 (aI l)), iA n] h (bA (decide (n ∈ l))) := by
 have hkl : (aI l).length = l.length := by simp [aI]
 refine nU Tryz.func58 Tryz.ntmps58 ?_;refine Run.loopS [0, 1] (fun j : Nat => j <= l.length /\ n ∉ l.take j) (fun j => l.length - j) (fun j => [(5, iA j)]) (fun _ => h) 0 aA ?_ rfl ?_
 ·exact zS
 intro j ⟨hj, hno⟩ IH;refine wC hkl ?_
 by_cases hjl : j < l.length
 ·have hg : l[j]? = some l[j] := bBf hjl;have hgi : (aI l)[j]? = some [iP l[j]] := by simp [aI, hg]
  have htk : l.take (j + 1) = l.take j ++ [l[j]] := bBq hjl;have hmem := bBi hjl;generalize l[j] = b at hg hgi htk hmem;have hgq : ∀ q : j < (aI l).length, (aI l)[j]'q = [iP b] := fun q => by rw [bBf q] at hgi; exact bD0 hgi
  refine znt1 hjl ?_
  by_cases hb : b = n
  ·have hbb : (b == n) = true := by simpa using hb
   refine zn ?_;refine zr4 hgq hkl hjl hbb ?_;refine yi ?_;refine zx ?_;refine zF4 hh ?_;exact ⟨by subst hb; simp [hmem], rfl⟩
  ·have hbb : (b == n) = false := by simpa using hb
   refine zn ?_;refine zr4 hgq hkl hjl hbb ?_;refine y12 ?_;refine IH (j + 1) _ _ ⟨by omega, ?_⟩ aB ?_ rfl
   ·rw [htk];simp only [bC8, List.mem_singleton, not_or];exact ⟨hno, fun e => hb e.symm⟩
   ·exact zS
 ·have hje : j = l.length := aB;subst hje;rw [bC6] at hno;refine jB ?_;refine zF4 hh ?_;exact ⟨by simp [hno], rfl⟩
def readyB (n : Int) (order : List Int) (t : Tm) : Bool := (eW t).all fun x => decide (n - 1 - x ∈ order)
theorem aB2 (h : Heap) (hh : WF h) (n : Int) (order : List Int) (t : Tm) (hn : 0 <= n /\ n <= 1048576) (hl : order.length <= 1048576) (hfit : t.fit) (hsz : t.size <= 1048576) (hfr : ∀ x ∈ eW t, 0 <= x /\ x <= 1048576) (hfl : (eW t).length <= 1048576) :
  AC 59 [iA n, .p (.sl 1 (aI order)), t.av] h (bA (readyB n order t)) := by
 have c1 := fun (g : Heap) (hg : WF g) => aHn g hg t hfit hsz
 obtain ⟨r, hr⟩ : ∃ r, readyB n order t = r := ⟨_, rfl⟩;rw [hr];unfold readyB at hr;generalize eW t = F at c1 hfr hfl hr;obtain ⟨t0, t1, t2, t3, t4⟩ := t;have hkl : (aI F).length = F.length := by simp [aI]
 simp only [Tm.av, cells_mk, List.map] at c1;refine ACalls.of_run Tryz.func59 rfl ?_;simp only [Tryz.ntmps59, bBm, bBn, Tm.av, cells_mk, List.map];refine znrr ?_;refine zL (c1 _ (hh.app aA)) ?_;refine zor ?_;refine Run.loopS [0, 1, 7] (fun j : Nat => j <= F.length /\ (F.take j).all (fun x => decide (n - 1 - x ∈ order)) = true) (fun j => F.length - j) (fun j => [(8, iA j)]) (fun _ => _) 0 aA ?_ rfl ?_
 ·exact zS
 intro j ⟨hj, hall⟩ IH;refine wC hkl ?_
 by_cases hjl : j < F.length
 ·have hg : F[j]? = some F[j] := bBf hjl;have hgi : (aI F)[j]? = some [iP F[j]] := by simp [aI, hg]
  have htk : F.take (j + 1) = F.take j ++ [F[j]] := bBq hjl;have hmem := bBi hjl;have hb := hfr _ hmem;generalize F[j] = b at hg hgi htk hmem hb;have hgq : ∀ q : j < (aI F).length, (aI F)[j]'q = [iP b] := fun q => by rw [bBf q] at hgi; exact bD0 hgi
  have c2 := fun (g : Heap) (hg : WF g) => uX g hg order (n - 1 - b) hl
  refine znt1 hjl ?_;refine zr3 hgq hkl hjl ?_;refine rl (args := [.p (.sl 1 (aI order)), iA (n - 1 - b)]) rfl aF aA rfl (c2 _ (hh.app aA)) ?_;refine zo ?_
  by_cases hb : n - 1 - b ∈ order
  ·refine znf1r hb ?_;refine IH (j + 1) _ _ ⟨by omega, ?_⟩ aB ?_ rfl
   ·rw [htk, bDt, hall];simp [hb]
   ·exact zS
  ·refine znt1rx hb ?_
   have hf : F.all (fun x => decide (n - 1 - x ∈ order)) = false := by
    rw [List.all_eq_false]; exact ⟨b, hmem, by simpa using hb⟩
   refine zF1 hh ?_;exact ⟨by rw [<- hr, hf]; rfl, rfl⟩
 ·have hje : j = F.length := aB;subst hje;rw [bC6] at hall;refine jB ?_;refine zF1 hh ?_;exact ⟨by rw [<- hr, hall]; rfl, rfl⟩

end Go.Proofs.YtfajdeofhioakaaGreat
