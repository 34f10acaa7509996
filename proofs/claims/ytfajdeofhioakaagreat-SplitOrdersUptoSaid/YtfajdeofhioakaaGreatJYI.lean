import Derived.Test.YtfajdeofhioakaaGreatJA0
import Derived.Test.YtfajdeofhioakaaGreatJN1
import Derived.Test.YtfajdeofhioakaaGreatJYL
import Derived.Test.YtfajdeofhioakaaGreatJA
set_option maxRecDepth 8000
set_option maxHeartbeats 8000000

namespace Go.Proofs.YtfajdeofhioakaaGreat

open Go Go.AI
theorem aEp (h : Heap) (hh : WF h) (p q : Nat) {a b c d e0 : AV} {c0 : AV} (hp : h[p]? = some (some (.cells [a, b, c, d, e0]))) (hq : h[q]? = some (some (.cells [c0]))) (hpq : p ≠ q) (e : Int) :
  ADef Tryz.prog 98 [.ptr p 0, .ptr q 0] (some (.p (errP e))) h ((h.set p (some (.cells zTm))).set q (some (.cells [iA e]))) := by
 obtain ⟨p1, p2, p3, p4, p5, p6⟩ := idf hp;have hq2 : (h.set p (some (.cells zTm)))[q]? = some (some (.cells [c0])) := by rw [bC5 hpq]; exact hq
 refine ADef.of_run Tryz.func98 rfl rfl rfl fun K J => ?_
 simp only [Tryz.ntmps98, bBm, bBn];exact y23
theorem aHo (h : Heap) (hh : WF h) (p q : Nat) : ADef Tryz.prog 98 [.ptr p 0, .ptr q 0] none h h := by
 refine ADef.of_run Tryz.func98 rfl rfl rfl fun K J => ?_
 simp only [Tryz.ntmps98, bBm, bBn];exact y32
theorem tK (h : Heap) (hh : WF h) (t : Tm) (to : List Int) (hl : to.length <= 1048576) (hd : Dom 65536 t 0) :
  AC 55 [t.av, .p (.sl 1 (aI to))] h (.tup [(cL to t).1.av, iA (cL to t).2]) := by
 obtain ⟨H, hH⟩ : ∃ H : Heap, H = h ++ [some (.cells (t.cells.map .p)), some (.cells [.p (.sl 1 (aI to))]), some (.cells zTm), some (.cells [iA 0]), some (.cells [.fn (.func 100) [] [.ptr (h.length + 1) 0]])] := ⟨_, rfl⟩;have hlen : H.length = h.length + 5 := by rw [hH]; simp
 have hwf : WF H := by rw [hH]; exact hh.app aA
 have e1 : H[h.length + 1]? = some (some (.cells [.p (.sl 1 (aI to))])) := by rw [hH]; simp
 have e4 : H[h.length + 4]? = some (some (.cells [.fn (.func 100) [] [.ptr (h.length + 1) 0]])) := by rw [hH]; simp
 have hbuild := kR (bX (pZ to)) 145 rfl [.ptr (h.length + 4) 0] (Dom 65536) Dom.one Dom.two t.size t 0 0 (fun _ => H) (h.length + 5) (bBh _) hd (fun _ => hlen) (fun _ => hwf) aA
  (fun s t d l hd hw => aBm (pZ to) 100 rfl [.ptr (h.length + 1) 0] (fun _ => H) (h.length + 5) (h.length + 4) (fun _ => hlen) (fun _ => hwf) aA (fun _ => e4) s t d l hd.lv
   (fun l hk hw => (aL4 (H ++ l) hw to hl (h.length + 1) ((idf e1).1 l) t d s hd hk).mono fun _ _ hp => RPost.of_const (B := fun _ => H) (s := s) (fun _ => rfl) hp) hw)
 have hvar := gU (h ++ [some (.cells (t.cells.map .p)), some (.cells [.p (.sl 1 (aI to))]), some (.cells zTm), some (.cells [iA 0])]) (hh.app aA) 100 [.ptr (h.length + 1) 0] aA;rw [aFl to t 0 0 65536 (by simpa using hd.1)] at hbuild;obtain ⟨r, hr⟩ : ∃ r, r = cL to t := ⟨_, rfl⟩;rw [<- hr];unfold cL at hr;generalize aB4 to 0 t = q at hr hbuild;generalize fC to 0 t = bad at hr hbuild;rw [hH] at hbuild;clear hH hlen hwf e1 e4;obtain ⟨k, i, nm, ls, ks⟩ := t;obtain ⟨k', i', nm', ls', ks'⟩ := q;refine ACalls.of_runD Tryz.func55 rfl ?_;simp only [Tryz.ntmps55, bBm, bBn, Tm.av, cells_mk, List.map] at hvar hbuild ⊢;refine znrr ?_;refine Run.defer (i := 98) (first := []) (cap := [.ptr (h.length + 2) 0, .ptr (h.length + 3) 0]) rfl rfl rfl aA ?_;refine zo ?_
 cases bad with
 | true =>
  simp only [if_true] at hr hbuild;subst hr;have hb2 := hbuild.mono (R' := fun o h' => o = .panic (.p (errP 24)) /\ h' = _) (fun _ _ hp => hp);refine nv ?_;refine Run.drawPanic [0, 0, 0, 1, 2, 3] [0, 0, 0, 0, 0, 0] [0, 1, 0, 7, 15, 31] [0, 1, 2] 3 aC aC ?_;refine ye ?_;refine ⟨_, _, _, [.agg [.fn (.func 145) [] [.ptr (h.length + 4) 0]], (Tm.mk k i nm ls ks).av, iA 0], _, _, rfl, rfl, rfl, by simp, rfl, hb2, ?_⟩;intro T' hT;have hT4 := hT 4 aA;have hT5 := hT 5 aA;simp at hT4 hT5;simp only [aIx];refine ⟨by simp, rfl, _, aEp _ (hh.app aA) (h.length + 2) (h.length + 3) (by simp; exact ⟨rfl, rfl, rfl, rfl, rfl⟩) aE aB 24, ?_⟩;simp;refine Fin.ret' (h0 := h) (xs := [.agg zTm, iA 24]) aA rfl hh rfl (by simp [hT4, hT5]) rfl (Weak.tup (WeakL.cons Weak.zT (WeakL.refl _))) aA ⟨rfl, rfl⟩
 | false =>
  simp only [bBy, if_false] at hr hbuild;subst hr;have hb2 := hbuild.mono (R' := fun o h' => o = .ret (Tm.mk k' i' nm' ls' ks').av /\ h' = _) (fun _ _ hp => hp);refine nv ?_;refine Run.draw [0, 0, 0, 1, 2, 3] [0, 0, 0, 1, 2, 3] [0, 1, 0, 7, 15, 31] [0, 1, 2, 3, 4, 5] aC aC ?_;refine ye ?_;refine DR.call (args := [.agg [.fn (.func 145) [] [.ptr (h.length + 4) 0]], (Tm.mk k i nm ls ks).av, iA 0]) rfl rfl rfl aA rfl hb2 ?_;refine zd ?_;refine y8 ?_;refine znx ?_;simp only [aIx];refine ⟨by simp, rfl, _, aHo _ (hh.app aA) (h.length + 2) (h.length + 3), ?_⟩;exact y1p

theorem aLl (to : List Int) (_hl : to.length <= 1048576) (hto : ∀ x ∈ to, -9223372036854775808 <= x /\ x <= 9223372036854775807) (nodes : Int) (N : Nat) :
  ∀ (t : Tm) (depth err : Int) (h : Heap) (id : Nat), t.size <= N -> t.size <= 1048576 -> t.idx -> 0 <= depth -> depth + t.size <= 1099511627776 -> WF h -> h[id]? = some (wk err nodes) ->
  ACalls Tryz.prog 106 [.ptr id 0, t.av, .p (.sl 1 (aI to)), iA depth] h fun o h' => o = .ret (aB4 to depth t).av /\ h' = h.set id (wk (errIf (fC to depth t) err) nodes) := by
 induction N with
 | zero => intro t _ _ _ _ hN; have := t.size_pos; omega
 | succ N ih =>
 intro t depth err h id hN hB hidx hdp hdB hh hid;obtain ⟨g1, g2, g3, g4, g5, hlt⟩ := idf hid;obtain ⟨r, hr⟩ : ∃ r, r = aB4 to depth t := ⟨_, rfl⟩;obtain ⟨rb, hrb⟩ : ∃ r, r = fC to depth t := ⟨_, rfl⟩;rw [<- hr, <- hrb];obtain ⟨k, i, n, ls, ks⟩ := t;simp only [aB4] at hr;simp only [fC] at hrb;simp only [Tm.size] at hN hB hdB;simp only [Tm.idx] at hidx;refine ACalls.of_run Tryz.func106 rfl ?_;simp only [Tryz.ntmps106, bBm, bBn, Tm.av, cells_mk, List.map];refine znrr ?_
 by_cases hk0 : k = 0
 ·subst hk0;obtain ⟨hi1, hi2⟩ := hidx.1 rfl;rw [if_pos rfl] at hr hrb;have hw : IntKind.i64.wrap (i - depth) = i - depth := wrap_id aB aB;refine zn ?_;refine yi ?_
  by_cases c1 : i < depth
  ·rw [if_pos c1] at hr hrb;subst hr;subst hrb;refine znt1rx c1 ?_;refine Fin.ret' (h0 := h) aA rfl hh rfl aE rfl (Weak.of_eq aA) aA ⟨rfl, by simp [errIf, fM hid]⟩
  rw [if_neg c1] at hr hrb;have c0 : ¬ i - depth < 0 := aB;refine aD8 c1 ?_;refine zr1 hw ?_
  cases hx : to[(i - depth).toNat]? with
  | none =>
   rw [hx] at hr hrb;simp only at hr hrb;subst hr;subst hrb;rw [bE2] at hx;have c2 : (to.length : Int) <= i - depth := aB;refine znr1tr c2 ?_;exact y2g
  | some x =>
   rw [hx] at hr hrb;simp only at hr hrb;have hxl := (bBg.1 hx).1;have hxb := hto x (bBu hx);have c2 : ¬ (to.length : Int) <= i - depth := aB;have hw2 : IntKind.i64.wrap (65535 - depth) = 65535 - depth := wrap_id aB aB
   by_cases c3 : x < 0
   ·rw [if_pos (.inl c3)] at hr;rw [decide_eq_true (p := x < 0 \/ 65535 - depth < x) (.inl c3)] at hrb;subst hr;subst hrb;refine zn ?_;refine zr4 c2 c0 hx c3 ?_;refine yi ?_;exact y2g
   by_cases c4 : 65535 - depth < x
   ·rw [if_pos (.inr c4)] at hr;rw [decide_eq_true (p := x < 0 \/ 65535 - depth < x) (.inr c4)] at hrb;subst hr;subst hrb;refine zn ?_;refine zr6 c2 c0 hx c3 hw2 c4 ?_;refine yi ?_;exact y2g
   rw [if_neg aB] at hr;rw [decide_eq_false (p := x < 0 \/ 65535 - depth < x) aB] at hrb;subst hr;subst hrb;have hw3 : IntKind.i64.wrap (x + depth) = x + depth := wrap_id aB aB;have c5 : ¬ 65535 < x + depth := aB;refine zn ?_;refine zr6 c2 c0 hx c3 hw2 c4 ?_;refine zf ?_;refine zr3 hx c0 hw3 ?_;generalize x + depth = z at c5;refine rl (args := [.ptr id 0, iA z]) rfl aF aA rfl (iY _ (hh.app aA) id err nodes z (g1 _)) ?_;simp only [if_neg c5, g2];refine aY8 ?_;refine zx ?_;refine Fin.ret' (h0 := h.set id (wk err nodes)) aA aA (hh.set aA) rfl aE rfl (Weak.of_eq (by simp [vr])) aA ⟨rfl, by simp [errIf]⟩
 ·rw [if_neg hk0] at hr hrb;subst hr;subst hrb;refine znf1r hk0 ?_;refine zr ?_;refine Run.tok 10 5 aA ?_;simp
  refine Run.loopS [0, 2, 3, 5, 8] (fun j : Nat => j <= ks.length) (fun j => ks.length - j) (fun j => [(10, .own (h.length + 2) 5 (aP (yH to depth k 0 (ks.take j)))), (11, iA j)])
   (fun j => h.set id (wk (errIf (cI to depth k 0 (ks.take j)) err) nodes) ++ [some (.cells [iA k, iA i, .p (sP n), .p (.sl 2 (bR ls)), .p (.sl 5 (aP ks))]), some (.cells zTm), some (.tok j 5)])
   0 aA ?_ ?_ ?_
  ·simp [yH, aP];exact y1j
  ·simp [cI, errIf, fM hid]
  ·intro j hj IH;refine eU ?_
   by_cases hjl : j < ks.length
   ·refine znt1 hjl ?_;have hg : ks[j]? = some ks[j] := bBf hjl;have hbz := oV k j;have hs := dR ks j _ hg;have hs2 := bQ ks (j + 1);have hs3 := aR ks;refine y9 ?_;refine zd1 hg ?_;refine DR.call (args := [.ptr id 0, ks[j].av, .p (.sl 1 (aI to)), iA (depth + aJ k j)]) rfl rfl rfl aA rfl (ih ks[j] (depth + aJ k j) (errIf (cI to depth k 0 (ks.take j)) err) _ id aB aB (Tm.idxs_at hidx.2 _ (bBi hjl)) aB aB (WF.app (WF.set hh aA) aA) (g4 _ _)) ?_;have hmin : min j ks.length = j := bCw hj;have hb1 : (j + 1) * 80 <= 140737488355328 := aB;have hb2 : j + 1 <= 9223372036854775807 := aB;refine bB8 g5 hmin hb1 hb2 ?_;refine y8 ?_;refine znr ?_;have htk : ks.take (j + 1) = ks.take j ++ [ks[j]] := bBq hjl;refine IH (j + 1) _ _ aB aB ?_ ?_
    ·rw [htk, yJ, qP];simp [hmin];exact y1j
    ·rw [htk, nI, <- kC];simp only [bC7, hmin, bCg]
   ·have hje : j = ks.length := aB;subst hje;refine aDa ?_;refine Fin.ret' (h0 := h.set id (wk (errIf (cI to depth k 0 ks) err) nodes)) aA aA (hh.set aA) rfl aE rfl ?_ ?_ ⟨rfl, rfl⟩
    ·refine Weak.agg ?_;exact y1j
    ·simp
theorem tI (h : Heap) (hh : WF h) (t : Tm) (to : List Int) (hl : to.length <= 1048576) (hto : ∀ x ∈ to, -9223372036854775808 <= x /\ x <= 9223372036854775807) (hsz : t.size <= 1048576) (hix : t.idx) :
  AC 60 [t.av, .p (.sl 1 (aI to))] h (.tup [(cL to t).1.av, iA (cL to t).2]) := by
 have hw := fun (g : Heap) (hg : WF g) (id : Nat) (hid : g[id]? = some (wk 0 0)) => aLl to hl hto 0 t.size t 0 0 g id (bBh _) hsz hix aB aB hg hid
 obtain ⟨r, hr⟩ : ∃ r, r = cL to t := ⟨_, rfl⟩;rw [<- hr];unfold cL at hr;generalize fC to 0 t = bad at hr hw;generalize aB4 to 0 t = q at hr hw;obtain ⟨k, i, n, ls, ks⟩ := t;obtain ⟨qk, qi, qn, qls, qks⟩ := q;refine ACalls.of_run Tryz.func60 rfl ?_;simp only [Tryz.ntmps60, bBm, bBn, Tm.av, cells_mk, List.map];refine aIv ?_;refine rl (args := [.ptr (h.length + 2) 0, (Tm.mk k i n ls ks).av, .p (.sl 1 (aI to)), iA 0]) rfl aF aA rfl (hw _ (hh.app aA) (h.length + 2) aA) ?_;refine zo ?_
 cases bad with
 | true =>
  simp only [if_true] at hr;subst hr;refine zn ?_;refine zrv9 ?_;refine zt ?_;refine yw ?_;refine y8 ?_;refine znx ?_;refine Fin.ret' (h0 := h) (xs := [.agg zTm, iA 24]) aA rfl hh rfl aA rfl (Weak.tup (WeakL.cons Weak.zT (WeakL.refl _))) aA ⟨rfl, rfl⟩
 | false =>
  simp only [bBy, if_false] at hr;subst hr;refine zn ?_;refine bBa ?_;refine y12 ?_;refine zx ?_;exact y1p


open Go Go.AI
def dZ (n i : Int) (order : List Int) : Nat -> Int
 | 0 => -1
 | k + 1 => if order[k]? = some (n - 1 - i) then (order.length : Int) - 1 - k else dZ n i order k
def dF (n : Int) (order : List Int) : Nat -> List Int
 | 0 => []
 | j + 1 => dF n order j ++ [dZ n j order order.length]
theorem gO (n : Int) (order : List Int) : ∀ j, (dF n order j).length = j
 | 0 => rfl
 | j + 1 => by simp [dF, gO n order j]
theorem lM (n i : Int) (order : List Int) : ∀ k, k <= order.length -> -1 <= dZ n i order k /\ dZ n i order k <= order.length
 | 0, _ => by simp only [dZ]; omega
 | k + 1, h => by
  have := lM n i order k aB;simp only [dZ];split <;> omega
theorem pU (h : Heap) (hh : WF h) (n : Nat) (order : List Int) (hn : n <= 1000) (hl : order.length <= 1000) :
  AC 61 [iA n, .p (.sl 1 (aI order))] h (.p (.sl 1 (aI (dF n order n)))) := by
 have hkl : (aI order).length = order.length := by simp [aI]
 refine nU Tryz.func61 Tryz.ntmps61 ?_;refine Run.tok 5 1 aA ?_;refine eU ?_;refine Run.loopS [0, 1] (fun j : Nat => j <= n) (fun j => n - j) (fun j => [(5, .own h.length 1 (aI (dF n order j))), (6, iA j)]) (fun j => h ++ [some (.tok j 1)]) 0 aA ?_ aA ?_
 ·simp [dF, aI];exact y1j
 intro j hj IH;refine eU ?_
 by_cases hjl : j < n
 ·have hpl := gO n order j;have hb1 : (j + 1) * 8 <= 140737488355328 := aB;have hb2 : j + 1 <= 9223372036854775807 := aB;have hsn : dF n order (j + 1) = dF n order j ++ [dZ n j order order.length] := rfl;have hpk := fun k => lM n j order k
  have hps : ∀ k, dZ n j order (k + 1) = if order[k]? = some ((n : Int) - 1 - j) then (order.length : Int) - 1 - k else dZ n j order k := fun _ => rfl
  have hp0 : dZ n j order 0 = -1 := rfl;have hil : (aI (dF n order j)).length = j := by simp [aI, hpl]
  generalize dF n order j = L at hpl hsn hil ⊢;generalize dZ (n : Int) j order = F at hpk hps hp0 hsn;refine nV hjl ?_;refine zr ?_;refine Run.loopS [0, 1, 5, 6] (fun k : Nat => k <= order.length) (fun k => order.length - k) (fun k => [(7, iA (F k)), (8, iA k)]) (fun _ => _) 0 aA ?_ rfl ?_
  ·simp [hp0];exact y1j
  intro k hk IH2;refine wC hkl ?_
  by_cases hkl2 : k < order.length
  ·have hg : order[k]? = some order[k] := bBf hkl2;have hgi : (aI order)[k]? = some [iP order[k]] := by simp [aI, hg]
   generalize order[k] = b at hg hgi;have hgq : ∀ q : k < (aI order).length, (aI order)[k]'q = [iP b] := fun q => by rw [bBf q] at hgi; exact bD0 hgi
   have hpk1 := hps k;rw [hg] at hpk1;refine znt1 hkl2 ?_
   by_cases hb : b = (n : Int) - 1 - j
   ·have hbb : (b == (n : Int) - 1 - j) = true := by simpa using hb
    refine zn ?_;refine zr3 hgq hkl hkl2 ?_;refine zt1 hb ?_;refine zr1 hkl ?_;refine zr ?_;refine IH2 (k + 1) _ _ aB aB ?_ rfl;rw [hpk1, if_pos (by rw [hb])];simp;exact y1j
   ·have hbb : (b == (n : Int) - 1 - j) = false := by simpa using hb
    refine zn ?_;refine zr3 hgq hkl hkl2 ?_;refine zf1 hb ?_;refine zr ?_;refine IH2 (k + 1) _ _ aB aB ?_ rfl;rw [hpk1, if_neg (by simpa using hb)];simp;exact y1j
  ·have hke : k = order.length := aB;subst hke;refine znfen ?_;refine zr3 hb1 hb2 hil ?_;refine zr ?_;refine Run.keep [0, 1, 5, 6] ?_;simp only [keepT, keepT.go, List.contains_cons];simp;refine IH (j + 1) _ _ aB aB ?_ aA;rw [hsn];simp [aI];exact y1j
 ·have hje : j = n := aB;subst hje;refine jB ?_;exact Fin.ret' (h0 := h) (xs := [.own h.length 1 (aI (dF j order j))]) aA rfl hh rfl aA rfl (Weak.own _ _ _) aA ⟨rfl, rfl⟩


open Go Go.AI
theorem aJ7 (n : Int) (h0 : 0 <= n) (h1 : n < 4294967296) : ((BitVec.ofInt 64 n &&& 4294967295#64).toNat : Int) = n := by
 obtain ⟨k, rfl⟩ : ∃ k : Nat, n = k := ⟨n.toNat, (Int.toNat_of_nonneg h0).symm⟩;have h2 : k < 4294967296 := aB
 have e : (BitVec.ofInt 64 (k : Int)).toNat = k := by
  rw [BitVec.toNat_ofInt];omega
 rw [BitVec.toNat_and, e];have : (4294967295#64).toNat = 2 ^ 32 - 1 := rfl;rw [this, Nat.and_two_pow_sub_one_eq_mod];omega
abbrev uA (k : IntKind) (n : Int) : AV := .p (.prim (.int k n))
theorem aEd (n : Int) (h0 : 0 <= n) (h1 : n < 1048577) (h : Heap) (hh : WF h) : AC 193 [uA .u64 1, uA .u64 n] h (.tup [uA .u64 0, uA .u64 n]) := by
 have ha := aJ7 n h0 aB;have u1 : IntKind.u64.wrap ↑(1 % 2 ^ IntKind.u64.bits &&& 4294967295 % 2 ^ IntKind.u64.bits : Nat) = 1 := rfl;have u2 : Int.fdiv 1 (2 ^ min 32 IntKind.u64.bits) = 0 := rfl
 have uw : ∀ m : Int, 0 <= m -> m < 1048577 -> IntKind.u64.wrap m = m := fun m q0 q1 => by
  simp only [IntKind.wrap, IntKind.bits, IntKind.signed, Bool.false_and];simp;omega
 have u3 : IntKind.u64.wrap ↑((n % 2 ^ IntKind.u64.bits).toNat &&& 4294967295 % 2 ^ IntKind.u64.bits : Nat) = n := by
  have e : ((n % 2 ^ IntKind.u64.bits).toNat &&& 4294967295 % 2 ^ IntKind.u64.bits) = (BitVec.ofInt 64 n &&& 4294967295#64).toNat := by
   rw [BitVec.toNat_and, BitVec.toNat_ofInt]
   rfl
  rw [e, ha];exact uw n h0 h1
 have u4 : n.fdiv (2 ^ min 32 IntKind.u64.bits) = 0 := by
  rw [Int.fdiv_eq_ediv_of_nonneg _ aD];exact Int.ediv_eq_zero_of_lt h0 (by simp [IntKind.bits]; omega)
 have w0 : IntKind.u64.wrap 0 = 0 := rfl;have wn := uw n h0 h1;have f0 : Int.fdiv 0 (2 ^ min 32 IntKind.u64.bits) = 0 := rfl;have z1 : IntKind.u64.wrap ↑(0 % 2 ^ IntKind.u64.bits &&& 4294967295 % 2 ^ IntKind.u64.bits : Nat) = 0 := rfl;refine zE Tryz.func193 Tryz.ntmps193 ?_;refine wB u1 ?_;refine zr1 u2 ?_;refine zr1 u3 ?_;refine zr1 u4 ?_;refine aWk ?_;refine zr2 u4 w0 ?_;refine zr1 w0 ?_;refine zr1 f0 ?_;refine zr1 w0 ?_;refine zr2 f0 w0 ?_;refine aWk ?_;refine zx ?_;exact y1z
theorem aEc (n : Int) (h0 : 0 <= n) (h1 : n < 1048577) (h : Heap) (hh : WF h) : AC 147 [uA .u64 1, uA .u64 n] h (.tup [uA .u64 0, uA .u64 n]) := by
 have c1 := aEd n h0 h1 h hh;refine zER Tryz.func147 Tryz.ntmps147 ?_;refine y12 ?_;refine zL (c1) ?_;refine zorx ?_;exact y2c

end Go.Proofs.YtfajdeofhioakaaGreat
