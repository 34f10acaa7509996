import Derived.Test.YtfajdeofhioakaaGreatJA0
import Derived.Test.YtfajdeofhioakaaGreatJX0
import Derived.Test.YtfajdeofhioakaaGreatJN1
import Derived.Test.YtfajdeofhioakaaGreatJFV
import Derived.Test.YtfajdeofhioakaaGreatJG1
import Derived.Test.YtfajdeofhioakaaGreatJFF
set_option maxRecDepth 8000
set_option maxHeartbeats 16000000

namespace Go.Proofs.YtfajdeofhioakaaGreat

open Go Go.AI Go.MapKept
def lF (l : List Int) : List (Value × Value) := l.map fun z => (Value.int .i64 z, Value.bool true)
theorem xO (l : List Int) (z : Int) : lF l ++ [(.int .i64 z, .bool true)] = lF (l ++ [z]) := by simp [lF]
theorem pP (l : List Int) (z : Int) : Value.int .i64 z ∈ (lF l).map Prod.fst ↔ z ∈ l := by simp [lF]
theorem xP (l : List Int) : ∀ x ∈ lF l, IsKey (.int .i64) x.1 := by
 intro x hx;obtain ⟨z, _, rfl⟩ := bCb.1 hx
 rfl
theorem aAo (l : List Int) (z : Int) : oO (lF l) (.int .i64 z) (.bool false) (.bool (decide (z ∈ l))) (decide (z ∈ l)) := by
 by_cases h : z ∈ l
 ·left;rw [pP];refine ⟨by simp [h], fun v' hv => ?_, h⟩;obtain ⟨y, _, e⟩ := bCb.1 hv;simp only [bBz] at e;rw [<- e.2]; simp [h]
 ·right;rw [pP];exact ⟨by simp [h], h, by simp [h]⟩
theorem aE7 (l : List Int) (z : Int) : aI l ++ [[iP z]] = aI (l ++ [z]) := by simp [aI]
theorem sN (l : List Int) : ∀ e ∈ aI l, e.length = 1 := by
 intro e he;obtain ⟨z, _, rfl⟩ := bCb.1 he
 rfl
theorem aJr (h : Heap) (hh : WF h) (t : Tm) (hfit : t.fit) (hsz : t.size <= 1099511627776) : AC 28 [t.av] h (.p (.sl 1 (aI (eW t)))) := by
 have hno := sQ (h ++ [some (.cells (t.cells.map .p)), some (.aux (.map [])), some (.cells [.mp (h.length + 1)]), some (.cells [.vec (h.length + 4) 0]), some (.vec 1 [])]) (hh.app (by simp [AO.under, AV.under])) t;have hvf := aD3 t [] 0 hfit aB;have hsf := aI9 (dN 0 t);have hfl := kX t 0;obtain ⟨F, hF⟩ : ∃ F, F = dN 0 t := ⟨_, rfl⟩;have hpre : aSm F t 0 := ⟨hfit, by omega, by omega, by rw [hF]; exact fun _ h => h⟩;have hfz : eW t = F.foldl mA [] := by rw [hF]; rfl
 rw [hfz];rw [<- hF] at hvf hsf hfl;have hlvL : LvF F (F.foldl nW []) := ⟨iQ F [] List.nodup_nil, fun x hx => by simpa using (lK F [] x).1 hx⟩;have hlL := lL hlvL.1 hlvL.2;rw [<- hsf];generalize hLe : F.foldl nW [] = L at hvf hlvL hlL ⊢;obtain ⟨k, i, nm, ls, ks⟩ := t;refine ACalls.of_runM Tryz.func28 rfl ?_;simp only [Tryz.ntmps28, bBm, bBn, Tm.av, cells_mk, List.map] at hno ⊢;refine znr ?_;refine Run.regPre 0 fun K J => ?_
 simp only [bDx];simp;refine zi ?_; clear J;simp only [bBo, List.drop_zero];refine Run.makeMap rfl rfl ?_;refine zor ?_;refine Run.vecAt (h.length + 3) 0 1 (cs := [.p (.prim (.slice none 0 0))]) aA rfl ?_;refine eU ?_;refine zL (hno) ?_;refine zo ?_;refine Run.keep [1, 3, 4, 10] ?_;simp;refine Run.rangeG (gf := 132) (cap := [.ptr (h.length + 5) 0]) aA rfl fun y Tl ag' bd' hT hag hbd => ?_
 have hTu : ∀ k, AV.underL (h.length + (6 + k)) Tl = true := fun k => by rw [hT]; simp; omega
 obtain ⟨tc, htc⟩ : ∃ tc : List AV, tc = [.p (iP k), .p (iP i), .p (sP nm), .p (.sl 2 (bR ls)), .p (.sl 5 (aP ks))] := ⟨_, rfl⟩;have htu : ∀ n, AV.underL n tc = true := fun n => by rw [htc]; simp
 obtain ⟨B, hB⟩ : ∃ B : List Int -> Heap, B = fun l => h ++ [some (.cells tc), some (.aux (.map (lF l))), some (.cells [.mp (h.length + 1)]), some (.cells [.vec (h.length + 4) l.length]), some (.vec 1 (aI l)), some (.cells tc), some (.aux .dblk), some (.aux (.loop y .ready none Tl #[11, 12] ag' bd'))] := ⟨_, rfl⟩
 obtain ⟨Z, hZ⟩ : ∃ Z : List Int -> Nat -> List Int -> Heap, Z = fun m n l => h ++ [some (.cells tc), some (.aux (.map (lF m))), some (.cells [.mp (h.length + 1)]), some (.cells [.vec (h.length + 4) n]), some (.vec 1 (aI l)), some (.cells tc), some (.aux .dblk), some (.aux (.loop y .busy none Tl #[11, 12] ag' bd'))] := ⟨_, rfl⟩
 have hlen : ∀ s, (B s).length = h.length + 8 := fun s => by rw [hB]; simp
 have hlenZ : ∀ m n l, (Z m n l).length = h.length + 8 := fun m n l => by rw [hZ]; simp
 have hwf : ∀ s, WF (B s) := fun s => by rw [hB]; exact hh.app (by simp [AO.under, AV.under, hTu 2, htu])
 have hat : ∀ c (l : List (Option AO)), Heap.at (B c ++ l) (h.length + 7) = some (.aux (.loop y .ready none Tl #[11, 12] ag' bd')) := fun c l => by rw [hB]; simp
 have hatZ : ∀ m n c (l : List (Option AO)), Heap.at (Z m n c ++ l) (h.length + 7) = some (.aux (.loop y .busy none Tl #[11, 12] ag' bd')) := fun m n c l => by rw [hZ]; simp
 have hbusy : ∀ c (l : List (Option AO)), (B c ++ l).set (h.length + 7) (some (.aux (.loop y .busy none Tl #[11, 12] ag' bd'))) = Z c c.length c ++ l := fun c l => by rw [hB, hZ]; simp
 have hnorm : ∀ c (l : List (Option AO)), (Z c c.length c ++ l).set (h.length + 7) (some (.aux (.loop y .ready none Tl #[11, 12] ag' bd'))) = B c ++ l := fun c l => by rw [hB, hZ]; simp
 have c1 : ∀ m n c (l : List (Option AO)), Heap.at (Z m n c ++ l) (h.length + 1) = some (.aux (.map (lF m))) := fun m n c l => by rw [hZ]; simp
 have c2 : ∀ m n c (l : List (Option AO)), (Z m n c ++ l)[h.length + 2]? = some (some (.cells [.mp (h.length + 1)])) := fun m n c l => by rw [hZ]; simp
 have c3 : ∀ m n c (l : List (Option AO)), (Z m n c ++ l)[h.length + 3]? = some (some (.cells [.vec (h.length + 4) n])) := fun m n c l => by rw [hZ]; simp
 have c4 : ∀ m n c (l : List (Option AO)), Heap.at (Z m n c ++ l) (h.length + 4) = some (.vec 1 (aI c)) := fun m n c l => by rw [hZ]; simp
 have s1 : ∀ m n c z (l : List (Option AO)), (Z m n c ++ l).set (h.length + 1) (some (.aux (.map (lF m ++ [(.int .i64 z, .bool true)])))) = Z (m ++ [z]) n c ++ l := fun m n c z l => by rw [hZ, xO]; simp
 have s3 : ∀ m n n' c (l : List (Option AO)), (Z m n c ++ l).set (h.length + 3) (some (.cells [.vec (h.length + 4) n'])) = Z m n' c ++ l := fun m n n' c l => by rw [hZ]; simp
 have s4 : ∀ m n c z (l : List (Option AO)), (Z m n c ++ l).set (h.length + 4) (some (.vec 1 (aI c ++ [[iP z]]))) = Z m n (c ++ [z]) ++ l := fun m n c z l => by rw [hZ, aE7]; simp
 have glZ : ∀ m n c (l l' : List (Option AO)), (Z m n c ++ (l ++ l'))[h.length + 8 + l.length]? = l'[0]? := fun m n c l l' => by rw [dC (hlenZ m n c), aGg]
 have htk : ∀ s (l l' : List (Option AO)), (B s ++ (l ++ l')).take (h.length + 8 + l.length) = B s ++ l := fun s l l' => by rw [<- bC3, show h.length + 8 + l.length = (B s ++ l).length by rw [bBp, hlen], take_last]
 have hit := aGp qH y (h.length + 5) (aSm F) (aKv F) (LvF F) (aV5 F) (.mk k i nm ls ks) [] B (h.length + 8) ⟨List.nodup_nil, by simp⟩ hpre hsz hlen hwf (fun s => by rw [hB, htc]; simp)
  (fun s d u l hs hp hw => by
   refine AYield.of_run (hat s l) aA ?_;refine Run.codeEq hag ?_;refine Run.tEq (congrArg (fun T => eJ T _ _) hT) ?_;obtain ⟨uk, ui, un, uls, uks⟩ := u;refine eU ?_;refine zr1 hlen ?_;refine Run.nil ⟨rfl, rfl, hat _ _, ?_⟩;rw [hbusy];refine Run.codeEq hbd ?_;have hsl := lL hs.1 hs.2
   have hw2 : ∀ s, WF (B s ++ l) := fun s => by
    refine (hwf s).app ?_;have := hw.all;rw [bDt, bBs, bBp, hlen] at this;rw [hlen]; exact this.2
   obtain ⟨z, hz⟩ : ∃ z, IntKind.i64.wrap (ui - d) = z := ⟨_, rfl⟩;obtain ⟨q, hq⟩ : ∃ q, q = (uk == 0 && decide (d <= ui)) := ⟨_, rfl⟩
   have hst : qH s d (.mk uk ui un uls uks) = (if q = true then nW s z else s, true) := by
    rw [hq, <- hz]; rfl
   rw [hst, hlen];refine zn ?_;refine zr2 glZ hz ?_;refine Run.regPreJ 9 [3, 4, 5, 6, 7] 25 (uk == 0 && decide (d <= ui)) (fun K J => ?_) ?_
   ·refine yj ?_;simp [glZ];exact y1f
   simp only [setMany, keepT, keepT.go, List.contains_cons, bDw, bDl, bDp, List.drop_zero];simp;rw [<- hq];clear hq
   cases q with
   | false =>
    refine zo ?_;refine zf ?_;refine Run.nil ?_;refine ⟨none, h.length + 8 + l.length, rfl, rfl, bBh _, by simp [hlenZ], hatZ _ _ _ _, ?_, ?_⟩
    ·refine y14 ?_;have := (hw2 s).all
     rwa [bBp, hlen] at this
    ·refine y14 ?_;exact ⟨rfl, rfl⟩
   | true =>
    refine Run.opsPre 3 fun K J => ?_
    refine yj ?_;simp [c2];refine zi ?_; clear J;refine yd ?_;refine Run.lookup (kt := 3) (et := 4) (d := .int .i64) (id := h.length + 1) (kvs := lF s) (key := .int .i64 z) (z := .bool false) (.bool (decide (z ∈ s))) (decide (z ∈ s)) rfl (by simp [awanted]) Tryz.underlying140 Tryz.underlying3 (aD7 aC) aA (c1 _ _ _ _) (xP s) aA rfl (aAo s z) rfl ?_;simp
    by_cases hzs : z ∈ s
    ·refine zo1 hzs ?_;refine zf ?_;refine Run.nil ?_;refine ⟨none, h.length + 8 + l.length, rfl, rfl, bBh _, by simp [hlenZ], hatZ _ _ _ _, ?_, ?_⟩
     ·refine y14 ?_;have := (hw2 s).all
      rwa [bBp, hlen] at this
     ·refine y14 ?_;exact ⟨by simp, by simp [nW, hzs]⟩
    ·refine zo1 hzs ?_;refine zt ?_;refine Run.regPre 2 fun K J => ?_
     refine yj ?_;simp [c2];refine zi ?_; clear J;refine yd ?_;refine Run.mapUpdate (kt := 3) (et := 4) (d := .int .i64) (id := h.length + 1) (kvs := lF s) (v := .bool true) (key := .int .i64 z) rfl (by simp [awanted]) Tryz.underlying140 Tryz.underlying3 aA (c1 _ _ _ _) (xP s) aA rfl (by rw [pP]; exact hzs) aA ?_;rw [s1];refine zo ?_;refine Run.regPre 3 fun K J => ?_
     refine yj ?_;simp [c3];refine zi ?_; clear J;refine yd ?_;refine Run.appendV (id := h.length + 4) (es := aI s) (ys := [[iP z]]) (sz := 1) (by_ := 8) (e := 3) rfl (by simp [awanted]) rfl rfl rfl rfl aA (c4 _ _ _ _) (sN s) aA aA aA (by simp; omega) (by simp; omega) ?_;rw [s4];refine zs ?_;refine zo2 c3 s3 ?_;refine Run.nil ?_;have hap : nW s z = s ++ [z] := by simp [nW, hzs]
     refine ⟨none, h.length + 8 + l.length, rfl, rfl, bBh _, by simp [hlenZ], hatZ _ _ _ _, ?_, ?_⟩
     ·rw [show stOf none = .ready from rfl, show s.length + 1 = (s ++ [z]).length by simp, hnorm, htk];have := (hw2 (s ++ [z])).all
      rwa [bBp, hlen] at this
     ·rw [show stOf none = .ready from rfl, show s.length + 1 = (s ++ [z]).length by simp, hnorm, htk];exact ⟨by simp, by simp [hap]⟩)
 rw [hvf] at hit;simp only at hit;have hB0 : B [] = (h ++ [some (.cells tc), some (.aux (.map [])), some (.cells [.mp (h.length + 1)]), some (.cells [.vec (h.length + 4) 0]), some (.vec 1 []), some (.cells tc)]) ++ [some (.aux .dblk), some (.aux (.loop y .ready none Tl #[11, 12] ag' bd'))] := by rw [hB]; simp [lF, aI]
 rw [htc] at hB0;refine ⟨_, hB0 ▸ hit, ?_⟩;rintro o h' ⟨rfl, rfl⟩;refine ⟨_, .ready, none, rfl, by rw [hB, htc]; simp [bDk], by simp, ?_⟩;rw [hB, htc];simp [bDk];have hcall : ∀ g : Heap, g.at (h.length + 4) = some (.vec 1 (aI L)) -> ACalls Tryz.prog 85 [.vec (h.length + 4) L.length] g fun o h' => o = .ret (.tup []) /\ h' = g.set (h.length + 4) (some (.vec 1 (aI (L.mergeSort fun x y => decide (x <= y))))) := fun g hg => aLa aP2 hg rfl aB
 have hml : (L.mergeSort fun x y => decide (x <= y)).length = L.length := aA;generalize (L.mergeSort fun x y => decide (x <= y)) = M at hcall hml ⊢;refine znr ?_;refine zL (hcall _ aA) ?_;refine zor ?_;refine Run.keep [2] ?_;simp;refine Run.freezeV 2 (id := h.length + 4) (n := L.length) (sz := 1) (es := aI M) aA aA (sN _) (by simp [hml]) ?_;simp;refine Run.ret ?_;refine ⟨by simp, ?_⟩;exact Fin.ret' (h0 := h) aA rfl hh aE aE rfl (Weak.refl _) rfl ⟨rfl, rfl⟩


open Go Go.AI
theorem aC9 (t : Tm) : ∀ x ∈ eW t, 0 <= x := fun x hx => pI t 0 x ((iL t x).1 hx)


open Go Go.AI

mutual
theorem aPe (vs : List Tm) : ∀ (t : Tm) (e n d : Int), 0 <= n -> 0 <= (kL vs e n d t).2.2
 | .mk k i nm ls ks, e, n, d, h => by
  simp only [kL];split
  ·exact h
  ·split
   ·split
    ·split
     ·simp only; omega
     ·simp only; omega
    ·simp only; omega
   ·exact vM vs ks e (n + 1) d k 0 aB
theorem vM (vs : List Tm) : ∀ (l : List Tm) (e n d k : Int) (idx : Nat), 0 <= n -> 0 <= (cS vs e n d k idx l).2.2
 | [], e, n, d, k, idx, h => h
 | t :: ts, e, n, d, k, idx, h => by
  simp only [cS];exact vM vs ts _ _ d k (idx + 1) (aPe vs t e n _ h)
end
theorem aLm (vs : List Tm) (hvl : vs.length <= 1048576) (hvs : ∀ v ∈ vs, v.size <= 1048576 /\ v.idx) (N : Nat) :
  ∀ (t : Tm) (depth err nodes : Int) (h : Heap) (id : Nat), t.size <= N -> t.size <= 1048576 -> t.idx -> 0 <= depth -> depth + t.size <= 1099511627776 -> 0 <= nodes -> WF h -> h[id]? = some (wk err nodes) ->
  ACalls Tryz.prog 194 [.ptr id 0, t.av, .p (.sl 5 (aP vs)), iA depth] h fun o h' => o = .ret (kL vs err nodes depth t).1.av /\ h' = h.set id (wk (kL vs err nodes depth t).2.1 (kL vs err nodes depth t).2.2) := by
 induction N with
 | zero => intro t _ _ _ _ _ hN; have := t.size_pos; omega
 | succ N ih =>
 intro t depth err nodes h id hN hB hidx hdp hdB hn0 hh hid;obtain ⟨g1, g2, g3, g4, g5, hlt⟩ := idf hid;obtain ⟨r, hr⟩ : ∃ r, r = kL vs err nodes depth t := ⟨_, rfl⟩;rw [<- hr];obtain ⟨k, i, n, ls, ks⟩ := t;simp only [kL] at hr;simp only [Tm.size] at hN hB hdB;simp only [Tm.idx] at hidx;refine ACalls.of_run Tryz.func194 rfl ?_;simp only [Tryz.ntmps194, bBm, bBn, Tm.av, cells_mk, List.map];refine wB g1 ?_
 by_cases hn4 : 4096 < nodes
 ·rw [if_pos hn4] at hr;subst hr;refine znt1rx hn4 ?_;refine Fin.ret' (h0 := h) aA rfl hh rfl aE rfl (Weak.of_eq aA) aA ⟨rfl, by simp [fM hid]⟩
 rw [if_neg hn4] at hr;refine aD8 hn4 ?_;have hw1 : IntKind.i64.wrap (nodes + 1) = nodes + 1 := wrap_id aB aB
 by_cases hk0 : k = 0
 ·subst hk0;obtain ⟨hi1, hi2⟩ := hidx.1 rfl;rw [if_pos rfl] at hr;have hwi : IntKind.i64.wrap (i - depth) = i - depth := wrap_id aB aB
  by_cases hdi : depth <= i
  ·rw [if_pos hdi] at hr;have hz0 : ¬ i - depth < 0 := aB
   cases hx : vs[(i - depth).toNat]? with
   | some x =>
    rw [hx] at hr;simp only at hr;have hxm := hvs x (bBu hx);have hxl := (bBg.1 hx).1;have hlt2 : i - depth < vs.length := aB;have hsz := fun (g : Heap) (hg : WF g) => oK x.size x g (bBh _) aB hg
    have hsh := fun (g : Heap) (hg : WF g) (hy : g[id]? = some (wk err (nodes + x.size))) => aF7 depth 0 aB aB aB aB (nodes + x.size) x.size x 0 err g id (bBh _) hxm.1 hxm.2 aB aB hg hy
    have hws : IntKind.i64.wrap (nodes + x.size) = nodes + x.size := wrap_id aB aB;generalize dH depth 0 0 x = q at hr hsh;generalize bG depth 0 0 x = bad at hr hsh;generalize x.size = z at hr hsz hsh hws;subst hr;obtain ⟨qk, qi, qn, qls, qks⟩ := q;obtain ⟨xk, xi, xn, xls, xks⟩ := x;refine zn ?_;refine zr3 hdi hwi hlt2 ?_;refine zt ?_;refine zr3 hwi hz0 hx ?_;refine Run.draw [0, 0, 0, 0, 0, 0, 1, 1, 1, 1] [0, 0, 0, 0, 0, 0, 0, 0, 0, 1] [0, 1, 3, 7, 0, 16, 63, 127, 255, 511] [4, 5, 0, 1, 2, 3, 6, 7, 8, 9] aC aC ?_;refine zd ?_;refine DR.call (args := [(Tm.mk xk xi xn xls xks).av]) rfl rfl rfl aA rfl (hsz _ (hh.app aA)) ?_;refine zd3 g1 g2 hws ?_;refine y8 ?_;refine znr ?_;refine rl (args := [.ptr id 0, (Tm.mk xk xi xn xls xks).av, iA depth, iA 0, iA 0]) rfl aF aA rfl (hsh _ ((hh.set aA).app aA) (g4 _ _)) ?_;simp only [g5];refine zox ?_;refine Fin.ret' (h0 := h.set id (wk (errIf bad err) (nodes + z))) aA aA (hh.set aA) rfl aE rfl (Weak.of_eq aA) aA ⟨rfl, rfl⟩
   | none =>
    rw [hx] at hr;simp only at hr;rw [bE2] at hx;have hlt2 : ¬ i - depth < vs.length := aB;have hwl : IntKind.i64.wrap (i - vs.length) = i - vs.length := wrap_id aB aB;refine zn ?_;refine zr3 hdi hwi hlt2 ?_;refine zf ?_;refine zr3 g1 g2 hw1 ?_;refine zr ?_;refine yi ?_;refine zt1 hdi ?_;refine zr1 hwl ?_;generalize i - (vs.length : Int) = z at hr;subst hr;refine rl (args := [.ptr id 0, iA z]) rfl aF aA rfl (iY _ ((hh.set aA).app aA) id err (nodes + 1) z (g4 _ _)) ?_;simp only [g5];refine aY8 ?_;refine zx ?_;refine Fin.ret' (h0 := h.set id (wk (if 65535 < z then firstErr err 24 else err) (nodes + 1))) aA aA (hh.set aA) rfl aE rfl (Weak.of_eq (by simp [vr])) aA ⟨rfl, by simp [errIf]⟩
  ·rw [if_neg hdi] at hr;subst hr;refine znr1f hdi ?_;refine zr3 g1 g2 hw1 ?_;refine zr ?_;refine yi ?_;refine zf1 hdi ?_;refine zr ?_;refine zx ?_;refine Fin.ret' (h0 := h.set id (wk err (nodes + 1))) aA aA (hh.set aA) rfl aE rfl (Weak.of_eq aA) aA ⟨rfl, rfl⟩
 ·rw [if_neg hk0] at hr;subst hr;have hkb : (k == 0) = false := by simpa using hk0
  refine znr1f hkb ?_;refine zr3 g1 g2 hw1 ?_;refine zr ?_;refine zf1 hk0 ?_;refine zr ?_;refine zr ?_;refine Run.tok 10 5 aA ?_;simp
  refine Run.loopS [0, 2, 3, 5, 8] (fun j : Nat => j <= ks.length) (fun j => ks.length - j) (fun j => [(10, .own (h.length + 2) 5 (aP (cS vs err (nodes + 1) depth k 0 (ks.take j)).1)), (11, iA j)])
   (fun j => h.set id (wk (cS vs err (nodes + 1) depth k 0 (ks.take j)).2.1 (cS vs err (nodes + 1) depth k 0 (ks.take j)).2.2) ++ [some (.cells [iA k, iA i, .p (sP n), .p (.sl 2 (bR ls)), .p (.sl 5 (aP ks))]), some (.cells zTm), some (.tok j 5)])
   0 aA ?_ ?_ ?_
  ·simp [cS, aP];exact zK
  ·simp [cS]
  ·intro j hj IH;refine eU ?_
   by_cases hjl : j < ks.length
   ·refine znt1 hjl ?_;have hg : ks[j]? = some ks[j] := bBf hjl;have hbz := oV k j;have hs := dR ks j _ hg;have hs2 := bQ ks (j + 1);have hs3 := aR ks;have hnn := vM vs (ks.take j) err (nodes + 1) depth k 0 aB;have hlen := nJ vs depth k (ks.take j) err (nodes + 1) 0;have hsn := tO vs depth k (ks.take j) err (nodes + 1) 0 ks[j];have hmin : min j ks.length = j := bCw hj;simp only [bC7, hmin, bCg] at hsn hlen;have htk : ks.take (j + 1) = ks.take j ++ [ks[j]] := bBq hjl;rw [<- htk] at hsn;generalize cS vs err (nodes + 1) depth k 0 (ks.take j) = R0 at hnn hlen hsn;obtain ⟨l0, e0, n0⟩ := R0;simp only at hnn hlen hsn;have hcall := fun (g : Heap) (hg : WF g) (hy : g[id]? = some (wk e0 n0)) => ih ks[j] (depth + aJ k j) e0 n0 g id aB aB (Tm.idxs_at hidx.2 _ (bBi hjl)) aB aB hnn hg hy
    generalize kL vs e0 n0 (depth + aJ k j) ks[j] = R1 at hsn hcall;obtain ⟨t1, e1, n1⟩ := R1;simp only at hsn hcall;refine y9 ?_;refine zd1 hg ?_;refine DR.call (args := [.ptr id 0, ks[j].av, .p (.sl 5 (aP vs)), iA (depth + aJ k j)]) rfl rfl rfl aA rfl (hcall _ (WF.app (WF.set hh aA) aA) (g4 _ _)) ?_;have hb1 : (j + 1) * 80 <= 140737488355328 := aB;have hb2 : j + 1 <= 9223372036854775807 := aB;refine zd4 g5 hlen hb1 hb2 ?_;refine y8 ?_;refine znr ?_;refine IH (j + 1) _ _ aB aB ?_ ?_
    ·rw [hsn, qP];exact zS
    ·rw [hsn]
   ·have hje : j = ks.length := aB;subst hje;refine aDa ?_;refine Fin.ret' (h0 := h.set id (wk (cS vs err (nodes + 1) depth k 0 ks).2.1 (cS vs err (nodes + 1) depth k 0 ks).2.2)) aA aA (hh.set aA) rfl aE rfl ?_ ?_ ⟨rfl, rfl⟩
    ·refine Weak.agg ?_;exact zK
    ·simp
theorem yG (h : Heap) (hh : WF h) (t : Tm) (vs : List Tm) (dp : Int) (hvl : vs.length <= 1048576) (hvs : ∀ v ∈ vs, v.size <= 1048576 /\ v.idx) (hsz : t.size <= 1048576) (hix : t.idx) (hout : (aO t vs dp).2 = 0 \/ (aO t vs dp).2 = 7 -> (kL vs 0 0 (cJ dp) t).1.size <= 1099511627776) :
  AC 149 [t.av, .p (.sl 5 (aP vs)), iA dp] h (.tup [(aO t vs dp).1.av, iA (aO t vs dp).2]) := by
 obtain ⟨r, hr⟩ : ∃ r, r = aO t vs dp := ⟨_, rfl⟩;rw [<- hr] at hout ⊢;unfold aO at hr
 by_cases hd0 : dp < 0
 ·rw [if_pos hd0] at hr;subst hr;obtain ⟨k, i, n, ls, ks⟩ := t;refine ACalls.of_run Tryz.func149 rfl ?_;simp only [Tryz.ntmps149, bBm, bBn, Tm.av, cells_mk, List.map];refine aDd hd0 ?_;exact y4p
 rw [if_neg hd0] at hr;have hcap : 0 <= cJ dp /\ cJ dp <= 65536 := by unfold cJ; split <;> omega
 have hw := fun (g : Heap) (hg : WF g) (id : Nat) (hid : g[id]? = some (wk 0 0)) => aLm vs hvl hvs t.size t (cJ dp) 0 0 g id (bBh _) hsz hix hcap.1 aB aB hg hid
 generalize kL vs 0 0 (cJ dp) t = R at hr hw hout;obtain ⟨q, e, nn⟩ := R;simp only at hr hw hout;have hmin : (if (65536 : Int) < dp then (65536 : Int) else dp) = cJ dp := rfl;generalize cJ dp = dd at hw hmin;have hdep := fun (g : Heap) (hg : WF g) (hs : q.size <= 1099511627776) => oZ q.size q g (bBh _) hs hg
 generalize q.depth = qd at hr hdep;obtain ⟨k, i, n, ls, ks⟩ := t;generalize hqs : q.size = qsz at hout hdep;obtain ⟨qk, qi, qn, qls, qks⟩ := q;refine ACalls.of_run Tryz.func149 rfl ?_;simp only [Tryz.ntmps149, bBm, bBn, Tm.av, cells_mk, List.map];refine znrr ?_;refine zf1 hd0 ?_;refine zr ?_;refine zr1 hmin ?_;refine rl (args := [.ptr (h.length + 2) 0, (Tm.mk k i n ls ks).av, .p (.sl 5 (aP vs)), iA dd]) rfl aF aA rfl (hw _ (hh.app aA) (h.length + 2) aA) ?_;refine zor ?_
 by_cases h4 : 4096 < nn
 ·rw [if_pos h4] at hr;subst hr;refine znt1rx h4 ?_;refine Fin.ret' (h0 := h) (xs := [.agg zTm, iA 5]) aA rfl hh rfl aA rfl (Weak.tup (WeakL.cons Weak.zT (WeakL.refl _))) aA ⟨rfl, rfl⟩
 rw [if_neg h4] at hr;refine znf1r h4 ?_
 by_cases h5 : e = 0
 ·rw [if_neg (by simp [h5])] at hr;refine aD8 h5 ?_
  have hqb : qsz <= 1099511627776 := by
   apply hout;rw [hr]
   by_cases h7 : 200 < (qd : Int)
   ·rw [if_pos h7]; exact .inr rfl
   ·rw [if_neg h7]; exact .inl rfl
  refine znr ?_;refine rl (args := [(Tm.mk qk qi qn qls qks).av]) rfl aF aA rfl (hdep _ (hh.app aA) hqb) ?_;refine zo ?_
  by_cases h7 : 200 < (qd : Int)
  ·rw [if_pos h7] at hr;subst hr;refine znt1rx h7 ?_;exact y4q
  ·rw [if_neg h7] at hr;subst hr;refine znf1r h7 ?_;refine zx ?_;exact y1p
 ·rw [if_pos h5] at hr;subst hr;refine znt1 h5 ?_;refine yw ?_;refine y8 ?_;refine znx ?_;exact y4r
theorem yF (h : Heap) (hh : WF h) (t : Tm) (vs : List Tm) (r : Tm × Int) (hc : ∀ g : Heap, WF g -> AC 149 [t.av, .p (.sl 5 (aP vs)), iA 0] g (.tup [r.1.av, iA r.2])) :
  AC 109 [t.av, .p (.sl 5 (aP vs))] h (.tup [r.1.av, iA r.2]) := by
 obtain ⟨t2, e⟩ := r;obtain ⟨k, i, nm, ls, ks⟩ := t;obtain ⟨k2, i2, nm2, ls2, ks2⟩ := t2;refine ACalls.of_run Tryz.func109 rfl ?_;simp only [Tryz.ntmps109, bBm, bBn, Tm.av, cells_mk, List.map];refine znrr ?_;refine rl (args := [(Tm.mk k i nm ls ks).av, .p (.sl 5 (aP vs)), iA 0]) rfl aF aA rfl (hc _ (hh.app aA)) ?_;refine zox ?_;exact y1p


open Go Go.AI
theorem rO (t : Tm) (vs : List Tm) (dp : Int) (hok : t.ok 65536) (hvo : ∀ v ∈ vs, v.ok 65536) : (aO t vs dp).1.lvs /\ (aO t vs dp).1.size <= 4096 := by
 by_cases h0 : dp < 0
 ·rw [aO, if_pos h0];exact ⟨by simp [zT, Tm.lvs, Tm.lvss], by simp [zT, Tm.size, Tm.sizes]⟩
 ·rw [eA t vs dp aB];have := aHw t vs (cJ dp) (by unfold cJ; split <;> omega) hvo hok;exact ⟨tB _ _ this.1, this.2⟩


open Go Go.AI
abbrev row (l : List Tm) (m : Nat) : Option AO := some (.cells (buf 5 (aP l) m))

end Go.Proofs.YtfajdeofhioakaaGreat
