import Derived.Test.YtfajdeofhioakaaGreatJA0
import Derived.Test.YtfajdeofhioakaaGreatJD
import Derived.Test.YtfajdeofhioakaaGreatJC
set_option maxRecDepth 8000
set_option maxHeartbeats 8000000

namespace Go.AI

open Go
theorem Run.joinA {P : Program} {rd : Option Nat} {nb : Nat} {k : List It} {T : List AV} {h : Heap} {D : List AD} {Q : AX -> List AV -> Heap -> List AD -> Prop} {c : Code} (keep : List Nat) (sets : List (Nat × AV)) (r : (∀ T', WeakL T' (setMany (keepT keep T) sets) -> Run P rd nb k T' h D Q) -> Run P rd nb (.code c :: k) T h D Q)
  (next : Run P rd nb k (setMany (keepT keep T) sets) h D Q) : Run P rd nb (.code c :: k) T h D Q := r fun _ hw => Run.weak hw next

end Go.AI

namespace Go.Proofs.YtfajdeofhioakaaGreat

open Go Go.AI
abbrev aF5 (a b : Bool) (l k w : Int) : List AV := [bA a, bA b, iA l, iA k, iA w]
def usesL : List AV := aF5 true false 0 0 (-1) ++ aF5 false false 0 0 (-1) ++ aF5 false false 1 0 (-1) ++ aF5 false true (-1) 0 (-1) ++ aF5 false false 0 2 (-1) ++ aF5 false false 0 2 1 ++ aF5 false false 0 2 1 ++ aF5 false false 0 2 1 ++
 aF5 false false 0 3 (-1) ++ aF5 false false 0 1 (-1) ++ aF5 false false 0 1 (-1) ++ aF5 false false 0 3 2 ++ aF5 true false 0 0 (-1)
@[simp] theorem st200 : stT Tryz.prog 200 = some ((List.range 13).map fun i => (i * 5, 5)) := aC
theorem aD2 (h : Heap) (hh : WF h) : AC 133 [] h (.agg usesL) := by
 refine ACalls.of_run Tryz.func133 rfl ?_;simp only [Tryz.ntmps133, bBn];refine znr ?_;refine Run.reg fun K J => ?_
 simp [List.range, List.range.loop];refine zj ?_; clear J;refine Run.ret ?_;exact Fin.ret' aA rfl hh rfl aE rfl (Weak.refl _) rfl ⟨rfl, rfl⟩
def belowK (k : Int) : Int := if k = 5 \/ k = 6 \/ k = 7 then 1 else if k = 11 then 2 else -1
theorem wK (k : Int) (j : Nat) : aJ k j = if (j : Int) = belowK k then 1 else 0 := by
 unfold aJ belowK;split <;> split <;> (try split) <;> omega
theorem usesL_at (k : Int) (h0 : 0 <= k) (h1 : k < 13) : usesL[k.toNat * 5 + 4]? = some (iA (belowK k)) := by
 have : k = 0 \/ k = 1 \/ k = 2 \/ k = 3 \/ k = 4 \/ k = 5 \/ k = 6 \/ k = 7 \/ k = 8 \/ k = 9 \/ k = 10 \/ k = 11 \/ k = 12 := aB;rcases this with rfl | rfl | rfl | rfl | rfl | rfl | rfl | rfl | rfl | rfl | rfl | rfl | rfl <;> rfl
theorem usesL_len : usesL.length = 65 := rfl
theorem qV (n : Nat) : AV.underL n usesL = true := by simp [usesL]

section

variable {σ : Type} (st : σ -> Int -> Tm -> σ × Bool)

mutual
def vis (s : σ) (d : Int) : Tm -> σ × Bool
 | .mk k i n ls ks => if (st s d (.mk k i n ls ks)).2 = true then mC (st s d (.mk k i n ls ks)).1 k d 0 ks else ((st s d (.mk k i n ls ks)).1, false)
def mC (s : σ) (k d : Int) (idx : Nat) : List Tm -> σ × Bool
 | [] => (s, true)
 | t :: ts => if (vis s (d + aJ k idx) t).2 = true then mC (vis s (d + aJ k idx) t).1 k d (idx + 1) ts else ((vis s (d + aJ k idx) t).1, false)
end

end
theorem qY {σ : Type} (st : σ -> Int -> Tm -> σ × Bool) (k d : Int) : ∀ (l : List Tm) (s : σ) (idx : Nat) (t : Tm), mC st s k d idx (l ++ [t]) =
  if (mC st s k d idx l).2 = true then vis st (mC st s k d idx l).1 (d + aJ k (idx + l.length : Nat)) t else ((mC st s k d idx l).1, false)
 | [], s, idx, t => by
  simp only [bBo, mC, bBn, bDr, if_true]
  cases h : vis st s (d + aJ k idx) t with
  | mk a b => cases b <;> simp
 | x :: l, s, idx, t => by
  simp only [bBj, mC];rw [qY st k d l _ (idx + 1) t]
  by_cases h : (vis st s (d + aJ k idx) x).2 = true
  ·simp only [h, if_true, bBm];rw [show idx + 1 + l.length = idx + (l.length + 1) by omega]
  ·simp only [h, if_false, bBy]
theorem qZ {σ : Type} (st : σ -> Int -> Tm -> σ × Bool) (k d : Int) (s' : σ) : ∀ (l r : List Tm) (s : σ) (idx : Nat), mC st s k d idx l = (s', false) -> mC st s k d idx (l ++ r) = (s', false)
 | [], r, s, idx, h => by simp [mC] at h
 | x :: l, r, s, idx, h => by
  simp only [bBj, mC] at h ⊢
  by_cases hx : (vis st s (d + aJ k idx) x).2 = true
  ·simp only [hx, if_true] at h ⊢;exact qZ st k d s' l r _ (idx + 1) h
  ·simp only [hx, if_false, bBy] at h ⊢;exact h
abbrev yv (y : Nat) : AV := .fn (.yield y) [] []
abbrev vf (p2 p3 p4 : Nat) : AV := .fn (.func 134) [] [.ptr p2 0, .ptr p3 0, .ptr p4 0]
theorem aIk {σ : Type} (st : σ -> Int -> Tm -> σ × Bool) (y p2 p3 p4 : Nat) (Pre : Tm -> Int -> Prop) (hP : ∀ k i n ls ks d, Pre (.mk k i n ls ks) d -> ∀ (j : Nat) (hj : j < ks.length), Pre ks[j] (d + aJ k j)) (N : Nat) :
  ∀ (t : Tm) (s : σ) (d : Int) (B : σ -> Heap) (n : Nat), t.size <= N -> Pre t d -> 0 <= d -> d + t.size <= 1099511627776 -> (∀ s, (B s).length = n) -> (∀ s, WF (B s)) ->
   (∀ s, (B s)[p2]? = some (some (.cells [yv y])) /\ (B s)[p3]? = some (some (.cells usesL)) /\ (B s)[p4]? = some (some (.cells [vf p2 p3 p4]))) ->
   (∀ s d u l, Pre u d -> WF (B s ++ l) -> AYield Tryz.prog y [iA d, u.av] (B s ++ l) (fun o h' => o = .ret (bA (st s d u).2) /\ h' = B (st s d u).1 ++ l)) ->
   ACalls Tryz.prog 134 ([t.av, iA d] ++ [.ptr p2 0, .ptr p3 0, .ptr p4 0]) (B s) (fun o h' => o = .ret (bA (vis st s d t).2) /\ h' = B (vis st s d t).1) := by
 induction N with
 | zero => intro t _ _ _ _ hN; have := t.size_pos; omega
 | succ N ih =>
 intro t s d B n hN hpre hd0 hd1 hlen hwf hcells HY;obtain ⟨k, i, nm, ls, ks⟩ := t;have hp2 := (bBg.1 (hcells s).1).1;have hp3 := (bBg.1 (hcells s).2.1).1;have hp4 := (bBg.1 (hcells s).2.2).1;rw [hlen] at hp2 hp3 hp4;have c2 : ∀ s (l : List (Option AO)), (B s ++ l)[p2]? = some (some (.cells [yv y])) := fun s l => by rw [bBt (by rw [hlen]; exact hp2)]; exact (hcells s).1
 have c3 : ∀ s (l : List (Option AO)), (B s ++ l)[p3]? = some (some (.cells usesL)) := fun s l => by rw [bBt (by rw [hlen]; exact hp3)]; exact (hcells s).2.1
 have c4 : ∀ s (l : List (Option AO)), (B s ++ l)[p4]? = some (some (.cells [vf p2 p3 p4])) := fun s l => by rw [bBt (by rw [hlen]; exact hp4)]; exact (hcells s).2.2
 have gl : ∀ s (l : List (Option AO)) (k : Nat), (B s ++ l)[n + k]? = l[k]? := fun s l k => dC (hlen s)
 have gl0 : ∀ s (l : List (Option AO)), (B s ++ l)[n]? = l[0]? := fun s l => fW (hlen s)
 have sl : ∀ s (l : List (Option AO)) (k : Nat) (o : Option AO), (B s ++ l).set (n + k) o = B s ++ l.set k o := fun s l k o => dG (hlen s)
 have sl0 : ∀ s (l : List (Option AO)) (o : Option AO), (B s ++ l).set n o = B s ++ l.set 0 o := fun s l o => mT (hlen s)
 have wfl : ∀ s (l : List (Option AO)), l.all (AO.under (n + l.length)) = true -> WF (B s ++ l) := fun s l hl => (hwf s).app (by rw [hlen]; exact hl)
 simp only [Tm.size] at hN hd1;have hll := aR ks;simp only [bBj, bBo];refine ACalls.of_run Tryz.func134 rfl ?_;refine y1c ?_;refine uC hlen ?_;refine zr2 gl0 c2 ?_;have hy := HY s d (.mk k i nm ls ks) [some (.cells [iA k, iA i, .p (sP nm), .p (.sl 2 (bR ls)), .p (.sl 5 (aP ks))])] hpre (wfl _ _ aA);obtain ⟨⟨s1, g1⟩, hst⟩ : ∃ r, st s d (.mk k i nm ls ks) = r := ⟨_, rfl⟩;rw [hst] at hy;simp only at hy;refine Run.yield rfl rfl aA hy ?_ ?_
 rotate_left
 ·rintro v h' ⟨hv, _⟩; cases hv
 rintro v h' ⟨hv, rfl⟩;simp only [AOut.ret.injEq] at hv;subst hv;have hvis : vis st s d (.mk k i nm ls ks) = if g1 = true then mC st s1 k d 0 ks else (s1, false) := by simp only [vis, hst]
 cases g1 with
 | false =>
  exact y3q
 | true =>
  simp only [if_true] at hvis;rw [hvis];refine zofr ?_;refine Run.regJ [1, 2, 3, 4, 5, 8] 24 (decide (0 <= k) && decide (k < 13)) (fun K J => ?_) ?_
  ·simp [gl0];exact y1f
  refine y5 ?_;simp;refine Run.joinA [1, 2, 3, 4, 5] [(8, iA (belowK k))] (fun hJ => ?_) ?_
  ·exact y1t
  refine y5 ?_;refine wC gl0 ?_
  refine Run.loopS (ι := Nat × σ) [1, 2, 3, 4, 5, 8, 31, 32] (fun p => p.1 <= ks.length /\ mC st s1 k d 0 (ks.take p.1) = (p.2, true)) (fun p => ks.length - p.1) (fun p => [(33, iA p.1)])
   (fun p => B p.2 ++ [some (.cells [iA k, iA i, .p (sP nm), .p (.sl 2 (bR ls)), .p (.sl 5 (aP ks))])]) (0, s1) (by simp [mC]) ?_ aA ?_
  ·exact zS
  rintro ⟨j, sj⟩ ⟨hj, hvj⟩ IH;simp only at hj hvj;refine eU ?_
  by_cases hjl : j < ks.length
  ·have hg : ks[j]? = some ks[j] := bBf hjl;have hs := dD hjl;have hpj := hP _ _ _ _ _ _ hpre j hjl;have hbz := aU k j;have htk : ks.take (j + 1) = ks.take j ++ [ks[j]] := bBq hjl;have hsn := qY st k d (ks.take j) s1 0 ks[j];rw [hvj, <- htk] at hsn;simp only [if_true, bCg, bC7, bCw hj] at hsn;have hbk := wK k j;have hstop := qZ st k d (vis st sj (d + aJ k j) ks[j]).1 (ks.take (j + 1)) (ks.drop (j + 1)) s1 0;rw [bCp] at hstop;generalize ks[j] = u at hg hs hpj hsn hstop;refine znt1 hjl ?_;refine zr2 hg hlen ?_;refine zr ?_;refine zr ?_;refine Run.joinA [1, 2, 3, 4, 5, 8, 10, 31, 32, 33] [(11, iA (d + aJ k j))] (fun hJ => ?_) ?_
   ·exact y21
   refine y5 ?_;refine zs ?_;refine zn ?_;refine zr2 c4 gl ?_;obtain ⟨L, hL⟩ : ∃ L : List (Option AO), L = [some (.cells [iA k, iA i, .p (sP nm), .p (.sl 2 (bR ls)), .p (.sl 5 (aP ks))]), some (.cells (u.cells.map .p))] := ⟨_, rfl⟩;have hLl : L.length = 2 := by rw [hL]; rfl
   have hLu : L.all (AO.under (n + L.length)) = true := by rw [hLl, hL]; simp
   have hcall := ih u sj (d + aJ k j) (fun s => B s ++ L) (n + 2) aB hpj aB aB (fun s => by rw [bBp, hlen, hLl]) (fun s => wfl s L hLu) (fun s => ⟨c2 s L, c3 s L, c4 s L⟩)
    (fun s d u l hp hw => by
     have := HY s d u (L ++ l) hp (by rw [<- bC3]; exact hw);refine y10 ?_;intro o h' hq;exact ⟨hq.1, by rw [hq.2, bC3]⟩)
   rw [hL] at hcall;obtain ⟨⟨s2, g2⟩, hv2⟩ : ∃ r, vis st sj (d + aJ k j) u = r := ⟨_, rfl⟩;rw [hv2] at hcall hsn hstop;simp only at hcall hstop;refine rl rfl rfl aA rfl hcall ?_
   cases g2 with
   | false =>
    exact y4e
   | true =>
    refine yp ?_;refine IH (j + 1, s2) _ _ ⟨by simp only; omega, hsn⟩ (by simp only; omega) ?_ aA;exact zS
  ·exact y3e


open Go Go.AI
theorem aJy {σ : Type} (st : σ -> Int -> Tm -> σ × Bool) (y q : Nat) (Pre : Tm -> Int -> Prop) (hP : ∀ k i n ls ks d, Pre (.mk k i n ls ks) d -> ∀ (j : Nat) (hj : j < ks.length), Pre ks[j] (d + aJ k j))
  (t : Tm) (s : σ) (B : σ -> Heap) (n : Nat) (hpre : Pre t 0) (hsz : t.size <= 1099511627776) (hlen : ∀ s, (B s).length = n) (hwf : ∀ s, WF (B s)) (hq : ∀ s, (B s)[q]? = some (some (.cells (t.cells.map .p))))
  (HY : ∀ s d u l, Pre u d -> WF (B s ++ l) -> AYield Tryz.prog y [iA d, u.av] (B s ++ l) (fun o h' => o = .ret (bA (st s d u).2) /\ h' = B (st s d u).1 ++ l)) :
  ACalls Tryz.prog 132 [yv y, .ptr q 0] (B s) (fun o h' => o = .ret (.tup []) /\ h' = B (vis st s 0 t).1) := by
 have hqlt := (bBg.1 (hq s)).1;rw [hlen] at hqlt;have cq : ∀ s (l : List (Option AO)), (B s ++ l)[q]? = some (some (.cells (t.cells.map .p))) := fun s l => by rw [bBt (by rw [hlen]; exact hqlt)]; exact hq s
 have gl : ∀ s (l : List (Option AO)) (k : Nat), (B s ++ l)[n + k]? = l[k]? := fun s l k => dC (hlen s)
 have gl0 : ∀ s (l : List (Option AO)), (B s ++ l)[n]? = l[0]? := fun s l => fW (hlen s)
 have sl : ∀ s (l : List (Option AO)) (k : Nat) (o : Option AO), (B s ++ l).set (n + k) o = B s ++ l.set k o := fun s l k o => dG (hlen s)
 have wfl : ∀ s (l : List (Option AO)), l.all (AO.under (n + l.length)) = true -> WF (B s ++ l) := fun s l hl => (hwf s).app (by rw [hlen]; exact hl)
 obtain ⟨L, hL⟩ : ∃ L : List (Option AO), L = [some (.cells [yv y]), some (.cells usesL), some (.cells [vf n (n + 1) (n + 2)])] := ⟨_, rfl⟩;have hLl : L.length = 3 := by rw [hL]; rfl
 have hLu : L.all (AO.under (n + L.length)) = true := by rw [hLl, hL]; simp [qV]
 have hv := aIk st y n (n + 1) (n + 2) Pre hP t.size t s 0 (fun s => B s ++ L) (n + 3) (bBh _) hpre aB aB (fun s => by rw [bBp, hlen, hLl]) (fun s => wfl s L hLu)
  (fun s => by rw [hL]; exact ⟨by rw [gl0]; rfl, by rw [gl]; rfl, by rw [gl]; rfl⟩)
  (fun s d u l hp hw => by
   have := HY s d u (L ++ l) hp (by rw [<- bC3]; exact hw);refine y10 ?_;intro o h' hq;exact ⟨hq.1, by rw [hq.2, bC3]⟩)
 rw [hL] at hv;have hu := aD2 (B s ++ [some (.cells [yv y])]) (wfl s _ aA);refine zE Tryz.func132 Tryz.ntmps132 ?_;refine uC hlen ?_;refine zr ?_;refine Run.call rfl rfl aA rfl hu ?_ ?_
 rotate_left
 ·rintro v h' ⟨hv, _⟩; cases hv
 rintro v h' ⟨hv', rfl⟩;simp only [AOut.ret.injEq] at hv';subst hv';have hone : usesL.all nR = true := rfl;have hone' : ∀ x ∈ usesL, nR x = true := by rw [bC0] at hone; exact hone
 refine zov7 hlen ?_;refine zr1 hlen ?_;refine aSk hlen ?_;refine zr2 hlen cq ?_;obtain ⟨k, i, nm, ls, ks⟩ := t;refine Run.call rfl rfl aA rfl hv ?_ ?_
 rotate_left
 ·rintro v h' ⟨hv, _⟩; cases hv
 rintro v h' ⟨hv', rfl⟩;exact y3k
theorem sQ (h : Heap) (hh : WF h) (t : Tm) : ACalls Tryz.prog 84 [t.av] h fun o h' => o = .ret (.fn (.func 132) [] [.ptr h.length 0]) /\ h' = h ++ [some (.cells (t.cells.map .p))] := by
 obtain ⟨k, i, nm, ls, ks⟩ := t;refine ACalls.of_run Tryz.func84 rfl ?_;simp only [Tryz.ntmps84, bBm, bBn, Tm.av, cells_mk, List.map];refine aPu ?_;refine Fin.retM (h0 := h ++ [some (.cells [iA k, iA i, .p (sP nm), .p (.sl 2 (bR ls)), .p (.sl 5 (aP ks))])]) (l := []) aA aA (hh.app aA) aA aE rfl (Weak.refl _) aA ⟨rfl, rfl⟩

mutual
theorem zH (d : Int) : ∀ (t : Tm) (s : Int), 0 <= s -> s + t.size <= 1099511627776 -> vis (fun (s : Int) _ _ => (IntKind.i64.wrap (s + 1), true)) s d t = (s + t.size, true)
 | .mk k i n ls ks, s, h0, h1 => by
  simp only [Tm.size] at h1;simp only [vis, if_true];rw [wrap_id (n := s + 1) aB aB, tY d k ks (s + 1) 0 aB aB];simp only [Tm.size]
  congr 1; omega
theorem tY (d k : Int) : ∀ (l : List Tm) (s : Int) (idx : Nat), 0 <= s -> s + Tm.sizes l <= 1099511627776 -> mC (fun (s : Int) _ _ => (IntKind.i64.wrap (s + 1), true)) s k d idx l = (s + Tm.sizes l, true)
 | [], s, idx, _, _ => by simp [mC, Tm.sizes]
 | t :: ts, s, idx, h0, h1 => by
  simp only [Tm.sizes] at h1;simp only [mC];rw [zH (d + aJ k idx) t s h0 aB];simp only [if_true];rw [tY d k ts (s + t.size) (idx + 1) aB aB];simp only [Tm.sizes]
  congr 1; omega
end
theorem aIf (h : Heap) (hh : WF h) (t : Tm) (hsz : t.size <= 1099511627776) : AC 233 [t.av] h (iA t.size) := by
 obtain ⟨k, i, nm, ls, ks⟩ := t;have hno := sQ (h ++ [some (.cells [iA k, iA i, .p (sP nm), .p (.sl 2 (bR ls)), .p (.sl 5 (aP ks))]), some (.cells [iA 0])]) (hh.app aA) (.mk k i nm ls ks);refine ACalls.of_runM Tryz.func233 rfl ?_;simp only [Tryz.ntmps233, bBm, bBn, Tm.av, cells_mk, List.map];refine aIv ?_;refine Run.call rfl rfl aA rfl hno ?_ ?_
 rotate_left
 ·rintro v h' ⟨hv, _⟩; cases hv
 rintro v h' ⟨hv', rfl⟩;simp only [AOut.ret.injEq] at hv';subst hv';refine zo ?_;refine Run.keep [1, 3, 5] ?_;simp;refine Run.range (gf := 132) (cap := [.ptr (h.length + 2) 0]) aA rfl fun y => ?_
 generalize hT : [AV.junk, AV.ptr h.length 0, AV.junk, AV.ptr (h.length + 1) 0, AV.junk, AV.fn (Fn.func 132) [] [AV.ptr (h.length + 2) 0], AV.junk, AV.junk, AV.junk, AV.junk, AV.junk] = Tl;have hTu : ∀ k, AV.underL (h.length + (3 + k)) Tl = true := fun k => by rw [<- hT]; simp; omega
 generalize hbd : (Code.block 1 _) = bd;obtain ⟨B, hB⟩ : ∃ B : Int -> Heap, B = fun s => h ++ [some (.cells ((Tm.mk k i nm ls ks).cells.map .p)), some (.cells [iA s]), some (.cells ((Tm.mk k i nm ls ks).cells.map .p)), some (.aux .dblk), some (.aux (.loop y .ready none Tl #[6, 7] .skip bd))] := ⟨_, rfl⟩
 have hlen : ∀ s, (B s).length = h.length + 5 := fun s => by rw [hB]; simp
 have hwf : ∀ s, WF (B s) := fun s => by rw [hB]; exact hh.app (by simp [AO.under, hTu 2])
 have hst : ∀ s (o : Option AO) (l : List (Option AO)), (B s ++ l).set (h.length + 4) o = h ++ [some (.cells ((Tm.mk k i nm ls ks).cells.map .p)), some (.cells [iA s]), some (.cells ((Tm.mk k i nm ls ks).cells.map .p)), some (.aux .dblk), o] ++ l := fun s o l => by rw [hB]; simp
 have hat4 : ∀ s (l : List (Option AO)), Heap.at (B s ++ l) (h.length + 4) = some (.aux (.loop y .ready none Tl #[6, 7] .skip bd)) := fun s l => by rw [hB]; simp
 have hit := aJy (fun (s : Int) _ _ => (IntKind.i64.wrap (s + 1), true)) y (h.length + 2) (fun _ _ => True) (fun _ _ _ _ _ _ _ _ _ => trivial) (.mk k i nm ls ks) 0 B (h.length + 5) trivial hsz hlen hwf (fun s => by rw [hB]; simp)
  (fun s d u l _ hw => by
   refine AYield.of_run (hat4 s l) aA ?_;refine Run.skip (Run.nil ⟨rfl, rfl, hat4 s l, ?_⟩);rw [hst];subst hbd;rw [<- hT];obtain ⟨uk, ui, un, uls, uks⟩ := u;refine eU ?_;refine Run.nil ?_;rw [hT]
   have hw2 : WF (B (IntKind.i64.wrap (s + 1)) ++ l) := by
    have := hw.set (id := h.length + 1) (o := some (.cells [iA (IntKind.i64.wrap (s + 1))])) aA
    rwa [show List.set (B s ++ l) (h.length + 1) (some (.cells [iA (IntKind.i64.wrap (s + 1))])) = B (IntKind.i64.wrap (s + 1)) ++ l from by rw [hB]; simp] at this
   refine ⟨none, (B (IntKind.i64.wrap (s + 1)) ++ l).length, rfl, rfl, by simp [hlen], by simp [hlen]; omega, by simp, ?_, rfl, ?_⟩
   ·rw [show (List.set _ (h.length + 4) _ : Heap) = B (IntKind.i64.wrap (s + 1)) ++ l from by rw [hB]; simp [stOf], bC6];exact hw2
   ·rw [show (List.set _ (h.length + 4) _ : Heap) = B (IntKind.i64.wrap (s + 1)) ++ l from by rw [hB]; simp [stOf], bC6])
 rw [zH 0 _ 0 aB aB] at hit;have hB0 : B 0 = (h ++ [some (.cells ((Tm.mk k i nm ls ks).cells.map .p)), some (.cells [iA 0]), some (.cells ((Tm.mk k i nm ls ks).cells.map .p))]) ++ [some (.aux .dblk), some (.aux (.loop y .ready none Tl #[6, 7] .skip bd))] := by rw [hB]; simp
 refine ⟨_, hB0 ▸ hit, ?_⟩;rintro o h' ⟨rfl, rfl⟩;have hsz2 : (0 + ((Tm.mk k i nm ls ks).size : Int)) = (Tm.mk k i nm ls ks).size := aB;rw [hsz2];generalize (Tm.mk k i nm ls ks).size = sz;refine ⟨_, .ready, none, rfl, by rw [hB]; simp [bDk], by simp, ?_⟩;rw [hB];simp [bDk];rw [<- hT];refine znr ?_;refine zx ?_;refine ⟨by simp, ?_⟩;exact Fin.ret' (h0 := h) aA rfl hh aE rfl rfl (Weak.refl _) rfl ⟨rfl, rfl⟩

end Go.Proofs.YtfajdeofhioakaaGreat
