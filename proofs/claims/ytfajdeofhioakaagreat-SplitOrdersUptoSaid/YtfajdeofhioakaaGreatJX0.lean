import Derived.Test.YtfajdeofhioakaaGreatJA0
import Derived.Test.YtfajdeofhioakaaGreatJE6
import Derived.Test.YtfajdeofhioakaaGreatJG1
import Derived.Test.YtfajdeofhioakaaGreatJN1
set_option maxRecDepth 8000
set_option maxHeartbeats 8000000

namespace Go.AI

open Go
theorem Run.rangeG {P : Program} {nb : Nat} {k : List It} {T : List AV} {h : Heap} {D : List AD} {Q : AX -> List AV -> Heap -> List AD -> Prop} {g : Operand} {ps : Array Tmp} {ag bd : Code} {gf : FuncId} {cap : List AV} (hg : aev T g = .fn (.func gf) [] cap) (he : aL P gf = true)
  (r : ∀ l Tl ag' bd', Tl = T -> ag' = ag -> bd' = bd -> ∃ R : AOut -> Heap -> Prop, ACalls P gf (.fn (.yield l) [] [] :: cap) (h ++ [some (.aux .dblk), some (.aux (.loop l .ready none Tl ps ag' bd'))]) R /\
   ∀ o h', R o h' -> ∃ v st j, o = .ret v /\ h'.at (h.length + 1) = some (.aux (.loop l st j Tl ps ag' bd')) /\ st ≠ .busy /\
    Run P none nb (match j with | none => k | some c => .code c :: k) T (h'.set (h.length + 1) (some (.aux (.loop l .exhausted j Tl ps ag' bd')))) ((.yield h.length, [], []) :: D) Q) :
  Run P none nb (.code (.rangeFunc g ps ag bd) :: k) T h D Q := Run.range hg he fun l => r l T ag bd rfl rfl rfl
theorem Run.codeEq {P : Program} {rd : Option Nat} {nb : Nat} {k : List It} {T : List AV} {h : Heap} {D : List AD} {Q : AX -> List AV -> Heap -> List AD -> Prop} {c c' : Code} (e : c' = c) (r : Run P rd nb (.code c :: k) T h D Q) : Run P rd nb (.code c' :: k) T h D Q := e ▸ r
theorem Run.tEq {P : Program} {rd : Option Nat} {nb : Nat} {k : List It} {T T' : List AV} {h : Heap} {D : List AD} {Q : AX -> List AV -> Heap -> List AD -> Prop} (e : T = T') (r : Run P rd nb k T' h D Q) : Run P rd nb k T h D Q := e ▸ r

end Go.AI

namespace Go.Proofs.YtfajdeofhioakaaGreat

open Go Go.AI

mutual
theorem aD4 {σ : Type} (st : σ -> Int -> Tm -> σ × Bool) (Pre : Tm -> Int -> Prop) (hP : ∀ k i n ls ks d, Pre (.mk k i n ls ks) d -> ∀ (j : Nat) (hj : j < ks.length), Pre ks[j] (d + aJ k j)) (Lv : σ -> Prop) (hLv : ∀ s d u, Lv s -> Pre u d -> (st s d u).2 = true -> Lv (st s d u).1) : ∀ (t : Tm) (s : σ) (d : Int), Lv s -> Pre t d -> (vis st s d t).2 = true -> Lv (vis st s d t).1
 | .mk k i n ls ks, s, d, hl, hp, h => by
  simp only [vis] at h ⊢
  by_cases hs : (st s d (.mk k i n ls ks)).2 = true
  ·rw [if_pos hs] at h ⊢;exact zG st Pre hP Lv hLv ks _ k d 0 (hLv s d _ hl hp hs) (fun j hj => by simpa using hP _ _ _ _ _ _ hp j hj) h
  ·rw [if_neg hs] at h; simp at h
theorem zG {σ : Type} (st : σ -> Int -> Tm -> σ × Bool) (Pre : Tm -> Int -> Prop) (hP : ∀ k i n ls ks d, Pre (.mk k i n ls ks) d -> ∀ (j : Nat) (hj : j < ks.length), Pre ks[j] (d + aJ k j)) (Lv : σ -> Prop) (hLv : ∀ s d u, Lv s -> Pre u d -> (st s d u).2 = true -> Lv (st s d u).1) : ∀ (l : List Tm) (s : σ) (k d : Int) (idx : Nat), Lv s -> (∀ (j : Nat) (hj : j < l.length), Pre l[j] (d + aJ k (idx + j : Nat))) -> (mC st s k d idx l).2 = true -> Lv (mC st s k d idx l).1
 | [], s, k, d, idx, hl, _, _ => by simpa only [mC] using hl
 | t :: ts, s, k, d, idx, hl, hp, h => by
  simp only [mC] at h ⊢;have h0 : Pre t (d + aJ k idx) := hp 0 aA
  by_cases hs : (vis st s (d + aJ k idx) t).2 = true
  ·rw [if_pos hs] at h ⊢
   exact zG st Pre hP Lv hLv ts _ k d (idx + 1) (aD4 st Pre hP Lv hLv t s _ hl h0 hs) (fun j hj => by
    have := hp (j + 1) (by simpa using hj);rw [show idx + (j + 1) = idx + 1 + j by omega] at this;simpa using this) h
  ·rw [if_neg hs] at h; simp at h
end
theorem aF6 {σ : Type} (st : σ -> Int -> Tm -> σ × Bool) (y p2 p3 p4 : Nat) (Pre : Tm -> Int -> Prop) (hP : ∀ k i n ls ks d, Pre (.mk k i n ls ks) d -> ∀ (j : Nat) (hj : j < ks.length), Pre ks[j] (d + aJ k j)) (Lv : σ -> Prop) (hLv : ∀ s d u, Lv s -> Pre u d -> (st s d u).2 = true -> Lv (st s d u).1) (N : Nat) :
  ∀ (t : Tm) (s : σ) (d : Int) (B : σ -> Heap) (n : Nat), t.size <= N -> Lv s -> Pre t d -> 0 <= d -> d + t.size <= 1099511627776 -> (∀ s, (B s).length = n) -> (∀ s, WF (B s)) ->
   (∀ s, (B s)[p2]? = some (some (.cells [yv y])) /\ (B s)[p3]? = some (some (.cells usesL)) /\ (B s)[p4]? = some (some (.cells [vf p2 p3 p4]))) ->
   (∀ s d u l, Lv s -> Pre u d -> WF (B s ++ l) -> AYield Tryz.prog y [iA d, u.av] (B s ++ l) (fun o h' => o = .ret (bA (st s d u).2) /\ h' = B (st s d u).1 ++ l)) ->
   ACalls Tryz.prog 134 ([t.av, iA d] ++ [.ptr p2 0, .ptr p3 0, .ptr p4 0]) (B s) (fun o h' => o = .ret (bA (vis st s d t).2) /\ h' = B (vis st s d t).1) := by
 induction N with
 | zero => intro t _ _ _ _ hN; have := t.size_pos; omega
 | succ N ih =>
 intro t s d B n hN hls hpre hd0 hd1 hlen hwf hcells HY;obtain ⟨k, i, nm, ls, ks⟩ := t;have hp2 := (bBg.1 (hcells s).1).1;have hp3 := (bBg.1 (hcells s).2.1).1;have hp4 := (bBg.1 (hcells s).2.2).1;rw [hlen] at hp2 hp3 hp4;have c2 : ∀ s (l : List (Option AO)), (B s ++ l)[p2]? = some (some (.cells [yv y])) := fun s l => by rw [bBt (by rw [hlen]; exact hp2)]; exact (hcells s).1
 have c3 : ∀ s (l : List (Option AO)), (B s ++ l)[p3]? = some (some (.cells usesL)) := fun s l => by rw [bBt (by rw [hlen]; exact hp3)]; exact (hcells s).2.1
 have c4 : ∀ s (l : List (Option AO)), (B s ++ l)[p4]? = some (some (.cells [vf p2 p3 p4])) := fun s l => by rw [bBt (by rw [hlen]; exact hp4)]; exact (hcells s).2.2
 have gl : ∀ s (l : List (Option AO)) (k : Nat), (B s ++ l)[n + k]? = l[k]? := fun s l k => dC (hlen s)
 have gl0 : ∀ s (l : List (Option AO)), (B s ++ l)[n]? = l[0]? := fun s l => fW (hlen s)
 have sl : ∀ s (l : List (Option AO)) (k : Nat) (o : Option AO), (B s ++ l).set (n + k) o = B s ++ l.set k o := fun s l k o => dG (hlen s)
 have sl0 : ∀ s (l : List (Option AO)) (o : Option AO), (B s ++ l).set n o = B s ++ l.set 0 o := fun s l o => mT (hlen s)
 have wfl : ∀ s (l : List (Option AO)), l.all (AO.under (n + l.length)) = true -> WF (B s ++ l) := fun s l hl => (hwf s).app (by rw [hlen]; exact hl)
 simp only [Tm.size] at hN hd1;have hll := aR ks;simp only [bBj, bBo];refine ACalls.of_run Tryz.func134 rfl ?_;refine y1c ?_;refine uC hlen ?_;refine zr2 gl0 c2 ?_;have hy := HY s d (.mk k i nm ls ks) [some (.cells [iA k, iA i, .p (sP nm), .p (.sl 2 (bR ls)), .p (.sl 5 (aP ks))])] hls hpre (wfl _ _ aA);obtain ⟨⟨s1, g1⟩, hst⟩ : ∃ r, st s d (.mk k i nm ls ks) = r := ⟨_, rfl⟩;have hl1 := hLv s d (.mk k i nm ls ks) hls hpre;rw [hst] at hy hl1;simp only at hy hl1;refine Run.yield rfl rfl aA hy ?_ ?_
 rotate_left
 ·rintro v h' ⟨hv, _⟩; cases hv
 rintro v h' ⟨hv, rfl⟩;simp only [AOut.ret.injEq] at hv;subst hv;have hvis : vis st s d (.mk k i nm ls ks) = if g1 = true then mC st s1 k d 0 ks else (s1, false) := by simp only [vis, hst]
 cases g1 with
 | false =>
  exact y3q
 | true =>
  simp only [if_true] at hvis;rw [hvis];refine zofr ?_;refine Run.regJ [1, 2, 3, 4, 5, 8] 24 (decide (0 <= k) && decide (k < 13)) (fun K J => ?_) ?_
  ·simp [gl0];exact y1f
  refine y5 ?_;simp;refine Run.joinA [1, 2, 3, 4, 5] [(8, iA (belowK k))] (fun hJ => ?_) ?_
  ·exact y1t
  refine y5 ?_;refine wC gl0 ?_
  refine Run.loopS (ι := Nat × σ) [1, 2, 3, 4, 5, 8, 31, 32] (fun p => p.1 <= ks.length /\ mC st s1 k d 0 (ks.take p.1) = (p.2, true) /\ Lv p.2) (fun p => ks.length - p.1) (fun p => [(33, iA p.1)])
   (fun p => B p.2 ++ [some (.cells [iA k, iA i, .p (sP nm), .p (.sl 2 (bR ls)), .p (.sl 5 (aP ks))])]) (0, s1) ⟨by simp, by simp [mC], hl1 rfl⟩ ?_ aA ?_
  ·exact zS
  rintro ⟨j, sj⟩ ⟨hj, hvj, hlj⟩ IH;simp only at hj hvj hlj;refine eU ?_
  by_cases hjl : j < ks.length
  ·have hg : ks[j]? = some ks[j] := bBf hjl;have hs := dD hjl;have hpj := hP _ _ _ _ _ _ hpre j hjl;have hbz := aU k j;have htk : ks.take (j + 1) = ks.take j ++ [ks[j]] := bBq hjl;have hsn := qY st k d (ks.take j) s1 0 ks[j];rw [hvj, <- htk] at hsn;simp only [if_true, bCg, bC7, bCw hj] at hsn;have hbk := wK k j;have hlv2 := aD4 st Pre hP Lv hLv ks[j] sj (d + aJ k j) hlj hpj;have hstop := qZ st k d (vis st sj (d + aJ k j) ks[j]).1 (ks.take (j + 1)) (ks.drop (j + 1)) s1 0;rw [bCp] at hstop;generalize ks[j] = u at hg hs hpj hsn hstop hlv2;refine znt1 hjl ?_;refine zr2 hg hlen ?_;refine zr ?_;refine zr ?_;refine Run.joinA [1, 2, 3, 4, 5, 8, 10, 31, 32, 33] [(11, iA (d + aJ k j))] (fun hJ => ?_) ?_
   ·exact y21
   refine y5 ?_;refine zs ?_;refine zn ?_;refine zr2 c4 gl ?_;obtain ⟨L, hL⟩ : ∃ L : List (Option AO), L = [some (.cells [iA k, iA i, .p (sP nm), .p (.sl 2 (bR ls)), .p (.sl 5 (aP ks))]), some (.cells (u.cells.map .p))] := ⟨_, rfl⟩;have hLl : L.length = 2 := by rw [hL]; rfl
   have hLu : L.all (AO.under (n + L.length)) = true := by rw [hLl, hL]; simp
   have hcall := ih u sj (d + aJ k j) (fun s => B s ++ L) (n + 2) aB hlj hpj aB aB (fun s => by rw [bBp, hlen, hLl]) (fun s => wfl s L hLu) (fun s => ⟨c2 s L, c3 s L, c4 s L⟩)
    (fun s d u l hls hp hw => by
     have := HY s d u (L ++ l) hls hp (by rw [<- bC3]; exact hw);refine y10 ?_;intro o h' hq;exact ⟨hq.1, by rw [hq.2, bC3]⟩)
   rw [hL] at hcall;obtain ⟨⟨s2, g2⟩, hv2⟩ : ∃ r, vis st sj (d + aJ k j) u = r := ⟨_, rfl⟩;rw [hv2] at hcall hsn hstop hlv2;simp only at hcall hstop hlv2;refine rl rfl rfl aA rfl hcall ?_
   cases g2 with
   | false =>
    exact y4e
   | true =>
    refine yp ?_;refine IH (j + 1, s2) _ _ ⟨by simp only; omega, hsn, hlv2 rfl⟩ (by simp only; omega) ?_ aA;exact zS
  ·exact y3e
theorem aGp {σ : Type} (st : σ -> Int -> Tm -> σ × Bool) (y q : Nat) (Pre : Tm -> Int -> Prop) (hP : ∀ k i n ls ks d, Pre (.mk k i n ls ks) d -> ∀ (j : Nat) (hj : j < ks.length), Pre ks[j] (d + aJ k j)) (Lv : σ -> Prop) (hLv : ∀ s d u, Lv s -> Pre u d -> (st s d u).2 = true -> Lv (st s d u).1)
  (t : Tm) (s : σ) (B : σ -> Heap) (n : Nat) (hls : Lv s) (hpre : Pre t 0) (hsz : t.size <= 1099511627776) (hlen : ∀ s, (B s).length = n) (hwf : ∀ s, WF (B s)) (hq : ∀ s, (B s)[q]? = some (some (.cells (t.cells.map .p))))
  (HY : ∀ s d u l, Lv s -> Pre u d -> WF (B s ++ l) -> AYield Tryz.prog y [iA d, u.av] (B s ++ l) (fun o h' => o = .ret (bA (st s d u).2) /\ h' = B (st s d u).1 ++ l)) :
  ACalls Tryz.prog 132 [yv y, .ptr q 0] (B s) (fun o h' => o = .ret (.tup []) /\ h' = B (vis st s 0 t).1) := by
 have hqlt := (bBg.1 (hq s)).1;rw [hlen] at hqlt;have cq : ∀ s (l : List (Option AO)), (B s ++ l)[q]? = some (some (.cells (t.cells.map .p))) := fun s l => by rw [bBt (by rw [hlen]; exact hqlt)]; exact hq s
 have gl : ∀ s (l : List (Option AO)) (k : Nat), (B s ++ l)[n + k]? = l[k]? := fun s l k => dC (hlen s)
 have gl0 : ∀ s (l : List (Option AO)), (B s ++ l)[n]? = l[0]? := fun s l => fW (hlen s)
 have sl : ∀ s (l : List (Option AO)) (k : Nat) (o : Option AO), (B s ++ l).set (n + k) o = B s ++ l.set k o := fun s l k o => dG (hlen s)
 have wfl : ∀ s (l : List (Option AO)), l.all (AO.under (n + l.length)) = true -> WF (B s ++ l) := fun s l hl => (hwf s).app (by rw [hlen]; exact hl)
 obtain ⟨L, hL⟩ : ∃ L : List (Option AO), L = [some (.cells [yv y]), some (.cells usesL), some (.cells [vf n (n + 1) (n + 2)])] := ⟨_, rfl⟩;have hLl : L.length = 3 := by rw [hL]; rfl
 have hLu : L.all (AO.under (n + L.length)) = true := by rw [hLl, hL]; simp [qV]
 have hv := aF6 st y n (n + 1) (n + 2) Pre hP Lv hLv t.size t s 0 (fun s => B s ++ L) (n + 3) (bBh _) hls hpre aB aB (fun s => by rw [bBp, hlen, hLl]) (fun s => wfl s L hLu)
  (fun s => by rw [hL]; exact ⟨by rw [gl0]; rfl, by rw [gl]; rfl, by rw [gl]; rfl⟩)
  (fun s d u l hls hp hw => by
   have := HY s d u (L ++ l) hls hp (by rw [<- bC3]; exact hw);refine y10 ?_;intro o h' hq;exact ⟨hq.1, by rw [hq.2, bC3]⟩)
 rw [hL] at hv;have hu := aD2 (B s ++ [some (.cells [yv y])]) (wfl s _ aA);refine zE Tryz.func132 Tryz.ntmps132 ?_;refine uC hlen ?_;refine zr ?_;refine Run.call rfl rfl aA rfl hu ?_ ?_
 rotate_left
 ·rintro v h' ⟨hv, _⟩; cases hv
 rintro v h' ⟨hv', rfl⟩;simp only [AOut.ret.injEq] at hv';subst hv';have hone : usesL.all nR = true := rfl;have hone' : ∀ x ∈ usesL, nR x = true := by rw [bC0] at hone; exact hone
 refine zov7 hlen ?_;refine zr1 hlen ?_;refine aSk hlen ?_;refine zr2 hlen cq ?_;obtain ⟨k, i, nm, ls, ks⟩ := t;refine Run.call rfl rfl aA rfl hv ?_ ?_
 rotate_left
 ·rintro v h' ⟨hv, _⟩; cases hv
 rintro v h' ⟨hv', rfl⟩;exact y3k


open Go Go.AI

mutual
def dN (d : Int) : Tm -> List Int
 | .mk k i _ _ ks => (if k = 0 /\ d <= i then [i - d] else []) ++ bK k d 0 ks
def bK (k d : Int) (idx : Nat) : List Tm -> List Int
 | [] => []
 | t :: ts => dN (d + aJ k idx) t ++ bK k d (idx + 1) ts
end
theorem pH (k d : Int) : ∀ (l : List Tm) (idx : Nat) (t : Tm), bK k d idx (l ++ [t]) = bK k d idx l ++ dN (d + aJ k (idx + l.length : Nat)) t
 | [], idx, t => by simp [bK]
 | x :: l, idx, t => by simp only [bBj, bK, pH k d l (idx + 1) t, bC3]; simp [bDk, bE7 1]
def nW {α : Type} [DecidableEq α] (l : List α) (x : α) : List α := if x ∈ l then l else l ++ [x]
def rH (n : Int) : List Int -> List Int
 | [] => [n]
 | x :: l => if n < x then n :: x :: l else x :: rH n l
def mA (l : List Int) (n : Int) : List Int := if n ∈ l then l else rH n l
theorem aCi {α : Type} [DecidableEq α] (l : List α) (x y : α) : y ∈ nW l x ↔ y ∈ l \/ y = x := by
 unfold nW;split
 ·constructor
  ·exact .inl
  ·rintro (h | rfl) <;> assumption
 ·simp
theorem tA {α : Type} [DecidableEq α] {l : List α} (x : α) (h : l.Nodup) : (nW l x).Nodup := by
 unfold nW;split
 ·exact h
 ·rename_i hx;exact List.nodup_append.2 ⟨h, by simp, fun a ha b hb => by simp only [List.mem_singleton] at hb; subst hb; exact fun e => hx (e ▸ ha)⟩
theorem lK {α : Type} [DecidableEq α] (F : List α) : ∀ (l : List α) (y : α), y ∈ F.foldl nW l ↔ y ∈ l \/ y ∈ F := by
 induction F with
 | nil => simp
 | cons x F ih => intro l y; simp only [List.foldl_cons, ih, aCi, bC1, or_assoc]
theorem iQ {α : Type} [DecidableEq α] (F : List α) : ∀ (l : List α), l.Nodup -> (F.foldl nW l).Nodup := by
 induction F with
 | nil => exact fun _ h => h
 | cons x F ih => exact fun l h => ih _ (tA x h)
theorem vE (n y : Int) : ∀ l : List Int, y ∈ rH n l ↔ y = n \/ y ∈ l
 | [] => by simp [rH]
 | x :: l => by
  simp only [rH];split
  ·simp
  ·simp only [bC1, vE n y l];constructor
   ·rintro (h | h | h) <;> simp [h]
   ·rintro (h | h | h) <;> simp [h]
theorem aBw (n : Int) : ∀ l : List Int, l.Pairwise (· < ·) -> n ∉ l -> (rH n l).Pairwise (· < ·)
 | [], _, _ => by simp [rH]
 | x :: l, h, hn => by
  simp only [rH];have hx := List.pairwise_cons.1 h;split
  ·rename_i hl;refine List.pairwise_cons.2 ⟨fun y hy => ?_, h⟩;rcases bC1.1 hy with rfl | hy
   ·exact hl
   ·exact Int.lt_trans hl (hx.1 y hy)
  ·rename_i hl;have hne : n ≠ x := fun e => hn (by simp [e])
   refine List.pairwise_cons.2 ⟨fun y hy => ?_, aBw n l hx.2 (fun h' => hn (by simp [h']))⟩;rcases (vE n y l).1 hy with rfl | hy
   ·omega
   ·exact hx.1 y hy
theorem aKd (l : List Int) (n y : Int) : y ∈ mA l n ↔ y ∈ l \/ y = n := by
 unfold mA;split
 ·constructor
  ·exact .inl
  ·rintro (h | rfl) <;> assumption
 ·rw [vE]; exact Or.comm
theorem aJc {l : List Int} (n : Int) (h : l.Pairwise (· < ·)) : (mA l n).Pairwise (· < ·) := by
 unfold mA;split
 ·exact h
 ·exact aBw n l h (by assumption)
theorem lJ (F : List Int) : ∀ (l : List Int) (y : Int), y ∈ F.foldl mA l ↔ y ∈ l \/ y ∈ F := by
 induction F with
 | nil => simp
 | cons x F ih => intro l y; simp only [List.foldl_cons, ih, aKd, bC1, or_assoc]
theorem kQ (F : List Int) : ∀ (l : List Int), l.Pairwise (· < ·) -> (F.foldl mA l).Pairwise (· < ·) := by
 induction F with
 | nil => exact fun _ h => h
 | cons x F ih => exact fun l h => ih _ (aJc x h)
theorem aFi : ∀ {l m : List Int}, l.Pairwise (· < ·) -> m.Pairwise (· < ·) -> (∀ x, x ∈ l ↔ x ∈ m) -> l = m
 | [], [], _, _, _ => rfl
 | [], y :: m, _, _, h => by have := (h y).2 aA; cases this
 | x :: l, [], _, _, h => by have := (h x).1 aA; cases this
 | x :: l, y :: m, hl, hm, h => by
  have hl' := List.pairwise_cons.1 hl;have hm' := List.pairwise_cons.1 hm
  have e : x = y := by
   rcases bC1.1 ((h x).1 aA) with e | e
   ·exact e
   ·rcases bC1.1 ((h y).2 aA) with e' | e'
    ·exact e'.symm
    ·have := hm'.1 x e; have := hl'.1 y e'; omega
  subst e
  congr 1
  refine aFi hl'.2 hm'.2 fun z => ⟨fun hz => ?_, fun hz => ?_⟩
  ·rcases bC1.1 ((h z).1 (by simp [hz])) with e | e
   ·have := hl'.1 z hz; omega
   ·exact e
  ·rcases bC1.1 ((h z).2 (by simp [hz])) with e | e
   ·have := hm'.1 z hz; omega
   ·exact e
def eW (t : Tm) : List Int := (dN 0 t).foldl mA []
theorem aFj (t : Tm) : (eW t).Pairwise (· < ·) := kQ _ _ List.Pairwise.nil
theorem iL (t : Tm) (x : Int) : x ∈ eW t ↔ x ∈ dN 0 t := by rw [eW, lJ]; simp
theorem aI9 (F : List Int) : ((F.foldl nW []).mergeSort fun x y => decide (x <= y)) = F.foldl mA [] := by
 have hp := List.mergeSort_perm (F.foldl nW []) (fun x y => decide (x <= y));have hn : (F.foldl nW []).Nodup := iQ F [] List.nodup_nil;have hn' : ((F.foldl nW []).mergeSort fun x y => decide (x <= y)).Nodup := hp.nodup_iff.2 hn;have hs := List.pairwise_mergeSort (le := fun x y : Int => decide (x <= y)) (fun a b c h1 h2 => by simp at *; omega) (fun a b => by simp; omega) (F.foldl nW []);refine aFi ?_ (kQ F [] List.Pairwise.nil) fun x => ?_
 ·exact (List.Pairwise.and hs hn').imp fun ⟨h1, h2⟩ => by simp at h1; omega
 ·rw [hp.mem_iff, lK, lJ]
def qH (l : List Int) (d : Int) (u : Tm) : List Int × Bool :=
 (if (u.kind == 0 && decide (d <= u.index)) = true then nW l (IntKind.i64.wrap (u.index - d)) else l, true)

mutual
theorem aD3 : ∀ (t : Tm) (l : List Int) (d : Int), t.fit -> 0 <= d -> vis qH l d t = ((dN d t).foldl nW l, true)
 | .mk k i n ls ks, l, d, h, h0 => by
  simp only [Tm.fit] at h;simp only [vis, qH, if_true, dN, bE1, Tm.kind, Tm.index];rw [zF ks _ k d 0 h.2.2.2.2 h0]
  by_cases hk : k = 0 /\ d <= i
  ·rw [wrap_id (n := i - d) aB aB];simp [hk]
  ·simp only [hk, if_false, List.foldl_nil];show (List.foldl nW (if (k == 0 && decide (d <= i)) = true then nW l (IntKind.i64.wrap (i - d)) else l) (bK k d 0 ks), true) = (List.foldl nW l (bK k d 0 ks), true);rw [show (k == 0 && decide (d <= i)) = false from by simpa using hk]
   rfl
theorem zF : ∀ (ks : List Tm) (l : List Int) (k d : Int) (idx : Nat), Tm.fits ks -> 0 <= d -> mC qH l k d idx ks = ((bK k d idx ks).foldl nW l, true)
 | [], l, k, d, idx, _, _ => by simp [mC, bK]
 | t :: ts, l, k, d, idx, h, h0 => by
  simp only [Tm.fits] at h;have hb := aU k idx;simp only [mC, bK, bE1];rw [aD3 t l (d + aJ k idx) h.1 aB];simp only [if_true];rw [zF ts _ k d (idx + 1) h.2 h0]
end


open Go Go.AI
theorem sJ (k d : Int) (x : Int) : ∀ (l : List Tm) (idx j : Nat) (hj : j < l.length), x ∈ dN (d + aJ k (idx + j : Nat)) l[j] -> x ∈ bK k d idx l
 | [], _, _, hj, _ => by simp at hj
 | t :: ts, idx, 0, _, h => by simp only [bK]; exact bD5 _ (by simpa using h)
 | t :: ts, idx, j + 1, hj, h => by
  simp only [bK];refine List.mem_append_right _ (sJ k d x ts (idx + 1) j (by simpa using hj) ?_);rw [show idx + 1 + j = idx + (j + 1) by omega];simpa using h

mutual
theorem kX : ∀ (t : Tm) (d : Int), (dN d t).length <= t.size
 | .mk k i _ _ ks, d => by
  simp only [dN, Tm.size, bBp];have := mH ks k d 0;split <;> simp <;> omega
theorem mH : ∀ (l : List Tm) (k d : Int) (idx : Nat), (bK k d idx l).length <= Tm.sizes l
 | [], _, _, _ => by simp [bK, Tm.sizes]
 | t :: ts, k, d, idx => by
  simp only [bK, Tm.sizes, bBp];have := kX t (d + aJ k idx);have := mH ts k d (idx + 1);omega
end
theorem lL {α : Type} [DecidableEq α] : ∀ {l F : List α}, l.Nodup -> (∀ x ∈ l, x ∈ F) -> l.length <= F.length
 | [], _, _, _ => by simp
 | x :: l, F, hn, hs => by
  obtain ⟨h1, h2⟩ := bCx.1 hn;have hx : x ∈ F := hs x aA;have := lL (l := l) (F := F.erase x) h2 fun y hy => (List.mem_erase_of_ne (by rintro rfl; exact h1 hy)).2 (hs y (by simp [hy]))
  rw [List.length_erase_of_mem hx] at this;have : 0 < F.length := List.length_pos_of_mem hx;simp only [bBm];omega
def aSm (F : List Int) (t : Tm) (d : Int) : Prop := t.fit /\ 0 <= d /\ d + t.size <= 1099511627776 /\ ∀ x ∈ dN d t, x ∈ F
theorem aKv (F : List Int) : ∀ k i n ls ks d, aSm F (.mk k i n ls ks) d -> ∀ (j : Nat) (hj : j < ks.length), aSm F ks[j] (d + aJ k j) := by
 intro k i n ls ks d h j hj;obtain ⟨h1, h2, h3, h4⟩ := h;simp only [Tm.fit] at h1;simp only [Tm.size] at h3;have hs := dD hj;have hb := aU k j;refine ⟨Tm.fits_at h1.2.2.2.2 _ (bBi hj), by omega, by omega, fun x hx => h4 x ?_⟩;simp only [dN];exact List.mem_append_right _ (sJ k d x ks 0 j hj (by simpa using hx))
def LvF (F : List Int) (l : List Int) : Prop := l.Nodup /\ ∀ x ∈ l, x ∈ F
theorem aV5 (F : List Int) : ∀ s d u, LvF F s -> aSm F u d -> (qH s d u).2 = true -> LvF F (qH s d u).1 := by
 rintro s d ⟨k, i, n, ls, ks⟩ ⟨h1, h2⟩ ⟨p1, p2, p3, p4⟩ -;show LvF F (if (k == 0 && decide (d <= i)) = true then nW s (IntKind.i64.wrap (i - d)) else s)
 by_cases hc : (k == 0 && decide (d <= i)) = true
 ·rw [if_pos hc];simp only [Tm.fit] at p1;simp only [bBs, beq_iff_eq, bC2] at hc;rw [wrap_id (n := i - d) aB aB];refine ⟨tA _ h1, fun x hx => ?_⟩;rcases (aCi _ _ _).1 hx with hx | rfl
  ·exact h2 x hx
  ·exact p4 _ (by simp [dN, hc])
 ·rw [if_neg hc];exact ⟨h1, h2⟩


open Go Go.AI
def dnB (n : Int) (m : List Int) : Bool := m.any fun x => decide (n < x)
def aCm (n : Int) (m : List Int) : List Int := if dnB n m = true then rH n m else m
theorem uP (n x : Int) (m : List Int) : dnB n (m ++ [x]) = (dnB n m || decide (n < x)) := by simp [dnB]
theorem xI (n x : Int) : ∀ m : List Int, dnB n m = true -> rH n (m ++ [x]) = rH n m ++ [x]
 | [], h => by simp [dnB] at h
 | y :: m, h => by
  simp only [bBj, rH]
  by_cases hy : n < y
  ·simp [hy]
  ·have h' : dnB n m = true := by simpa [dnB, hy] using h
   simp [hy, xI n x m h']
theorem aCb (n : Int) : ∀ m : List Int, dnB n m = false -> rH n m = m ++ [n]
 | [], _ => rfl
 | y :: m, h => by
  have h1 : ¬ n < y := by intro hy; simp [dnB, hy] at h
  have h' : dnB n m = false := by simpa [dnB, h1] using h
  simp [rH, h1, aCb n m h']
theorem sL (n x : Int) (hx : n < x) : ∀ m : List Int, dnB n m = false -> rH n (m ++ [x]) = m ++ [n, x]
 | [], _ => by simp [rH, hx]
 | y :: m, h => by
  have h1 : ¬ n < y := by intro hy; simp [dnB, hy] at h
  have h' : dnB n m = false := by simpa [dnB, h1] using h
  simp [rH, h1, sL n x hx m h']
theorem aEg {n x : Int} {m : List Int} (hx : n < x) (h : dnB n m = false) : aCm n (m ++ [x]) = aCm n m ++ [n] ++ [x] := by
 simp [aCm, uP, h, hx, sL n x hx m h]
theorem aHc {n x : Int} {m : List Int} (hx : ¬ (n < x /\ dnB n m = false)) : aCm n (m ++ [x]) = aCm n m ++ [x] := by
 unfold aCm;rw [uP]
 cases h : dnB n m with
 | true => simp [xI n x m h]
 | false =>
  have : ¬ n < x := fun h' => hx ⟨h', h⟩
  simp [this]
theorem uY (n : Int) : ∀ m : List Int, (rH n m).length = m.length + 1
 | [] => rfl
 | y :: m => by
  simp only [rH];split
  ·simp
  ·simp [uY n m]
theorem aKn (n : Int) (m : List Int) : (aCm n m).length <= m.length + 1 := by
 unfold aCm;split
 ·rw [uY]; omega
 ·omega
theorem aBt (l : List Int) (n : Int) : (mA l n).length <= l.length + 1 := by
 unfold mA;split
 ·omega
 ·rw [uY]; omega
theorem uE (F : List Int) : ∀ l : List Int, (F.foldl mA l).length <= l.length + F.length := by
 induction F with
 | nil => simp
 | cons x F ih =>
  intro l;simp only [List.foldl_cons, bBm];have := ih (mA l x);have := aBt l x;omega

mutual
theorem pI : ∀ (t : Tm) (d x : Int), x ∈ dN d t -> 0 <= x
 | .mk k i _ _ ks, d, x, h => by
  simp only [dN, bC8] at h;rcases h with h | h
  ·split at h
   ·simp only [List.mem_singleton] at h; omega
   ·cases h
  ·exact sK ks k d 0 x h
theorem sK : ∀ (l : List Tm) (k d : Int) (idx : Nat) (x : Int), x ∈ bK k d idx l -> 0 <= x
 | [], _, _, _, _, h => by simp [bK] at h
 | t :: ts, k, d, idx, x, h => by
  simp only [bK, bC8] at h;rcases h with h | h
  ·exact pI t _ x h
  ·exact sK ts k d (idx + 1) x h
end


open Go Go.AI

mutual
theorem nY : ∀ (t : Tm) (d m : Int), t.ok m -> ∀ x ∈ dN d t, x < m - d
 | .mk k i nm ls ks, d, m, h, x, hx => by
  simp only [Tm.ok, Tm.okN] at h;simp only [dN, bC8] at hx;rcases hx with hx | hx
  ·split at hx
   ·rename_i hc;simp only [List.mem_singleton] at hx;have := h.1.1 hc.1;omega
   ·cases hx
  ·exact xF ks k d m 0 h.2 x hx
theorem xF : ∀ (l : List Tm) (k d m : Int) (idx : Nat), Tm.oks m k idx l -> ∀ x ∈ bK k d idx l, x < m - d
 | [], _, _, _, _, _, x, hx => by simp [bK] at hx
 | t :: ts, k, d, m, idx, h, x, hx => by
  simp only [Tm.oks] at h;simp only [bK, bC8] at hx;rcases hx with hx | hx
  ·have := nY t _ _ h.1 x hx; omega
  ·exact xF ts k d m (idx + 1) h.2 x hx
end


open Go Go.AI

structure Ct where
 nm : List UInt8
 ty : Tm

mutual
inductive Tr where
 | mk (k : Int) (b : Tm) (v : Int) (bs : List Br)
inductive Br where
 | mk (c : List UInt8) (a : Bool) (t : Tr)
end

structure Fu where
 nm : List UInt8
 ty : Tm
 ar : Int
 tr : Tr

structure Dc where
 k : Int
 nm : List UInt8
 ps : Int
 ty : Tm
 va : Tm
 fx : Int
 cs : List Ct
 rp : Int
 rt : Tm
 rr : List Tm
 fs : List Fu
def Ct.cells (c : Ct) : List PV := sP c.nm :: c.ty.cells
abbrev bP (b : Bool) : PV := .prim (.bool b)

mutual
def Tr.cells : Tr -> List PV
 | .mk k b v bs => iP k :: (b.cells ++ [iP v, .sl 10 (brPs bs)])
def Br.cells : Br -> List PV
 | .mk c a t => sP c :: bP a :: t.cells
def brPs : List Br -> List (List PV)
 | [] => []
 | b :: bs => b.cells :: brPs bs
end
def Fu.cells (f : Fu) : List PV := sP f.nm :: (f.ty.cells ++ (iP f.ar :: f.tr.cells))
def Dc.cells (d : Dc) : List PV := iP d.k :: sP d.nm :: iP d.ps :: (d.ty.cells ++ (d.va.cells ++ (iP d.fx :: .sl 6 (d.cs.map Ct.cells) :: iP d.rp :: (d.rt.cells ++ [.sl 5 (aP d.rr), .sl 15 (d.fs.map Fu.cells)]))))
def Dc.av (d : Dc) : AV := .agg (d.cells.map .p)
def Tr.av (t : Tr) : AV := .agg (t.cells.map .p)
def Tm.good (t : Tm) : Prop := t.size <= 1048576 /\ t.fit /\ t.lvs

mutual
def Tr.size : Tr -> Nat
 | .mk _ _ _ bs => 1 + Br.sizes bs
def Br.size : Br -> Nat
 | .mk _ _ t => 1 + t.size
def Br.sizes : List Br -> Nat
 | [] => 0
 | b :: bs => b.size + Br.sizes bs
end

mutual
def Tr.good : Tr -> Prop
 | .mk _ b _ bs => b.good /\ bs.length <= 1048576 /\ Br.goods bs
def Br.good : Br -> Prop
 | .mk _ _ t => t.good
def Br.goods : List Br -> Prop
 | [] => True
 | b :: bs => b.good /\ Br.goods bs
end
def Fu.good (f : Fu) : Prop := f.ty.good /\ f.tr.good

structure Dc.good (d : Dc) : Prop where
 ty : d.ty.good
 va : d.va.good
 rt : d.rt.good
 csl : d.cs.length <= 1048576
 cs : ∀ c ∈ d.cs, c.ty.good
 rrl : d.rr.length <= 1048576
 rr : ∀ t ∈ d.rr, t.good
 fsl : d.fs.length <= 1048576
 fs : ∀ f ∈ d.fs, f.good
def Env.good (env : List Dc) : Prop := env.length <= 1048576 /\ ∀ d ∈ env, d.good

end Go.Proofs.YtfajdeofhioakaaGreat
