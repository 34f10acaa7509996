import Derived.Test.YtfajdeofhioakaaGreatJA0
import Derived.Test.YtfajdeofhioakaaGreatJA
import Derived.Test.YtfajdeofhioakaaGreatJFD
set_option maxRecDepth 8000


namespace Go.Proofs.YtfajdeofhioakaaGreat

open Go Go.AI
abbrev errP (e : Int) : PV := .ifc 210 (iP e)
theorem stop_any (h : Heap) (hh : WF h) (e : Int) : ACalls Tryz.prog 102 [iA e] h fun o h' => o = .panic (.p (errP e)) /\ h' = h := by
 refine zE Tryz.func102 Tryz.ntmps102 ?_;refine zq ?_;refine Run.panic (t := 210) (y := iP e) rfl rfl aA ?_;exact Fin.pan rfl hh (bBl _).symm ⟨rfl, rfl⟩
theorem pQ (h : Heap) (hh : WF h) (i : Int) : ACalls Tryz.prog 103 [iA i] h fun o h' => (if 65535 < i then o = .panic (.p (errP 24)) else o = .ret (vr i).av) /\ h' = h := by
 refine zE Tryz.func103 Tryz.ntmps103 ?_;refine Run.seq (Run.reg fun K J => ?_);simp;refine J _ _ _ (Run.opsNil ?_); clear J;refine Run.seq (Run.seq (Run.reg fun K J => ?_));simp;refine J _ _ _ (Run.opsNil ?_); clear J
 by_cases he : 65535 < i
 ·refine ct (by simp [he]) ?_;refine zq ?_;refine Run.call (args := [iA 24]) rfl rfl aA rfl (stop_any _ (hh.app aA) 24) ?_ ?_
  ·rintro v h' ⟨hv, _⟩; cases hv
  ·rintro v h' ⟨hv, rfl⟩;simp only [AOut.panic.injEq] at hv;subst hv;exact Fin.pan rfl hh rfl ⟨by simp [he], rfl⟩
 ·refine cf (by simp [he]) ?_;refine Run.skip (Run.seq (Run.reg fun K J => ?_));simp;refine J _ _ _ (Run.opsNil ?_); clear J;refine Run.ret ?_;refine Fin.ret' (h0 := h) aA rfl hh rfl aE rfl ?_ (y := (vr i).av) ?_ ⟨by simp [he], rfl⟩
  ·exact y3b
  ·simp
theorem wL (h : Heap) (hh : WF h) (k i : Int) : AC 146 [iA k, iA i] h (iA (aJ k i)) := by
 refine zE Tryz.func146 Tryz.ntmps146 ?_;refine Run.seq (Run.reg fun K J => ?_);simp;refine J _ _ _ (Run.opsNil ?_); clear J;refine Run.seq (Run.block ?_)
 repeat refine Run.seq ?_
 refine Run.reg fun K J => ?_
 have hcase : ((i == 1) = true /\ (k == 5) = true) \/ ((i == 1) = true /\ (k == 5) = false /\ (k == 6) = true) \/ ((i == 1) = true /\ (k == 5) = false /\ (k == 6) = false /\ (k == 7) = true) \/
   ((i == 1) = true /\ (k == 5) = false /\ (k == 6) = false /\ (k == 7) = false /\ (i == 2) = false) \/ ((i == 1) = false /\ (i == 2) = true /\ (k == 11) = true) \/ ((i == 1) = false /\ (i == 2) = true /\ (k == 11) = false) \/ ((i == 1) = false /\ (i == 2) = false) := by
  simp; omega
 rcases hcase with ⟨e1, e2⟩ | ⟨e1, e2, e3⟩ | ⟨e1, e2, e3, e4⟩ | ⟨e1, e2, e3, e4, e5⟩ | ⟨e1, e2, e3⟩ | ⟨e1, e2, e3⟩ | ⟨e1, e2⟩
 all_goals
  simp [*, -J];refine J _ _ _ (Run.opsNil ?_); clear J;refine Run.cond rfl ?_
  first
  | (simp only [if_true]
     refine Run.skip (Run.cond rfl ?_);simp only [if_true];refine Run.seq (Run.reg fun K J => ?_);simp;refine J _ _ _ (Run.opsNil ?_); clear J;refine Run.ret ?_;simp only [beq_iff_eq, beq_eq_false_iff_ne, ne_eq] at *;refine zF3 hh ?_;exact ⟨by simp [aJ, *], rfl⟩)
  | (simp only [bBy, if_false]
     refine Run.reg fun K J => ?_
     simp [*, -J];refine J _ _ _ (Run.opsNil ?_); clear J;refine Run.cond rfl ?_;simp only [beq_iff_eq, beq_eq_false_iff_ne, ne_eq] at *
     first
     | (simp only [if_true]
        refine Run.seq (Run.reg fun K J => ?_);simp;refine J _ _ _ (Run.opsNil ?_); clear J;refine Run.ret ?_;refine zF3 hh ?_;exact ⟨by simp [aJ, *], rfl⟩)
     | (simp only [bBy, if_false]
        refine Run.skip (Run.inBlock (Run.seq (Run.reg fun K J => ?_)));simp;refine J _ _ _ (Run.opsNil ?_); clear J;refine Run.ret ?_;refine zF3 hh ?_;exact ⟨by simp [aJ, *], rfl⟩))
def Tm.bare : Tm -> Tm
 | .mk k i n ls _ => .mk k i n ls []
theorem aH0 (l : List Lv) (t : Lv) : bR (l ++ [t]) = bR l ++ [t.cells] := by simp [bR]
def aAu (ls : List Lv) : Prop := ls.length <= 1048576 /\ ∀ l ∈ ls, l.vars.length <= 1048576
theorem lN (h : Heap) (hh : WF h) (t : Tm) (hb : aAu t.levels) : AC 101 [t.av] h t.bare.av := by
 obtain ⟨k, i, n, ls, ks⟩ := t;simp only [Tm.levels] at hb;refine ACalls.of_run Tryz.func101 rfl ?_;simp only [Tryz.ntmps101, bBm, bBn, Tm.av, cells_mk, List.map];refine aIv ?_;refine Run.tokAt (h.length + 2) 3 2 aE aA ?_;simp
 refine Run.loopS [1, 2, 3, 14, 15] (fun j : Nat => j <= ls.length) (fun j => ls.length - j) (fun j => [(16, iA j)])
   (fun j => h ++ [some (.cells [iA k, iA i, .p (sP n), .p (.sl 2 (bR ls)), .p (.sl 5 (aP ks))]), some (.cells [iA 0, iA 0, .p (sP []), .p (.prim (.slice none 0 0)), .p (.prim (.slice none 0 0))]),
    some (.cells [iA k, iA i, .p (sP n), .own (h.length + 3) 2 (bR (ls.take j)), .p (.prim (.slice none 0 0))]), some (.tok j 2)])
   0 aA ?_ (by simp [bR]) ?_
 ·exact zS
 ·intro j hj IH;refine eU ?_
  by_cases hjl : j < ls.length
  ·have hg : ls[j]? = some ls[j] := bBf hjl;have hvl := hb.2 _ (bBi hjl);have hmin : min j ls.length = j := bCw hj;have hb0 := hb.1;refine znt1 hjl ?_;refine zrv0 hg ?_;refine Run.draw [0, 0, 0, 0, 0, 0, 0, 1, 1, 1, 2, 2] [0, 0, 0, 0, 0, 0, 0, 0, 0, 1, 0, 2] [0, 1, 0, 4, 0, 16, 48, 124, 252, 511, 1023, 2047] [4, 5, 6, 0, 1, 2, 3, 7, 8, 9, 10, 11] aC aC ?_;have hb1 : ls[j].vars.length * 16 <= 140737488355328 := aB;have hb2 : ls[j].vars.length <= 9223372036854775807 := aB;have hb3 : (j + 1) * 32 <= 140737488355328 := aB;have hb4 : j + 1 <= 9223372036854775807 := aB;refine zd5 hmin hb1 hb2 hb3 hb4 ?_;refine y8 ?_;refine znr ?_;have htk : ls.take (j + 1) = ls.take j ++ [ls[j]] := bBq hjl;refine Run.keep [1, 2, 3, 14, 15, 16] ?_;simp;refine Run.cutAt 4 hh rfl aB aA aA aA rfl ?_;refine IH (j + 1) _ _ aB aB ?_ ?_
   ·exact zS
   ·rw [htk, aH0];simp [Lv.cells]
  ·have hje : j = ls.length := aB;subst hje;refine jB ?_;refine Fin.ret' (h0 := h) aA rfl hh rfl aE rfl (y := (Tm.mk k i n ls []).av) ?_ aA ⟨rfl, rfl⟩;refine Weak.agg ?_;exact zK


open Go Go.AI

inductive VO where
 | done (t : Tm) (s : Int)
 | go (t : Tm) (s : Int)
 | bad (e s : Int)

inductive BO (α : Type) where
 | ok (x : α) (s : Int)
 | bad (e s : Int)
def Tm.withKids : Tm -> List Tm -> Tm
 | .mk k i n ls _, ks => .mk k i n ls ks

mutual
def bld (vis : Int -> Tm -> Int -> VO) (s : Int) : Tm -> Int -> BO Tm
 | .mk k i n ls ks, d => match vis s (.mk k i n ls ks) d with
  | .bad e s' => .bad e s'
  | .done t' s' => .ok t' s'
  | .go t' s' => match jE vis s' k d 0 ks with
   | .bad e s'' => .bad e s''
   | .ok ks' s'' => .ok (t'.withKids ks') s''
def jE (vis : Int -> Tm -> Int -> VO) (s : Int) (k d : Int) (idx : Nat) : List Tm -> BO (List Tm)
 | [] => .ok [] s
 | t :: ts => match bld vis s t (d + aJ k idx) with
  | .bad e s' => .bad e s'
  | .ok t' s' => match jE vis s' k d (idx + 1) ts with
   | .bad e s'' => .bad e s''
   | .ok ts' s'' => .ok (t' :: ts') s''
end
theorem wM (vis : Int -> Tm -> Int -> VO) (k d : Int) : ∀ (l : List Tm) (s : Int) (idx : Nat) (t : Tm), jE vis s k d idx (l ++ [t]) = match jE vis s k d idx l with
  | .bad e s' => .bad e s'
  | .ok l' s' => match bld vis s' t (d + aJ k (idx + l.length : Nat)) with
   | .bad e s'' => .bad e s''
   | .ok t' s'' => .ok (l' ++ [t']) s''
 | [], s, idx, t => by
  simp only [bBo, jE, bBn, bDr]
 | x :: l, s, idx, t => by
  simp only [bBj, jE]
  cases h1 : bld vis s x (d + aJ k idx) with
  | bad e s' => simp
  | ok x' s' =>
   simp only;rw [wM vis k d l s' (idx + 1) t]
   cases h2 : jE vis s' k d (idx + 1) l with
   | bad e s'' => simp
   | ok l' s'' =>
    simp only [bBm];rw [show idx + 1 + l.length = idx + (l.length + 1) by omega]
    cases h3 : bld vis s'' t (d + aJ k (idx + (l.length + 1) : Nat)) with
    | bad e s3 => simp
    | ok t' s3 => simp
theorem aBx (vis : Int -> Tm -> Int -> VO) (k d : Int) (e s' : Int) : ∀ (l r : List Tm) (s : Int) (idx : Nat), jE vis s k d idx l = .bad e s' -> jE vis s k d idx (l ++ r) = .bad e s'
 | [], r, s, idx, h => by simp [jE] at h
 | x :: l, r, s, idx, h => by
  simp only [bBj, jE] at h ⊢
  cases h1 : bld vis s x (d + aJ k idx) with
  | bad e1 s1 => rw [h1] at h; simpa using h
  | ok x' s1 =>
   rw [h1] at h;simp only at h ⊢
   cases h2 : jE vis s1 k d (idx + 1) l with
   | bad e2 s2 => rw [h2] at h; simp at h; obtain ⟨rfl, rfl⟩ := h; rw [aBx vis k d _ _ l r s1 (idx + 1) h2]
   | ok l' s2 => rw [h2] at h; simp at h
theorem aBz (vis : Int -> Tm -> Int -> VO) (k d : Int) : ∀ (l : List Tm) (s : Int) (idx : Nat) (l' : List Tm) (s' : Int), jE vis s k d idx l = .ok l' s' -> l'.length = l.length
 | [], s, idx, l', s', h => by simp [jE] at h; simp [<- h.1]
 | x :: l, s, idx, l', s', h => by
  simp only [jE] at h
  cases h1 : bld vis s x (d + aJ k idx) with
  | bad e1 s1 => rw [h1] at h; simp at h
  | ok x' s1 =>
   rw [h1] at h;simp only at h
   cases h2 : jE vis s1 k d (idx + 1) l with
   | bad e2 s2 => rw [h2] at h; simp at h
   | ok l2 s2 => rw [h2] at h; simp at h; rw [<- h.1]; simp [aBz vis k d l s1 (idx + 1) l2 s2 h2]
def VPost (B : Int -> Heap) (l : List (Option AO)) : VO -> AOut -> Heap -> Prop
 | .done t s, o, h' => o = .ret (.tup [t.av, bA true]) /\ h' = B s ++ l
 | .go t s, o, h' => o = .ret (.tup [t.av, bA false]) /\ h' = B s ++ l
 | .bad e s, o, h' => o = .panic (.p (errP e)) /\ h' = B s ++ l
def kM (B : Int -> Heap) : BO Tm -> AOut -> Heap -> Prop
 | .ok t s, o, h' => o = .ret t.av /\ h' = B s
 | .bad e s, o, h' => o = .panic (.p (errP e)) /\ h' = B s
abbrev z5 : List PV := [iP 0, iP 0, sP [], .prim (.slice none 0 0), .prim (.slice none 0 0)]
def bY (dn : List Tm) (m : Nat) : List AV := (aP dn ++ List.replicate m z5).flatten.map AV.p
theorem aCe (dn : List Tm) (m : Nat) : ∀ e ∈ aP dn ++ List.replicate m z5, e.length = 5 := by
 intro e he;rcases bC8.1 he with h | h
 ·rw [fR] at h; obtain ⟨t, _, rfl⟩ := bCb.1 h; simp
 ·rw [(bE9.1 h).2]; rfl
theorem xR (m : Nat) (dn : List Tm) (q : Nat) : AV.underL m (bY dn q) = true := underL_p _ _
theorem pN (dn : List Tm) (m : Nat) : (bY dn m).length = (dn.length + m) * 5 := by
 unfold bY;rw [bC9, aQ (aCe dn m)]; simp
theorem lG (m : Nat) : (List.replicate m [iA 0, iA 0, AV.p (sP []), AV.p (.prim (.slice none 0 0)), AV.p (.prim (.slice none 0 0))]).flatten = bY [] m := by
 unfold bY
 induction m with
 | zero => rfl
 | succ m ih => rw [bCn, bCu, ih]; simp [aP, bCn]
theorem xQ (dn : List Tm) (m : Nat) (t : Tm) : patch (bY dn (m + 1)) (dn.length * 5) (t.cells.map AV.p) = bY (dn ++ [t]) m := by
 unfold bY;rw [<- iK, <- kW 5 _ dn.length t.cells (aCe dn (m + 1)) aA aA]
 congr 2
 rw [bCz _ _ aA, aBj, Nat.sub_self, bCn, bDl, fR, fR];simp
theorem aU (k i : Int) : 0 <= aJ k i /\ aJ k i <= 1 := by unfold aJ; split <;> omega
theorem kR (vis : Int -> Tm -> Int -> VO) (g : FuncId) (hg : aL Tryz.prog g = true) (cap : List AV) (Dom : Tm -> Int -> Prop)
  (hD1 : ∀ k i n ls ks d, Dom (.mk k i n ls ks) d -> ks.length <= 1048576 /\ 0 <= d /\ d <= 1099511627776)
  (hD2 : ∀ k i n ls ks d, Dom (.mk k i n ls ks) d -> ∀ (j : Nat) (hj : j < ks.length), Dom ks[j] (d + aJ k j)) (N : Nat) :
  ∀ (t : Tm) (s d : Int) (B : Int -> Heap) (n : Nat), t.size <= N -> Dom t d -> (∀ s, (B s).length = n) -> (∀ s, WF (B s)) -> AV.underL n cap = true ->
   (∀ s t d l, Dom t d -> WF (B s ++ l) -> ACalls Tryz.prog g ([t.av, iA d] ++ cap) (B s ++ l) (VPost B l (vis s t d))) ->
   ACalls Tryz.prog 104 [.agg [.fn (.func g) [] cap], t.av, iA d] (B s) (kM B (bld vis s t d)) := by
 induction N with
 | zero => intro t _ _ _ _ hN; have := t.size_pos; omega
 | succ N ih =>
 intro t s d B n hN hdom hlen hwf hcap HV;obtain ⟨k, i, nm, ls, ks⟩ := t;obtain ⟨hks, hd0, hd1⟩ := hD1 _ _ _ _ _ _ hdom;have gl : ∀ s (l : List (Option AO)) (k : Nat), (B s ++ l)[n + k]? = l[k]? := fun s l k => dC (hlen s)
 have gl0 : ∀ s (l : List (Option AO)), (B s ++ l)[n]? = l[0]? := fun s l => fW (hlen s)
 have sl : ∀ s (l : List (Option AO)) (k : Nat) (o : Option AO), (B s ++ l).set (n + k) o = B s ++ l.set k o := fun s l k o => dG (hlen s)
 have sl0 : ∀ s (l : List (Option AO)) (o : Option AO), (B s ++ l).set n o = B s ++ l.set 0 o := fun s l o => mT (hlen s)
 have wfl : ∀ s (l : List (Option AO)), l.all (AO.under (n + l.length)) = true -> WF (B s ++ l) := fun s l hl => (hwf s).app (by rw [hlen]; exact hl)
 have hcapm : ∀ m, AV.underL (n + m) cap = true := fun m => AV.underL_mono aB hcap
 simp only [Tm.size] at hN;refine ACalls.of_run Tryz.func104 rfl ?_;simp only [Tryz.ntmps104, bBm, bBn, Tm.av, cells_mk, List.map];refine nv ?_;rw [hlen s];refine uC hlen ?_;refine zr2 gl gl0 ?_;have hv0 : ∃ vo, vis s (.mk k i nm ls ks) d = vo := ⟨_, rfl⟩;obtain ⟨vo, hvo⟩ := hv0;have hc := HV s (.mk k i nm ls ks) d [some (.cells [.fn (.func g) [] cap]), some (.cells [iA k, iA i, .p (sP nm), .p (.sl 2 (bR ls)), .p (.sl 5 (aP ks))]), some (.cells [iA 0, iA 0, .p (sP []), .p (.prim (.slice none 0 0)), .p (.prim (.slice none 0 0))])] hdom (wfl _ _ (by simp [hcapm]));rw [hvo] at hc;simp only [Tm.av, cells_mk, List.map] at hc;refine Run.call rfl rfl aA hg hc ?_ ?_
 ·intro v h' hR
  cases vo with
  | bad e s' => simp [VPost] at hR
  | done t' s' =>
   simp only [VPost, AOut.ret.injEq] at hR;obtain ⟨rfl, rfl⟩ := hR;obtain ⟨k', i', n', ls', ks'⟩ := t';refine bB9 hlen ?_;refine zr ?_;refine zt ?_;refine aSk gl ?_;refine zx ?_;refine Fin.ret' (h0 := B s') aA (hlen s') (hwf s') rfl (by simp [gl]; rfl) rfl (Weak.refl _) aA ?_;simp [bld, hvo, kM]
  | go t' s' =>
   simp only [VPost, AOut.ret.injEq] at hR;obtain ⟨rfl, rfl⟩ := hR;obtain ⟨k', i', n', ls', ks'⟩ := t';refine bB9 hlen ?_;refine zr ?_;refine zf ?_;refine aSk gl ?_;refine zr1 gl ?_
   by_cases hk0 : 0 < ks.length
   ·refine znt1 hk0 ?_;have hm1 : ks.length * 80 <= 140737488355328 := aB;have hm2 : ks.length <= 1099511627776 := aB;refine zn ?_;refine zrv2 hm1 hm2 hlen ?_;rw [lG];refine uC gl ?_
    refine Run.loopS (ι := Nat × List Tm × Int) [2, 3, 4, 6, 7, 32, 33] (fun p => p.1 <= ks.length /\ jE vis s' k d 0 (ks.take p.1) = .ok p.2.1 p.2.2) (fun p => ks.length - p.1) (fun p => [(34, iA p.1)])
     (fun p => B p.2.2 ++ [some (.cells [.fn (.func g) [] cap]), some (.cells [iA k, iA i, .p (sP nm), .p (.sl 2 (bR ls)), .p (.sl 5 (aP ks))]), some (.cells [iA 0, iA 0, .p (sP []), .p (.prim (.slice none 0 0)), .p (.prim (.slice none 0 0))]),
      some (.cells [iA k', iA i', .p (sP n'), .p (.sl 2 (bR ls')), .sm (n + 4) 0 ks.length ks.length 5]), some (.cells (bY p.2.1 (ks.length - p.1)))])
     (0, [], s') (by simp [jE]) ?_ aA ?_
    ·exact zS
    ·rintro ⟨j, dn, sj⟩ ⟨hj, hbl⟩ IH;simp only at hj hbl;have hdl : dn.length = j := by rw [aBz _ _ _ _ _ _ _ _ hbl]; simp; omega
     refine eU ?_
     by_cases hjl : j < ks.length
     ·have hgj : ks[j]? = some ks[j] := bBf hjl;have htk : ks.take (j + 1) = ks.take j ++ [ks[j]] := bBq hjl;have hbz := aU k j;refine znt1 hjl ?_;refine zrv3 hgj hlen ?_
      -- the locals, and the contract of the recursive call over them
      obtain ⟨L, hL⟩ : ∃ L : List (Option AO), L = [some (.cells [.fn (.func g) [] cap]), some (.cells [iA k, iA i, .p (sP nm), .p (.sl 2 (bR ls)), .p (.sl 5 (aP ks))]), some (.cells [iA 0, iA 0, .p (sP []), .p (.prim (.slice none 0 0)), .p (.prim (.slice none 0 0))]),
       some (.cells [iA k', iA i', .p (sP n'), .p (.sl 2 (bR ls')), .sm (n + 4) 0 ks.length ks.length 5]), some (.cells (bY dn (ks.length - j))), some (.cells (ks[j].cells.map .p))] := ⟨_, rfl⟩
      have hLl : L.length = 6 := by rw [hL]; rfl
      have hLu : L.all (AO.under (n + L.length)) = true := by rw [hLl, hL]; simp [hcapm, xR]
      have hsz : ks[j].size <= N := by
       have h1 := dR ks j _ hgj;have h2 := bQ ks (j + 1);omega
      have hcall := ih ks[j] sj (d + aJ k j) (fun s => B s ++ L) (n + 6) hsz (hD2 _ _ _ _ _ _ hdom j hjl) (fun s => by rw [bBp, hlen, hLl]) (fun s => wfl s L hLu) (hcapm 6)
       (fun s t d l hd hw => by
        have := HV s t d (L ++ l) hd (by rw [<- bC3]; exact hw);refine y10 ?_;intro o h' hp
        cases hvv : vis s t d <;> rw [hvv] at hp <;> simp only [VPost] at hp ⊢ <;> exact ⟨hp.1, by rw [hp.2, bC3]⟩)
      obtain ⟨bo, hbo⟩ : ∃ bo, bld vis sj ks[j] (d + aJ k j) = bo := ⟨_, rfl⟩;rw [hbo] at hcall;have hsn := wM vis k d (ks.take j) s' 0 ks[j];rw [hbl] at hsn;simp only [bCg, bC7, bCw hj, hbo] at hsn;have hwn : WF (B sj ++ L) := wfl sj L hLu;rw [hL] at hwn
      cases bo with
      | ok t2 s2 =>
       have hcall2 := hcall.mono (R' := fun o h' => o = .ret t2.av /\ h' = B s2 ++ L) (fun _ _ hp => hp);rw [hL] at hcall2;refine nv ?_;refine Run.draw [0, 0, 0, 0, 0, 0, 0, 0, 0, 0, 1, 1, 2, 2] [0, 0, 0, 0, 0, 0, 0, 0, 0, 0, 0, 1, 0, 2] [0, 1, 0, 0, 0, 0, 0, 64, 0, 448, 992, 2040, 4095, 8191] [6, 7, 8, 9, 3, 4, 5, 10, 11, 0, 1, 2, 12, 13] aC aC ?_;refine zd1 gl ?_;refine DR.call (args := [iA k, iA j]) rfl rfl rfl aA rfl (wL _ hwn k j) ?_;refine zd2 gl gl0 ?_;refine DR.call (args := [.agg [.fn (.func g) [] cap], ks[j].av, iA (d + aJ k j)]) rfl rfl rfl aA rfl hcall2 ?_;have hj5 : j * 5 + 5 <= (bY dn (ks.length - j)).length := by rw [pN]; omega
       have hput : patch (bY dn (ks.length - j)) (j * 5) (List.map AV.p t2.cells) = bY (dn ++ [t2]) (ks.length - (j + 1)) := by
        have := xQ dn (ks.length - (j + 1)) t2;rw [hdl, show ks.length - (j + 1) + 1 = ks.length - j by omega] at this;exact this
       refine bB7 gl hjl hj5 hput ?_;refine y8 ?_;refine znr ?_;refine Run.keep [2, 3, 4, 6, 7, 32, 33, 34] ?_;simp;refine Run.cutAt 5 (hwf s2) rfl (by rw [hlen]; omega) aA (by simp [hlen]) (by simp [hlen, hcapm, xR]) rfl ?_;refine IH (j + 1, dn ++ [t2], s2) _ _ ⟨by simp; omega, ?_⟩ (by simp; omega) ?_ ?_
       ·rw [htk]; exact hsn
       ·exact zS
       ·simp
      | bad e s2 =>
       have hcall2 := hcall.mono (R' := fun o h' => o = .panic (.p (errP e)) /\ h' = B s2 ++ L) (fun _ _ hp => hp);rw [hL] at hcall2
       have hbad : jE vis s' k d 0 ks = .bad e s2 := by
        have h1 : jE vis s' k d 0 (ks.take (j + 1)) = .bad e s2 := by rw [htk]; exact hsn
        have := aBx vis k d e s2 (ks.take (j + 1)) (ks.drop (j + 1)) s' 0 h1
        rwa [bCp] at this
       refine nv ?_;refine Run.drawPanic [0, 0, 0, 0, 0, 0, 0, 0, 0, 0, 1, 1, 2, 2] [0, 0, 0, 0, 0, 0, 0, 0, 0, 0, 0, 0, 0, 0] [0, 1, 0, 0, 0, 0, 0, 64, 0, 448, 992, 2040, 4095, 8191] [6, 7, 8, 9, 0, 1, 2, 3, 4, 5, 10] 11 aC aC ?_;refine zd1 gl ?_;refine DR.call (args := [iA k, iA j]) rfl rfl rfl aA rfl (wL _ hwn k j) ?_;refine zd2 gl gl0 ?_;refine ⟨_, _, _, [.agg [.fn (.func g) [] cap], ks[j].av, iA (d + aJ k j)], _, _, rfl, rfl, rfl, by simp, rfl, hcall2, ?_⟩;intro T' hT;exact Fin.pan (hlen s2) (hwf s2) rfl (by simp [bld, hvo, hbad, kM])
     ·have hje : j = ks.length := aB;subst hje;rw [bC6] at hbl;refine znfen ?_;refine aSk gl ?_;refine zx ?_
      refine Fin.retS (h0 := B sj) (xs := [.agg [iA k', iA i', .p (sP n'), .p (.sl 2 (bR ls')), .sm (n + 4) 0 ks.length ks.length 5]]) aA (hlen sj) (hwf sj) (by simp [gl]) rfl
       (Settles.kids (xs := [iA k', iA i', .p (sP n'), .p (.sl 2 (bR ls'))]) (id := n + 4) (n := ks.length) (sz := 5) (es := aP dn) (by simp [gl, bY]) (fun e he => by rw [fR] at he; obtain ⟨t, _, rfl⟩ := bCb.1 he; simp) (by simp [hdl])) (by rw [sl]) aA ?_
      simp [bld, hvo, hbl, kM, Tm.withKids]
   ·refine aD8 hk0 ?_;refine aSk gl ?_;refine zx ?_;refine Fin.ret' (h0 := B s') aA (hlen s') (hwf s') rfl (by simp [gl]; rfl) rfl (y := (Tm.mk k' i' n' ls' []).av) ?_ aA ?_
    ·refine Weak.agg ?_;exact zK
    ·have : ks = [] := by cases ks <;> simp at hk0 ⊢
     subst this;simp [bld, hvo, kM, jE, Tm.withKids]
 ·intro v h' hR
  cases vo with
  | bad e s' =>
   simp only [VPost, AOut.panic.injEq] at hR;obtain ⟨rfl, rfl⟩ := hR;exact Fin.pan (hlen s') (hwf s') rfl (by simp [bld, hvo, kM])
  | done t' s' => simp [VPost] at hR
  | go t' s' => simp [VPost] at hR


open Go Go.AI
theorem caught_any (h : Heap) (hh : WF h) (e : Int) : AC 94 [.p (errP e)] h (iA e) := by
 refine zER Tryz.func94 Tryz.ntmps94 ?_;have hu : Tryz.prog.underlying 210 = some (.int .i64) := aC;refine uC hu ?_;refine zr ?_;refine y12 ?_;refine zx ?_;exact y63
abbrev zTm : List AV := [iA 0, iA 0, .p (sP []), .p (.prim (.slice none 0 0)), .p (.prim (.slice none 0 0))]

end Go.Proofs.YtfajdeofhioakaaGreat


namespace Go.AI

open Go
theorem Fin.retM {P : Program} {fn : Func} {R : AOut -> Heap -> Prop} {T : List AV} {h h0 : Heap} {n : Nat} {l : List (Option AO)} {x y : AV} {xs : List AV} {ax : AX} (hax : (∀ v, ax ≠ .panic v) /\ ∀ i, ax ≠ .exit i) (hn : n <= h0.length) (hh : WF h0) (e : h = h0 ++ l) (hr : aV P T h fn.results.toList = some xs) (hx : bO xs = x) (hw : Weak x y) (hy : y.under h0.length = true) (hR : R (.ret y) h0) :
  Fin P fn n R ax T h [] := by
 subst e hx
 have : ∃ l' y' h' m, aV P T (h0 ++ l) fn.results.toList = some l' /\ Settles (bO l') (h0 ++ l) y' h' /\ n <= m /\ m <= h'.length /\ y'.under m = true /\ (h'.take m).all (AO.under m) = true /\ R (.ret y') (h'.take m) := by
  exact y54
 cases ax with
 | panic v => exact absurd rfl (hax.1 v)
 | exit i => exact absurd rfl (hax.2 i)
 | normal => exact ⟨rfl, this⟩
 | ret => exact ⟨rfl, this⟩

end Go.AI

namespace Go.Proofs.YtfajdeofhioakaaGreat

open Go Go.AI
theorem gU (h : Heap) (hh : WF h) (g : FuncId) (cap : List AV) (hu : AV.underL h.length cap = true) :
  ACalls Tryz.prog 99 [.fn (.func g) [] cap] h fun o h' => o = .ret (.agg [.fn (.func 145) [] [.ptr h.length 0]]) /\ h' = h ++ [some (.cells [.fn (.func g) [] cap])] := by
 have hu1 : ∀ k, AV.underL (h.length + k) cap = true := fun k => AV.underL_mono aB hu
 refine zE Tryz.func99 Tryz.ntmps99 ?_;refine aPu ?_;refine Fin.retM (h0 := h ++ [some (.cells [.fn (.func g) [] cap])]) (l := [some (.cells [.fn (.func 145) [] [.ptr h.length 0]])]) aA aA (hh.app (by simp [hu1])) aA aE rfl (Weak.refl _) aA ⟨rfl, rfl⟩
def bX (rep : Int -> Tm -> Int -> BO Tm) (s : Int) (t : Tm) (d : Int) : VO :=
 if t.kind = 0 then (match rep s t d with
  | .ok t' s' => .done t' s'
  | .bad e s' => .bad e s') else .go t.bare s
def RPost (B : Int -> Heap) (l : List (Option AO)) : BO Tm -> AOut -> Heap -> Prop
 | .ok t s, o, h' => o = .ret t.av /\ h' = B s ++ l
 | .bad e s, o, h' => o = .panic (.p (errP e)) /\ h' = B s ++ l
theorem aBm (rep : Int -> Tm -> Int -> BO Tm) (g : FuncId) (hg : aL Tryz.prog g = true) (cap : List AV) (B : Int -> Heap) (n q : Nat) (hlen : ∀ s, (B s).length = n) (hwf : ∀ s, WF (B s)) (_hcap : AV.underL n cap = true)
  (hq : ∀ s, (B s)[q]? = some (some (.cells [.fn (.func g) [] cap]))) (s : Int) (t : Tm) (d : Int) (l : List (Option AO)) (hb : aAu t.levels)
  (HV : ∀ l, t.kind = 0 -> WF (B s ++ l) -> ACalls Tryz.prog g ([t.av, iA d] ++ cap) (B s ++ l) (RPost B l (rep s t d))) (hw : WF (B s ++ l)) :
  ACalls Tryz.prog 145 ([t.av, iA d] ++ [.ptr q 0]) (B s ++ l) (VPost B l (bX rep s t d)) := by
 have hqlt : q < n := by have := (bBg.1 (hq s)).1; rw [hlen] at this; exact this
 have hql : ∀ s (l : List (Option AO)), (B s ++ l)[q]? = some (some (.cells [.fn (.func g) [] cap])) := fun s l => by rw [bBt (by rw [hlen]; exact hqlt), hq]
 have gl : ∀ s (l' : List (Option AO)) (k : Nat), (B s ++ (l ++ l'))[n + (l.length + k)]? = l'[k]? := fun s l' k => by rw [dC (hlen s), kY]
 have gl0 : ∀ s (l' : List (Option AO)), (B s ++ (l ++ l'))[n + l.length]? = l'[0]? := fun s l' => gl s l' 0
 have sl : ∀ s (l' : List (Option AO)) (k : Nat) (o : Option AO), (B s ++ (l ++ l')).set (n + (l.length + k)) o = B s ++ (l ++ l'.set k o) := fun s l' k o => by rw [dG (hlen s), lS]
 have sl0 : ∀ s (l' : List (Option AO)) (o : Option AO), (B s ++ (l ++ l')).set (n + l.length) o = B s ++ (l ++ l'.set 0 o) := fun s l' o => sl s l' 0 o
 have hwl : ∀ s' (l' : List (Option AO)), (l ++ l').all (AO.under (n + (l ++ l').length)) = true -> WF (B s' ++ (l ++ l')) := fun s' l' hl => (hwf s').app (by rw [hlen]; exact hl)
 have hl0 : l.all (AO.under (n + l.length)) = true := by
  exact y5y
 have hl1 : ∀ k, l.all (AO.under (n + (l.length + k))) = true := fun k => by
  exact y6i
 have hwB : ∀ s', WF (B s' ++ l) := fun s' => (hwf s').app (by rw [hlen]; exact hl0)
 obtain ⟨k, i, nm, ls, ks⟩ := t;simp only [bBj, bBo];refine ACalls.of_run Tryz.func145 rfl ?_;simp only [Tryz.ntmps145, bBm, bBn, Tm.av, cells_mk, List.map];refine uC hlen ?_;refine zr1 gl0 ?_
 by_cases hk : k = 0
 ·subst hk;refine zn ?_;refine zt ?_;refine zr2 hql hlen ?_;obtain ⟨bo, hbo⟩ : ∃ bo, rep s (.mk 0 i nm ls ks) d = bo := ⟨_, rfl⟩;have hw2 : WF (B s ++ (l ++ [some (.cells [iA 0, iA i, .p (sP nm), .p (.sl 2 (bR ls)), .p (.sl 5 (aP ks))]), some (.cells zTm)])) := hwl s _ (by rw [bDt, bBs]; exact ⟨by simpa using hl1 _, by simp⟩);have hc := HV (l ++ [some (.cells [iA 0, iA i, .p (sP nm), .p (.sl 2 (bR ls)), .p (.sl 5 (aP ks))]), some (.cells zTm)]) rfl hw2;rw [hbo] at hc;refine Run.call rfl rfl aA hg hc ?_ ?_
  ·intro v h' hR
   cases bo with
   | bad e s' => simp [RPost] at hR
   | ok t' s' =>
    obtain ⟨k', i', n', ls', ks'⟩ := t';simp only [RPost, AOut.ret.injEq] at hR;obtain ⟨rfl, rfl⟩ := hR;refine bB9 hlen ?_;refine zx ?_;refine Fin.ret' (h0 := B s' ++ l) aA (by simp [hlen]) (hwB s') aE (by simp [gl]; rfl) rfl (Weak.refl _) aA ?_;simp [bX, Tm.kind, hbo, VPost]
  ·intro v h' hR
   cases bo with
   | ok t' s' => simp [RPost] at hR
   | bad e s' =>
    simp only [RPost, AOut.panic.injEq] at hR;obtain ⟨rfl, rfl⟩ := hR;refine Fin.pan (h0 := B s' ++ l) (by simp [hlen]) (hwB s') aE ?_;simp [bX, Tm.kind, hbo, VPost]
 ·refine aD8 hk ?_;refine zr1 hlen ?_;have hw2 : WF (B s ++ (l ++ [some (.cells [iA k, iA i, .p (sP nm), .p (.sl 2 (bR ls)), .p (.sl 5 (aP ks))]), some (.cells zTm)])) := hwl s _ (by rw [bDt, bBs]; exact ⟨by simpa using hl1 _, by simp⟩);refine Run.call (args := [(Tm.mk k i nm ls ks).av]) rfl rfl aA rfl (lN _ hw2 (.mk k i nm ls ks) hb) ?_ ?_
  ·rintro v h' ⟨hv, rfl⟩;simp only [AOut.ret.injEq] at hv;subst hv;refine zov4 hlen ?_;refine zx ?_;refine Fin.ret' (h0 := B s ++ l) aA (by simp [hlen]) hw aE (by simp [gl]; rfl) rfl (Weak.refl _) aA ?_;simp [bX, Tm.kind, hk, VPost, Tm.bare]
  ·rintro v h' ⟨hv, _⟩; cases hv
def Tm.okN (m : Int) (k i : Int) (n : List UInt8) (ls : List Lv) (ks : List Tm) : Prop :=
 (k = 0 -> 0 <= i /\ i < m /\ n = [] /\ ls = [] /\ ks = []) /\ ls.length <= 8 /\ (∀ l ∈ ls, l.vars.length <= 1048576) /\ ks.length <= 3

mutual
def Tm.ok (m : Int) : Tm -> Prop
 | .mk k i n ls ks => Tm.okN m k i n ls ks /\ Tm.oks m k 0 ks
def Tm.oks (m k : Int) (idx : Nat) : List Tm -> Prop
 | [] => True
 | t :: ts => t.ok (m + aJ k idx) /\ Tm.oks m k (idx + 1) ts
end
theorem Tm.oks_at {m k : Int} : ∀ {l : List Tm} {idx : Nat}, Tm.oks m k idx l -> ∀ (j : Nat) (hj : j < l.length), l[j].ok (m + aJ k (idx + j : Nat))
 | [], _, _, j, hj => by simp at hj
 | x :: l, idx, h, j, hj => by
  simp only [Tm.oks] at h
  cases j with
  | zero => simpa using h.1
  | succ j =>
   have := Tm.oks_at h.2 j (by simpa using hj);simp only [List.getElem_cons_succ];rw [show idx + (j + 1) = idx + 1 + j by omega]; exact this
theorem dD {l : List Tm} {j : Nat} (hj : j < l.length) : l[j].size <= Tm.sizes l := by
 have h1 := dR l j _ (bBf hj);have h2 := bQ l (j + 1);omega
def Dom (m0 : Int) (t : Tm) (d : Int) : Prop := t.ok (m0 + d) /\ 0 <= d /\ d + t.size <= 1099511627776
theorem Dom.one {m0 : Int} : ∀ k i n ls ks d, Dom m0 (.mk k i n ls ks) d -> ks.length <= 1048576 /\ 0 <= d /\ d <= 1099511627776 := by
 intro k i n ls ks d ⟨h1, h2, h3⟩;simp only [Tm.ok, Tm.okN] at h1;simp only [Tm.size] at h3;exact ⟨by omega, h2, by omega⟩
theorem Dom.two {m0 : Int} : ∀ k i n ls ks d, Dom m0 (.mk k i n ls ks) d -> ∀ (j : Nat) (hj : j < ks.length), Dom m0 ks[j] (d + aJ k j) := by
 intro k i n ls ks d ⟨h1, h2, h3⟩ j hj;have h4 := Tm.oks_at h1.2 j hj;have h5 := aU k j;have h6 := dD hj;simp only [Tm.size] at h3;refine ⟨?_, by omega, by omega⟩;rw [show m0 + (d + aJ k j) = m0 + d + aJ k (0 + j : Nat) by simp; omega]; exact h4
theorem Dom.lv {m0 : Int} {t : Tm} {d : Int} (h : Dom m0 t d) : aAu t.levels := by
 obtain ⟨k, i, n, ls, ks⟩ := t;have := h.1.1;simp only [Tm.okN] at this;exact ⟨by simp only [Tm.levels]; omega, by simpa only [Tm.levels] using this.2.2.1⟩
theorem Dom.var {m0 : Int} {t : Tm} {d : Int} (h : Dom m0 t d) (hk : t.kind = 0) : 0 <= t.index /\ t.index < m0 + d /\ t = vr t.index := by
 obtain ⟨k, i, n, ls, ks⟩ := t;obtain ⟨h1, h2, rfl, rfl, rfl⟩ := h.1.1.1 hk;simp only [Tm.kind] at hk;subst hk;exact ⟨h1, h2, rfl⟩
def cU (d_ from_ : Int) (s : Int) (t : Tm) (d : Int) : BO Tm :=
 if t.index - d < from_ then .ok t.bare s
 else if d_ < 0 /\ t.index - d < from_ - d_ then .bad 24 s
 else if 65535 < t.index + d_ then .bad 24 s else .ok (vr (t.index + d_)) s
theorem yM (h : Heap) (hh : WF h) (by_ fr : Int) (hb1 : -1099511627776 <= by_) (hb2 : by_ <= 1099511627776) (hf1 : 0 <= fr) (hf2 : fr <= 9223372036854775807) (p q : Nat) (hp : h[p]? = some (some (.cells [iA fr]))) (hq : h[q]? = some (some (.cells [iA by_]))) (t : Tm) (d s : Int) (hd : Dom 65536 t d) (hk : t.kind = 0) :
  ACalls Tryz.prog 142 ([t.av, iA d] ++ [.ptr p 0, .ptr q 0]) h (RPost (fun _ => h) [] (cU by_ fr s t d)) := by
 obtain ⟨p1, p2, p3, p4, p5, p6⟩ := idf hp;obtain ⟨q1, q2, q3, q4, q5, q6⟩ := idf hq;obtain ⟨i1, i2, i3⟩ := hd.var hk;have hd2 := hd.2.1;have hd3 := hd.2.2;generalize t.index = i at *;subst i3;simp only [vr, bBj, bBo];refine ACalls.of_run Tryz.func142 rfl ?_;simp only [Tryz.ntmps142, bBm, bBn, Tm.av, cells_mk, List.map];refine znrr ?_;refine zr1 p1 ?_
 by_cases c1 : i - d < fr
 ·refine nV c1 ?_;refine Run.call (args := [(vr i).av]) rfl rfl (by simp [vr]) rfl (lN _ (hh.app aA) (vr i) ⟨by simp [vr, Tm.levels], by simp [vr, Tm.levels]⟩) ?_ ?_
  ·rintro v h' ⟨hv, rfl⟩;simp only [AOut.ret.injEq] at hv;subst hv;refine yu ?_;simp [cU, Tm.index, vr, c1, RPost, Tm.bare]
  ·rintro v h' ⟨hv, _⟩; cases hv
 ·refine aD8 c1 ?_;have hc : (by_ < 0 /\ i - d < fr - by_) \/ (by_ < 0 /\ ¬ (i - d < fr - by_)) \/ ¬ by_ < 0 := aB;have hw0 : by_ < 0 -> IntKind.i64.wrap (fr - by_) = fr - by_ := fun h => wrap_id aB aB
  rcases hc with ⟨c2, c3⟩ | ⟨c2, c3⟩ | c2
  ·refine nv ?_;refine Run.reg fun K J => ?_
   simp [c2, c3, p1, q1, hw0 c2];refine zj ?_; clear J;refine yi ?_;refine Run.call (args := [iA 24]) rfl rfl aA rfl (stop_any _ (hh.app aA) 24) ?_ ?_
   ·rintro v h' ⟨hv, _⟩; cases hv
   ·rintro v h' ⟨hv, rfl⟩;simp only [AOut.panic.injEq] at hv;subst hv;exact Fin.pan rfl hh rfl (by simp [cU, Tm.index, c1, c2, c3, RPost])
  all_goals
   first
   | (
    refine nv ?_;refine Run.reg fun K J => ?_
    simp [c2, c3, p1, q1, hw0 c2];refine zj ?_; clear J
    skip)
   | (
    refine zn ?_;refine zr2 c2 q1 ?_
    skip)
   refine zn ?_;refine zf ?_;refine zr1 q1 ?_;have hcall := pQ (h ++ [some (.cells [iA 0, iA i, .p (sP []), .p (.sl 2 (bR [])), .p (.sl 5 (aP []))]), some (.cells zTm)]) (hh.app aA) (i + by_);refine Run.call (args := [iA (i + by_)]) rfl rfl aA rfl hcall ?_ ?_
   ·rintro v h' ⟨hv, rfl⟩
    by_cases c4 : 65535 < i + by_
    ·simp [c4] at hv
    ·simp only [c4, if_false, AOut.ret.injEq] at hv;subst hv;refine aY8 ?_;refine zx ?_;refine Fin.ret' (h0 := h) aA rfl hh rfl aE rfl (Weak.of_eq (y := (vr (i + by_)).av) (by simp [vr])) aA ?_;have c5 : ¬ (by_ < 0 /\ i - d < fr - by_) := aB;simp [cU, Tm.index, vr, c1, c5, c4, RPost]
   ·rintro v h' ⟨hv, rfl⟩
    by_cases c4 : 65535 < i + by_
    ·simp only [c4, if_true, AOut.panic.injEq] at hv;subst hv;have c5 : ¬ (by_ < 0 /\ i - d < fr - by_) := aB;exact Fin.pan rfl hh rfl (by simp [cU, Tm.index, c1, c5, c4, RPost])
    ·simp [c4] at hv


open Go Go.AI
def nK (by_ fr : Int) (t : Tm) : BO Tm := bld (bX (cU by_ fr)) 0 t 0
theorem RPost.of_const {B : Int -> Heap} {l : List (Option AO)} {s : Int} (hB : ∀ s', B s' = B s) {r : BO Tm} {o : AOut} {h' : Heap} (hp : RPost (fun _ => B s ++ l) [] r o h') : RPost B l r o h' := by
 cases r <;> simp only [RPost, bBl] at hp ⊢ <;> exact ⟨hp.1, hp.2.trans (congrArg (· ++ l) (hB _).symm)⟩
theorem aBc (h : Heap) (hh : WF h) (t : Tm) (by_ fr : Int) (hb1 : -1099511627776 <= by_) (hb2 : by_ <= 1099511627776) (hf1 : 0 <= fr) (hf2 : fr <= 9223372036854775807) (hd : Dom 65536 t 0) :
  ACalls Tryz.prog 95 [t.av, iA by_, iA fr] h (kM (fun _ => h) (nK by_ fr t)) := by
 obtain ⟨H, hH⟩ : ∃ H : Heap, H = h ++ [some (.cells (t.cells.map .p)), some (.cells [iA by_]), some (.cells [iA fr]), some (.cells zTm), some (.cells [.fn (.func 142) [] [.ptr (h.length + 2) 0, .ptr (h.length + 1) 0]])] := ⟨_, rfl⟩;have hlen : H.length = h.length + 5 := by rw [hH]; simp
 have hwf : WF H := by rw [hH]; exact hh.app aA
 have e1 : H[h.length + 1]? = some (some (.cells [iA by_])) := by rw [hH]; simp
 have e2 : H[h.length + 2]? = some (some (.cells [iA fr])) := by rw [hH]; simp
 have e4 : H[h.length + 4]? = some (some (.cells [.fn (.func 142) [] [.ptr (h.length + 2) 0, .ptr (h.length + 1) 0]])) := by rw [hH]; simp
 have hbuild := kR (bX (cU by_ fr)) 145 rfl [.ptr (h.length + 4) 0] (Dom 65536) Dom.one Dom.two t.size t 0 0 (fun _ => H) (h.length + 5) (bBh _) hd (fun _ => hlen) (fun _ => hwf) aA
  (fun s t d l hd hw => aBm (cU by_ fr) 142 rfl [.ptr (h.length + 2) 0, .ptr (h.length + 1) 0] (fun _ => H) (h.length + 5) (h.length + 4) (fun _ => hlen) (fun _ => hwf) aA (fun _ => e4) s t d l hd.lv
   (fun l hk hw => (yM (H ++ l) hw by_ fr hb1 hb2 hf1 hf2 (h.length + 2) (h.length + 1) ((idf e2).1 l) ((idf e1).1 l) t d s hd hk).mono fun _ _ hp => RPost.of_const (B := fun _ => H) (s := s) (fun _ => rfl) hp) hw)
 have hvar := gU (h ++ [some (.cells (t.cells.map .p)), some (.cells [iA by_]), some (.cells [iA fr]), some (.cells zTm)]) (hh.app aA) 142 [.ptr (h.length + 2) 0, .ptr (h.length + 1) 0] aA;have hdef : bld (bX (cU by_ fr)) 0 t 0 = nK by_ fr t := rfl;rw [hdef] at hbuild;rw [hH] at hbuild;clear hH hlen hwf e1 e2 e4;obtain ⟨k, i, nm, ls, ks⟩ := t
 cases hbo : nK by_ fr (.mk k i nm ls ks) with
 | ok t' s' =>
  rw [hbo] at hbuild;have hb2 := hbuild.mono (R' := fun o h' => o = .ret t'.av /\ h' = _) (fun _ _ hp => hp);refine ACalls.of_run Tryz.func95 rfl ?_;simp only [Tryz.ntmps95, bBm, bBn, Tm.av, cells_mk, List.map];refine znr ?_;refine y1a ?_;refine ye ?_;refine DR.call rfl rfl rfl aA rfl hb2 ?_;obtain ⟨k', i', n', ls', ks'⟩ := t';refine zd ?_;refine y8 ?_;refine znx ?_;refine yq ?_;simp [kM]
 | bad e s' =>
  rw [hbo] at hbuild;have hb2 := hbuild.mono (R' := fun o h' => o = .panic (.p (errP e)) /\ h' = _) (fun _ _ hp => hp);refine ACalls.of_run Tryz.func95 rfl ?_;simp only [Tryz.ntmps95, bBm, bBn, Tm.av, cells_mk, List.map];refine znr ?_;refine y17 ?_;refine ye ?_;refine ⟨_, _, _, _, _, _, rfl, rfl, rfl, by simp, rfl, hb2, ?_⟩;intro T' hT;exact Fin.pan rfl hh rfl (by simp [kM])
def zT : Tm := .mk 0 0 [] [] []
theorem Weak.zT : Weak (.agg zTm) zT.av := by
 refine Weak.agg ?_;simp only [Go.Proofs.YtfajdeofhioakaaGreat.zT, cells_mk, List.map];exact zK

end Go.Proofs.YtfajdeofhioakaaGreat
