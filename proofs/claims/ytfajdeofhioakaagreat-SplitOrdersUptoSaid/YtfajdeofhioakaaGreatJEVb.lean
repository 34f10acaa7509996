import Derived.Test.YtfajdeofhioakaaGreatJA0
import Derived.Test.YtfajdeofhioakaaGreatJFH
import Derived.Test.YtfajdeofhioakaaGreatJFF
import Derived.Test.YtfajdeofhioakaaGreatJFV
import Derived.Test.YtfajdeofhioakaaGreatJFL

namespace Go.AI.EV

open Go Go.AI

open Go.AI.PC (wpOps_post Lin lin_spec unl_mem unl before_of split_unique pairwise_of_before edgeM)

section

variable {P : Program} {ops : Array Oper} {lo rk : List Nat} {D : List AD} {Q : AX -> List AV -> Heap -> List AD -> Prop}
theorem tF {rd : Option Nat} {nb : Nat} {k : List It} {Kont : List AV -> Heap -> Prop} {pr : Nat -> Nat -> Bool} (J : ∀ T h, Kont T h -> Run P rd nb k T h D Q) :
  ∀ (τ π : List Nat) (hist : List Heap) (T : List AV) (h : Heap), π.Perm τ -> τ.Pairwise (fun i j => pr j i = false) -> π.Pairwise (fun j i => pr j i = true \/ Loose ops lo rk j i) -> Ranked ops rk π hist.length ->
   DR P ops lo Kont π hist T h -> ∀ E w a, St E w a T h D -> wpOpsIn (fen rd) 0 P ops (K P rd (Post nb Q E h w) k) τ a w
 | [], π, hist, T, h, hp, _, _, _, d, E, w, a, s => by
  have := hp.eq_nil;subst this;simp only [wpOpsIn];exact J T h d E w a s
 | i :: τ, π, hist, T, h, hp, hτ, hπp, hrk, d, E, w, a, s => by
  have hin : i ∈ π := hp.mem_iff.2 aA;obtain ⟨π1, π2, hπ⟩ := bDd hin;subst hπ;have hp' : (π1 ++ π2).Perm τ := (List.perm_middle.symm.trans hp).cons_inv;rw [List.pairwise_cons] at hτ
  have hloose : ∀ j ∈ π1, Loose ops lo rk j i := by
   intro j hj;rw [List.pairwise_append] at hπp;rcases hπp.2.2 j hj i aA with hq | hq
   ·have := hτ.1 j (hp'.mem_iff.1 (bD5 _ hj));rw [hq] at this; cases this
   ·exact hq
  have d' := dr_front π1 π2 hist T h hloose hrk d;simp only [DR] at d';rw [wpOpsIn_cons];refine drStep_wp d' s ?_;rintro hist' T' h' E' w' a' ⟨t, rfl, ht⟩ dn s' hfr
  have hr' : Ranked ops rk (π1 ++ π2) (hist ++ t).length := by
   rw [bBp, ht]
   by_cases hE : ((ops[i]?).map fun o => isE o.op) = some true
   ·have hπ1 : π1 = [] := by
     cases π1 with
     | nil => rfl
     | cons j π1 =>
      obtain ⟨oi, oj, hoi, _, _, hEi, _⟩ := hloose j aA;rw [hoi] at hE;simp only [bCm, bBk, hEi] at hE;cases hE
    subst hπ1;simp only [bBo, Ranked, hE, if_true] at hrk ⊢;exact hrk.2
   ·simp only [hE, if_false, bDr];exact Ranked.remove hE π1 π2 _ hrk
  have hsub : List.Sublist (π1 ++ π2) (π1 ++ i :: π2) := List.Sublist.append (List.Sublist.refl _) (List.sublist_cons_self _ _);have := tF J τ (π1 ++ π2) (hist ++ t) T' h' hp' hτ.2 (hπp.sublist hsub) hr' dn E' w' a' s';exact wpOps_post (K_mono (P := P) (rd := rd) (Post.of_fr (Q := Q) hfr) k) τ _ _ this

end
def mO (ops : Array Oper) (lo rk tbl : List Nat) (art : List (Nat × Nat)) (π : List Nat) : Bool :=
 (π.all fun i => decide (i < ops.size)) && ((List.range ops.size).all fun i => π.contains i) && ((List.range ops.size).all fun i => edgeM ops (prB tbl ops.size) art i) &&
 pairB ops lo rk (prB tbl ops.size) π && readyB ops [] π && rankB ops rk π 0

section

variable {P : Program} {rd : Option Nat} {nb : Nat} {ops : Array Oper} {D : List AD} {Q : AX -> List AV -> Heap -> List AD -> Prop} {k : List It} {T : List AV} {h : Heap}
theorem pS {lo rk tbl : List Nat} {art : List (Nat × Nat)} {π τ : List Nat} (hok : mO ops lo rk tbl art π = true) (L : Lin ops (Array.replicate ops.size false) τ) (hA : ∀ u v, (u, v) ∈ art -> ∀ τ1 τ2, τ = τ1 ++ v :: τ2 -> u ∈ τ1)
  (d : DR P ops lo (fun T h => Run P rd nb k T h D Q) π [] T h) : ∀ E w a, St E w a T h D -> wpOpsIn (fen rd) 0 P ops (K P rd (Post nb Q E h w) k) τ a w := by
 simp only [mO, bBs, bC0, bC2, bCq] at hok;obtain ⟨⟨⟨⟨⟨h1, h2⟩, h3⟩, h4⟩, h5⟩, h6⟩ := hok;obtain ⟨hnd, hpw⟩ := pairB_sound h4
 have hun : ∀ i, i ∈ τ ↔ i < ops.size := fun i => by
  rw [L.mem, unl_mem];constructor
  ·exact fun h => h.1
  ·exact fun h => ⟨h, by simp [h]⟩
 have hperm : π.Perm τ := by
  refine (List.perm_ext_iff_of_nodup hnd L.nodup).2 fun i => ?_
  rw [hun];exact ⟨fun h => h1 i h, fun h => bDz.1 (h2 i h)⟩
 have hR : ∀ τ1 i τ2, τ = τ1 ++ i :: τ2 -> ∀ o, ops[i]? = some o -> ∀ e ∈ o.after, Region.binds .any e = true -> e.on ∈ τ1 := by
  intro τ1 i τ2 hτ o ho e he hb;rcases L.ready τ1 i τ2 hτ o ho e he hb with h | h
  ·rcases bD2 e.on ops.size with hi | hi <;> simp [hi] at h
  ·exact h
 have hE : ∀ i j, i < ops.size -> prB tbl ops.size j i = true -> (∃ o e, ops[i]? = some o /\ e ∈ o.after /\ Region.binds .any e = true /\ (e.on = j \/ prB tbl ops.size j e.on = true)) \/ ∃ u, (u, i) ∈ art /\ (u = j \/ prB tbl ops.size j u = true) := by
  intro i j hi hp;have := h3 i hi;simp only [edgeM, bC0, bCq, bCy, bCk] at this;have hj : j < ops.size := by simp only [prB, bBs, bC2] at hp; exact hp.1
  rcases this j hj with (h | h) | h
  ·rw [hp] at h; cases h
  ·left;split at h
   ·rename_i o ho;obtain ⟨e, he, hc⟩ := Array.any_eq_true'.1 h;simp only [bBs, bCy, beq_iff_eq] at hc;exact ⟨o, e, ho, he, hc.1, hc.2⟩
   ·cases h
  ·right;obtain ⟨⟨u, v⟩, hm, hc⟩ := bE4.1 h;simp only [bBs, bCy, beq_iff_eq] at hc;obtain ⟨rfl, hc⟩ := hc;exact ⟨u, hm, hc⟩
 have hb := fun τ1 i τ2 hτ => before_of (fun i hi => (hun i).1 hi) hE hR hA τ1.length τ1 i τ2 (bBh _) hτ
 exact tF (fun T h r => r) τ π [] T h hperm (pairwise_of_before L.nodup hb) hpw (rankB_sound h6) d
theorem aAv {lo rk tbl : List Nat} {art : List (Nat × Nat)} {π : List Nat} (hok : mO ops lo rk tbl art π = true) (t : Nat) : Lin ops (Array.replicate ops.size false) (Region.linearise.go .any ops ops.size t (Array.replicate ops.size false) []) := by
 simp only [mO, bBs, bC0, bC2, bCq] at hok;obtain ⟨⟨⟨⟨⟨h1, h2⟩, h3⟩, h4⟩, h5⟩, h6⟩ := hok;refine lin_spec (π0 := π) (fun i hi => bDz.1 (h2 i hi)) h1 (fun π1 i π2 hs o ho e he hb => ?_) ops.size t _ aA ?_
 ·rcases readyB_sound h5 π1 i π2 hs o ho e he hb with h' | h'
  ·cases h'
  ·exact h'
 ·unfold unl;rw [List.filter_eq_self.2 (fun i hi => by simp [bCq.1 hi]), List.length_range]

structure Pl2 where
 x : Nat
 y : Nat
 lo1 : List Nat
 rk1 : List Nat
 tbl1 : List Nat
 π1 : List Nat
 lo2 : List Nat
 rk2 : List Nat
 tbl2 : List Nat
 π2 : List Nat
def aKk (ops : Array Oper) (p : Pl2) : Bool := decide (p.x < ops.size) && decide (p.y < ops.size) && (p.x != p.y) && mO ops p.lo1 p.rk1 p.tbl1 [(p.x, p.y)] p.π1 && mO ops p.lo2 p.rk2 p.tbl2 [(p.y, p.x)] p.π2
theorem aPf {id : Nat} {p : Pl2} (hm : P.follows .mixedOrders = true) (hok : aKk ops p = true)
  (d1 : DR P ops p.lo1 (fun T h => Run P rd nb k T h D Q) p.π1 [] T h) (d2 : DR P ops p.lo2 (fun T h => Run P rd nb k T h D Q) p.π2 [] T h) : Run P rd nb (.code (.region id ops true) :: k) T h D Q := by
 intro E w a s;refine wpIn_region_draw fun t => ?_
 simp only [Region.schedule, hm, bEc, if_true];obtain ⟨s', hfr⟩ := s.drew;simp only [aKk, bBs, bC2, bne_iff_ne, ne_eq] at hok;obtain ⟨⟨⟨⟨hx, hy⟩, hne⟩, hok1⟩, hok2⟩ := hok;have L := aAv hok1 t;change wpOpsIn (fen rd) 0 P ops _ (Region.linearise.go .any ops ops.size t (Array.replicate ops.size false) []) _ _;generalize Region.linearise.go .any ops ops.size t (Array.replicate ops.size false) [] = τ at L;have hmx : p.x ∈ τ := (L.mem p.x).2 (unl_mem.2 ⟨hx, by simp [hx]⟩);have hmy : p.y ∈ τ := (L.mem p.y).2 (unl_mem.2 ⟨hy, by simp [hy]⟩)
 have fin : (∀ E w a, St E w a T h D -> wpOpsIn (fen rd) 0 P ops (K P rd (Post nb Q E h w) k) τ a w) -> wpOpsIn (fen rd) 0 P ops (K P rd (Post nb Q E h w) k) τ a { w with drawn := w.drawn + 1 } := fun hall =>
  wpOps_post (K_mono (P := P) (rd := rd) (Post.of_fr (Q := Q) hfr) k) τ _ _ (hall E _ a s')
 obtain ⟨a1, b1, hab⟩ := bDd hmy;have hnd := L.nodup;rw [hab] at hmx;rcases bC8.1 hmx with hxa | hxb
 ·refine fin (pS hok1 L (fun u v hp τ1 τ2 hτ => ?_) d1);simp at hp;obtain ⟨rfl, rfl⟩ := hp;rw [<- split_unique (by rw [<- hab]; exact hnd) (hab.symm.trans hτ)];exact hxa
 ·rcases bC1.1 hxb with e | hxc
  ·exact absurd e hne
  refine fin (pS hok2 L (fun u v hp τ1 τ2 hτ => ?_) d2);simp at hp;obtain ⟨rfl, rfl⟩ := hp;obtain ⟨c, d, hcd⟩ := bDd hxc;have hab2 : τ = (a1 ++ p.y :: c) ++ p.x :: d := by rw [hab, hcd]; simp
  rw [<- split_unique (by rw [<- hab2]; exact hnd) (hab2.symm.trans hτ)];simp

end
def lC (l : List Oper) (T : List AV) : List AV := l.foldl (fun T o => tput T o.dst .junk) T
def rI (ops : Array Oper) (T : List AV) : List AV := lC ops.toList T
theorem aLe (T : List AV) (d : Option Tmp) (x : AV) : (tput T d x).length = T.length := by cases d <;> simp [tput]
theorem rS (T : List AV) (d : Option Tmp) (s : Nat) : tget (tput T d .junk) s = if d = some s then .junk else tget T s := by
 cases d with
 | none => simp [tput]
 | some d =>
  simp only [tput, tget_eq, List.getD]
  by_cases e : d = s
  ·subst e;rw [List.getElem?_set_self']
   cases T[d]? <;> simp
  ·rw [bC5 e];simp [e]
theorem mJ : ∀ (l : List Oper) (T : List AV), (lC l T).length = T.length /\ ∀ s, tget (lC l T) s = if l.any (fun o => decide (o.dst = some s)) = true then .junk else tget T s
 | [], T => ⟨rfl, fun s => by simp [lC]⟩
 | o :: l, T => by
  obtain ⟨h1, h2⟩ := mJ l (tput T o.dst .junk);refine ⟨h1.trans (aLe _ _ _), fun s => ?_⟩;have e : lC (o :: l) T = lC l (tput T o.dst .junk) := rfl;rw [e, h2 s, rS];simp only [List.any_cons, bCy, bC2]
  by_cases a : o.dst = some s <;> by_cases b : l.any (fun o => decide (o.dst = some s)) = true <;> simp [a, b]
theorem aLd {T T' : List AV} (hl : T'.length = T.length) (h : ∀ s, tget T' s = tget T s) : T' = T := by
 refine List.ext_getElem hl fun i h1 h2 => ?_
 have := h i;simp only [tget_eq, List.getD, bBf h1, bBf h2, bBw] at this;exact this
theorem aAm {ops : Array Oper} {T T' : List AV} (h : Go.AI.aLy ops T T') : rI ops T' = rI ops T := by
 obtain ⟨l1, g1⟩ := mJ ops.toList T';obtain ⟨l2, g2⟩ := mJ ops.toList T;refine aLd (l1.trans (h.1.trans l2.symm)) fun s => ?_
 unfold rI;rw [g1, g2]
 by_cases b : ops.toList.any (fun o => decide (o.dst = some s)) = true
 ·rw [if_pos b, if_pos b]
 ·rw [if_neg b, if_neg b];refine h.2 s ?_;rw [bDy];intro o ho;simp only [bne_iff_ne, ne_eq];intro e;exact b (bE4.2 ⟨o, by simpa using ho, by simpa using e⟩)
theorem yL {E : Env} {w : World} : ∀ {l : List AV} {vs : List Value} (i : Nat), RepL E w l vs -> RepL E w (l.set i .junk) vs
 | [], vs, i, r => by simpa using r
 | x :: l, vs, 0, r => by
  simp only [RepL, bDl] at r ⊢;obtain ⟨v, us, e, _, r2⟩ := r;exact ⟨v, us, e, by simp only [Rep], r2⟩
 | x :: l, vs, i + 1, r => by
  simp only [RepL, bDw] at r ⊢;obtain ⟨v, us, e, r1, r2⟩ := r;exact ⟨v, us, e, r1, yL i r2⟩
theorem tL {E : Env} {w : World} {vs : List Value} : ∀ (l : List Oper) (T : List AV), RepL E w T vs -> RepL E w (lC l T) vs
 | [], T, r => r
 | o :: l, T, r => by
  have e : lC (o :: l) T = lC l (tput T o.dst .junk) := rfl;rw [e];refine tL l _ ?_
  cases o.dst with
  | none => exact r
  | some d => exact yL d r

section

variable {P : Program} {rd : Option Nat} {nb : Nat} {ops : Array Oper} {D : List AD} {Q : AX -> List AV -> Heap -> List AD -> Prop} {k : List It} {T : List AV} {h : Heap}
theorem aL7 {id : Nat} (lo rk tbl π : List Nat) (e : Nat) (hm : P.follows .mixedOrders = true) (hok : okDraw ops lo rk tbl (some e) π = true) (d : DR P ops lo (aM0 P ops (fun x T' h' D' => Q x (rI ops T') h' D') D e) π [] T h) : Run P rd nb (.code (.region id ops true) :: k) T h D Q := by
 have key : Run P rd nb (.code (.region id ops true) :: k) T h D (fun x T' h' D' => Q x (rI ops T') h' D') := Run.drawPanicG lo rk tbl π e hm hok d;exact fun E w a hs => K_mono (by rintro e a x ⟨E2, T2, h2, D2, x2, hq2, st, hr⟩; exact ⟨E2, rI ops T2, h2, D2, x2, hq2, { st with tmps := tL ops.toList _ st.tmps }, hr⟩) _ _ _ _ (key E w a hs)

end


open Go Go.AI

structure LD where
 T : List AV
 ps : Array Tmp
 asg : Code
 bd : Code
abbrev Ks := Nat -> Nat × LD
def iof (ks : Ks) : Fn -> Fn
 | .yield j => .yield (ks j).1
 | f => f
def nQ (ks : Ks) (c : Nat) : Nat := if c % 2 = 0 then c / 2 else c / 2 % 1048576 + (ks (c / 2 / 1048576)).1

mutual
def io (ks : Ks) : AV -> AV
 | .p x => .p x
 | .agg cs => .agg (ioL ks cs)
 | .tup cs => .tup (ioL ks cs)
 | .ptr a b => .ptr a b
 | .sm id off len cap sz => .sm id off len (nQ ks cap) sz
 | .own a b c => .own a b c
 | .fn f xs ys => .fn (iof ks f) (ioL ks xs) (ioL ks ys)
 | .ifc t x => .ifc t (io ks x)
 | .mp a => .mp a
 | .vec a b => .vec a b
 | .junk => .junk
def ioL (ks : Ks) : List AV -> List AV
 | [] => []
 | x :: l => io ks x :: ioL ks l
end
theorem eN (ks : Ks) : ∀ l : List AV, ioL ks l = l.map (io ks)
 | [] => by simp only [ioL, bCv]
 | x :: l => by simp only [ioL, bBx, eN ks l]
theorem dY (ks : Ks) (x : PV) : io ks (.p x) = .p x := by simp only [io]
theorem aAk (ks : Ks) : io ks .junk = .junk := by simp only [io]
theorem xK (ks : Ks) (l : List AV) : io ks (.agg l) = .agg (l.map (io ks)) := by simp only [io, eN]
theorem io_tup (ks : Ks) (l : List AV) : io ks (.tup l) = .tup (l.map (io ks)) := by simp only [io, eN]
theorem nC (ks : Ks) (a b : Nat) : io ks (.ptr a b) = .ptr a b := by simp only [io]
theorem io_sm (ks : Ks) (a b c d e : Nat) : io ks (.sm a b c d e) = .sm a b c (nQ ks d) e := by simp only [io]
theorem lA (ks : Ks) (a b : Nat) (c) : io ks (.own a b c) = .own a b c := by simp only [io]
theorem xL (ks : Ks) (f : Fn) (a b : List AV) : io ks (.fn f a b) = .fn (iof ks f) (a.map (io ks)) (b.map (io ks)) := by simp only [io, eN]
theorem sO (ks : Ks) (t : TypeId) (x : AV) : io ks (.ifc t x) = .ifc t (io ks x) := by simp only [io]
theorem aUr (ks : Ks) (a : Nat) : io ks (.mp a) = .mp a := by simp only [io]
theorem aUs (ks : Ks) (a b : Nat) : io ks (.vec a b) = .vec a b := by simp only [io]

attribute [simp] dY aAk xK io_tup nC io_sm lA xL sO aUr aUs
theorem lB (ks : Ks) (l : List Value) : (prims l).map (io ks) = prims l := by simp [prims]
theorem aJw (ks : Ks) (v : Value) : io ks (rL v) = rL v := by
 unfold rL;split
 ·split
  ·simp
  ·simp
 ·split <;> simp
 ·split <;> simp
theorem qO (ks : Ks) : ∀ (T : List AV) (n : Nat), tget (T.map (io ks)) n = io ks (tget T n)
 | [], n => by simp [tget]
 | x :: T, 0 => by simp [tget]
 | x :: T, n + 1 => by simp only [bBx, tget, qO ks T n]
theorem aev_io (ks : Ks) (T : List AV) (x : Operand) : aev (T.map (io ks)) x = io ks (aev T x) := by
 cases x with
 | tmp t => simp only [aev, qO]
 | const v => simp only [aev, aJw]
 | global g => simp [aev]
 | func f => simp [aev]
theorem tput_io (ks : Ks) (T : List AV) (d : Option Tmp) (x : AV) : tput (T.map (io ks)) d (io ks x) = (tput T d x).map (io ks) := by
 cases d <;> simp [tput, List.map_set]
theorem iE (ks : Ks) (x : AV) : cP (io ks x) = (cP x).map (List.map (io ks)) := by
 cases x <;> simp [cP]
theorem aP9 (ks : Ks) (x : AV) : nR (io ks x) = nR x := by
 cases x <;> simp [nR]
theorem aIe (ks : Ks) : ∀ (x : AV), qQ (io ks x) = qQ x
 | .p x => by simp
 | .agg cs => by simp [qQ]
 | .tup cs => by simp [qQ]
 | .ptr a b => by simp
 | .sm id off len cap sz => by simp [qQ]
 | .own a b c => by simp
 | .fn f xs ys => by simp [qQ]
 | .ifc t x => by simp only [sO, qQ, aIe ks x]
 | .mp a => by simp
 | .vec a b => by simp
 | .junk => by simp
theorem aD0 (ks : Ks) : ∀ (l : List AV), mV (l.map (io ks)) = mV l
 | [] => rfl
 | x :: l => by simp only [bBx, mV, aIe, aD0 ks l]
theorem iS {α β : Type} (f : α -> β) : ∀ (us l : List α) (off : Nat), (patch l off us).map f = patch (l.map f) off (us.map f)
 | [], l, off => rfl
 | u :: us, l, off => by simp only [patch, bBx, iS f us, List.map_set]
theorem gM (ks : Ks) (x : AV) : rB (io ks x) = rB x := by
 cases x <;> simp [rB]
theorem uG (ks : Ks) (pl : List (Nat × Nat)) : ∀ (parts : List (Nat × AV)) (cells : List AV), oR pl (cells.map (io ks)) (parts.map fun p => (p.1, io ks p.2)) = (oR pl cells parts).map (List.map (io ks))
 | [], cells => by simp [oR]
 | (i, x) :: rest, cells => by
  simp only [bBx, oR, iE]
  cases pl[i]? with
  | none => simp
  | some q =>
   cases cP x with
   | none => simp
   | some us =>
    simp only [bCm, bC9];split
    ·rw [<- iS, uG ks pl rest]
    ·rfl
theorem wH (ks : Ks) (sz : Nat) : ∀ (parts : List (Nat × AV)) (es : List (List PV)), jN sz es (parts.map fun p => (p.1, io ks p.2)) = jN sz es parts
 | [], es => by simp [jN]
 | (i, x) :: rest, es => by
  have e : (cP (io ks x)).bind mV = (cP x).bind mV := by
   rw [iE]
   cases cP x with
   | none => rfl
   | some us => simp only [bCm, Option.bind_some, aD0]
  simp only [bBx, jN, e, wH ks sz rest]
theorem aMy (ks : Ks) (t : TypeId) (x : AV) : aMx t (io ks x) = io ks (aMx t x) := by
 cases x <;> simp [aMx]
theorem aH5 (ks : Ks) (x : AV) : pR (io ks x) = pR x := by
 cases x with
 | p x => simp
 | _ => simp [pR]


open Go Go.AI
def aHl : Op -> Bool
 | .move _ | .assign _ | .pick .. | .build .. | .buildSlice .. | .nilCheck _ | .binOp .. | .unOp .. | .convert .. | .makeInterface .. | .fieldAddr .. | .field .. | .indexAddr .. | .index .. | .extract .. | .typeAssert .. => true
 | .makeFunc f _ _ => match f with | .yield _ => false | _ => true
 | .call ⟨.builtin .len, _, _⟩ | .call ⟨.builtin .max, _, _⟩ | .call ⟨.builtin .min, _, _⟩ => true
 | _ => false

section

variable {P : Program} {ks : Ks}
theorem aFe {t : TypeId} {parts : List (Nat × AV)} {x : AV} (h : oP P t parts = some x) : oP P t (parts.map fun p => (p.1, io ks p.2)) = some (io ks x) := by
 unfold oP at h ⊢
 cases hz : bM P t with
 | none => simp [hz] at h
 | some z =>
  cases hs : stT P t with
  | none => simp [hz, hs] at h
  | some pl =>
   simp only [hz, hs] at h ⊢;obtain ⟨cs, h1, rfl⟩ := bBv.1 h;have := uG ks pl parts (prims z);rw [lB, h1] at this;rw [this]; simp
theorem aDh {t : TypeId} {n : Nat} {parts : List (Nat × AV)} {x : AV} (h : kA P t n parts = some x) : kA P t n (parts.map fun p => (p.1, io ks p.2)) = some (io ks x) := by
 unfold kA at h ⊢
 cases he : elT P t with
 | none => simp [he] at h
 | some e =>
  cases h1 : szT P e with
  | none => simp [he, h1] at h
  | some sz =>
   cases h2 : bM P e with
   | none => simp [he, h1, h2] at h
   | some z =>
    simp only [he, h1, h2, wH] at h ⊢;split at h
    ·rename_i hc;rw [if_pos hc];obtain ⟨es, h3, rfl⟩ := bBv.1 h;rw [h3]; simp
    ·cases h
theorem aN2 {op : BinOp} {t : TypeId} {x y : AV} (h : aN1 P op t x = some y) : aN1 P op t (io ks x) = some (io ks y) := by
 unfold aN1 at h ⊢
 cases hu : P.underlying t with
 | none => simp [hu] at h
 | some d =>
  cases d <;> simp only [hu] at h ⊢ <;> try (cases h; done)
  split at h <;> first | (cases h; done) | (simp only [bBk] at h; subst h; simp)
theorem aMu {op : BinOp} {t : TypeId} {x y z : AV} (h : abin P op t x y = some z) : abin P op t (io ks x) (io ks y) = some (io ks z) := by
 unfold abin at h;split at h
 ·exact y56
 ·rename_i a b hne;obtain ⟨v, h1, rfl⟩ := bBv.1 h;unfold abin;split
  ·rename_i e1 e2;simp only [dY, AV.p.injEq, PV.prim.injEq] at e1 e2;exact absurd e2 (hne _ _ e1)
  ·rename_i e1 e2;simp only [dY, AV.p.injEq, PV.prim.injEq] at e1 e2;subst e1; subst e2;rw [h1]; simp
  ·rename_i e1 e2;simp at e1
  ·rename_i e1 e2 e3;exact absurd rfl (e2 _ _ (dY ks _) )
 ·exact y56
 ·cases h
theorem aSp {op : UnOp} {x y : AV} (h : aun op x = some y) : aun op (io ks x) = some (io ks y) := by
 unfold aun at h;split at h <;> first | (cases h; done) | (simp only [bBk] at h; subst h; simp [aun])
theorem aJ6 {s d : TypeId} {x y : AV} (h : wF P s d x = some y) : wF P s d (io ks x) = some (io ks y) := by
 unfold wF at h;split at h <;> first | (cases h; done) | (rename_i e1 e2; simp only [bBk] at h; subst h; simp [wF, e1, e2])
theorem uF {t : TypeId} {f : Nat} {x y : AV} (h : dK P t x f = some y) : dK P t (io ks x) f = some (io ks y) := by
 unfold dK at h ⊢
 cases hf : nP P t f with
 | none => simp [hf] at h
 | some q =>
  obtain ⟨fo, n, g⟩ := q;simp only [hf] at h ⊢
  cases x with
  | ptr id off => simp only [bBk] at h; subst h; simp
  | p x => cases x with
   | ro cs =>
    simp only [dY] at h ⊢;split at h
    ·rename_i hc; rw [if_pos hc]; simp only [bBk] at h; subst h; simp
    ·cases h
   | _ => cases h
  | _ => cases h
theorem aFg {t : TypeId} {f : Nat} {x y : AV} (h : oQ P t x f = some y) : oQ P t (io ks x) f = some (io ks y) := by
 unfold oQ at h ⊢
 cases hf : nP P t f with
 | none => simp [hf] at h
 | some q =>
  obtain ⟨fo, n, g⟩ := q;simp only [hf] at h ⊢
  cases x with
  | agg cs =>
   simp only [xK] at h ⊢
   cases g with
   | true => simp only [if_true, bBk] at h ⊢; subst h; simp
   | false => simp only [bBy, if_false] at h ⊢; simp [h]
  | _ => cases h
theorem uH {t : TypeId} {x i y : AV} (h : dL P t x i = some y) : dL P t (io ks x) (io ks i) = some (io ks y) := by
 unfold dL at h ⊢;rw [gM]
 cases hi : rB i with
 | none => rw [hi] at h; cases h
 | some n =>
  simp only [hi] at h ⊢;split at h
  ·cases h
  ·rename_i hn;rw [if_neg hn]
   cases he : elT P t with
   | some e =>
    simp only [he] at h ⊢
    cases hs : szT P e with
    | none => simp [hs] at h
    | some sz =>
     simp only [hs] at h ⊢
     cases x with
     | p x => cases x with
      | sl s es =>
       simp only [dY] at h ⊢;exact y3d
      | _ => cases h
     | own a b c =>
      simp only [lA] at h ⊢;exact y3d
     | sm id off len c s =>
      simp only [io_sm] at h ⊢;exact y3u
     | _ => cases h
   | none =>
    simp only [he] at h ⊢
    cases ha : arT P t with
    | none => simp [ha] at h
    | some q =>
     obtain ⟨m, e⟩ := q;simp only [ha] at h ⊢
     cases hs : szT P e with
     | none => simp [hs] at h
     | some sz =>
      simp only [hs] at h ⊢
      cases x with
      | ptr id off =>
       simp only [nC] at h ⊢;exact y3u
      | p x => cases x with
       | ro cs =>
        simp only [dY] at h ⊢;exact y3u
       | _ => cases h
      | _ => cases h
theorem aFh {t : TypeId} {x i y : AV} (h : oS P t x i = some y) : oS P t (io ks x) (io ks i) = some (io ks y) := by
 unfold oS at h ⊢;rw [gM]
 cases hi : rB i with
 | none => rw [hi] at h; cases h
 | some n =>
  simp only [hi] at h ⊢;split at h
  ·cases h
  ·rename_i hn;rw [if_neg hn]
   cases x with
   | p x => cases x with
    | prim v => cases v with
     | string s =>
      simp only [dY] at h ⊢;exact y3d
     | _ => cases h
    | _ => cases h
   | agg cs =>
    simp only [xK] at h ⊢
    cases ha : arT P t with
    | none => simp [ha] at h
    | some q =>
     obtain ⟨m, e⟩ := q;simp only [ha] at h ⊢
     cases hs : szT P e with
     | none => simp [hs] at h
     | some sz =>
      cases hg : jD P e with
      | none => simp [hs, hg] at h
      | some ag =>
       simp only [hs, hg] at h ⊢;split at h
       ·rename_i hc; rw [if_pos hc]
        cases ag with
        | true => simp only [if_true, bBk] at h ⊢; subst h; simp
        | false => simp only [bBy, if_false] at h ⊢; simp [h]
       ·cases h
   | _ => cases h
theorem aMz {t : TypeId} {x y : AV} (h : aM1 P t x = some y) : aM1 P t (io ks x) = some (io ks y) := by
 unfold aM1 at h;split at h <;> first | (cases h; done) | (rename_i e1; simp only [bBk] at h; subst h; simp [aM1, e1])
theorem zX {t : TypeId} {x y : AV} (h : gG P t x = some y) : gG P t (io ks x) = some (io ks y) := by
 unfold gG at h ⊢
 cases hu : P.underlying t with
 | none => simp [hu] at h
 | some d =>
  cases d <;> simp only [hu] at h ⊢ <;> try (cases h; done)
  all_goals
   split at h
   ·split at h
    ·rename_i hc; simp only [bBk] at h; subst h; simp [hc]
    ·cases h
   ·cases h
theorem aJ8 {ρ ρ' : Operand -> AV} {op : Op} {x : AV} {g h : Heap} (hp : aHl op = true) (hr : ∀ y, ρ' y = io ks (ρ y)) (e : aop P ρ [] op = some (x, g)) : aop P ρ' h op = some (io ks x, h) := by
 have hmap : ∀ l : List Operand, l.map ρ' = (l.map ρ).map (io ks) := fun l => by rw [bEb]; exact List.map_congr_left fun y _ => hr y
 have pairs : ∀ ps : List (Nat × Operand), (ps.map fun p => (p.1, ρ' p.2)) = (ps.map fun p => (p.1, ρ p.2)).map fun p => (p.1, io ks p.2) := fun ps => by
  rw [bEb]; exact List.map_congr_left fun y _ => by simp [hr]
 cases op <;> simp only [aHl] at hp <;> try (cases hp; done)
 case move y => simp only [aop, bBk, bBz] at e ⊢; exact ⟨by rw [hr, e.1], trivial⟩
 case assign y => simp only [aop, bBk, bBz] at e ⊢; exact ⟨by rw [hr, e.1], trivial⟩
 case pick c a b =>
  simp only [aop] at e ⊢;split at e
  ·rename_i t hc;simp only [bBk, bBz] at e;rw [hr, hc];simp only [dY, bBk, bBz, and_true];rw [<- e.1]
   cases t <;> simp [hr]
  ·cases e
 case build t ps =>
  simp only [aop] at e ⊢;obtain ⟨v, h1, h2⟩ := bBv.1 e;cases h2;rw [pairs, aFe h1]; rfl
 case buildSlice t n ps =>
  simp only [aop] at e ⊢;obtain ⟨v, h1, h2⟩ := bBv.1 e;cases h2;rw [pairs, aDh h1]; rfl
 case nilCheck y =>
  simp only [aop] at e ⊢;rw [hr, aH5];split at e
  ·rename_i hc; rw [if_pos hc]; simp only [bBk, bBz] at e; rw [e.1]
  ·cases e
 case binOp op t x' y' u =>
  simp only [aop] at e ⊢;obtain ⟨v, h1, h2⟩ := bBv.1 e;cases h2;split at h1
  ·rename_i hc; rw [if_pos hc, hr, aN2 h1]; rfl
  ·rename_i hc; rw [if_neg hc, hr, hr, aMu h1]; rfl
 case unOp op t x' =>
  simp only [aop] at e ⊢;obtain ⟨v, h1, h2⟩ := bBv.1 e;cases h2;rw [hr, aSp h1]; rfl
 case convert s d x' =>
  simp only [aop] at e ⊢;obtain ⟨v, h1, h2⟩ := bBv.1 e;cases h2;rw [hr, aJ6 h1]; rfl
 case makeInterface t x' =>
  simp only [aop] at e ⊢
  cases hu : P.underlying t with
  | none => simp [hu] at e
  | some d =>
   cases d <;> simp only [hu] at e ⊢ <;> first | (cases e; done) | (simp only [bBk, bBz] at e ⊢; exact ⟨by rw [hr, aMy, e.1], trivial⟩)
 case makeFunc f a b =>
  simp only [aop, bBk, bBz] at e ⊢;rw [<- e.1, hmap, hmap, xL]
  cases f <;> simp [iof] at hp ⊢
 case fieldAddr t x' f =>
  simp only [aop] at e ⊢;obtain ⟨v, h1, h2⟩ := bBv.1 e;cases h2;rw [hr, uF h1]; rfl
 case field t x' f =>
  simp only [aop] at e ⊢;obtain ⟨v, h1, h2⟩ := bBv.1 e;cases h2;rw [hr, aFg h1]; rfl
 case indexAddr t x' i =>
  simp only [aop] at e ⊢;obtain ⟨v, h1, h2⟩ := bBv.1 e;cases h2;rw [hr, hr, uH h1]; rfl
 case index t x' i =>
  simp only [aop] at e ⊢;obtain ⟨v, h1, h2⟩ := bBv.1 e;cases h2;rw [hr, hr, aFh h1]; rfl
 case extract t i =>
  simp only [aop] at e ⊢;split at e
  ·rename_i vs hc;obtain ⟨v, h1, h2⟩ := bBv.1 e;cases h2;rw [hr, hc]; simp [h1]
  ·cases e
 case typeAssert x' a b c =>
  cases c with
  | false => simp [aop] at e
  | true =>
   simp only [aop] at e ⊢;obtain ⟨v, h1, h2⟩ := bBv.1 e;cases h2;rw [hr, zX h1]; rfl
 case call c =>
  obtain ⟨callee, args, types⟩ := c
  cases callee with
  | value f => simp at hp
  | invoke r m => simp at hp
  | builtin b =>
   simp only [aop] at e ⊢;rw [hmap];generalize args.toList.map ρ = asv at e
   have key : ∀ b, (b = .len \/ b = .max \/ b = .min) -> abuiltin P b types asv [] = some (x, g) -> abuiltin P b types (asv.map (io ks)) h = some (io ks x, h) := by
    intro b hb e;unfold abuiltin at e;split at e
    ·rename_i t' x' e2 _;obtain ⟨v, h1, h2⟩ := bBv.1 e;cases h2;unfold abuiltin;rw [e2];simp only [bBx, bCv, aMz h1, bCm]
    ·exact y6a
    ·exact y6a
    ·exact y60
    ·exact y60
    ·exact y60
    ·exact y60
    ·cases e
   refine key b ?_ e
   cases b <;> simp only [] at hp <;> first | (cases hp; done) | simp

end

end Go.AI.EV
