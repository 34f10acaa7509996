import Derived.Test.YtfajdeofhioakaaGreatJA0
import Derived.Test.YtfajdeofhioakaaGreatJT1
import Derived.Test.YtfajdeofhioakaaGreatJX0
import Derived.Test.YtfajdeofhioakaaGreatJFG
set_option maxRecDepth 8000
set_option maxHeartbeats 4000000

namespace Go.Proofs.YtfajdeofhioakaaGreat

open Go Go.AI
def aIy (n : List UInt8) : Tm := .mk 3 0 n [] []
def aEs (xs ys : List Tm) : Bool := !((xs.length : Int) != ys.length) && aW (tmsAt xs ys) xs.length
theorem tQ (l : List Tm) : aEs l l = true := by
 simp only [aEs, bne_self_eq_false, bDs, Bool.true_and];rw [fT];intro j hj;simp [tmsAt, hj, jM]
theorem yQ (h : Heap) (hh : WF h) (xs ys : List Tm) (hb : xs.length <= 1099511627776) (hx : ∀ u ∈ xs, u.lvs /\ u.size <= 1099511627776) :
  AC 19 [.p (.sl 5 (aP xs)), .p (.sl 5 (aP ys))] h (bA (aEs xs ys)) := by
 refine nU Tryz.func19 Tryz.ntmps19 ?_
 by_cases hl : xs.length = ys.length
 ·have h0 : ((xs.length : Int) != ys.length) = false := by simp [hl]
  refine znf1r hl ?_;refine Run.loopS [0, 1] (fun j : Nat => j <= xs.length /\ aW (tmsAt xs ys) j = true) (fun j => xs.length - j) (fun j => [(5, iA j)]) (fun _ => _) 0 (by simp [aW]) ?_ rfl ?_
  ·exact zS
  ·rintro j ⟨hj, hall⟩ IH;refine eU ?_
   by_cases hjl : j < xs.length
   ·have hg : xs[j]? = some xs[j] := bBf hjl;have hg' : ys[j]? = some ys[j] := bBf aB;have hm := hx _ (bBi hjl);generalize xs[j] = u at hg hm;generalize ys[j]'aB = v at hg';have hs := fun (g : Heap) (hg : WF g) => oI u.size u v g (bBh _) hm.2 hm.1 hg
    refine znt1 hjl ?_;refine yo ?_;refine zd2 hg hg' ?_;refine DR.call (args := [u.av, v.av]) rfl rfl rfl aA rfl (hs _ hh) ?_;refine zd ?_;refine y8 ?_;refine nv ?_;refine Run.condB rfl (fun h1 => ?_) (fun h1 => ?_)
    ·refine zA ?_;have h2 : sameT u v = false := by simpa using h1
     have := allTo_false (p := tmsAt xs ys) hjl (by simp only [tmsAt, hg, hg', h2]);refine zF3 hh ?_;exact ⟨by simp only [aEs, this]; simp, rfl⟩
    ·exact y3w
   ·have hje : j = xs.length := aB;subst hje;refine znfen ?_;refine zA ?_;refine zF3 hh ?_;exact ⟨by simp only [aEs, h0, hall]; simp, rfl⟩
 ·have h0 : ((xs.length : Int) != ys.length) = true := by simp; omega
  have hl' : ¬ (xs.length : Int) = ys.length := aB;refine znt1 hl' ?_;refine zA ?_;refine zF3 hh ?_;exact ⟨by simp [aEs, h0], rfl⟩
def aOq (vars : Int) (t : Tm) : Bool := decide ((t.size : Int) <= 120) && decide ((t.depth : Int) <= 100) && eM vars 8 100 100 t == 0
theorem aJn (h : Heap) (hh : WF h) (t : Tm) (vars : Int) (hsz : t.size <= 1099511627776) (hf : t.fit) : AC 8 [t.av, iA vars] h (bA (aOq vars t)) := by
 have h1 := fun (g : Heap) (hg : WF g) => oK t.size t g (bBh _) hsz hg
 have h2 := fun (g : Heap) (hg : WF g) => oZ t.size t g (bBh _) hsz hg
 have h3 := fun (g : Heap) (hg : WF g) => wR g hg t vars 8 100 100 hsz hf
 obtain ⟨r, hr⟩ : ∃ r, r = aOq vars t := ⟨_, rfl⟩;rw [<- hr];unfold aOq at hr;generalize eM vars 8 100 100 t = c at h3 hr;generalize t.depth = dp at h2 hr;generalize t.size = sz at h1 hr;obtain ⟨k, i, n, ls, ks⟩ := t
 by_cases c1 : (sz : Int) <= 120
 ·by_cases c2 : (dp : Int) <= 100
  ·refine ACalls.of_run Tryz.func8 rfl ?_;refine ya ?_;refine zo1 c1 ?_;refine y1b ?_;refine zo1 c2 ?_;refine rl (args := [(Tm.mk k i n ls ks).av, iA vars, iA 8, iA 100, iA 100]) rfl aF aA rfl (h3 _ (hh.app aA)) ?_;refine zox ?_;exact y5h
  ·refine ACalls.of_run Tryz.func8 rfl ?_;refine ya ?_;refine zo1 c1 ?_;refine y1b ?_;refine zo1 c2 ?_;refine zx ?_;exact y5h
 ·refine ACalls.of_run Tryz.func8 rfl ?_;refine ya ?_;refine zo1 c1 ?_;refine zx ?_;refine Fin.ret' (h0 := h) aA rfl hh rfl aE rfl (Weak.refl _) aA ⟨by rw [hr]; simp [c1], rfl⟩
def aPd (ctx : List Tm) (i : Int) : Tm × Int :=
 if i < 0 \/ (ctx.length : Int) <= i then (zT, 24) else match ctx[((ctx.length : Int) - 1 - i).toNat]? with
  | some t => aB6 (i + 1) 0 t
  | none => (zT, 24)


open Go Go.AI
def isB (k : Int) : Tm -> Option (Tm × Tm)
 | .mk k' _ _ _ [a, b] => if k' = k then some (a, b) else none
 | _ => none
def aVb : Nat -> List Tm -> Tm -> List Tm × Tm × Int
 | 0, acc, t => (acc, t, 0)
 | n + 1, acc, t => match isB 6 t with
  | some (a, b) => aVb n (acc ++ [a]) b
  | none => ([], zT, 13)
def aHv (t : Tm) (n : Int) : List Tm × Tm × Int := if n < 0 then ([], zT, 2) else aVb n.toNat [] t


open Go Go.AI
theorem qS (t : Tm) (vs : List Tm) (dp : Int) (hok : t.ok 65536) (hsz : t.size <= 4096) (hvl : vs.length <= 1048576) (hvo : ∀ v ∈ vs, v.ok 65536 /\ v.size <= 4096) (h1 : dp <= 9223372036854775807) (h : Heap) (hh : WF h) :
  ACalls Tryz.prog 208 [t.av, .p (.sl 5 (aP vs)), iA dp] h (fun o h' => o = .ret (.tup [(aO t vs dp).1.av, iA (aO t vs dp).2]) /\ h' = h) /\
  ACalls Tryz.prog 149 [t.av, .p (.sl 5 (aP vs)), iA dp] h (fun o h' => o = .ret (.tup [(aO t vs dp).1.av, iA (aO t vs dp).2]) /\ h' = h) := by
 have hr := aHy t vs dp hok aB aB (fun v hv => (hvo v hv).1) (fun v hv => by have := (hvo v hv).2; omega) h1;have hvd : ∀ v ∈ vs, Dom 65536 v 0 := fun v hv => ⟨by simpa using (hvo v hv).1, by omega, by have := (hvo v hv).2; omega⟩
 have hok' := fun (h0 : 0 <= dp) => vU vs (fun v hv => (hvo v hv).1) t (cJ dp) (65536 + cJ dp) (cX t _ _ hok (by unfold cJ; split <;> omega)) (by unfold cJ; split <;> omega) aB
 constructor
 ·rw [<- hr];refine aIi h hh t vs dp ⟨⟨by simpa using hok, by omega, by omega⟩, by omega⟩ h1 aB hvd (fun v hv => by have := (hvo v hv).2; omega) ?_;intro h0 t' s' u s2 hc hs;have hc' := zZ vs aB (fun v hv => by have := (hvo v hv).2; omega) dp h0 h1 t 0 0 (by simpa using hok) aB aB aB aB;have hs' := aA0 vs aB (fun v hv => (hvo v hv).1) dp h0 h1 t 0 0 (by simpa using hok) aB aB;simp only [Int.add_zero, Int.zero_add] at hc' hs'
  by_cases h5 : 4096 < (cO vs (cJ dp) t : Int)
  ·obtain ⟨s3, e3⟩ := hc'.2 h5;rw [e3] at hc; cases hc
  ·rw [hs] at hs'
   by_cases hb : eB vs (cJ dp) t = true
   ·rw [if_pos hb] at hs'; cases hs'
   ·rw [if_neg hb] at hs'
    injection hs' with e1 e2
    have := (hok' h0 (by simpa using hb)).2;rw [e1, this]; omega
 ·refine yG h hh t vs dp aB (fun v hv => ⟨by have := (hvo v hv).2; omega, yA v 65536 (hvo v hv).1 (by have := (hvo v hv).2; omega)⟩) aB (yA t 65536 hok aB) ?_;intro h07
  by_cases h0 : dp < 0
  ·rw [aO, if_pos h0] at h07; simp at h07
  ·rw [eA t vs dp aB, jV] at h07;have hl := vN vs t 0 0 (cJ dp)
   by_cases h5 : 4096 < (cO vs (cJ dp) t : Int)
   ·rw [if_pos h5] at h07; simp at h07
   ·rw [if_neg h5] at h07
    by_cases hb : eB vs (cJ dp) t = true
    ·rw [if_pos hb] at h07; simp at h07
    ·rw [hl.1 aB];have := (hok' aB (by simpa using hb)).2;simp only;rw [this]; omega
theorem qM (t : Tm) (vs : List Tm) (hok : t.ok 65536) (hsz : t.size <= 4096) (hvl : vs.length <= 1048576) (hvo : ∀ v ∈ vs, v.ok 65536 /\ v.size <= 4096) (h : Heap) (hh : WF h) :
  ACalls Tryz.prog 172 [t.av, .p (.sl 5 (aP vs))] h (fun o h' => o = .ret (.tup [(aO t vs 0).1.av, iA (aO t vs 0).2]) /\ h' = h) /\
  ACalls Tryz.prog 109 [t.av, .p (.sl 5 (aP vs))] h (fun o h' => o = .ret (.tup [(aO t vs 0).1.av, iA (aO t vs 0).2]) /\ h' = h) :=
 ⟨aId h hh t vs _ fun g hg => (qS t vs 0 hok hsz hvl hvo aB g hg).1, yF h hh t vs _ fun g hg => (qS t vs 0 hok hsz hvl hvo aB g hg).2⟩
abbrev vc (x : Int) : List PV := [iP 0, iP x, sP [], .prim (.slice none 0 0), .prim (.slice none 0 0)]
def varZ (n fr : Int) : List Int := if n < 1 \/ 4096 < n \/ fr < 0 then [] else (List.range n.toNat).map fun j : Nat => fr + n - 1 - j
def varL (n fr : Int) : List Tm := (varZ n fr).map vr


open Go Go.AI
def aPc (ctx : List Tm) (t : Tm) (args : List Tm) : Tm × Int := if args.length ≠ ctx.length then (zT, 6) else aO t args.reverse 0


open Go Go.AI
def aY9 (k : Int) (ctx : List Tm) (t : Tm) : Tm := ctx.foldr (fun a t => .mk k 0 [] [] [a, t]) t

end Go.Proofs.YtfajdeofhioakaaGreat

namespace Go.Proofs.YtfajdeofhioakaaGreat.aw05

open Go Go.AI
def nat : Tm := aIy [78, 97, 116]
def kv : Tm := aIy [86, 101, 99]
def ke : Tm := aIy [69, 113]
def z : Tm := aIy [122, 101, 114, 111]
def s : Tm := aIy [115, 111, 109, 101]
def vec : Tm := aJ9 kv (vr 0)
def eq : Tm := aJ9 (aJ9 ke (vr 1)) (vr 0)
def ps : Tm := aY9 6 [nat, vec] eq
def lk : Tm := aJ9 kv (vr 2)
def it : Tm := aJ9 (aJ9 ke z) s
theorem r1 : aHv ps 2 = ([nat, vec], eq, 0) := aC
theorem r2 : aHv ps 3 = ([], zT, 13) := aC
theorem r3 : aPd [nat, vec, nat] 1 = (lk, 0) := aC
theorem r4 : aPc [nat, vec] eq [z, s] = (it, 0) := aC
theorem r5 : varL 3 1 = [vr 3, vr 2, vr 1] := aC
theorem o1 : nat.ok 65536 /\ nat.size <= 1048576 := by simp [nat, aIy, Tm.ok, Tm.oks, Tm.okN, Tm.size, Tm.sizes]
theorem o2 : vec.ok 65536 /\ vec.size <= 1048576 := by simp [vec, kv, aJ9, aIy, vr, Tm.ok, Tm.oks, Tm.okN, Tm.size, Tm.sizes, aJ]
theorem o3 : eq.ok 65536 /\ eq.size <= 4096 := by simp [eq, ke, aJ9, aIy, vr, Tm.ok, Tm.oks, Tm.okN, Tm.size, Tm.sizes, aJ]
theorem o4 : z.ok 65536 /\ z.size <= 4096 := by simp [z, aIy, Tm.ok, Tm.oks, Tm.okN, Tm.size, Tm.sizes]
theorem o5 : s.ok 65536 /\ s.size <= 4096 := by simp [s, aIy, Tm.ok, Tm.oks, Tm.okN, Tm.size, Tm.sizes]
theorem ov (i : Int) (h0 : 0 <= i) (h1 : i < 65536) : (vr i).ok 65536 /\ (vr i).size <= 4096 := by
 simp [vr, Tm.ok, Tm.oks, Tm.okN, Tm.size, Tm.sizes]; exact ⟨h0, h1⟩
theorem sm (t : Tm) (ht : t.ok 65536 /\ t.size <= 4096) (g : Heap) (hg : WF g) : AC 20 [t.av, t.av] g (bA true) := by
 have := oI t.size t t g (bBh _) (by have := ht.2; omega) (tB _ _ ht.1) hg
 rwa [jM] at this
theorem sl (l : List Tm) (hl : l.length <= 100) (hx : ∀ t ∈ l, t.ok 65536 /\ t.size <= 1048576) (g : Heap) (hg : WF g) : AC 19 [.p (.sl 5 (aP l)), .p (.sl 5 (aP l))] g (bA true) := by
 have := yQ g hg l l aB (fun u hu => ⟨tB _ _ (hx u hu).1, by have := (hx u hu).2; omega⟩)
 rwa [tQ] at this

end Go.Proofs.YtfajdeofhioakaaGreat.aw05

namespace Go.Proofs.YtfajdeofhioakaaGreat

open Go Go.AI
theorem aOr {vars : Int} {t : Tm} (hv : 0 <= vars) (hl : t.lvs) (h : aOq vars t = true) : t.ok vars /\ t.size <= 120 /\ t.depth <= 100 := by
 simp only [aOq, bBs, bC2, beq_iff_eq, eM] at h;rw [if_neg (by omega : ¬ vars < 0)] at h;obtain ⟨⟨h1, h2⟩, h3⟩ := h
 by_cases hc : chk vars 8 100 100 0 t = 0
 ·exact ⟨by simpa using aFp vars 8 100 100 t 0 hl hc, by omega, by omega⟩
 ·rw [if_pos hc] at h3; exact absurd h3 hc
theorem aH1 : zT.lvs /\ zT.size <= 1 := by simp [zT, Tm.lvs, Tm.lvss, Tm.size, Tm.sizes]
theorem bB4 (t : Tm) (hl : t.lvs) (hs : t.size <= 1099511627776) (g : Heap) (hg : WF g) : AC 20 [t.av, t.av] g (bA true) := by
 have := oI t.size t t g (bBh _) hs hl hg
 rwa [jM] at this
theorem aWc (l : List Tm) (hl : l.length <= 1099511627776) (hx : ∀ t ∈ l, t.lvs /\ t.size <= 1099511627776) (g : Heap) (hg : WF g) : AC 19 [.p (.sl 5 (aP l)), .p (.sl 5 (aP l))] g (bA true) := by
 have := yQ g hg l l hl hx
 rwa [tQ] at this

end Go.Proofs.YtfajdeofhioakaaGreat

namespace Go.AI.PC

open Go Go.AI

section

variable {pc : List Nat} {P : Program} {ops : Array Oper} {lo rk : List Nat} {D : List AD} {Q : AX -> List AV -> Heap -> List AD -> Prop}
theorem wpOps_post {F : Fence} {n : Nat} {Q1 Q2 : Exit -> Act -> World -> Prop} (hq : ∀ e a w, Q1 e a w -> Q2 e a w) : ∀ (τ : List Nat) (a : Act) (w : World), wpOpsIn F n P ops Q1 τ a w -> wpOpsIn F n P ops Q2 τ a w
 | [], a, w, h => by
  simp only [wpOpsIn] at h ⊢;exact hq _ _ _ h
 | i :: τ, a, w, h => by
  rw [wpOpsIn_cons] at h ⊢;unfold wpOpIn at h ⊢;split
  ·rename_i ho;simp only [ho] at h;exact wpOps_post hq τ _ _ h
  ·rename_i o ho;simp only [ho] at h;split
   ·rename_i hw;rw [if_pos hw] at h;exact gA (fun a w => wpOps_post hq τ a w) hq h
   ·rename_i hw;rw [if_neg hw] at h;exact ⟨h.1, wpOps_post hq τ _ _ h.2⟩
def unl (ops : Array Oper) (listed : Array Bool) : List Nat := (List.range ops.size).filter fun i => !(listed.getD i true)
theorem unl_mem {listed : Array Bool} {i : Nat} : i ∈ unl ops listed ↔ i < ops.size /\ listed.getD i true = false := by
 simp only [unl, List.mem_filter, bCq, bCk]
theorem unl_nodup (listed : Array Bool) : (unl ops listed).Nodup := List.Pairwise.filter _ List.nodup_range
theorem unl_set {listed : Array Bool} {i : Nat} (hs : listed.size = ops.size) (hi : i ∈ unl ops listed) : (unl ops (listed.setIfInBounds i true)).length + 1 = (unl ops listed).length := by
 exact y2e

structure Lin (ops : Array Oper) (listed : Array Bool) (τ : List Nat) : Prop where
 mem : ∀ i, i ∈ τ ↔ i ∈ unl ops listed
 nodup : τ.Nodup
 ready : ∀ τ1 i τ2, τ = τ1 ++ i :: τ2 -> ∀ o, ops[i]? = some o -> ∀ e ∈ o.after, Region.binds .any e = true -> listed.getD e.on false = true \/ e.on ∈ τ1
theorem lin_spec {π0 : List Nat} (hcov : ∀ i, i < ops.size -> i ∈ π0) (hlt : ∀ i ∈ π0, i < ops.size) (hready : ∀ π1 i π2, π0 = π1 ++ i :: π2 -> ∀ o, ops[i]? = some o -> ∀ e ∈ o.after, Region.binds .any e = true -> e.on ∈ π1) :
  ∀ (fuel t : Nat) (listed : Array Bool), listed.size = ops.size -> (unl ops listed).length = fuel -> Lin ops listed (Region.linearise.go .any ops fuel t listed [])
 | 0, t, listed, hs, hl => by
  have h0 : unl ops listed = [] := bEa.1 hl;simp only [Region.linearise.go, List.reverse_nil];exact ⟨fun i => by rw [h0], List.nodup_nil, fun τ1 i τ2 h => by simp at h⟩
 | fuel + 1, t, listed, hs, hl => by
  have hne : Region.ready .any ops listed ≠ [] := by
   -- the first of the order that is not listed
   exact y1l
  simp only [Region.linearise.go]
  change Lin ops listed (match (Region.ready .any ops listed)[t % (Region.ready .any ops listed).length]? with
   | some i => Region.linearise.go .any ops fuel (t / (Region.ready .any ops listed).length) (listed.setIfInBounds i true) [i]
   | none => [].reverse)
  cases hi : (Region.ready .any ops listed)[t % (Region.ready .any ops listed).length]? with
  | none =>
   exact y3x
  | some i =>
   exact y1m
theorem before_of {pr : Nat -> Nat -> Bool} {art : List (Nat × Nat)} {τ : List Nat} (hlt : ∀ i ∈ τ, i < ops.size)
  (hE : ∀ i j, i < ops.size -> pr j i = true -> (∃ o e, ops[i]? = some o /\ e ∈ o.after /\ Region.binds .any e = true /\ (e.on = j \/ pr j e.on = true)) \/ ∃ u, (u, i) ∈ art /\ (u = j \/ pr j u = true))
  (hR : ∀ τ1 i τ2, τ = τ1 ++ i :: τ2 -> ∀ o, ops[i]? = some o -> ∀ e ∈ o.after, Region.binds .any e = true -> e.on ∈ τ1) (hA : ∀ u v, (u, v) ∈ art -> ∀ τ1 τ2, τ = τ1 ++ v :: τ2 -> u ∈ τ1) :
  ∀ (n : Nat) τ1 i τ2, τ1.length <= n -> τ = τ1 ++ i :: τ2 -> ∀ j, pr j i = true -> j ∈ τ1 := by
 intro n
 induction n with
 | zero =>
  intro τ1 i τ2 hn hτ j hj;exact y2t
 | succ n ih =>
  intro τ1 i τ2 hn hτ j hj;exact y20
theorem split_unique {α : Type} {x : α} : ∀ {a b c d : List α}, (a ++ x :: b).Nodup -> a ++ x :: b = c ++ x :: d -> a = c
 | [], b, [], d, _, _ => rfl
 | [], b, y :: c, d, hn, h => by
  simp only [bBo, bBj, bCj] at h;obtain ⟨rfl, rfl⟩ := h;simp at hn
 | y :: a, b, [], d, hn, h => by
  simp only [bBo, bBj, bCj] at h;obtain ⟨rfl, rfl⟩ := h;simp at hn
 | y :: a, b, z :: c, d, hn, h => by
  simp only [bBj, bCj] at h;obtain ⟨rfl, h⟩ := h;rw [bBj, bCx] at hn;rw [split_unique hn.2 h]
theorem pairwise_of_before {pr : Nat -> Nat -> Bool} {τ : List Nat} (hn : τ.Nodup) (hb : ∀ τ1 i τ2, τ = τ1 ++ i :: τ2 -> ∀ j, pr j i = true -> j ∈ τ1) : τ.Pairwise (fun i j => pr j i = false) := by
 rw [List.pairwise_iff_forall_sublist];intro i j hs
 cases hp : pr j i with
 | false => rfl
 | true =>
  exfalso;have hi : i ∈ τ := hs.subset aA;obtain ⟨a, b, hab⟩ := bDd hi;have hj : j ∈ a := hb a i b hab j hp
  -- i stands ahead of j
  obtain ⟨c, d, hcd⟩ := bDd hj;subst hcd;subst hab
  have hij : i ≠ j := by
   have := hn.sublist hs;simp at this;exact this
  have h1 : List.Sublist [i, j] (c ++ j :: (d ++ i :: b)) := by simpa using hs
  have hn2 : (c ++ j :: (d ++ i :: b)).Nodup := by simpa using hn
  rw [List.sublist_append_iff] at h1;obtain ⟨l1, l2, he, s1, s2⟩ := h1;rw [List.nodup_append] at hn2;obtain ⟨n1, n2, n3⟩ := hn2
  match l1, he with
  | [], he =>
   exact y35
  | x :: l1, he =>
   exact y4s

end
def edgeM (ops : Array Oper) (pr : Nat -> Nat -> Bool) (art : List (Nat × Nat)) (i : Nat) : Bool :=
 (List.range ops.size).all fun j => !pr j i || (match ops[i]? with
  | some o => o.after.any fun e => Region.binds .any e && (e.on == j || pr j e.on)
  | none => false) || art.any fun p => p.2 == i && (p.1 == j || pr j p.1)

section

variable {pc : List Nat} {P : Program} {rd : Option Nat} {nb : Nat} {ops : Array Oper} {D : List AD} {Q : AX -> List AV -> Heap -> List AD -> Prop} {k : List It} {T : List AV} {h : Heap}

end

end Go.AI.PC
