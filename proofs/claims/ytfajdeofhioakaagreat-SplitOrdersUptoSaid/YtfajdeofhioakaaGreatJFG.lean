import Derived.Test.YtfajdeofhioakaaGreatJA0
import Derived.Test.YtfajdeofhioakaaGreatJFF

namespace Go.AI.PC

open Go Go.AI
def eF (pc : List Nat) (i : Nat) (o : Oper) : Bool := isE o.op && !pc.contains i
def pv (P : Program) (T : List AV) (o : Oper) (x : AV) (g : Heap) : Prop :=
 aop P (aev T) g o.op = some (x, g) \/ ∃ c f args, o.op = .call c /\ aN T c = some (f, args) /\ aL P f = true /\ ACalls P f args g (fun o' g' => o' = .ret x /\ g' = g)
theorem pv_tput {P : Program} {all : Array Oper} {T : List AV} {g : Heap} {o : Oper} {dst : Option Tmp} {y x : AV} (hd : ∀ d, dst = some d -> d ∉ o.looksAt all) : pv P (tput T dst y) o x g = pv P T o x g := by
 exact y2s
def stab (P : Program) (T : List AV) (x : AV) (o : Oper) : List Heap -> Prop
 | [] => True
 | g :: gs => pv P T o x g /\ stab P T x o gs
theorem stab_iff {P : Program} {T : List AV} {x : AV} {o : Oper} : ∀ {l : List Heap}, stab P T x o l ↔ ∀ g ∈ l, pv P T o x g
 | [] => by simp [stab]
 | g :: gs => by simp [stab, stab_iff (l := gs)]

section

variable (pc : List Nat) (P : Program) (ops : Array Oper) (lo : List Nat) (Kont : List AV -> Heap -> Prop)
def drStep (i : Nat) (next : List Heap -> List AV -> Heap -> Prop) (hist : List Heap) (T : List AV) (h : Heap) : Prop :=
 ∃ o, ops[i]? = some o /\
  ((awanted ops T o = some false /\ next (if eF pc i o then hist ++ [h] else hist) (tput T o.dst (.tup [])) h) \/
   (awanted ops T o = some true /\ eF pc i o = false /\ ∃ x, pv P T o x h /\ stab P T x o (hist.drop (lo.getD i 0)) /\ next hist (tput T o.dst x) h) \/
   (awanted ops T o = some true /\ eF pc i o = true /\ ∃ x h', aop P (aev T) h o.op = some (x, h') /\ next (hist ++ [h]) (tput T o.dst x) h') \/
   (awanted ops T o = some true /\ eF pc i o = true /\ ∃ c f args h', o.op = .call c /\ aN T c = some (f, args) /\ aL P f = true /\
     ∃ v, ACalls P f args h (fun o' g => o' = .ret v /\ g = h') /\ next (hist ++ [h]) (tput T o.dst v) h'))
def DR : List Nat -> List Heap -> List AV -> Heap -> Prop
 | [], _, T, h => Kont T h
 | i :: π, hist, T, h => drStep pc P ops lo i (DR π) hist T h

end

section

variable {pc : List Nat} {P : Program} {ops : Array Oper} {lo : List Nat} {Kont : List AV -> Heap -> Prop}
theorem drStep_mono {i : Nat} {n n' : List Heap -> List AV -> Heap -> Prop} {hist : List Heap} {T : List AV} {h : Heap} (hn : ∀ hist' T' h', (∃ t, hist' = hist ++ t /\ t.length = if ((ops[i]?).map fun o => eF pc i o) = some true then 1 else 0) -> n hist' T' h' -> n' hist' T' h')
  (d : drStep pc P ops lo i n hist T h) : drStep pc P ops lo i n' hist T h := by
 obtain ⟨o, ho, hd⟩ := d;refine ⟨o, ho, ?_⟩;simp only [ho, bCm, bBk] at hn;rcases hd with ⟨h1, h2⟩ | ⟨h1, h2, x, h3, h4, h5⟩ | ⟨h1, h2, x, h', h3, h4⟩ | ⟨h1, h2, c, f, args, h', h3, h4, h5, h6⟩
 ·refine .inl ⟨h1, hn _ _ _ ?_ h2⟩;exact y38
 ·exact y4n
 ·exact y4d
 ·obtain ⟨v, h7, h8⟩ := h6;exact .inr (.inr (.inr ⟨h1, h2, c, f, args, h', h3, h4, h5, v, h7, hn _ _ _ ⟨[h], rfl, by simp [h2]⟩ h8⟩))
theorem dr_swap {i j : Nat} {oi oj : Oper} (hi : ops[i]? = some oi) (hj : ops[j]? = some oj) (hap : oi.apart ops oj = true) (hE : eF pc i oi = false) {next : List Heap -> List AV -> Heap -> Prop} {hist : List Heap} {T : List AV} {h : Heap}
  (hrank : eF pc j oj = true -> lo.getD i 0 <= hist.length)
  (d : drStep pc P ops lo j (drStep pc P ops lo i next) hist T h) : drStep pc P ops lo i (drStep pc P ops lo j next) hist T h := by
 obtain ⟨a1, a2, a3⟩ := Oper.apart_spec hap;obtain ⟨oj', hj', hd⟩ := d;rw [hj] at hj'; cases hj'
 -- what i does behind j, told of the slots ahead of j
 have inner : ∀ (hist' : List Heap) (y : AV) (h' : Heap), (eF pc j oj = false -> h' = h /\ hist' = hist) -> (eF pc j oj = true -> hist' = hist ++ [h]) -> drStep pc P ops lo i next hist' (tput T oj.dst y) h' ->
   ∃ x, ((awanted ops T oi = some false /\ x = .tup []) \/ (awanted ops T oi = some true /\ pv P T oi x h /\ stab P T x oi (hist.drop (lo.getD i 0)))) /\ next hist' (tput (tput T oi.dst x) oj.dst y) h' := by
  intro hist' y h' e1 e2 di;exact y1o
 -- j ahead of which i has been done
 have outer : ∀ x, awanted ops (tput T oi.dst x) oj = awanted ops T oj /\ (∀ g, aop P (aev (tput T oi.dst x)) g oj.op = aop P (aev T) g oj.op) /\ (∀ c, oj.op = .call c -> aN (tput T oi.dst x) c = aN T c) /\ (∀ y l, stab P (tput T oi.dst x) y oj l ↔ stab P T y oj l) /\ (∀ g y, pv P (tput T oi.dst x) oj y g = pv P T oj y g) := by
  intro x;exact y2k
 have close : ∀ x, ((awanted ops T oi = some false /\ x = .tup []) \/ (awanted ops T oi = some true /\ pv P T oi x h /\ stab P T x oi (hist.drop (lo.getD i 0)))) ->
   drStep pc P ops lo j next hist (tput T oi.dst x) h -> drStep pc P ops lo i (drStep pc P ops lo j next) hist T h := by
  intro x hx hdj;exact y4i
 rcases hd with ⟨h1, h2⟩ | ⟨h1, h2, y, h3, h4, h5⟩ | ⟨h1, h2, y, h', h3, h4⟩ | ⟨h1, h2, c, f, args, h', h3, h4, h5, h6⟩
 ·exact y3p
 ·exact y2u
 ·exact y2y
 ·obtain ⟨v, h7, h8⟩ := h6;obtain ⟨x, hx, hn⟩ := inner (hist ++ [h]) v h' (fun e => by rw [h2] at e; cases e) (fun _ => rfl) h8;obtain ⟨o1, o2, o3, o4, o5⟩ := outer x;exact close x hx ⟨oj, hj, .inr (.inr (.inr ⟨by rw [o1]; exact h1, h2, c, f, args, h', h3, by rw [o3 c h3]; exact h4, h5, v, h7, hn⟩))⟩
def Ranked (pc : List Nat) (ops : Array Oper) (rk : List Nat) : List Nat -> Nat -> Prop
 | [], _ => True
 | i :: π, n => if ((ops[i]?).map fun o => eF pc i o) = some true then rk.getD i 0 = n /\ Ranked pc ops rk π (n + 1) else Ranked pc ops rk π n
def Loose (pc : List Nat) (ops : Array Oper) (lo rk : List Nat) (j i : Nat) : Prop :=
 ∃ oi oj, ops[i]? = some oi /\ ops[j]? = some oj /\ oi.apart ops oj = true /\ eF pc i oi = false /\ (eF pc j oj = true -> lo.getD i 0 <= rk.getD j 0)
theorem dr_front {rk : List Nat} {i : Nat} : ∀ (π1 π2 : List Nat) (hist : List Heap) (T : List AV) (h : Heap), (∀ j ∈ π1, Loose pc ops lo rk j i) -> Ranked pc ops rk (π1 ++ i :: π2) hist.length -> DR pc P ops lo Kont (π1 ++ i :: π2) hist T h -> DR pc P ops lo Kont (i :: (π1 ++ π2)) hist T h
 | [], π2, hist, T, h, _, _, d => d
 | j :: π1, π2, hist, T, h, hl, hr, d => by
  obtain ⟨oi, oj, hi, hj, hap, hE, hlo⟩ := hl j aA;simp only [bBj, Ranked, hj, bCm, bBk] at hr;simp only [bBj, DR] at d ⊢
  have d1 : drStep pc P ops lo j (DR pc P ops lo Kont (i :: (π1 ++ π2))) hist T h := by
   refine drStep_mono ?_ d;rintro hist' T' h' ⟨t, rfl, ht⟩ dd;refine dr_front π1 π2 _ _ _ (fun k hk => hl k (by simp [hk])) ?_ dd;simp only [hj, bCm, bBk] at ht
   cases hEj : eF pc j oj with
   | true => simp only [hEj, if_true] at hr ht; rw [bBp, ht]; exact hr.2
   | false => simp only [hEj, bBy, if_false] at hr ht; rw [bBp, ht]; exact hr
  exact y3v

end

structure Plan (pc : List Nat) (ops : Array Oper) (lo rk : List Nat) (pr : Nat -> Nat -> Bool) (fin : Option Nat) (listed : Array Bool) (π : List Nat) (n : Nat) : Prop where
 size : listed.size = ops.size
 mem : ∀ i ∈ π, i < ops.size /\ listed.getD i true = false
 all : ∀ i, i < ops.size -> listed.getD i true = false -> i ∈ π \/ ∃ e, fin = some e /\ e < ops.size /\ listed.getD e true = false /\ (i = e \/ pr e i = true)
 finU : ∀ e, fin = some e -> e < ops.size /\ listed.getD e true = false
 nodup : π.Nodup
 closed : ∀ i j, i < ops.size -> listed.getD i true = true -> pr j i = true -> listed.getD j true = true
 edge : ∀ i j, i < ops.size -> pr j i = true -> ∃ o e, ops[i]? = some o /\ e ∈ o.after /\ Region.binds .any e = true /\ (e.on = j \/ pr j e.on = true) /\ e.on < ops.size
 pair : π.Pairwise fun j i => pr j i = true \/ Loose pc ops lo rk j i
 last : ∀ e, fin = some e -> e ∉ π /\ ∀ j ∈ π, pr j e = true \/ ∃ oe oj, ops[e]? = some oe /\ ops[j]? = some oj /\ oj.apart ops oe = true /\ eF pc j oj = false
 ready : ∀ π1 i π2, (π ++ fin.toList) = π1 ++ i :: π2 -> ∀ o, ops[i]? = some o -> ∀ e ∈ o.after, Region.binds .any e = true -> listed.getD e.on false = true \/ e.on ∈ π1
 rank : Ranked pc ops rk π n
theorem Ranked.remove {pc : List Nat} {ops : Array Oper} {rk : List Nat} {i : Nat} (hE : ((ops[i]?).map fun o => eF pc i o) ≠ some true) : ∀ (π1 π2 : List Nat) (n : Nat), Ranked pc ops rk (π1 ++ i :: π2) n -> Ranked pc ops rk (π1 ++ π2) n
 | [], π2, n, h => by simpa only [bBo, Ranked, hE, if_false] using h
 | j :: π1, π2, n, h => by
  simp only [bBj, Ranked] at h ⊢;split
  ·rename_i hj; simp only [hj, if_true] at h; exact ⟨h.1, Ranked.remove hE π1 π2 _ h.2⟩
  ·rename_i hj; simp only [hj, if_false] at h; exact Ranked.remove hE π1 π2 _ h
theorem split_insert (i k : Nat) : ∀ (A B σ1 σ2 : List Nat), A ++ B = σ1 ++ k :: σ2 -> ∃ τ1 τ2, A ++ i :: B = τ1 ++ k :: τ2 /\ ∀ x ∈ τ1, x = i \/ x ∈ σ1
 | [], B, σ1, σ2, hB => by
  simp only [bBo] at hB
  exact ⟨i :: σ1, σ2, by simp [hB], fun x hx => by
   rcases bC1.1 hx with h | h
   ·exact .inl h
   ·exact .inr h⟩
 | a :: A, B, [], σ2, hB => by
  simp only [bBj, bBo, bCj] at hB;obtain ⟨rfl, hB⟩ := hB;exact ⟨[], A ++ i :: B, by simp, by simp⟩
 | a :: A, B, s :: σ1, σ2, hB => by
  simp only [bBj, bCj] at hB;obtain ⟨rfl, hB⟩ := hB;obtain ⟨τ1, τ2, h1, h2⟩ := split_insert i k A B σ1 σ2 hB
  exact ⟨a :: τ1, τ2, by simp [h1], fun x hx => by
   rcases bC1.1 hx with h | h
   ·exact .inr (by simp [h])
   ·rcases h2 x h with h | h
    ·exact .inl h
    ·exact .inr (by simp [h])⟩
theorem listed_true_of_false {l : Array Bool} {i : Nat} (h : l.getD i false = true) : l.getD i true = true := by
 exact y3h
theorem getD_set {l : Array Bool} {i j : Nat} (hi : i < l.size) : (l.setIfInBounds i true).getD j true = if j = i then true else l.getD j true := by
 exact y2b
theorem getD_setF {l : Array Bool} {i j : Nat} (hi : i < l.size) : (l.setIfInBounds i true).getD j false = if j = i then true else l.getD j false := by
 exact y2b

section

variable {pc : List Nat} {P : Program} {ops : Array Oper} {lo rk : List Nat} {pr : Nat -> Nat -> Bool} {fin : Option Nat} {listed : Array Bool} {π : List Nat} {n : Nat}
theorem Plan.below (p : Plan pc ops lo rk pr fin listed π n) {i : Nat} (hi : i ∈ Region.ready .any ops listed) {j : Nat} (hp : pr j i = true) : listed.getD j true = true := by
 exact y1x
theorem Plan.step (p : Plan pc ops lo rk pr fin listed π n) {i : Nat} (hi : i ∈ Region.ready .any ops listed) {π1 π2 : List Nat} (hπ : π = π1 ++ i :: π2) {m : Nat} (hr : Ranked pc ops rk (π1 ++ π2) m) :
  Plan pc ops lo rk pr fin (listed.setIfInBounds i true) (π1 ++ π2) m := by
 exact y1g

variable {D : List AD} {Q : AX -> List AV -> Heap -> List AD -> Prop}
theorem drStep_wp {rd : Option Nat} {i : Nat} {next : List Heap -> List AV -> Heap -> Prop} {hist : List Heap} {T : List AV} {h : Heap} {E : Env} {w : World} {a : Act} {Qw : Exit -> Act -> World -> Prop} {Kw : Act -> World -> Prop}
  (d : drStep pc P ops lo i next hist T h) (s : St E w a T h D)
  (hk : ∀ hist' T' h' E' w' a', (∃ t, hist' = hist ++ t /\ t.length = if ((ops[i]?).map fun o => eF pc i o) = some true then 1 else 0) -> next hist' T' h' -> St E' w' a' T' h' D -> Fr E h.at w E' (Heap.at h') w' -> Kw a' w') :
  wpOpIn (fen rd) 0 P ops Qw i Kw a w := by
 obtain ⟨o, ho, hd⟩ := d;simp only [ho, bCm, bBk] at hk;unfold wpOpIn;simp only [ho]
 have ops1 : ∀ {x h'}, awanted ops T o = some true -> aop P (aev T) h o.op = some (x, h') -> (∀ E' w' a', St E' w' a' (tput T o.dst x) h' D -> Fr E h.at w E' (Heap.at h') w' -> Kw a' w') ->
   (if Region.wanted o (yielded ops a.tmps) = true then o.wpIn (fen rd) 0 P a w Kw Qw else (∀ f, o.about P w a.eval = some f -> (fen rd).fn f) /\ Kw (a.put o.dst undef) w) := by
  intro x h' hw hop J;exact y1u
 rcases hd with ⟨h1, h2⟩ | ⟨h1, h2, x, h3, h4, h5⟩ | ⟨h1, h2, x, h', h3, h4⟩ | ⟨h1, h2, c, f, args, h', h3, h4, h5, v, h6, h7⟩
 ·exact y36
 ·exact y1v
 ·exact y40
 ·exact y1n
def Agree (ops : Array Oper) (T T' : List AV) : Prop := ∀ s, ops.all (fun o => o.dst != some s) = true -> tget T' s = tget T s
def PanStep (P : Program) (ops : Array Oper) (Q : AX -> List AV -> Heap -> List AD -> Prop) (D : List AD) (e : Nat) (T : List AV) (h : Heap) : Prop :=
 ∃ o c f args v h', ops[e]? = some o /\ awanted ops T o = some true /\ o.op = .call c /\ aN T c = some (f, args) /\ aL P f = true /\ ACalls P f args h (fun o' g => o' = .panic v /\ g = h') /\ ∀ T', Agree ops T T' -> Q (.panic v) T' h' D
theorem panStep_back {e j : Nat} {oe oj : Oper} (he : ops[e]? = some oe) (hj : ops[j]? = some oj) (hap : oj.apart ops oe = true) {T : List AV} {h : Heap} {y : AV} (ps : PanStep P ops Q D e (tput T oj.dst y) h) : PanStep P ops Q D e T h := by
 obtain ⟨a1, a2, a3⟩ := Oper.apart_spec hap;obtain ⟨o, c, f, args, v, h', h1, h2, h3, h4, h5, h6, h7⟩ := ps;rw [he] at h1; cases h1;refine ⟨oe, c, f, args, v, h', he, by rwa [awanted_tput a1] at h2, h3, by rwa [acallee_tput h3 a1] at h4, h5, h6, fun T' hT => h7 T' fun s hs => ?_⟩;rw [hT s hs]
 have hne : oj.dst ≠ some s := by
  exact y4b
 cases hd : oj.dst with
 | none => rfl
 | some d =>
  exact y3a
theorem pan_front {e : Nat} {Kont : List AV -> Heap -> Prop} (J : ∀ T h, Kont T h -> PanStep P ops Q D e T h) : ∀ (π : List Nat) (hist : List Heap) (T : List AV) (h : Heap),
  (∀ j ∈ π, ∃ oe oj, ops[e]? = some oe /\ ops[j]? = some oj /\ oj.apart ops oe = true /\ eF pc j oj = false) -> DR pc P ops lo Kont π hist T h -> PanStep P ops Q D e T h
 | [], _, T, h, _, d => J T h d
 | j :: π, hist, T, h, hl, d => by
  obtain ⟨oe, oj, he, hj, hap, hE⟩ := hl j aA;obtain ⟨o, ho, hd⟩ := d;rw [hj] at ho; cases ho;simp only [hE, bBy, false_and, and_false, or_false, if_false] at hd;rcases hd with ⟨_, h2⟩ | ⟨_, _, x, _, _, h5⟩
  ·exact panStep_back he hj hap (pan_front J π _ _ _ (fun k hk => hl k (by simp [hk])) h2)
  ·exact panStep_back he hj hap (pan_front J π _ _ _ (fun k hk => hl k (by simp [hk])) h5)
theorem wpAny_post {F : Fence} {n : Nat} {Q1 Q2 : Exit -> Act -> World -> Prop} (hq : ∀ e a w, Q1 e a w -> Q2 e a w) : ∀ (fuel : Nat) (listed : Array Bool) (a : Act) (w : World), wpAnyIn F n P .any ops Q1 fuel listed a w -> wpAnyIn F n P .any ops Q2 fuel listed a w
 | 0, listed, a, w, r => ⟨r.1, hq _ _ _ r.2⟩
 | fuel + 1, listed, a, w, r => by
  refine ⟨fun h => hq _ _ _ (r.1 h), fun i hi => ?_⟩;have := r.2 i hi;unfold wpOpIn at this ⊢;split
  ·rename_i hn; simp only [hn] at this; exact wpAny_post hq fuel _ _ _ this
  ·rename_i o ho;simp only [ho] at this;split
   ·rename_i hw;simp only [hw, if_true] at this;exact gA (wpAny_post hq fuel _) hq this
   ·rename_i hw;simp only [hw] at this;exact ⟨this.1, wpAny_post hq fuel _ _ _ this.2⟩
theorem dr_sound {rd : Option Nat} {nb : Nat} {k : List It} {Kont : List AV -> Heap -> Prop} (J : fin = none -> ∀ T h, Kont T h -> Run P rd nb k T h D Q) (hP : ∀ e, fin = some e -> ∀ T h, Kont T h -> PanStep P ops Q D e T h) :
  ∀ (fuel : Nat) (π : List Nat) (listed : Array Bool) (hist : List Heap) (T : List AV) (h : Heap), Plan pc ops lo rk pr fin listed π hist.length -> DR pc P ops lo Kont π hist T h ->
   (fin = none -> fuel = π.length) -> (∀ e, fin = some e -> π.length < fuel) -> ∀ E w a, St E w a T h D -> wpAnyIn (fen rd) 0 P .any ops (K P rd (Post nb Q E h w) k) fuel listed a w := by
 intro fuel
 induction fuel with
 | zero =>
  intro π listed hist T h p d hf0 hf1 E w a s
  cases hfin : fin with
  | some e => exact absurd (hf1 e hfin) aB
  | none =>
   exact y1w
 | succ fuel ih =>
  intro π listed hist T h p d hf0 hf1 E w a s;refine ⟨fun hnil => ?_, fun i hi => ?_⟩
  ·-- the first of the order is ready
   exact y1k
  ·exact y1i

end

def prB (tbl : List Nat) (n j i : Nat) : Bool := decide (j < n) && (tbl.getD i 0).testBit j
def looseB (pc : List Nat) (ops : Array Oper) (lo rk : List Nat) (j i : Nat) : Bool :=
 match ops[i]?, ops[j]? with
 | some oi, some oj => oi.apart ops oj && !eF pc i oi && (!eF pc j oj || decide (lo.getD i 0 <= rk.getD j 0))
 | _, _ => false
def pairB (pc : List Nat) (ops : Array Oper) (lo rk : List Nat) (pr : Nat -> Nat -> Bool) : List Nat -> Bool
 | [] => true
 | j :: π => (π.all fun i => j != i && (pr j i || looseB pc ops lo rk j i)) && pairB pc ops lo rk pr π
def readyB (ops : Array Oper) (done : List Nat) : List Nat -> Bool
 | [] => true
 | i :: π => (match ops[i]? with
  | some o => o.after.all fun e => !Region.binds .any e || done.contains e.on
  | none => true) && readyB ops (i :: done) π
def rankB (pc : List Nat) (ops : Array Oper) (rk : List Nat) : List Nat -> Nat -> Bool
 | [], _ => true
 | i :: π, n => match ops[i]? with
  | some o => if eF pc i o then rk.getD i 0 == n && rankB pc ops rk π (n + 1) else rankB pc ops rk π n
  | none => rankB pc ops rk π n
def edgeB (ops : Array Oper) (pr : Nat -> Nat -> Bool) (i : Nat) : Bool :=
 (List.range ops.size).all fun j => !pr j i || match ops[i]? with
  | some o => o.after.any fun e => Region.binds .any e && (e.on == j || pr j e.on) && decide (e.on < ops.size)
  | none => false
def lastB (pc : List Nat) (ops : Array Oper) (pr : Nat -> Nat -> Bool) (π : List Nat) : Option Nat -> Bool
 | none => true
 | some e => decide (e < ops.size) && !π.contains e && π.all fun j => pr j e || match ops[e]?, ops[j]? with
  | some oe, some oj => oj.apart ops oe && !eF pc j oj
  | _, _ => false
def okDraw (pc : List Nat) (ops : Array Oper) (lo rk tbl : List Nat) (fin : Option Nat) (π : List Nat) : Bool :=
 (π.all fun i => decide (i < ops.size)) &&
 ((List.range ops.size).all fun i => π.contains i || match fin with
  | some e => i == e || prB tbl ops.size e i
  | none => false) &&
 ((List.range ops.size).all fun i => edgeB ops (prB tbl ops.size) i) &&
 pairB pc ops lo rk (prB tbl ops.size) π && lastB pc ops (prB tbl ops.size) π fin && readyB ops [] (π ++ fin.toList) && rankB pc ops rk π 0
theorem looseB_sound {pc : List Nat} {ops : Array Oper} {lo rk : List Nat} {j i : Nat} (h : looseB pc ops lo rk j i = true) : Loose pc ops lo rk j i := by
 exact y28
theorem pairB_sound {pc : List Nat} {ops : Array Oper} {lo rk : List Nat} {pr : Nat -> Nat -> Bool} : ∀ {π : List Nat}, pairB pc ops lo rk pr π = true -> π.Nodup /\ π.Pairwise fun j i => pr j i = true \/ Loose pc ops lo rk j i
 | [], _ => ⟨List.nodup_nil, List.Pairwise.nil⟩
 | j :: π, h => by
  simp only [pairB, bBs, bC0, bne_iff_ne, ne_eq, bCy] at h;obtain ⟨h1, h2⟩ := pairB_sound h.2;exact ⟨bCx.2 ⟨fun hm => (h.1 j hm).1 rfl, h1⟩, List.Pairwise.cons (fun i hi => (h.1 i hi).2.imp id looseB_sound) h2⟩
theorem readyB_sound {ops : Array Oper} : ∀ {σ done : List Nat}, readyB ops done σ = true -> ∀ π1 i π2, σ = π1 ++ i :: π2 -> ∀ o, ops[i]? = some o -> ∀ e ∈ o.after, Region.binds .any e = true -> e.on ∈ done \/ e.on ∈ π1
 | [], _, _, π1, i, π2, hs, _, _, _, _, _ => by simp at hs
 | x :: σ, done, h, π1, i, π2, hs, o, ho, e, he, hb => by
  simp only [readyB, bBs] at h
  cases π1 with
  | nil =>
   simp only [bBo, bCj] at hs;obtain ⟨rfl, rfl⟩ := hs;have h1 := h.1;simp only [ho] at h1;have := bDy.1 h1 e he;simp [hb] at this;exact .inl this
  | cons y π1 =>
   simp only [bBj, bCj] at hs;obtain ⟨rfl, hs⟩ := hs;rcases readyB_sound h.2 π1 i π2 hs o ho e he hb with h' | h'
   ·rcases bC1.1 h' with h' | h'
    ·exact .inr (by simp [h'])
    ·exact .inl h'
   ·exact .inr (by simp [h'])
theorem rankB_sound {pc : List Nat} {ops : Array Oper} {rk : List Nat} : ∀ {π : List Nat} {n : Nat}, rankB pc ops rk π n = true -> Ranked pc ops rk π n
 | [], _, _ => trivial
 | i :: π, n, h => by
  simp only [rankB] at h;simp only [Ranked];split at h
  ·rename_i o ho;simp only [ho, bCm, bBk];split at h
   ·rename_i hE;simp only [bBs, beq_iff_eq] at h;simp only [hE, if_true];exact ⟨h.1, rankB_sound h.2⟩
   ·rename_i hE;rw [if_neg hE];exact rankB_sound h
  ·rename_i ho;simp only [ho, Option.map_none];exact rankB_sound h
theorem okDraw_sound {pc : List Nat} {ops : Array Oper} {lo rk tbl : List Nat} {fin : Option Nat} {π : List Nat} (h : okDraw pc ops lo rk tbl fin π = true) :
  Plan pc ops lo rk (prB tbl ops.size) fin (Array.replicate ops.size false) π 0 := by
 exact y1h

section

variable {pc : List Nat} {P : Program} {rd : Option Nat} {nb : Nat} {ops : Array Oper} {D : List AD} {Q : AX -> List AV -> Heap -> List AD -> Prop} {k : List It} {T : List AV} {h : Heap}
theorem draw_len {pc : List Nat} {ops : Array Oper} {lo rk tbl : List Nat} {π : List Nat} (p : Plan pc ops lo rk (prB tbl ops.size) none (Array.replicate ops.size false) π 0) : ops.size = π.length := by
 exact y1q
theorem draw_len' {pc : List Nat} {ops : Array Oper} {lo rk tbl : List Nat} {π : List Nat} {e : Nat} (p : Plan pc ops lo rk (prB tbl ops.size) (some e) (Array.replicate ops.size false) π 0) : π.length < ops.size := by
 exact y1y
theorem St.drew {E w a} (s : St E w a T h D) : St E { w with drawn := w.drawn + 1 } a T h D /\ Fr E h.at w E h.at { w with drawn := w.drawn + 1 } := by
 exact y37
theorem Run.drawP {id : Nat} (lo rk tbl π : List Nat) (hm : P.follows .mixedOrders = true) (hok : okDraw pc ops lo rk tbl none π = true) (d : DR pc P ops lo (fun T h => Run P rd nb k T h D Q) π [] T h) : Run P rd nb (.code (.region id ops true) :: k) T h D Q := by
 intro E w a s;exact y1s
def drOps (pc : List Nat) (P : Program) (ops : Array Oper) (lo : List Nat) (K : List Nat -> List Heap -> List AV -> Heap -> Prop) : List Nat -> List Heap -> List AV -> Heap -> Prop
 | [], hist, T, h => K [] hist T h
 | i :: π, hist, T, h =>
  match ops[i]? with
  | none => False
  | some o => match awanted ops T o with
   | some false => drOps pc P ops lo K π (if eF pc i o then hist ++ [h] else hist) (tput T o.dst (.tup [])) h
   | some true => match aop P (aev T) h o.op with
    | some (x, h') => if isE o.op then pc.contains i = false /\ drOps pc P ops lo K π (hist ++ [h]) (tput T o.dst x) h' else stab P T x o (hist.drop (lo.getD i 0)) /\ drOps pc P ops lo K π hist (tput T o.dst x) h
    | none => K (i :: π) hist T h
   | none => K (i :: π) hist T h
theorem drOps_sound {lo : List Nat} {Kont : List AV -> Heap -> Prop} : ∀ (π : List Nat) (hist : List Heap) (T : List AV) (h : Heap), drOps pc P ops lo (DR pc P ops lo Kont) π hist T h -> DR pc P ops lo Kont π hist T h
 | [], _, _, _, d => d
 | i :: π, hist, T, h, d => by
  simp only [drOps] at d;split at d
  ·exact d.elim
  ·rename_i o ho;split at d
   ·rename_i hw;exact ⟨o, ho, .inl ⟨hw, drOps_sound π _ _ _ d⟩⟩
   ·rename_i hw;split at d
    ·rename_i x h' hop;split at d
     ·rename_i hE;exact ⟨o, ho, .inr (.inr (.inl ⟨hw, by unfold eF; rw [hE, d.1]; rfl, x, h', hop, drOps_sound π _ _ _ d.2⟩))⟩
     ·rename_i hE;have hE' : isE o.op = false := by simpa using hE
      have := iB hE' hop;subst this;exact ⟨o, ho, .inr (.inl ⟨hw, by unfold eF; rw [hE']; rfl, x, .inl hop, d.1, drOps_sound π _ _ _ d.2⟩)⟩
    ·exact d
   ·exact d
theorem DR.go {lo : List Nat} {Kont : List AV -> Heap -> Prop} {π : List Nat} {hist : List Heap} (r : ∀ K : List Nat -> List Heap -> List AV -> Heap -> Prop, (∀ π hist T h, DR pc P ops lo Kont π hist T h -> K π hist T h) -> drOps pc P ops lo K π hist T h) : DR pc P ops lo Kont π hist T h :=
 drOps_sound π hist T h (r _ fun _ _ _ _ h => h)
theorem DR.call {lo : List Nat} {Kont : List AV -> Heap -> Prop} {π : List Nat} {hist : List Heap} {i : Nat} {o : Oper} {c : Call} {f : FuncId} {args : List AV} {v : AV} {h' : Heap} (hi : ops[i]? = some o) (ho : o.op = .call c) (hw : awanted ops T o = some true)
  (hc : aN T c = some (f, args)) (he : aL P f = true) (hpc : pc.contains i = false) (hR : ACalls P f args h (fun o' g => o' = .ret v /\ g = h')) (d : DR pc P ops lo Kont π (hist ++ [h]) (tput T o.dst v) h') : DR pc P ops lo Kont (i :: π) hist T h := by
 refine ⟨o, hi, .inr (.inr (.inr ⟨hw, ?_, c, f, args, h', ho, hc, he, v, hR, d⟩))⟩;unfold eF;rw [ho, hpc];obtain ⟨callee, a, t⟩ := c
 cases callee with
 | value x => rfl
 | invoke r m => simp [aN] at hc
 | builtin b => simp [aN] at hc
theorem DR.pcall {lo : List Nat} {Kont : List AV -> Heap -> Prop} {π : List Nat} {hist : List Heap} {i : Nat} {o : Oper} {c : Call} {f : FuncId} {args : List AV} {v : AV} (hi : ops[i]? = some o) (ho : o.op = .call c) (hw : awanted ops T o = some true)
  (hc : aN T c = some (f, args)) (he : aL P f = true) (hpc : pc.contains i = true) (hR : ∀ g ∈ h :: hist.drop (lo.getD i 0), ACalls P f args g (fun o' g' => o' = .ret v /\ g' = g)) (d : DR pc P ops lo Kont π hist (tput T o.dst v) h) : DR pc P ops lo Kont (i :: π) hist T h := by
 exact y3j

end
theorem drOps_nil (pc : List Nat) (P : Program) (ops : Array Oper) (lo : List Nat) (K : List Nat -> List Heap -> List AV -> Heap -> Prop) (hist : List Heap) (T : List AV) (h : Heap) : drOps pc P ops lo K [] hist T h = K [] hist T h := by simp only [drOps] <;> rfl
theorem drOps_cons (pc : List Nat) (P : Program) (ops : Array Oper) (lo : List Nat) (K : List Nat -> List Heap -> List AV -> Heap -> Prop) (i : Nat) (π : List Nat) (hist : List Heap) (T : List AV) (h : Heap) : drOps pc P ops lo K (i :: π) hist T h =
  (match ops[i]? with
  | none => False
  | some o => match awanted ops T o with
   | some false => drOps pc P ops lo K π (if eF pc i o then hist ++ [h] else hist) (tput T o.dst (.tup [])) h
   | some true => match aop P (aev T) h o.op with
    | some (x, h') => if isE o.op then pc.contains i = false /\ drOps pc P ops lo K π (hist ++ [h]) (tput T o.dst x) h' else stab P T x o (hist.drop (lo.getD i 0)) /\ drOps pc P ops lo K π hist (tput T o.dst x) h
    | none => K (i :: π) hist T h
   | none => K (i :: π) hist T h) := by simp only [drOps] <;> rfl
theorem stab_nil (P : Program) (T : List AV) (x : AV) (o : Oper) : stab P T x o [] = True := by simp only [stab]
theorem stab_cons (P : Program) (T : List AV) (x : AV) (o : Oper) (g : Heap) (gs : List Heap) : stab P T x o (g :: gs) = (pv P T o x g /\ stab P T x o gs) := by simp only [stab]
theorem pv_iff (P : Program) (T : List AV) (o : Oper) (x : AV) (g : Heap) : pv P T o x g = (aop P (aev T) g o.op = some (x, g) \/ ∃ c f args, o.op = .call c /\ aN T c = some (f, args) /\ aL P f = true /\ ACalls P f args g (fun o' g' => o' = .ret x /\ g' = g)) := by simp only [pv]

attribute [simp] drOps_nil drOps_cons stab_nil stab_cons pv_iff eF

end Go.AI.PC
