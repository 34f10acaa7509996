import Derived.Test.YtfajdeofhioakaaGreatJA0
import Derived.Test.YtfajdeofhioakaaGreatJEVp
import Derived.Test.YtfajdeofhioakaaGreatJYE

namespace Go.AI.EV

open Go Go.AI

section

variable {P : Program}
theorem aN4 (h : Heap) (q : Nat) : Heap.at (h ++ List.replicate q none) = h.at := by
 funext id
 rw [Heap.at_app];split
 ·rfl
 ·rename_i l;rw [aJd h id aB];unfold Heap.at;rw [List.getElem?_replicate];split <;> rfl
theorem aAc {cf : aX} {lt : LT} (hcf : eL P (Gl lt) cf) {ks : Ks} {j : Nat} (hG : Gl lt j ks) {ops : Array Oper} {p : Pl} {T T' : List AV} {H H' : HX} {D : List AD} (hok : aH7 ops p = true) (hm : P.follows .mixedOrders = true)
  (h : aG9 P cf lt ops p T H j D = some (T', H')) {rd : Option Nat} {nb rid : Nat} {k : List It} {Q : AX -> List AV -> Heap -> List AD -> Prop} (r : Run P rd nb k (T'.map (io ks)) (iH ks H') (D.map (ioD ks)) Q) :
  Run P rd nb (.code (.region rid ops true) :: k) (T.map (io ks)) (iH ks H) (D.map (ioD ks)) Q := by
 have hk := aEf hok;unfold aG9 at h;split at h
 ·rename_i R hR;split at h
  ·rename_i hc;simp only [bBs] at hc;obtain ⟨⟨⟨⟨_, hD⟩, hHS⟩, hpend⟩, hdead⟩ := hc;simp only [bBk, bBz] at h;obtain ⟨rfl, rfl⟩ := h
   have c0 : cnt ops p (fun i => decide (i < 0)) = 0 := by
    unfold cnt;rw [List.countP_eq_zero];intro x _;simp
   rw [List.range_eq_range'] at hR
   have t0 : T = TnF ops T [] (fun i => decide (i < 0)) := by
    apply bD3;intro s;rw [jY]
    cases T[s]? with
    | none => rfl
    | some x => simp only [bCm, qW]; split <;> simp
   obtain ⟨r1, r2, r3, r4, r5, r6, r7, r8⟩ := cZ hk ops.size 0 T _ [] [_] [] [] R aB rfl t0 (by rw [c0]; rfl) (by rw [c0]; rfl) hR
   have hget : ∀ c, c <= cnt ops p (fun j => decide (j < ops.size)) -> R.HS.getD c [] ∈ R.HS := by
    intro c hc;have : c < R.HS.length := aB;rw [List.getD, bBf this];exact bBi this
   have hall := bC0.1 hHS
   have hU : ∀ c, c <= cnt ops p (fun j => decide (j < ops.size)) -> (R.HS.getD c []).length = H.length + p.fl.length /\ ∀ k, k <= p.fl.length -> (dW H.length R.inits k (R.HS.getD c [])).all (fG lt (H.length + k)) = true := by
    intro c hc;have := hall _ (hget c hc);simp only [bBs] at this;exact ⟨Nat.eq_of_beq_eq_true this.1, fun k hk => bC0.1 this.2 k (bCq.2 aB)⟩
   have hP : ∀ i T op x, (i, T, op, x) ∈ R.pend -> ∀ c, c <= cnt ops p (fun j => decide (j < ops.size)) -> (List.range ops.size).countP (fun j => p.chain ops j && p.pre i j) <= c -> c <= (List.range ops.size).countP (fun j => p.chain ops j && !p.pre j i) -> fE P T op x (dW H.length R.inits (p.pc i) (R.HS.getD c [])) = true := by
    intro i T op x he c hc h1 h2;unfold aHe at hpend;have := bC0.1 (bC0.1 hpend _ he) c (bCq.2 aB);simp only [bCy, bCk, Bool.and_eq_false_iff, bD9] at this;rcases this with (h | h) | h
    ·exact absurd h1 h
    ·exact absurd h2 h
    ·exact h
   have hdd : ∀ c k, c <= cnt ops p (fun j => decide (j < ops.size)) -> k < p.fl.length -> (R.HS.getD c []).getD (H.length + k) .dead ≠ .dead -> ∃ i, i < ops.size /\ p.chain ops i = true /\ cnt ops p (fun x => decide (x < i)) < c /\ p.pre i (p.fl.getD k 0) = true := by
    intro c k hc hkl hne;unfold aFr at hdead;have := bC0.1 (bC0.1 hdead c (bCq.2 aB)) k (bCq.2 hkl);split at this
    ·rename_i e; exact absurd e hne
    ·obtain ⟨i, hi, hc⟩ := bE4.1 this;simp only [bBs, bC2] at hc;exact ⟨i, bCq.1 hi, hc.1.1, hc.1.2, hc.2⟩
   have hpc : ∀ i, i < ops.size -> p.pc i <= p.fl.length := fun i _ => List.length_filter_le _ _
   have call : cnt ops p (fun _ => true) = cnt ops p fun j => decide (j < ops.size) := Nat.le_antisymm (wU fun i hi _ => by simpa using hi) (wU fun i _ _ => rfl)
   have hN : H.length <= (R.HS.getD (cnt ops p fun j => decide (j < ops.size)) []).length := by rw [(hU _ (bBh _)).1]; omega
   have hfin : dW H.length R.inits p.fl.length (R.HS.getD (cnt ops p fun _ => true) []) = HnF ops p H.length R.HS R.inits fun j => decide (j < ops.size) := by
    rw [call, <- oN (S := fun j => decide (j < ops.size)) (bBh _) hN fun q f _ hf => by simpa using hk.flt f (bBu hf), bBr (by rw [zP hN]; exact bBh _)]
   rw [hfin, r5] at r;have hmain := aL2 hcf hG hk (fun a ha => r8 a (Nat.zero_le _) ha) hD hU hP hdd hpc r ops.size (Array.replicate ops.size false) aA;intro E w a s;refine wpIn_region_any hm ?_;obtain ⟨s', hfr⟩ := s.drew
   have hS : (fun i => (Array.replicate ops.size false).getD i false) = fun _ => false := by
    funext i
    rcases bD2 i ops.size with l | l <;> simp [l]
   have hT0 : (TnF ops T R.xs fun i => (Array.replicate ops.size false).getD i false) = T := by
    rw [hS];apply bD3;intro s;rw [jY]
    cases T[s]? with
    | none => rfl
    | some x => simp only [bCm, qW]; split <;> simp
   have hc0 : cnt ops p (fun i => (Array.replicate ops.size false).getD i false) = 0 := by
    rw [hS];unfold cnt;rw [List.countP_eq_zero];intro x _;simp
   have hV0 : R.HS.getD 0 [] = H ++ List.replicate p.fl.length .dead := by
    rw [getD_pre r2 aA]; rfl
   have hH0 : (HnF ops p H.length R.HS R.inits fun i => (Array.replicate ops.size false).getD i false) = H ++ List.replicate p.fl.length .dead := by
    unfold HnF;rw [hc0, hV0, List.take_left]
    congr 1
    apply bD3;intro q;rw [bDo, List.getElem?_replicate]
    by_cases hq : q < p.fl.length
    ·rw [List.getElem?_range hq, if_pos hq, bCm];have e := congrFun hS (p.fl.getD q 0);show some (if (Array.replicate ops.size false).getD (p.fl.getD q 0) false = true then _ else _) = _;rw [show (Array.replicate ops.size false).getD (p.fl.getD q 0) false = false from e]
     rfl
    ·rw [bDj (by rw [List.length_range]; omega), if_neg hq]; rfl
   rw [hT0, hH0] at hmain
   have hat : Heap.at (iH ks (H ++ List.replicate p.fl.length XO.dead)) = Heap.at (iH ks H) := by
    rw [dX]
    have : iH ks (List.replicate p.fl.length XO.dead) = List.replicate p.fl.length none := by
     unfold iH;rw [List.map_replicate]; rfl
    rw [this, aN4]
   have hcnt : (List.range ops.size).countP (fun i => (Array.replicate ops.size false).getD i false) + ops.size = ops.size := by
    have : (List.range ops.size).countP (fun i => (Array.replicate ops.size false).getD i false) = 0 := by
     rw [List.countP_eq_zero];intro x _;rw [show (Array.replicate ops.size false).getD x false = false from congrFun hS x]; simp
    omega
   have hf0 : Fresh E (iH ks (H ++ List.replicate p.fl.length XO.dead)).length := fun id hid => s.fresh id (by rw [bD] at hid ⊢; simp at hid; omega)
   have := hmain (by rw [hS]; intro i j _ _ h; cases h) hcnt E _ a ⟨by rw [hat]; exact s'.rel, hf0, s'.tmps, s'.defers⟩ fun q f hf _ => (s.fresh (H.length + q) (by rw [bD]; omega)).1
   refine wpAny_post (K_mono (P := P) (rd := rd) (Post.of_fr (Q := Q) (h' := iH ks (H ++ List.replicate p.fl.length XO.dead)) ?_) k) ops.size _ _ _ this;rw [hat];exact hfr
  ·cases h
 ·cases h
theorem Run.forget {rd : Option Nat} {nb : Nat} {k : List It} {T : List AV} {h : Heap} {D : List AD} {Q : AX -> List AV -> Heap -> List AD -> Prop} {id : Nat} {o : AO} (hid : h.at id = some o) (r : Run P rd nb k T (h.set id none) D Q) : Run P rd nb k T h D Q := by
 intro E w a s;obtain ⟨g1, g2⟩ := tJ s.rel hid;have s' := s.move g2 g1 (fun i hi => s.fresh i (by simpa using hi));exact K_mono (P := P) (rd := rd) (Post.of_fr (Q := Q) g2) k _ _ _ (r E w a s')
def aBf : LoopState -> Bool
 | .busy => false
 | _ => true
def bC : Code -> List (Nat × Array Oper)
 | .region id ops true => [(id, ops)]
 | .seq a b => bC a ++ bC b
 | .cond _ a b => bC a ++ bC b
 | .block _ c => bC c
 | .loop c => bC c
 | .scope c => bC c
 | .rangeFunc _ _ a b => bC a ++ bC b
 | _ => []
def gW : List It -> List (Nat × Array Oper)
 | [] => []
 | .code c :: k => bC c ++ gW k
 | .ops _ _ :: k => gW k
 | .inBlock _ :: k => gW k
def OkD (S : Seat) (fid : FuncId) (l : List (Nat × Array Oper)) : Prop := ∀ e ∈ l, (∀ lo rk tbl π, S.plan fid e.1 = some (lo, rk, tbl, π) -> okDraw e.2 lo rk tbl none π = true) /\ (∀ p, S.planF fid e.1 = some p -> aH7 e.2 p = true) /\ (∀ p, S.plan2 fid e.1 = some p -> aKk e.2 p = true) /\ ∀ q ∈ S.planE fid e.1, okDraw e.2 q.2.1 q.2.2.1 q.2.2.2.1 (some q.1) q.2.2.2.2 = true
def aDe (S : Seat) (lt : LT) : Prop := ∀ e ∈ lt, OkD S e.fid (bC e.asg) /\ OkD S e.fid (bC e.bd)
theorem OkD.sub {S : Seat} {fid : FuncId} {l l' : List (Nat × Array Oper)} (h : OkD S fid l) (hs : ∀ e ∈ l', e ∈ l) : OkD S fid l' := fun e he => h e (hs e he)
theorem OkD.app {S : Seat} {fid : FuncId} {l l' : List (Nat × Array Oper)} (h : OkD S fid l) (h' : OkD S fid l') : OkD S fid (l ++ l') := fun e he => (bC8.1 he).elim (h e) (h' e)
theorem lV {id : Nat} : ∀ {k k' : List It}, unw id k = some k' -> ∀ e ∈ gW k', e ∈ gW k
 | [], _, h => by simp [unw] at h
 | .inBlock i :: k, k', h => by
  simp only [unw] at h;split at h
  ·simp only [bBk] at h; subst h; exact fun e he => he
  ·exact lV (k := k) h
 | .code c :: k, k', h => fun e he => List.mem_append_right _ (lV (k := k) h e he)
 | .ops _ _ :: k, k', h => lV (k := k) h
def oD : Option Code -> Bool
 | none => true
 | some .ret => true
 | some (.exit _) => true
 | _ => false
theorem rN {S : Seat} {fid : FuncId} {pend : Option Code} {k : List It} (h : oD pend = true) (hk : OkD S fid (gW k)) : OkD S fid (gW (match (generalizing := false) pend with | none => k | some c => .code c :: k)) := by
 unfold oD at h;split at h
 ·exact hk
 ·simpa [gW, bC] using hk
 ·simpa [gW, bC] using hk
 ·cases h
def ev (S : Seat) (P : Program) (fid : FuncId) (cf : Bool -> LT -> aX) (yf : cA) (lt : LT) (rnd : Bool) : Nat -> List It -> List AV -> HX -> Nat -> List AD -> Option (AX × List AV × HX × Nat × List AD)
 | 0, _, _, _, _, _ => none
 | n + 1, k, T, H, j, D => match k with
  | [] => some (.normal, T, H, j, D)
  | .inBlock _ :: k => ev S P fid cf yf lt rnd n k T H j D
  | .ops all l :: k => match pC P (S.rows fid) (cf true lt) yf rnd all l T H j D with
   | some (.norm T' H' j' D') => ev S P fid cf yf lt rnd n k T' H' j' D'
   | some (.pan v T' H' j' D') => some (.panic v, T', H', j', D')
   | none => none
  | .code c :: k => match c with
   | .skip => ev S P fid cf yf lt rnd n k T H j D
   | .label _ => ev S P fid cf yf lt rnd n k T H j D
   | .scope c => ev S P fid cf yf lt rnd n (.code c :: k) T H j D
   | .seq a b => ev S P fid cf yf lt rnd n (.code a :: .code b :: k) T H j D
   | .block id b => ev S P fid cf yf lt rnd n (.code b :: .inBlock id :: k) T H j D
   | .loop b => ev S P fid cf yf lt rnd n (.code b :: .code (.loop b) :: k) T H j D
   | .cond c a b => match aev T c with
    | .p (.prim (.bool t)) => ev S P fid cf yf lt rnd n (.code (if t = true then a else b) :: k) T H j D
    | _ => none
   | .exit id => match unw id k with
    | some k' => ev S P fid cf yf lt rnd n k' T H j D
    | none => some (.exit id, T, H, j, D)
   | .ret => some (.ret, T, H, j, D)
   | .region rid ops draw => if draw = true then
     (match S.plan fid rid with
     | some (lo, _, _, π) =>
       (match aAb P (S.rows fid) (cf true lt) ops lo D π [] T H j with
       | some (.nrm T' H' j') => ev S P fid cf yf lt rnd n k T' H' j' D
       | some (.pan i f args H0 j0 v H1 j1) => (match aOt (S.planE fid rid) i with
        | some q => (match dV P (S.rows fid) (cf true lt) ops q.2.1 D q.2.2.2.2 [] T H j with
         | some (T2, H2, j2) => if aKs ops i T2 H2 j2 f args H0 j0 j1 D = true then some (.panic v, rI ops T2, H1, j1, D) else none
         | none => none)
        | none => none)
       | none => none)
     | none => match S.planF fid rid with
      | some p =>
        (match aG9 P (cf false lt) lt ops p T H j D with
        | some (T', H') => ev S P fid cf yf lt rnd n k T' H' j D
        | none => none)
      | none => match S.plan2 fid rid with
       | some p =>
         (match dV P (S.rows fid) (cf true lt) ops p.lo1 D p.π1 [] T H j, dV P (S.rows fid) (cf true lt) ops p.lo2 D p.π2 [] T H j with
         | some (T', H', j'), some (T2, H2, j2) => if (zN T' T2 && eqH H' H2 && Nat.beq j' j2) = true then ev S P fid cf yf lt rnd n k T' H' j' D else none
         | _, _ => none)
       | none => none)
    else match pC P (S.rows fid) (cf true lt) yf rnd ops ops.toList T H j D with
     | some (.norm T' H' j' D') => ev S P fid cf yf lt rnd n k T' H' j' D'
     | some (.pan v T' H' j' D') => some (.panic v, T', H', j', D')
     | none => none
   | .rangeFunc g ps asg bd => if rnd = true then none else match aev T g with
    | .fn (.func gf) [] cap => if (pM j T && H.all (aAl j) && aOy j D && pM j cap) = true then
      (match cf true (⟨j, fid, T, ps, asg, bd⟩ :: lt) gf (.fn (.yield j) [] [] :: cap) (H ++ [.dblk, .loop j .ready none]) (j + 1) with
      | some (.ret _, H2, j2) => match H2[H.length + 1]? with
       | some (.loop i st pend) => if (Nat.beq i j && aBf st && oD pend) = true then
         ev S P fid cf yf lt rnd n (match pend with | none => k | some c => .code c :: k) T (H2.set (H.length + 1) .dead) j2 ((.yield H.length, [], []) :: D) else none
       | _ => none
      | _ => none) else none
    | _ => none
   | _ => none
def ioX (ks : Ks) : AX -> AX
 | .panic v => .panic (io ks v)
 | x => x
def Ends (ks : Ks) (j : Nat) (x : AX) (T' : List AV) (H' : HX) (j' : Nat) (D' : List AD) : AX -> List AV -> Heap -> List AD -> Prop :=
 fun x2 T2 h2 D2 => ∃ ks', Agree j ks ks' /\ (j' = j -> ks' = ks) /\ x2 = ioX ks' x /\ T2 = T'.map (io ks') /\ h2 = iH ks' H' /\ D2 = D'.map (ioD ks')
theorem Ends.weaken {ks ks1 : Ks} {j j1 : Nat} {x : AX} {T' : List AV} {H' : HX} {j' : Nat} {D' : List AD} (ha : Agree j ks ks1) (he : j1 = j -> ks1 = ks) (h1 : j <= j1) (h2 : j1 <= j') {x2 T2 h D2} (e : Ends ks1 j1 x T' H' j' D' x2 T2 h D2) : Ends ks j x T' H' j' D' x2 T2 h D2 := by
 obtain ⟨ks', a1, a2, a3⟩ := e;exact ⟨ks', ha.trans h1 a1, fun q => by rw [a2 aB, he aB], a3⟩
theorem aJz (ks : Ks) (ops : Array Oper) (T : List AV) : rI ops (T.map (io ks)) = (rI ops T).map (io ks) := by
 unfold rI;generalize ops.toList = l
 induction l generalizing T with
 | nil => rfl
 | cons o l ih =>
  have e : ∀ T, lC (o :: l) T = lC l (tput T o.dst .junk) := fun _ => rfl
  rw [e, e, <- ih, <- tput_io, aAk]
theorem gJ {S : Seat} {fid : FuncId} {cf : Bool -> LT -> aX} {yf : cA} {lt : LT} {rnd : Bool} {rd : Option Nat} {nb : Nat} (hfo : P.follows .mixedOrders = true) (hlt : aDe S lt) (hcf : ∀ b lt, aDe S lt -> eL P (Gl lt) (cf b lt)) (hyf : hY P (Gl lt) yf) (hrd : rnd = false -> rd = none) :
  ∀ (n : Nat) (k : List It) (T : List AV) (H : HX) (j : Nat) (D : List AD) (x : AX) (T' : List AV) (H' : HX) (j' : Nat) (D' : List AD), ev S P fid cf yf lt rnd n k T H j D = some (x, T', H', j', D') ->
   OkD S fid (gW k) -> j <= j' /\ ∀ ks, Gl lt j ks -> Run P rd nb k (T.map (io ks)) (iH ks H) (D.map (ioD ks)) (Ends ks j x T' H' j' D')
 | 0, k, T, H, j, D, x, T', H', j', D', h => by simp [ev] at h
 | n + 1, k, T, H, j, D, x, T', H', j', D', h => by
  intro hk;have ih := gJ (S := S) (fid := fid) (rd := rd) (nb := nb) hfo hlt hcf hyf hrd n
  have opsCase : ∀ (all : Array Oper) (l : List Oper) (k : List It), (match pC P (S.rows fid) (cf true lt) yf rnd all l T H j D with
    | some (.norm T' H' j' D') => ev S P fid cf yf lt rnd n k T' H' j' D'
    | some (.pan v T' H' j' D') => some (.panic v, T', H', j', D')
    | none => none) = some (x, T', H', j', D') -> OkD S fid (gW k) -> j <= j' /\ ∀ ks, Gl lt j ks -> Run P rd nb (.ops all l :: k) (T.map (io ks)) (iH ks H) (D.map (ioD ks)) (Ends ks j x T' H' j' D') := by
   intro all l k h hk;split at h
   ·rename_i T1 H1 j1 D1 ho;obtain ⟨b1, b2⟩ := ih _ _ _ _ _ _ _ _ _ _ h hk;have hj1 : j <= j1 := (dM (rd := rd) (nb := nb) (k := k) (Q := fun _ _ _ _ => True) (Gl.closed lt) (hcf true lt hlt) hyf hrd l T H j D _ ho).1;refine ⟨by omega, fun ks hG => ?_⟩;refine (dM (rd := rd) (nb := nb) (k := k) (Q := Ends ks j x T' H' j' D') (Gl.closed lt) (hcf true lt hlt) hyf hrd l T H j D _ ho).2 ks hG ?_;intro ks1 a1 a2;exact (b2 ks1 (Gl.closed lt _ _ _ _ hG a1 hj1)).mono fun x2 T2 h2 D2 e => e.weaken a1 a2 hj1 b1
   ·rename_i v T1 H1 j1 D1 ho;simp only [bBk, bBz] at h;obtain ⟨rfl, rfl, rfl, rfl, rfl⟩ := h;have hj1 : j <= j1 := (dM (rd := rd) (nb := nb) (k := k) (Q := fun _ _ _ _ => True) (Gl.closed lt) (hcf true lt hlt) hyf hrd l T H j D _ ho).1;refine ⟨hj1, fun ks hG => ?_⟩;refine (dM (rd := rd) (nb := nb) (k := k) (Q := Ends ks j _ T1 H1 j1 D1) (Gl.closed lt) (hcf true lt hlt) hyf hrd l T H j D _ ho).2 ks hG ?_;intro ks1 a1 a2;exact ⟨ks1, a1, a2, rfl, rfl, rfl, rfl⟩
   ·cases h
  simp only [ev] at h;split at h
  ·simp only [bBk, bBz] at h;obtain ⟨rfl, rfl, rfl, rfl, rfl⟩ := h;exact ⟨bBh _, fun ks _ => Run.nil ⟨ks, Agree.refl _ _, fun _ => rfl, rfl, rfl, rfl, rfl⟩⟩
  ·obtain ⟨h1, h2⟩ := ih _ _ _ _ _ _ _ _ _ _ h (hk.sub fun e he => by simpa [gW, bC] using he);exact ⟨h1, fun ks hG => Run.inBlock (h2 ks hG)⟩
  ·exact opsCase _ _ _ h (hk.sub fun e he => by simpa [gW] using he)
  ·split at h
   ·obtain ⟨h1, h2⟩ := ih _ _ _ _ _ _ _ _ _ _ h (hk.sub fun e he => by simpa [gW, bC] using he);exact ⟨h1, fun ks hG => Run.skip (h2 ks hG)⟩
   ·obtain ⟨h1, h2⟩ := ih _ _ _ _ _ _ _ _ _ _ h (hk.sub fun e he => by simpa [gW, bC] using he);exact ⟨h1, fun ks hG => Run.label (h2 ks hG)⟩
   ·obtain ⟨h1, h2⟩ := ih _ _ _ _ _ _ _ _ _ _ h (hk.sub fun e he => by simpa [gW, bC] using he);exact ⟨h1, fun ks hG => Run.scope (h2 ks hG)⟩
   ·obtain ⟨h1, h2⟩ := ih _ _ _ _ _ _ _ _ _ _ h (by simpa only [gW, bC, bC3] using hk);exact ⟨h1, fun ks hG => Run.seq (h2 ks hG)⟩
   ·obtain ⟨h1, h2⟩ := ih _ _ _ _ _ _ _ _ _ _ h (by simpa only [gW, bC] using hk);exact ⟨h1, fun ks hG => Run.block (h2 ks hG)⟩
   ·obtain ⟨h1, h2⟩ := ih _ _ _ _ _ _ _ _ _ _ h (hk.sub fun e he => by simp only [gW, bC, bC8] at he ⊢; rcases he with he | he | he <;> simp [he]);exact ⟨h1, fun ks hG => Run.loop (h2 ks hG)⟩
   ·split at h
    ·rename_i t hc
     obtain ⟨h1, h2⟩ := ih _ _ _ _ _ _ _ _ _ _ h (hk.sub fun e he => by
      simp only [gW, bC, bC8] at he ⊢
      cases t <;> simp only [bBy, if_false, if_true] at he <;> rcases he with he | he <;> simp [he])
     exact ⟨h1, fun ks hG => Run.cond (b := t) (by rw [aev_io, hc, dY]) (h2 ks hG)⟩
    ·cases h
   ·split at h
    ·rename_i hu;obtain ⟨h1, h2⟩ := ih _ _ _ _ _ _ _ _ _ _ h (hk.sub fun e he => by simpa [gW, bC] using lV hu e he);exact ⟨h1, fun ks hG => Run.exit hu (h2 ks hG)⟩
    ·rename_i hu;simp only [bBk, bBz] at h;obtain ⟨rfl, rfl, rfl, rfl, rfl⟩ := h;exact ⟨bBh _, fun ks _ => Run.exitN hu ⟨ks, Agree.refl _ _, fun _ => rfl, rfl, rfl, rfl, rfl⟩⟩
   ·simp only [bBk, bBz] at h;obtain ⟨rfl, rfl, rfl, rfl, rfl⟩ := h;exact ⟨bBh _, fun ks _ => Run.ret ⟨ks, Agree.refl _ _, fun _ => rfl, rfl, rfl, rfl, rfl⟩⟩
   ·rename_i rid ops draw;split at h
    ·rename_i hd;subst hd;split at h
     ·rename_i lo rk tbl π hp;split at h
      ·rename_i T1 H1 j1 hdr;have hdr := aC6 hdr;obtain ⟨h1, h2⟩ := ih _ _ _ _ _ _ _ _ _ _ h (hk.sub fun e he => by simp [gW, he]);obtain ⟨d1, d2⟩ := bV (Kont := fun _ _ => True) (Gl.closed lt) (hcf true lt hlt) π [] T H j hdr;refine ⟨by omega, fun ks hG => Run.draw lo rk tbl π hfo ((hk (rid, ops) (by simp [gW, bC])).1 lo rk tbl π hp) ?_⟩;refine (bV (Gl.closed lt) (hcf true lt hlt) π [] T H j hdr).2 ks hG fun ks' b1 b2 b3 => ?_
       exact y3c
      ·rename_i i f args H0 j0 v H1 j1 hdr;split at h
       ·rename_i q hq;split at h
        ·rename_i T2 H2 j2 hd2;split at h
         ·rename_i hc;simp only [bBk, bBz] at h;obtain ⟨rfl, rfl, rfl, rfl, rfl⟩ := h;obtain ⟨o, c, e1, e2, e3, e4, x1, x2, x3⟩ := aEj hc;subst x1; subst x2;have hcall := gI hdr;obtain ⟨d1, _⟩ := bV (Kont := fun _ _ => True) (Gl.closed lt) (hcf true lt hlt) q.2.2.2.2 [] T H j hd2;obtain ⟨c1, c2, c3⟩ := hcf true lt hlt f args _ _ _ _ _ hcall;have hokd := (hk (rid, ops) (by simp [gW, bC])).2.2.2 q (wY hq).1;rw [(wY hq).2] at hokd;refine ⟨by omega, fun ks hG => aL7 q.2.1 q.2.2.1 q.2.2.2.1 q.2.2.2.2 i hfo hokd ?_⟩;refine (bV (Gl.closed lt) (hcf true lt hlt) q.2.2.2.2 [] T H j hd2).2 ks hG fun ks' b1 b2 b3 => ?_
          have hG' := Gl.closed lt _ _ _ _ hG b1 d1;refine ⟨o, c, f, args.map (io ks'), e1, cD _ _ _ e2, e3, fS e4, c1, (c3 ks' hG').mono ?_⟩;rintro o2 g ⟨ks2, y1, y2, rfl, rfl⟩;refine ⟨io ks2 v, by simp only [ioR], fun T' hT => ?_⟩;show Ends _ _ _ _ _ _ _ _ _ _ _;rw [aAm hT];obtain ⟨z1, z2, _⟩ := aGr x3 y1 y2;refine ⟨ks2, b1.trans d1 y1, fun r => ?_, rfl, ?_, rfl, ?_⟩
          ·rw [y2 aB, b2 aB]
          ·rw [<- aJz, z1]
          ·rw [z2, b3]
         ·cases h
        ·cases h
       ·cases h
      ·cases h
     ·split at h
      ·rename_i p hp;split at h
       ·rename_i T1 H1 hrg;obtain ⟨h1, h2⟩ := ih _ _ _ _ _ _ _ _ _ _ h (hk.sub fun e he => by simp [gW, he]);exact ⟨h1, fun ks hG => aAc (hcf false lt hlt) hG ((hk (rid, ops) (by simp [gW, bC])).2.1 p hp) hfo hrg (h2 ks hG)⟩
       ·cases h
      ·split at h
       ·rename_i p hp;split at h
        ·rename_i T1 H1 j1 T2 H2 j2 hdr1 hdr2;split at h
         ·rename_i hc;simp only [bBs] at hc;obtain ⟨⟨c1, c2⟩, c3⟩ := hc;have c1 := fO c1;have c2 := aFy c2;have c3 := Nat.eq_of_beq_eq_true c3;subst c1; subst c2; subst c3;obtain ⟨h1, h2⟩ := ih _ _ _ _ _ _ _ _ _ _ h (hk.sub fun e he => by simp [gW, he]);obtain ⟨d1, _⟩ := bV (Kont := fun _ _ => True) (Gl.closed lt) (hcf true lt hlt) p.π1 [] T H j hdr1;refine ⟨by omega, fun ks hG => aPf (p := p) hfo ((hk (rid, ops) (by simp [gW, bC])).2.2.1 p hp) ?_ ?_⟩
          ·refine (bV (Gl.closed lt) (hcf true lt hlt) p.π1 [] T H j hdr1).2 ks hG fun ks' b1 b2 b3 => ?_
           exact y3c
          ·refine (bV (Gl.closed lt) (hcf true lt hlt) p.π2 [] T H j hdr2).2 ks hG fun ks' b1 b2 b3 => ?_
           exact y3c
         ·cases h
        ·cases h
       ·cases h
    ·rename_i hd;have hd : draw = false := by simpa using hd
     subst hd;obtain ⟨h1, h2⟩ := opsCase _ _ _ h (hk.sub fun e he => by simpa [gW, bC] using he);exact ⟨h1, fun ks hG => Run.region (h2 ks hG)⟩
   ·rename_i g ps asg bd;split at h
    ·cases h
    ·rename_i hr;have hrd' : rd = none := hrd (by simpa using hr);subst hrd';split at h
     ·rename_i gf cap hg;split at h
      ·rename_i hok;simp only [bBs] at hok;obtain ⟨⟨⟨k1, k2⟩, k3⟩, k4⟩ := hok;split at h
       ·rename_i v H2 j2 hcall;split at h
        ·rename_i i st pend hat;split at h
         ·rename_i hst;simp only [bBs] at hst;have hi := Nat.eq_of_beq_eq_true hst.1.1;subst hi;obtain ⟨h1, h2⟩ := ih _ _ _ _ _ _ _ _ _ _ h (rN hst.2 (hk.sub fun e he => by simp [gW, he]))
          have hlt2 : aDe S (⟨i, fid, T, ps, asg, bd⟩ :: lt) := by
           intro e he;rcases bC1.1 he with rfl | he
           ·exact ⟨hk.sub fun e he => by simp [gW, bC, he], hk.sub fun e he => by simp [gW, bC, he]⟩
           ·exact hlt e he
          obtain ⟨c1, c2, c3⟩ := hcf true _ hlt2 _ _ _ _ _ _ _ hcall;refine ⟨by omega, fun ks hG => Run.range (gf := gf) (cap := cap.map (io ks)) (by rw [aev_io, hg, xL]; rfl) c1 fun l => ?_⟩;obtain ⟨L, hL⟩ : ∃ L : LD, L = ⟨T.map (io ks), ps, asg, bd⟩ := ⟨_, rfl⟩;have ag : Agree i ks (aLg ks i l L) := tX ks i l L
          have hG1 : Gl (⟨i, fid, T, ps, asg, bd⟩ :: lt) (i + 1) (aLg ks i l L) := by
           intro e he;rcases bC1.1 he with rfl | he
           ·refine ⟨Nat.lt_succ_self _, eY (Nat.le_succ _) k1, ?_⟩;rw [qU, bU ag k1, hL]
           ·exact Gl.closed lt i (i + 1) ks _ hG ag (Nat.le_succ _) e he
          have hcc := c3 (aLg ks i l L) hG1
          have e1 : (AV.fn (.yield i) [] [] :: cap).map (io (aLg ks i l L)) = .fn (.yield l) [] [] :: cap.map (io ks) := by
           rw [bBx, bU ag k4, xL];simp only [iof, qU, bCv]
          have e2 : iH (aLg ks i l L) (H ++ [XO.dblk, .loop i .ready none]) = iH ks H ++ [some (.aux .dblk), some (.aux (.loop l .ready none (T.map (io ks)) ps asg bd))] := by
           rw [dX, nZ ag k2]
           congr 1
           show [some (AO.aux .dblk), iO _ _] = _;simp only [iO, qU, hL]
          rw [e1, e2] at hcc;refine ⟨_, hcc, ?_⟩;rintro o g' ⟨ks2, a1, a2, rfl, rfl⟩;have hk2 : ks2 i = (l, L) := by rw [a1 i (Nat.lt_succ_self _), qU]
          refine ⟨io ks2 v, st, pend, rfl, ?_, fun q => by rw [q] at hst; simp [aBf] at hst, ?_⟩
          ·rw [bD, kF hat];simp only [iO, hk2, hL]
          ·have ag2 : Agree i ks ks2 := ag.trans (Nat.le_succ _) a1;have := h2 ks2 (Gl.closed lt i j2 ks ks2 hG ag2 aB);rw [bU ag2 k1] at this;rw [<- iF] at this;simp only [iO, bBx, ioD, bCv] at this;have e3 : D.map (ioD ks2) = D.map (ioD ks) := jH ag2 k3;rw [show List.map (ioD ks2) D = List.map (ioD ks) D from e3] at this;rw [bD];refine Run.mono (Q := Ends ks2 j2 x T' H' j' D') ?_ fun x2 T2 h2 D2 e => e.weaken ag2 (fun q => by omega) aB h1
           have hlt : H.length + 1 < (iH ks2 H2).length := by
            have := (bBg.1 hat).1;rw [bD]; exact this
           refine Run.forget (id := H.length + 1) (by rw [eV _ _ _ _ hlt, if_pos rfl]) ?_;rw [List.set_set];exact this
         ·cases h
        ·cases h
       ·cases h
      ·cases h
     ·cases h
   ·cases h

end


open Go Go.AI
def kP (P : Program) (T : List AV) (H : HX) : List ResultVar -> Option (List AV)
 | [] => some []
 | .tmp t :: rs => (kP P T H rs).map fun l => tget T t :: l
 | .cell a t :: rs => match aBo P t (tget T a) H, kP P T H rs with
  | some x, some l => some (x :: l)
  | _, _ => none
theorem aresX_io {P : Program} {ks : Ks} {T : List AV} {H : HX} : ∀ {rs : List ResultVar} {l : List AV}, kP P T H rs = some l -> aV P (T.map (io ks)) (iH ks H) rs = some (l.map (io ks))
 | [], l, h => by simp only [kP, bBk] at h; subst h; rfl
 | .tmp t :: rs, l, h => by
  simp only [kP] at h;obtain ⟨l', h1, rfl⟩ := bBv.1 h;simp only [aV, aresX_io h1, bCm, qO, bBx]
 | .cell a t :: rs, l, h => by
  simp only [kP] at h;split at h
  ·rename_i x l' h1 h2;simp only [bBk] at h;subst h;simp only [aV, qO, aD6 h1, aresX_io h2, bBx]
  ·cases h
theorem atuple_io (ks : Ks) (l : List AV) : bO (l.map (io ks)) = io ks (bO l) := by
 match l with
 | [] => simp [bO]
 | [x] => simp [bO]
 | x :: y :: l => simp [bO]
def settle (lt : LT) (keep : Bool) (n0 : Nat) (v : AV) (H : HX) : Option (AV × HX) :=
 if keep = true then (if (v.under H.length && H.all (fG lt H.length)) = true then some (v, H) else none)
 else
  if ((pa H n0 v).under n0 && (H.take n0).all (fG lt n0)) = true then some (pa H n0 v, H.take n0)
  else if (v.under H.length && H.all (fG lt H.length)) = true then some (v, H) else none
theorem gR {lt : LT} {keep : Bool} {n0 j : Nat} {v y : AV} {H H' : HX} (hn : n0 <= H.length) (h : settle lt keep n0 v H = some (y, H')) {ks : Ks} (hG : Gl lt j ks) :
  ∃ h' m, Settles (io ks v) (iH ks H) (io ks y) h' /\ n0 <= m /\ m <= h'.length /\ (io ks y).under m = true /\ (h'.take m).all (AO.under m) = true /\ h'.take m = iH ks H' := by
 have full : ∀ {y H'}, (if (v.under H.length && H.all (fG lt H.length)) = true then some (v, H) else none) = some (y, H') -> ∃ h' m, Settles (io ks v) (iH ks H) (io ks y) h' /\ n0 <= m /\ m <= h'.length /\ (io ks y).under m = true /\ (h'.take m).all (AO.under m) = true /\ h'.take m = iH ks H' := by
  intro y H' h;split at h
  ·rename_i hc;simp only [bBs] at hc;simp only [bBk, bBz] at h;obtain ⟨rfl, rfl⟩ := h;have e : (iH ks H).take H.length = iH ks H := by rw [<- bD ks H, bC6]
   refine ⟨iH ks H, H.length, Settles.refl _ _, hn, by rw [bD]; exact bBh _, by rw [lU]; exact hc.1, ?_, e⟩;rw [e]; exact lX hG hc.2
  ·cases h
 unfold settle at h;split at h
 ·exact full h
 ·split at h
  ·rename_i hc;simp only [bBs] at hc;simp only [bBk, bBz] at h;obtain ⟨rfl, rfl⟩ := h;have hn' : n0 <= (iH ks H).length := by rw [bD]; exact hn
   have e : (aAh (iH ks H) n0).take n0 = iH ks (H.take n0) := by
    rw [aGf _ _ hn'];simp [iH, List.map_take]
   refine ⟨aAh (iH ks H) n0, n0, aEw ks H n0 hn v, bBh _, by rw [uU _ _ hn']; exact hn', by rw [lU]; exact hc.1, ?_, e⟩;rw [e]; exact lX hG hc.2
  ·exact full h
def gY : List AD -> HX -> Option HX
 | [], H => some H
 | (.yield id, _, _) :: D, H => match H[id]? with
  | some .dblk => gY D (H.set id .dead)
  | _ => none
 | _, _ => none
theorem tW : ∀ {D : List AD} {H H' : HX}, gY D H = some H' -> H'.length = H.length
 | [], H, H', h => by simp only [gY, bBk] at h; rw [h]
 | (f, x, y) :: D, H, H', h => by
  cases f with
  | yield id =>
   simp only [gY] at h;split at h
   ·rw [tW h, bDe]
   ·cases h
  | _ => simp [gY] at h
theorem aAf {P : Program} {fn : Func} {n : Nat} {R : AOut -> Heap -> Prop} {x : AX} {T : List AV} {ks : Ks} : ∀ {D : List AD} {H H' : HX}, gY D H = some H' -> Fin P fn n R x T (iH ks H') [] -> aMr P fn n R x T (iH ks H) (D.map (ioD ks))
 | [], H, H', h, f => by
  simp only [gY, bBk] at h;subst h;exact f
 | (g, a, b) :: D, H, H', h, f => by
  cases g with
  | yield id =>
   simp only [gY] at h;split at h
   ·rename_i hd;simp only [bBx, ioD, aMr];refine ⟨by rw [kF hd]; rfl, ?_⟩;have := aAf h f;rw [<- iF] at this;exact this
   ·cases h
  | _ => simp [gY] at h
def evA (P : Program) (all : Array Oper) : List Oper -> List AV -> HX -> Option (List AV × HX)
 | [], T, H => some (T, H)
 | o :: l, T, H => match awanted all T o with
  | none => none
  | some false => evA P all l (tput T o.dst (.tup [])) H
  | some true => match rA P (aev T) H o.op with
   | some (x, H') => evA P all l (tput T o.dst x) H'
   | none => none
theorem aA9 {P : Program} {all : Array Oper} {ks : Ks} {K : List Oper -> List AV -> Heap -> Prop} : ∀ {l : List Oper} {T T' : List AV} {H H' : HX}, evA P all l T H = some (T', H') -> K [] (T'.map (io ks)) (iH ks H') -> cM P all K l (T.map (io ks)) (iH ks H)
 | [], T, T', H, H', h, k => by
  simp only [evA, bBk, bBz] at h;obtain ⟨rfl, rfl⟩ := h;exact k
 | o :: l, T, T', H, H', h, k => by
  simp only [evA] at h;split at h
  ·cases h
  ·rename_i hw;simp only [cM, cD all T o hw];have := aA9 (ks := ks) h k;rw [<- tput_io, io_tup, bCv] at this;exact this
  ·rename_i hw;split at h
   ·rename_i x H1 hx;simp only [cM, cD all T o hw, iZ (ks := ks) (fun y => aev_io ks T y) hx];have := aA9 (ks := ks) h k;rw [<- tput_io] at this;exact this
   ·cases h
def slots (args : List AV) (n : Nat) : List AV := args ++ List.replicate (n - args.length) (.tup [])
theorem oL (ks : Ks) (args : List AV) (n : Nat) : (slots args n).map (io ks) = args.map (io ks) ++ List.replicate (n - (args.map (io ks)).length) (.tup []) := by
 unfold slots;rw [bCi, List.map_replicate, io_tup, bC9]; rfl
def aOx : AX -> Bool
 | .normal | .ret => true
 | _ => false
def aG5 (S : Seat) (P : Program) (cf : Bool -> LT -> aX) (yf : cA) (lt : LT) (d : FuncId) (args : List AV) (m : Option AV) (H : HX) (j : Nat) : Option HX :=
 match S.fn d with
 | some fn => match fn.body with
  | some (.seq (.region _ ⟨o0 :: os⟩ false) c) => match o0.op, o0.guard with
   | .call ⟨.builtin .recover, ⟨[]⟩, _⟩, none => match evA P ⟨o0 :: os⟩ os (tput (slots args fn.ntmps) o0.dst (recA m)) H with
    | some (T1, H1) => match ev S P d cf yf lt false 100000 [.code c] T1 H1 j [] with
     | some (x, T2, H2, j2, []) => if (Nat.beq j2 j && aOx x && decide (H.length <= H2.length)) = true then
       (match kP P T2 H2 fn.results.toList with
       | some l => (settle lt false H.length (bO l) H2).map (·.2)
       | none => none) else none
     | _ => none
    | none => none
   | _, _ => none
  | _ => none
 | none => none

structure SeatOk (P : Program) (S : Seat) : Prop where
 fns : ∀ f fn, S.fn f = some fn -> P.funcs[f]? = some fn /\ aL P f = true
 draws : ∀ f fn c, S.fn f = some fn -> fn.body = some c -> OkD S f (bC c)
 mixed : P.follows .mixedOrders = true
theorem aAa {S : Seat} {P : Program} (hS : SeatOk P S) {cf : Bool -> LT -> aX} {yf : cA} {lt : LT} (hlt : aDe S lt) (hcf : ∀ b lt, aDe S lt -> eL P (Gl lt) (cf b lt)) (hyf : hY P (Gl lt) yf) {d : FuncId} {args : List AV} {m : Option AV} {H H' : HX} {j : Nat} (h : aG5 S P cf yf lt d args m H j = some H') {ks : Ks} (hG : Gl lt j ks) :
  ADef P d (args.map (io ks)) (m.map (io ks)) (iH ks H) (iH ks H') := by
 unfold aG5 at h;split at h
 ·rename_i fn hfn;obtain ⟨hf, _⟩ := hS.fns d fn hfn;split at h
  ·rename_i rid o0 os c hb;split at h
   ·rename_i ts hop hgd;split at h
    ·rename_i T1 H1 hA;split at h
     ·rename_i x T2 H2 j2 hev;split at h
      ·rename_i hc;simp only [bBs, bC2] at hc;obtain ⟨⟨hj, hx⟩, hlen⟩ := hc;have hj := Nat.eq_of_beq_eq_true hj;subst hj;split at h
       ·rename_i l hl;obtain ⟨q, hs, rfl⟩ := bBv.1 h;obtain ⟨y, H3⟩ := q;refine ADef.of_run (id := rid) (o0 := o0) (os := os) (c := c) hf hb hop hgd ?_;intro K J;have hrec : recA (m.map (io ks)) = io ks (recA m) := by cases m <;> simp [recA]
        rw [hrec, <- oL, tput_io];refine aA9 (ks := ks) hA (J _ _ ?_);obtain ⟨_, b2⟩ := gJ (S := S) (rd := none) (nb := (iH ks H).length) hS.mixed hlt hcf hyf (fun _ => rfl) _ _ _ _ _ _ _ _ _ _ _ hev ((hS.draws d fn _ hfn hb).sub fun e he => by simpa [gW, bC] using he);refine (b2 ks hG).mono ?_;rintro x2 T2' h2 D2 ⟨ks', a1, a2, rfl, rfl, rfl, rfl⟩;have e := a2 rfl;subst e;obtain ⟨h', mm, s1, s2, s3, s4, s5, s6⟩ := gR hlen hs hG
        have fin : ∀ ax, (ax = AX.normal \/ ax = AX.ret) -> Fin P fn (iH ks' H).length (fun o g => (∃ v, o = .ret v) /\ g = iH ks' H3) ax (T2.map (io ks')) (iH ks' H2) [] := by
         intro ax hax;rw [bD];rcases hax with rfl | rfl
         ·exact y5s
         ·exact y5s
        cases x with
        | normal => exact fin _ (.inl rfl)
        | ret => exact fin _ (.inr rfl)
        | panic v => simp [aOx] at hx
        | exit i => simp [aOx] at hx
       ·cases h
      ·cases h
     ·cases h
    ·cases h
   ·cases h
  ·cases h
 ·cases h
def uR : HX -> Nat -> Nat -> Option Nat
 | [], _, _ => none
 | .loop i _ _ :: H, n, k => if Nat.beq i k = true then some n else uR H (n + 1) k
 | _ :: H, n, k => uR H (n + 1) k
def jokR (j : Nat) : AOut -> Bool
 | .ret v => jok j v
 | .panic v => jok j v
def aB3 (j : Nat) (x : Option (AOut × HX × Nat)) : Option (AOut × HX × Nat) :=
 match x with
 | some (out, H', j1) => if Nat.beq j1 j = true then some (out, H', j1) else if (jokR j out && H'.all (aAl j)) = true then some (out, H', j) else some (out, H', j1)
 | none => none
theorem aL3 {P : Program} {G : Kn} {f : FuncId} {args : List AV} {H : HX} {j j' : Nat} {out : AOut} {H' : HX} {x : Option (AOut × HX × Nat)} (h : aB3 j x = some (out, H', j'))
  (c : ∀ j1, x = some (out, H', j1) -> aL P f = true /\ j <= j1 /\ ∀ ks, G j ks -> ACalls P f (args.map (io ks)) (iH ks H) (nN ks j out H' j1)) :
  aL P f = true /\ j <= j' /\ ∀ ks, G j ks -> ACalls P f (args.map (io ks)) (iH ks H) (nN ks j out H' j') := by
 unfold aB3 at h;split at h
 ·rename_i o1 H1 j1;split at h
  ·exact y68
  ·split at h
   ·rename_i hc;simp only [bBs] at hc;simp only [bBk, bBz] at h;obtain ⟨rfl, rfl, rfl⟩ := h;obtain ⟨c1, c2, c3⟩ := c _ rfl;refine ⟨c1, bBh _, fun ks hG => (c3 ks hG).mono ?_⟩;rintro o g ⟨ks', a1, a2, rfl, rfl⟩;refine ⟨ks, Agree.refl _ _, fun _ => rfl, ?_, nZ a1 hc.2⟩
    cases o1 with
    | ret v => simp only [ioR]; rw [oA a1 hc.1]
    | panic v => simp only [ioR]; rw [oA a1 hc.1]
   ·exact y68
 ·cases h

end Go.AI.EV
