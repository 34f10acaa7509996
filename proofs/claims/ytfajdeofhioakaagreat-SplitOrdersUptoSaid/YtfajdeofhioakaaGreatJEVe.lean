import Derived.Test.YtfajdeofhioakaaGreatJA0
import Derived.Test.YtfajdeofhioakaaGreatJEVd

namespace Go.AI.EV

open Go Go.AI
def aYl (j : Nat) : Fn -> Bool
 | .yield i => decide (i < j)
 | _ => true
def aYk (j c : Nat) : Bool := c % 2 == 0 || decide (c / 2 / 1048576 < j)

mutual
def jok (j : Nat) : AV -> Bool
 | .p _ => true
 | .agg cs => pM j cs
 | .tup cs => pM j cs
 | .ptr _ _ => true
 | .sm _ _ _ cap _ => aYk j cap
 | .own _ _ _ => true
 | .fn f xs ys => aYl j f && pM j xs && pM j ys
 | .ifc _ x => jok j x
 | .mp _ => true
 | .vec _ _ => true
 | .junk => true
def pM (j : Nat) : List AV -> Bool
 | [] => true
 | x :: l => jok j x && pM j l
end
def aAl (j : Nat) : XO -> Bool
 | .cells cs => pM j cs
 | .row _ i _ cs => decide (i < j) && pM j cs
 | .loop i _ _ => decide (i < j)
 | _ => true
def Agree (j : Nat) (ks ks' : Ks) : Prop := ∀ i, i < j -> ks' i = ks i
theorem Agree.refl (j : Nat) (ks : Ks) : Agree j ks ks := fun _ _ => rfl
theorem Agree.trans {j j' : Nat} {a b c : Ks} (h : Agree j a b) (hj : j <= j') (k : Agree j' b c) : Agree j a c := fun i hi => (k i (Nat.lt_of_lt_of_le hi hj)).trans (h i hi)

mutual
theorem oA {j : Nat} {ks ks' : Ks} (ha : Agree j ks ks') : ∀ {x : AV}, jok j x = true -> io ks' x = io ks x
 | .p _, _ => by simp
 | .agg cs, h => by simp only [io, fX ha h]
 | .tup cs, h => by simp only [io, fX ha h]
 | .ptr _ _, _ => by simp
 | .sm _ _ _ cap _, h => by
  simp only [jok, aYk, bCy, beq_iff_eq, bC2] at h;simp only [io, nQ];rcases h with h | h
  ·rw [if_pos h, if_pos h]
  ·rw [ha _ h]
 | .own _ _ _, _ => by simp
 | .fn f xs ys, h => by
  simp only [jok, bBs] at h;simp only [io, fX ha h.1.2, fX ha h.2]
  congr 1
  cases f with
  | yield i =>
   have h1 := h.1.1;simp only [aYl, bC2] at h1;simp only [iof, ha _ h1]
  | _ => rfl
 | .ifc _ x, h => by
  simp only [jok] at h;simp only [io, oA ha h]
 | .mp _, _ => by simp
 | .vec _ _, _ => by simp
 | .junk, _ => by simp
theorem fX {j : Nat} {ks ks' : Ks} (ha : Agree j ks ks') : ∀ {l : List AV}, pM j l = true -> ioL ks' l = ioL ks l
 | [], _ => rfl
 | x :: l, h => by
  simp only [pM, bBs] at h;simp only [ioL, oA ha h.1, fX ha h.2]
end
theorem bU {j : Nat} {ks ks' : Ks} (ha : Agree j ks ks') {l : List AV} (h : pM j l = true) : l.map (io ks') = l.map (io ks) := by
 rw [<- eN, <- eN, fX ha h]
theorem aJv {j : Nat} {ks ks' : Ks} (ha : Agree j ks ks') {o : XO} (h : aAl j o = true) : iO ks' o = iO ks o := by
 cases o with
 | cells cs => simp only [iO, bU ha h]
 | row n0 i sz cs =>
  simp only [aAl, bBs, bC2] at h;simp only [iO, bU ha h.2, ha _ h.1]
 | loop i st pend =>
  simp only [aAl, bC2] at h;simp only [iO, ha _ h]
 | _ => rfl
theorem nZ {j : Nat} {ks ks' : Ks} (ha : Agree j ks ks') {H : HX} (h : H.all (aAl j) = true) : iH ks' H = iH ks H := by
 unfold iH;exact List.map_congr_left fun o ho => aJv ha (bC0.1 h o ho)

def aWr : List UInt8 -> List UInt8 -> Bool
 | [], [] => true
 | a :: l, b :: m => Nat.beq a.toNat b.toNat && aWr l m
 | _, _ => false
theorem aFx : ∀ {l m : List UInt8}, aWr l m = true -> l = m
 | [], [], _ => rfl
 | a :: l, b :: m, h => by
  simp only [aWr, bBs] at h;rw [aFx h.2, UInt8.toNat_inj.1 (Nat.eq_of_beq_eq_true h.1)]
def eqV : Value -> Value -> Bool
 | .bool a, .bool b => a == b
 | .int k a, .int l b => decide (k = l) && a == b
 | .string ⟨⟨a⟩⟩, .string ⟨⟨b⟩⟩ => aWr a b
 | .pointer none, .pointer none => true
 | .slice none 0 0, .slice none 0 0 => true
 | .map none, .map none => true
 | .nilFunc, .nilFunc => true
 | .nilIface, .nilIface => true
 | _, _ => false
theorem aTq {a b : Value} (h : eqV a b = true) : a = b := by
 unfold eqV at h;split at h <;> first | (cases h; done) | rfl | skip
 ·simp only [beq_iff_eq] at h; rw [h]
 ·simp only [bBs, bC2, beq_iff_eq] at h; rw [h.1, h.2]
 ·rw [aFx h]

mutual
def eqP : PV -> PV -> Bool
 | .prim a, .prim b => eqV a b
 | .sl s es, .sl t fs => Nat.beq s t && aA6 es fs
 | .ro cs, .ro ds => aO1 cs ds
 | .ifc t x, .ifc u y => Nat.beq t u && eqP x y
 | _, _ => false
def aO1 : List PV -> List PV -> Bool
 | [], [] => true
 | x :: l, y :: m => eqP x y && aO1 l m
 | _, _ => false
def aA6 : List (List PV) -> List (List PV) -> Bool
 | [], [] => true
 | x :: l, y :: m => aO1 x y && aA6 l m
 | _, _ => false
end

mutual
theorem aG0 : ∀ {a b : PV}, eqP a b = true -> a = b
 | .prim a, b, h => by
  cases b <;> simp only [eqP] at h <;> first | (cases h; done) | rw [aTq h]
 | .sl s es, b, h => by
  cases b <;> simp only [eqP, bBs] at h <;> first | (cases h; done) | rw [Nat.eq_of_beq_eq_true h.1, uQ h.2]
 | .ro cs, b, h => by
  cases b <;> simp only [eqP] at h <;> first | (cases h; done) | rw [aA7 h]
 | .ifc t x, b, h => by
  cases b <;> simp only [eqP, bBs] at h <;> first | (cases h; done) | (rw [aG0 h.2]; congr 1; exact Nat.eq_of_beq_eq_true h.1)
theorem aA7 : ∀ {a b : List PV}, aO1 a b = true -> a = b
 | [], [], _ => rfl
 | x :: l, y :: m, h => by
  simp only [aO1, bBs] at h;rw [aG0 h.1, aA7 h.2]
 | [], _ :: _, h => by simp [aO1] at h
 | _ :: _, [], h => by simp [aO1] at h
theorem uQ : ∀ {a b : List (List PV)}, aA6 a b = true -> a = b
 | [], [], _ => rfl
 | x :: l, y :: m, h => by
  simp only [aA6, bBs] at h;rw [aA7 h.1, uQ h.2]
 | [], _ :: _, h => by simp [aA6] at h
 | _ :: _, [], h => by simp [aA6] at h
end
def eqF : Fn -> Fn -> Bool
 | .func i, .func j => Nat.beq i j
 | .yield i, .yield j => Nat.beq i j
 | _, _ => false
theorem aTp {a b : Fn} (h : eqF a b = true) : a = b := by
 unfold eqF at h;split at h <;> first | (cases h; done) | (congr 1; exact Nat.eq_of_beq_eq_true h)

mutual
def eqA : AV -> AV -> Bool
 | .p a, .p b => eqP a b
 | .agg a, .agg b => zN a b
 | .tup a, .tup b => zN a b
 | .ptr a b, .ptr c d => Nat.beq a c && Nat.beq b d
 | .sm a b c d e, .sm a' b' c' d' e' => Nat.beq a a' && Nat.beq b b' && Nat.beq c c' && Nat.beq d d' && Nat.beq e e'
 | .own a b c, .own a' b' c' => Nat.beq a a' && Nat.beq b b' && aA6 c c'
 | .fn f a b, .fn g c d => eqF f g && zN a c && zN b d
 | .ifc t x, .ifc u y => Nat.beq t u && eqA x y
 | .mp a, .mp b => Nat.beq a b
 | .junk, .junk => true
 | _, _ => false
def zN : List AV -> List AV -> Bool
 | [], [] => true
 | x :: l, y :: m => eqA x y && zN l m
 | _, _ => false
end

mutual
theorem wX : ∀ {a b : AV}, eqA a b = true -> a = b
 | .p a, b, h => by cases b <;> simp only [eqA] at h <;> first | (cases h; done) | rw [aG0 h]
 | .agg a, b, h => by cases b <;> simp only [eqA] at h <;> first | (cases h; done) | rw [fO h]
 | .tup a, b, h => by cases b <;> simp only [eqA] at h <;> first | (cases h; done) | rw [fO h]
 | .ptr a c, b, h => by cases b <;> simp only [eqA, bBs] at h <;> first | (cases h; done) | rw [Nat.eq_of_beq_eq_true h.1, Nat.eq_of_beq_eq_true h.2]
 | .sm a a2 a3 a4 a5, b, h => by
  cases b <;> simp only [eqA, bBs] at h <;> first | (cases h; done) | rw [Nat.eq_of_beq_eq_true h.1.1.1.1, Nat.eq_of_beq_eq_true h.1.1.1.2, Nat.eq_of_beq_eq_true h.1.1.2, Nat.eq_of_beq_eq_true h.1.2, Nat.eq_of_beq_eq_true h.2]
 | .own a a2 a3, b, h => by
  cases b <;> simp only [eqA, bBs] at h <;> first | (cases h; done) | rw [Nat.eq_of_beq_eq_true h.1.1, Nat.eq_of_beq_eq_true h.1.2, uQ h.2]
 | .fn f a a2, b, h => by
  cases b <;> simp only [eqA, bBs] at h <;> first | (cases h; done) | rw [aTp h.1.1, fO h.1.2, fO h.2]
 | .ifc t x, b, h => by
  cases b <;> simp only [eqA, bBs] at h <;> first | (cases h; done) | (rw [wX h.2]; congr 1; exact Nat.eq_of_beq_eq_true h.1)
 | .mp a, b, h => by cases b <;> simp only [eqA] at h <;> first | (cases h; done) | rw [Nat.eq_of_beq_eq_true h]
 | .vec _ _, b, h => by cases b <;> simp [eqA] at h
 | .junk, b, h => by cases b <;> first | rfl | (simp [eqA] at h)
theorem fO : ∀ {a b : List AV}, zN a b = true -> a = b
 | [], [], _ => rfl
 | x :: l, y :: m, h => by
  simp only [zN, bBs] at h;rw [wX h.1, fO h.2]
 | [], _ :: _, h => by simp [zN] at h
 | _ :: _, [], h => by simp [zN] at h
end

def uO {α : Type} (sz : Nat) : Nat -> List α -> List (List α)
 | 0, _ => []
 | n + 1, l => l.take sz :: uO sz n (l.drop sz)
theorem sA {α : Type} {sz : Nat} : ∀ (n : Nat) (l : List α), l.length = n * sz -> (uO sz n l).flatten = l /\ (∀ e ∈ uO sz n l, e.length = sz) /\ (uO sz n l).length = n
 | 0, l, h => by
  have : l = [] := by apply bDg; simpa using h
  subst this; simp [uO]
 | n + 1, l, h => by
  have e : (n + 1) * sz = n * sz + sz := bE6 n sz;obtain ⟨h1, h2, h3⟩ := sA (sz := sz) n (l.drop sz) (by rw [bCl]; omega);refine ⟨by simp only [uO, bCu, h1, bCp], fun x hx => ?_, by simp only [uO, bBm, h3]⟩;simp only [uO, bC1] at hx;rcases hx with rfl | hx
  ·rw [bC7]; omega
  ·exact h2 x hx
def aV7 {α β : Type} (f : α -> Option β) : List α -> Option (List β)
 | [] => some []
 | x :: l => match f x, aV7 f l with
  | some y, some m => some (y :: m)
  | _, _ => none
def room (code : Nat) : Nat := if code % 2 = 0 then code / 2 else code / 2 % 1048576
theorem vL (ks : Ks) (code : Nat) : room code <= nQ ks code := by
 unfold room nQ;split <;> omega
def pv (H : HX) (m : Nat) : Nat -> AV -> Option PV
 | _, .p x => some x
 | _, .own _ sz es => some (.sl sz es)
 | n + 1, .ifc t x => (pv H m n x).map (.ifc t)
 | n + 1, .sm id off len code sz =>
  if m <= id /\ 0 < sz /\ len <= room code then
   match (H[id]?).bind cellsOf with
   | some cs => if off + len * sz <= cs.length then (aV7 (pv H m n) ((cs.drop off).take (len * sz))).map fun l => .sl sz (uO sz len l) else none
   | none => none
  else none
 | _, _ => none

mutual
def pa (H : HX) (m : Nat) : AV -> AV
 | .agg cs => .agg (paL H m cs)
 | .tup cs => .tup (paL H m cs)
 | .fn f xs ys => .fn f (paL H m xs) (paL H m ys)
 | .own _a b c => .p (.sl b c)
 | .ifc t x => match pv H m 8 (.ifc t x) with
  | some y => .p y
  | none => .ifc t x
 | .sm a b c d e => match pv H m 8 (.sm a b c d e) with
  | some y => .p y
  | none => .sm a b c d e
 | x => x
def paL (H : HX) (m : Nat) : List AV -> List AV
 | [] => []
 | x :: l => pa H m x :: paL H m l
end
def frz (E : Env) (h : Heap) (m : Nat) : Env := { E with ro := fun b off => E.ro b off \/ ∃ id cs, m <= id /\ h.at id = some (.cells cs) /\ E.g id = some b }
def aAh (h : Heap) (m : Nat) : Heap := h.take m ++ List.replicate (h.length - m) none
theorem aOv (h : Heap) (m id : Nat) (hm : m <= h.length) : Heap.at (aAh h m) id = if id < m then h.at id else none := by
 unfold aAh Heap.at
 by_cases e : id < m
 ·rw [bBt (by rw [bC7]; omega)];simp [e]
 ·rw [bCs (by rw [bC7]; omega)];rw [if_neg e];rw [List.getElem?_replicate];split <;> rfl
theorem lP {E : Env} {h : Heap} {w : World} (r : Rel E h.at w) (m : Nat) (hm : m <= h.length) : Rel (frz E h m) (Heap.at (aAh h m)) w /\ Fr E h.at w (frz E h m) (Heap.at (aAh h m)) w := by
 have hx : Ext E w (frz E h m) w := ⟨fun _ _ h => .inl h, fun _ _ _ => rfl, fun _ _ h => h, fun _ L h => ⟨L, h, bBh _, fun _ => rfl⟩⟩
 have hat : ∀ id o, Heap.at (aAh h m) id = some o -> id < m /\ h.at id = some o := by
  intro id o e;rw [aOv h m id hm] at e;exact y5a
 have hO : ∀ id b, eQ (frz E h m) (Heap.at (aAh h m)) id b -> id < m /\ eQ E h.at id b := by
  intro id b ho;rcases ho with ⟨c, h1, h3, h2⟩ | ⟨c, x, c', k, h1, hk, h2⟩
  ·obtain ⟨l, h1⟩ := hat _ _ h1; exact ⟨l, .inl ⟨c, h1, h3, h2⟩⟩
  ·obtain ⟨l, h1⟩ := hat _ _ h1; exact ⟨l, .inr ⟨c, x, c', k, h1, hk, h2⟩⟩
 refine ⟨⟨fun id o hc hn => ?_, fun id o n sz k cs hc hk => ?_, fun i i' b h1 h2 => r.inj i i' b (hO _ _ h1).2 (hO _ _ h2).2, fun id o b off hc hn hg hb => ?_, fun id o n sz k cs b c k' off hc hk hg hl hb => ?_, fun b off hb => ?_⟩,
  ⟨fun _ _ _ => rfl, hx, fun b off hb => ?_, bBh _, fun b ⟨i, ho⟩ => .inl ⟨i, (hO _ _ ho).2⟩, Kp.refl w⟩⟩
 ·obtain ⟨_, hc⟩ := hat _ _ hc;obtain ⟨b, hg, ho⟩ := r.objsO id o hc hn;exact ⟨b, hg, ho.move hx rfl⟩
 ·obtain ⟨_, hc⟩ := hat _ _ hc;obtain ⟨blk, cap, ht, h1, h2, h3⟩ := r.toks id o n sz k cs hc hk
  exact ⟨blk, cap, ht, h1, h2, fun b hb => by
   obtain ⟨vs, q1, q2, q3⟩ := h3 b hb;exact ⟨vs, q1, q2, q3.ext hx⟩⟩
 ·obtain ⟨l, hc⟩ := hat _ _ hc;rcases hb with hb | ⟨id', cs, hm', hat', hg'⟩
  ·exact r.sepO id o b off hc hn hg hb
  ·have := r.inj id id' b (.inl ⟨o, hc, hn, hg⟩) (.inl ⟨_, hat', rfl, hg'⟩); omega
 ·obtain ⟨l, hc⟩ := hat _ _ hc;rcases hb with hb | ⟨id', cs', hm', hat', hg'⟩
  ·exact r.sepT id o n sz k cs b c k' off hc hk hg hl hb
  ·have := r.inj id id' b (.inr ⟨o, _, c, k', hc, hk, hg⟩) (.inl ⟨_, hat', rfl, hg'⟩); omega
 ·rcases hb with hb | ⟨id', cs, hm', hat', hg'⟩
  ·exact r.lt b off hb
  ·exact r.owns_lt (.inl ⟨_, hat', rfl, hg'⟩)
 ·rcases hb with hb | ⟨id', cs, hm', hat', hg'⟩
  ·exact .inl hb
  ·exact .inr (.inl ⟨id', .inl ⟨_, hat', rfl, hg'⟩⟩)

section

variable {ks : Ks} {E : Env} {w : World} {H : HX} {m : Nat}
theorem aMf (r : Rel E (iH ks H).at w) : ∀ (n : Nat) (x : AV) (y : PV) (v : Value), pv H m n x = some y -> Rep E w (io ks x) v -> RepP (frz E (iH ks H) m) w y v := by
 have hx : Ext E w (frz E (iH ks H) m) w := ⟨fun _ _ h => .inl h, fun _ _ _ => rfl, fun _ _ h => h, fun _ L h => ⟨L, h, bBh _, fun _ => rfl⟩⟩;intro n
 induction n with
 | zero =>
  intro x y v hp hv
  cases x <;> simp only [pv, bBk] at hp <;> try (cases hp; done)
  ·subst hp; simp only [dY, Rep] at hv; exact hv.ext hx
  ·exact y61
 | succ n ih =>
  intro x y v hp hv
  cases x <;> simp only [pv, bBk] at hp <;> try (simp at hp; done)
  case p x => subst hp; simp only [dY, Rep] at hv; exact hv.ext hx
  case own a b c =>
   exact y61
  case ifc t x =>
   obtain ⟨y', h1, rfl⟩ := bBv.1 hp;simp only [sO, Rep] at hv;obtain ⟨u, e, hu⟩ := hv;simp only [RepP];exact ⟨u, e, ih x y' u h1 hu⟩
  case sm id off len code sz =>
   split at hp
   ·rename_i hc;obtain ⟨c1, c2, c3⟩ := hc
    cases hb : (H[id]?).bind cellsOf with
    | none => rw [hb] at hp; cases hp
    | some cs =>
     rw [hb] at hp;simp only at hp;split at hp
     ·rename_i hfit;obtain ⟨l, h1, rfl⟩ := bBv.1 hp;obtain ⟨o, h2, h3⟩ := fU hb;obtain ⟨R, h4, _⟩ := gL (ks := ks) h3;have hat := kF (ks := ks) h2;rw [h4] at hat;simp only [io_sm, Rep] at hv;obtain ⟨b, hg, rfl⟩ := hv;obtain ⟨b', vs, hg', hrow, hreps⟩ := r.objs id _ hat;rw [hg] at hg'; cases hg'
      have hseg : RepL E w (((cs.drop off).take (len * sz)).map (io ks)) ((vs.drop off).take (len * sz)) := by
       have := (hreps.drop off).take (len * sz)
       rwa [eC hfit] at this
      have conv : ∀ (cs : List AV) (vs : List Value) (l : List PV), aV7 (pv H m n) cs = some l -> RepL E w (cs.map (io ks)) vs -> RepL (frz E (iH ks H) m) w (l.map .p) vs /\ l.length = cs.length := by
       intro cs
       induction cs with
       | nil => intro vs l hl hr; simp only [aV7, bBk] at hl; subst hl; exact ⟨by simpa [RepL] using hr, rfl⟩
       | cons c cs ihc =>
        intro vs l hl hr;simp only [aV7] at hl;split at hl
        ·rename_i y ys e1 e2;simp only [bBk] at hl;subst hl;simp only [bBx, RepL] at hr;obtain ⟨v, us, rfl, r1, r2⟩ := hr;obtain ⟨q1, q2⟩ := ihc us ys e2 r2;refine ⟨?_, by simp [q2]⟩;simp only [bBx, RepL];exact ⟨v, us, rfl, by simp only [Rep]; exact ih c y v e1 r1, q1⟩
        ·cases hl
      obtain ⟨q1, q2⟩ := conv _ _ _ h1 hseg;have hll : l.length = len * sz := by rw [q2, bC7, bCl]; omega
      obtain ⟨k1, k2, k3⟩ := sA len l hll;simp only [RepP];have hcap : len <= nQ ks code := bDc c3 (vL ks code);refine ⟨some ⟨b, off, none⟩, nQ ks code, by rw [k3], by rw [k3]; exact hcap, .inr ⟨b, off, rfl, ?_⟩⟩;refine RepEs.of_row (vs := (vs.drop off).take (len * sz)) k2 (fun j v hj => ⟨.inr ⟨id, _, c1, hat, hg⟩, ?_⟩) (by rw [k1]; exact q1);rw [hrow.cell];exact y47
     ·cases hp
   ·cases hp

mutual
theorem aMe (r : Rel E (iH ks H).at w) : ∀ (x : AV) (v : Value), Rep E w (io ks x) v -> Rep (frz E (iH ks H) m) w (io ks (pa H m x)) v
 | .agg cs, v, h => by
  simp only [io, Rep, pa] at h ⊢;obtain ⟨vs, e, h⟩ := h;exact ⟨vs, e, mP r cs vs h⟩
 | .tup cs, v, h => by
  simp only [io, Rep, pa] at h ⊢;obtain ⟨vs, e, h⟩ := h;exact ⟨vs, e, mP r cs vs h⟩
 | .fn f xs ys, v, h => by
  simp only [io, Rep, pa] at h ⊢;obtain ⟨vs, us, e, h1, h2⟩ := h;exact ⟨vs, us, e, mP r xs vs h1, mP r ys us h2⟩
 | .own a b c, v, h => by
  have hx : Ext E w (frz E (iH ks H) m) w := ⟨fun _ _ h => .inl h, fun _ _ _ => rfl, fun _ _ h => h, fun _ L h => ⟨L, h, bBh _, fun _ => rfl⟩⟩;have := Weak.own _ _ _ E w v (by simpa using h);simp only [pa, dY];exact this.ext hx
 | .ifc t x, v, h => by
  have hx : Ext E w (frz E (iH ks H) m) w := ⟨fun _ _ h => .inl h, fun _ _ _ => rfl, fun _ _ h => h, fun _ L h => ⟨L, h, bBh _, fun _ => rfl⟩⟩;simp only [pa];split
  ·rename_i y e;simp only [dY, Rep];exact aMf r 8 _ y v e h
  ·exact h.ext hx
 | .sm a b c d e, v, h => by
  have hx : Ext E w (frz E (iH ks H) m) w := ⟨fun _ _ h => .inl h, fun _ _ _ => rfl, fun _ _ h => h, fun _ L h => ⟨L, h, bBh _, fun _ => rfl⟩⟩;simp only [pa];split
  ·rename_i y e;simp only [dY, Rep];exact aMf r 8 _ y v e h
  ·exact h.ext hx
 | .p x, v, h => by
  have hx : Ext E w (frz E (iH ks H) m) w := ⟨fun _ _ h => .inl h, fun _ _ _ => rfl, fun _ _ h => h, fun _ L h => ⟨L, h, bBh _, fun _ => rfl⟩⟩;simp only [pa]; exact h.ext hx
 | .ptr _ _, v, h => by
  have hx : Ext E w (frz E (iH ks H) m) w := ⟨fun _ _ h => .inl h, fun _ _ _ => rfl, fun _ _ h => h, fun _ L h => ⟨L, h, bBh _, fun _ => rfl⟩⟩;simp only [pa]; exact h.ext hx
 | .mp _, v, h => by
  have hx : Ext E w (frz E (iH ks H) m) w := ⟨fun _ _ h => .inl h, fun _ _ _ => rfl, fun _ _ h => h, fun _ L h => ⟨L, h, bBh _, fun _ => rfl⟩⟩;simp only [pa]; exact h.ext hx
 | .vec _ _, v, h => by
  have hx : Ext E w (frz E (iH ks H) m) w := ⟨fun _ _ h => .inl h, fun _ _ _ => rfl, fun _ _ h => h, fun _ L h => ⟨L, h, bBh _, fun _ => rfl⟩⟩;simp only [pa]; exact h.ext hx
 | .junk, v, h => by simp only [pa, aAk, Rep]
theorem mP (r : Rel E (iH ks H).at w) : ∀ (xs : List AV) (vs : List Value), RepL E w (ioL ks xs) vs -> RepL (frz E (iH ks H) m) w (ioL ks (paL H m xs)) vs
 | [], vs, h => by simpa only [paL, ioL, RepL] using h
 | x :: xs, vs, h => by
  simp only [paL, ioL, RepL] at h ⊢;obtain ⟨v, us, e, h1, h2⟩ := h;exact ⟨v, us, e, aMe r x v h1, mP r xs us h2⟩
end
theorem uU (h : Heap) (m : Nat) (hm : m <= h.length) : (aAh h m).length = h.length := by
 unfold aAh;simp; omega
theorem aEw (ks : Ks) (H : HX) (m : Nat) (hm : m <= H.length) (x : AV) : Settles (io ks x) (iH ks H) (io ks (pa H m x)) (aAh (iH ks H) m) := by
 intro E w v r hf hx;have hm' : m <= (iH ks H).length := by rw [bD]; exact hm
 obtain ⟨h1, h2⟩ := lP r m hm';exact ⟨_, h1, fun id hid => hf id (by rw [uU _ _ hm'] at hid; exact hid), aMe r x v hx, h2⟩
theorem aGf (h : Heap) (m : Nat) (hm : m <= h.length) : (aAh h m).take m = h.take m := by
 unfold aAh;rw [bCh (by simp; omega), List.take_take, Nat.min_self]

end

end Go.AI.EV
