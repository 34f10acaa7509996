import Derived.Test.YtfajdeofhioakaaGreatJA0
import Derived.Scope
import Derived.Test.YtfajdeofhioakaaGreatJFV
import Derived.Test.YtfajdeofhioakaaGreatJFF
import Derived.Shelf.SlIterI.Sorted
import Derived.Test.YtfajdeofhioakaaGreatJA
import Derived.Test.YtfajdeofhioakaaGreatJFL
import Derived.Test.YtfajdeofhioakaaGreatJX0
import Derived.Test.YtfajdeofhioakaaGreatJG1
import Derived.Test.YtfajdeofhioakaaGreatProg
import Derived.KernelRfl
import Derived.Test.YtfajdeofhioakaaGreatJC
import Derived.Test.YtfajdeofhioakaaGreatJD
import Derived.Test.YtfajdeofhioakaaGreatJE9
import Derived.Test.YtfajdeofhioakaaGreatJE7
import Derived.Test.YtfajdeofhioakaaGreatJFH
import Derived.Test.YtfajdeofhioakaaGreatJN1

namespace Go.AI

open Go

section

variable {P : Program} {b : Frame} {a : Act} {k : List Item} {cs : List Frame} {w : World} {Q : Exit -> Act -> World -> Prop} {F : Fence} {n : Nat}
theorem dB {c : Code} : step P (lone (b.atR a (.code (.scope c) :: k)) cs w) = .next (lone (b.atR a (.code c :: .inScope c :: k)) cs w) :=
 step_lone_go (by simp [stepG, stepG.exec, Frame.atR])
theorem rR {c : Code} : step P (lone (b.atR a (.inScope c :: k)) cs w) = .next (lone (b.atR a k) cs w) :=
 step_lone_go (by simp [stepG, stepG.exec, Frame.atR])
theorem aBn {c : Code} (h : c.wpIn F n P (Exit.noGoto Q) a w) : (Code.scope c).wpIn F n P Q a w := by
 intro b k cs hro hb hr;have h0 : (lone (b.atR a (.code (.scope c) :: k)) cs w).fenced P F := fenced_calm hb hr rfl;obtain ⟨e, a₁, w₁, hq, harr⟩ := h b (.inScope c :: k) cs hro hb hr
 cases e with
 | normal => exact ⟨.normal, a₁, w₁, hq, .head h0 dB (StepsIn.trans harr (.one (fenced_calm hb hr rfl) rR))⟩
 | exit id =>
  have hx : exitTo id (.inScope c :: k) = exitTo id k := by simp [exitTo]
  exact ⟨.exit id, a₁, w₁, hq, fun k' hk => .head h0 dB (harr.1 k' (by rw [hx]; exact hk)),
   fun hr' hk => let ⟨k₁, h1, h2⟩ := harr.2 hr' (by rw [hx]; exact hk); ⟨k₁, h1, .head h0 dB h2⟩⟩
 | goto l => exact hq.elim
 | ret => exact ⟨_, a₁, w₁, hq, .of_steps (.one h0 dB) harr⟩
 | panic ch => exact ⟨_, a₁, w₁, hq, .of_steps (.one h0 dB) harr⟩
 | outgrown => exact ⟨_, a₁, w₁, hq, .of_steps (.one h0 dB) harr⟩

end
theorem aBq {P : Program} {rd : Option Nat} {Q : Exit -> Act -> World -> Prop} (hQ : ∀ l a w, ¬ Q (.goto l) a w) : ∀ (k : List It) l a w, ¬ K P rd Q k (.goto l) a w
 | [], l, a, w => hQ l a w
 | .code _ :: k, l, a, w => aBq hQ k l a w
 | .ops _ _ :: k, l, a, w => aBq hQ k l a w
 | .inBlock _ :: k, l, a, w => aBq hQ k l a w
theorem Post.not_goto {nb Q E h w l a w'} : ¬ Post nb Q E h w (.goto l) a w' := by
 rintro ⟨_, _, _, _, x, _, _, _, h⟩
 cases x <;> simp [RepX] at h
theorem Run.scope {P : Program} {rd : Option Nat} {nb : Nat} {c : Code} {k : List It} {T : List AV} {h : Heap} {D : List AD} {Q : AX -> List AV -> Heap -> List AD -> Prop} (r : Run P rd nb (.code c :: k) T h D Q) : Run P rd nb (.code (.scope c) :: k) T h D Q := by
 intro E w a hs;refine aBn (wpIn_mono (r E w a hs) ?_);intro e a w hq
 cases e with
 | goto l => exact aBq (fun _ _ _ => Post.not_goto) k l a w hq
 | _ => exact hq


open Go
theorem aN5 {E : Env} {w : World} {sz cap : Nat} {es : List (List PV)} {vs : List Value} (hes : ∀ e ∈ es, e.length = sz) (hn : es.length <= cap) (hl : vs.length = cap * sz)
  (hr : RepL E w (es.flatten.map .p) (vs.take (es.flatten.map AV.p).length)) : RepL E w (buf sz es (cap - es.length)) vs := by
 have hel : (es.flatten.map AV.p).length = es.length * sz := by rw [bC9, aQ hes]
 rw [hel] at hr;have hmul : es.length * sz + (cap - es.length) * sz = cap * sz := by rw [<- bDn]; congr 1; omega
 have hd : (vs.drop (es.length * sz)).length = (cap - es.length) * sz := by rw [bCl]; omega
 have := hr.append (hd ▸ RepL.junks (E := E) (w := w) (vs.drop (es.length * sz)));rw [bCp] at this;exact this
theorem Rel.thaw {E : Env} {h : Heap} {w : World} (r : Rel E h.at w) (hf : Fresh E h.length) {id b cap sz : Nat} {es : List (List PV)} (hat : h.at id = some (.vec sz es)) (hL : E.t id = some ⟨some b, cap, es.length⟩) (hes : ∀ e ∈ es, e.length = sz) :
  let E' : Env := { E with g := fun i => if i = h.length then some b else E.g i }
  let h' : Heap := h.set id none ++ [some (.cells (buf sz es (cap - es.length)))]
  Rel E' h'.at w /\ Fr E h.at w E' h'.at w /\ Fresh E' (h.length + 1) /\ es.length <= cap := by
 intro E' h';obtain ⟨blk, cap', ht, k1, k2, k3⟩ := r.toks id _ _ _ _ _ hat rfl;rw [hL] at ht; cases ht;obtain ⟨vs, hrow, hcl, hcr⟩ := k3 b rfl;have hlt := bF hat
 have hx : Ext E w E' w := ⟨fun _ _ h => h, fun _ _ _ => rfl, fun i b' e => by
   show (if i = h.length then some b else E.g i) = some b';rw [if_neg (fun he => by rw [he, (hf _ (bBh _)).1] at e; cases e)]; exact e, fun _ L h => ⟨L, h, bBh _, fun _ => rfl⟩⟩
 have hnew : h'.at h.length = some (.cells (buf sz es (cap - es.length))) := by
  have := cC (h.set id none) (some (.cells (buf sz es (cap - es.length)))) h.length;rw [bDe, if_pos rfl] at this;exact this
 have hold : ∀ i o, i ≠ h.length -> h'.at i = some o -> h.at i = some o /\ i ≠ id := by
  intro i o hne e;have := cC (h.set id none) (some (.cells (buf sz es (cap - es.length)))) i;exact y2l
 have hg' : ∀ i, i ≠ h.length -> E'.g i = E.g i := fun i hne => if_neg hne
 have hgn : E'.g h.length = some b := if_pos rfl
 have hO : ∀ i b', eQ E' h'.at i b' -> (i = h.length /\ b' = b) \/ (i ≠ h.length /\ i ≠ id /\ eQ E h.at i b') := by
  intro i b' ho;exact y25
 have hown : eQ E h.at id b := .inr ⟨_, _, _, _, hat, rfl, hL⟩;refine ⟨⟨fun i o hc hn => ?_, fun i o n s k cs hc hk => ?_, fun i i' b' h1 h2 => ?_, fun i o b' off hc hn hg hb => ?_, fun i o n s k cs b' c m off hc hk hg hl hb => ?_, r.lt⟩, ⟨fun _ _ _ => rfl, hx, fun _ _ h => .inl h, bBh _, fun b' ⟨i, ho⟩ => ?_, Kp.refl w⟩, fun i hi => ?_, k1⟩
 ·by_cases e : i = h.length
  ·subst e; rw [hnew] at hc; cases hc;exact ⟨b, hgn, vs, hrow, (aN5 hes k1 hcl hcr).ext hx⟩
  ·exact y57
 ·exact y2j
 ·exact y31
 ·by_cases e : i = h.length
  ·subst e;rw [hgn] at hg; cases hg;exact r.sepT id _ _ _ _ _ b cap _ off hat rfl hL aB hb
  ·exact y6c
 ·exact y43
 ·exact y5p
 ·exact y5l

section

variable {P : Program} {rd : Option Nat} {nb : Nat} {k : List It} {T : List AV} {h : Heap} {D : List AD} {Q : AX -> List AV -> Heap -> List AD -> Prop}

end


open Go

section

variable {P : Program} {rd : Option Nat} {nb : Nat} {k : List It} {T : List AV} {h : Heap} {D : List AD} {Q : AX -> List AV -> Heap -> List AD -> Prop} {all : Array Oper} {o : Oper} {rest : List Oper}
theorem Run.panicA {x : Operand} {t : TypeId} {y : AV} (ho : o.op = .panic x) (hw : awanted all T o = some true) (hx : aev T x = .ifc t y) (hq : Q (.panic (.ifc t y)) T h D) : Run P rd nb (.ops all (o :: rest) :: k) T h D Q := by
 intro E w a s;have hr := aev_rep s x;rw [hx] at hr;have hr' := hr;simp only [Rep] at hr;obtain ⟨u, e, hu⟩ := hr;show wpListIn (fen rd) 0 P all (K P rd (Post nb Q E h w) k) (o :: rest) a w;refine yb ?_;refine ⟨fun _ _ => trivial, ?_⟩;rw [Oper.semAt_eq _ _ _ (fun c hc => by rw [hc] at ho; cases ho)];have : (execOp a.eval o).run P w = .halt (.panic (.iface t u)) w := by simp [execOp, ho, Instr.panic, e]
 rw [this];show K P rd (Post nb Q E h w) k (.panic _) a w;rw [K_panic];exact ⟨E, T, h, D, .panic (.ifc t y), hq, s, (Fr.refl _ _ _).toN _, .iface t u, rfl, by rw [e] at hr'; exact hr'⟩

end


open Go Go.Shelf Go.Sort Go.Proofs Go.MapKept Go.Maps Go.WideElems
theorem Rel.below {E : Env} {h : Nat -> Option AO} {w w' : World} (r : Rel E h w) (hb : RowKit.Below w.heap.size w w') :
  Rel { E with ro := fun b off => E.ro b off \/ (w.heap.size <= b /\ b < w'.heap.size) } h w' /\
  Fr E h w { E with ro := fun b off => E.ro b off \/ (w.heap.size <= b /\ b < w'.heap.size) } h w' := by
 have hx : Ext E w { E with ro := fun b off => E.ro b off \/ (w.heap.size <= b /\ b < w'.heap.size) } w' :=
  ⟨fun _ _ h => .inl h, fun b off hb' => bI (hb.block b (r.lt b off hb')) off, fun _ _ h => h, fun _ L h => ⟨L, h, bBh _, fun _ => rfl⟩⟩
 refine ⟨⟨fun id o hc hn => ?_, fun id o n sz m cs hc hk => ?_, r.inj, fun id o b off hc hn hg => ?_, fun id o n sz k cs b c m off hc hk hg hl => ?_, ?_⟩, ⟨fun b hb' _ => hb.block b hb', hx, ?_, hb.size, fun b hb' => .inl hb', hb.os, hb.output⟩⟩
 ·obtain ⟨b, hg, ho⟩ := r.objsO id o hc hn;exact ⟨b, hg, ho.move hx (hb.block b ho.lt)⟩
 ·obtain ⟨blk, cap, ht, h1, h2, h3⟩ := r.toks id o n sz m cs hc hk;refine ⟨blk, cap, ht, h1, h2, fun b hb' => ?_⟩;obtain ⟨us, hr, hl, hp⟩ := h3 b hb';exact ⟨us, hr.same (hb.block b hr.lt), hl, hp.ext hx⟩
 ·rintro (h1 | h1)
  ·exact r.sepO id o b off hc hn hg h1
  ·have := r.owns_lt (.inl ⟨o, hc, hn, hg⟩); omega
 ·rintro (h1 | h1)
  ·exact r.sepT id o n sz k cs b c m off hc hk hg hl h1
  ·have := r.owns_lt (.inr ⟨o, _, c, m, hc, hk, hg⟩); omega
 ·rintro b off (h1 | h1)
  ·have := r.lt b off h1; have := hb.size; omega
  ·omega
 ·rintro b off (h1 | h1)
  ·exact .inl h1
  ·exact .inr (.inr h1.1)

end Go.AI

namespace Go.Proofs.YtfajdeofhioakaaGreat

open Go Go.AI
def aP8 : Option Int -> Option Int -> Option Int
 | none, b => b
 | a, none => a
 | some x, some y => some (max x y)
@[simp] theorem aIz (a : Option Int) : aP8 none a = a := rfl
@[simp] theorem aHa (a : Option Int) : aP8 a none = a := by cases a <;> rfl
@[simp] theorem aHb (x y : Int) : aP8 (some x) (some y) = some (max x y) := rfl
def upL : List (Int × Int) -> Prop
 | [] => True
 | x :: l => (∀ y ∈ l, x.1 < y.1) /\ upL l
theorem aAt {l : List (Int × Int)} {i v : Int} (h : lkI l i = some v) : (i, v) ∈ l := by
 induction l with
 | nil => simp [lkI] at h
 | cons x l ih =>
  obtain ⟨a, b⟩ := x;simp only [lkI] at h;split at h
  ·rename_i e; subst e; cases h; simp
  ·exact bDb _ (ih h)
theorem aK7 {l : List (Int × Int)} (hn : (l.map Prod.fst).Nodup) {i v : Int} (h : (i, v) ∈ l) : lkI l i = some v := by
 induction l with
 | nil => simp at h
 | cons x l ih =>
  obtain ⟨a, b⟩ := x;simp only [bBx, bCx] at hn;simp only [lkI];rcases bC1.1 h with h | h
  ·cases h; simp
  ·have : a ≠ i := fun e => hn.1 (e ▸ bCb.2 ⟨_, h, rfl⟩)
   rw [if_neg this];exact ih hn.2 h
theorem upL.nodup : ∀ {l : List (Int × Int)}, upL l -> (l.map Prod.fst).Nodup
 | [], _ => by simp
 | x :: l, h => by
  simp only [bBx, bCx];refine ⟨fun hm => ?_, upL.nodup h.2⟩;obtain ⟨y, hy, e⟩ := bCb.1 hm;have := h.1 y hy;omega
def bS : List (Int × Int) -> List (Int × Int) -> List (Int × Int)
 | [], b => b
 | a, [] => a
 | (i, p) :: a, (k, q) :: b => if i < k then (i, p) :: bS a ((k, q) :: b) else if k < i then (k, q) :: bS ((i, p) :: a) b else (i, max p q) :: bS a b
termination_by a b => a.length + b.length
@[simp] theorem eI (a : List (Int × Int)) : bS a [] = a := by cases a <;> simp [bS]
@[simp] theorem fA (a : List (Int × Int)) : bS [] a = a := by cases a <;> simp [bS]
theorem eT {z : Int} : ∀ (a b : List (Int × Int)), (∀ y ∈ a, z < y.1) -> (∀ y ∈ b, z < y.1) -> ∀ y ∈ bS a b, z < y.1
 | [], b, _, hb, y, hy => by rw [fA] at hy; exact hb y hy
 | a, [], ha, _, y, hy => by rw [eI] at hy; exact ha y hy
 | (i, p) :: a, (k, q) :: b, ha, hb, y, hy => by
  rw [bS] at hy;have hi := ha (i, p) aA;have hk := hb (k, q) aA;split at hy
  ·rcases bC1.1 hy with rfl | hy
   ·exact hi
   ·exact eT a _ (fun y h => ha y (by simp [h])) hb y hy
  ·split at hy
   ·rcases bC1.1 hy with rfl | hy
    ·exact hk
    ·exact eT _ b ha (fun y h => hb y (by simp [h])) y hy
   ·rcases bC1.1 hy with rfl | hy
    ·exact hi
    ·exact eT a b (fun y h => ha y (by simp [h])) (fun y h => hb y (by simp [h])) y hy
termination_by a b => a.length + b.length
theorem iN : ∀ (a b : List (Int × Int)), upL a -> upL b -> upL (bS a b)
 | [], b, _, hb => by rwa [fA]
 | a, [], ha, _ => by rwa [eI]
 | (i, p) :: a, (k, q) :: b, ha, hb => by
  rw [bS];split
  ·rename_i h;refine ⟨fun y hy => eT a _ ha.1 (fun y hy => ?_) y hy, iN a _ ha.2 hb⟩;rcases bC1.1 hy with rfl | hy
   ·exact h
   ·have := hb.1 y hy; simp only at this ⊢; omega
  ·split
   ·rename_i h;refine ⟨fun y hy => eT _ b (fun y hy => ?_) hb.1 y hy, iN _ b ha hb.2⟩;rcases bC1.1 hy with rfl | hy
    ·exact h
    ·have := ha.1 y hy; simp only at this ⊢; omega
   ·have : i = k := aB;subst this;exact ⟨fun y hy => eT a b ha.1 hb.1 y hy, iN a b ha.2 hb.2⟩
termination_by a b => a.length + b.length
theorem iM (j : Int) : ∀ (a b : List (Int × Int)), upL a -> upL b -> lkI (bS a b) j = aP8 (lkI a j) (lkI b j)
 | [], b, _, hb => by simp [lkI]
 | a, [], ha, _ => by simp [lkI]
 | (i, p) :: a, (k, q) :: b, ha, hb => by
  have hlow : ∀ {l : List (Int × Int)} {z : Int}, (∀ y ∈ l, z < y.1) -> lkI l z = none := fun hl => vD fun y hy e => by have := hl y hy; omega
  rw [bS];split
  ·rename_i h;simp only [lkI];have ih := iM j a ((k, q) :: b) ha.2 hb;simp only [lkI] at ih;split
   ·rename_i e; subst e;rw [if_neg aB, hlow (fun y hy => by have := hb.1 y hy; simp only at this; omega)];simp
   ·rw [ih]
  ·split
   ·rename_i h;simp only [lkI];have ih := iM j ((i, p) :: a) b ha hb.2;simp only [lkI] at ih;split
    ·rename_i e; subst e;rw [if_neg aB, hlow (fun y hy => by have := ha.1 y hy; simp only at this; omega)];simp
    ·rw [ih]
   ·have : i = k := aB;subst this;simp only [lkI];split
    ·simp
    ·exact iM j a b ha.2 hb.2
termination_by a b => a.length + b.length
theorem vG {a b : List (Int × Int)} (h : bS a b = []) : a = [] /\ b = [] := by
 match a, b with
 | [], b => simpa using h
 | a, [] => simpa using h
 | (i, p) :: a, (k, q) :: b =>
  rw [bS] at h;split at h
  ·cases h
  ·split at h <;> cases h
def fZ : List (Int × Int) -> Int
 | [] => 0
 | x :: l => max x.2 (fZ l)
theorem oC (l : List (Int × Int)) : 0 <= fZ l := by
 induction l with
 | nil => simp [fZ]
 | cons x l ih => simp only [fZ]; omega
theorem gN : ∀ (a b : List (Int × Int)), fZ (bS a b) = max (fZ a) (fZ b)
 | [], b => by have := oC b; rw [fA]; simp only [fZ]; omega
 | a, [] => by have := oC a; rw [eI]; simp only [fZ]; omega
 | (i, p) :: a, (k, q) :: b => by
  rw [bS];split
  ·have ih := gN a ((k, q) :: b);simp only [fZ] at ih ⊢; omega
  ·split
   ·have ih := gN ((i, p) :: a) b;simp only [fZ] at ih ⊢; omega
   ·have ih := gN a b;simp only [fZ] at ih ⊢; omega
termination_by a b => a.length + b.length
def fB : List (Int × Int) -> Int -> Int -> List (Int × Int)
 | [], i, p => [(i, p)]
 | x :: m, i, p => if x.1 = i then (i, max x.2 p) :: m else x :: fB m i p
theorem kG (m : List (Int × Int)) (i p : Int) : ∀ k ∈ (fB m i p).map Prod.fst, k ∈ m.map Prod.fst \/ k = i := by
 induction m with
 | nil => simp [fB]
 | cons x m ih =>
  intro k hk;simp only [fB] at hk;split at hk
  ·rename_i e;simp only [bBx, bC1] at hk ⊢;rcases hk with rfl | hk
   ·exact .inr rfl
   ·exact .inl (.inr hk)
  ·simp only [bBx, bC1] at hk ⊢;rcases hk with rfl | hk
   ·exact .inl (.inl rfl)
   ·rcases ih k hk with h | h
    ·exact .inl (.inr h)
    ·exact .inr h
theorem nH {m : List (Int × Int)} (i p : Int) (h : (m.map Prod.fst).Nodup) : ((fB m i p).map Prod.fst).Nodup := by
 induction m with
 | nil => simp [fB]
 | cons x m ih =>
  simp only [bBx, bCx] at h;simp only [fB];split
  ·rename_i e; subst e;simpa using h
  ·rename_i e;simp only [bBx, bCx];refine ⟨fun hm => ?_, ih h.2⟩;rcases kG m i p _ hm with c | c
   ·exact h.1 c
   ·exact e c
theorem yE (m : List (Int × Int)) (i p j : Int) : lkI (fB m i p) j = if i = j then aP8 (lkI m j) (some p) else lkI m j := by
 induction m with
 | nil => simp [fB, lkI]
 | cons x m ih =>
  simp only [fB];split
  ·rename_i e;simp only [lkI, e];split <;> simp
  ·rename_i e;simp only [lkI]
   by_cases c : i = j
   ·subst c;rw [if_neg e, if_neg e, ih]
   ·rw [if_neg c] at ih ⊢;rw [ih]
def aMv (m : List (Int × Int)) (vs : List (Int × Int)) (n : Int) : List (Int × Int) := vs.foldl (fun m x => fB m x.1 (x.2 + n)) m
theorem aDj {m : List (Int × Int)} (vs : List (Int × Int)) (n : Int) (h : (m.map Prod.fst).Nodup) : ((aMv m vs n).map Prod.fst).Nodup := by
 induction vs generalizing m with
 | nil => exact h
 | cons x vs ih => exact ih (nH _ _ h)
def aKu (vs : List (Int × Int)) (n : Int) : List (Int × Int) := vs.map fun x => (x.1, x.2 + n)
theorem aFf (n j : Int) : ∀ (vs m : List (Int × Int)), upL vs -> lkI (aMv m vs n) j = aP8 (lkI m j) (lkI (aKu vs n) j)
 | [], m, _ => by simp [aMv, aKu, lkI]
 | x :: vs, m, h => by
  have ih := aFf n j vs (fB m x.1 (x.2 + n)) h.2;have e : aMv m (x :: vs) n = aMv (fB m x.1 (x.2 + n)) vs n := rfl;rw [e, ih, yE];simp only [aKu, bBx, lkI];split
  ·rename_i c; subst c
   have : lkI (List.map (fun x => (x.1, x.2 + n)) vs) x.1 = none := vD fun y hy c => by
    obtain ⟨z, hz, rfl⟩ := bCb.1 hy;have := h.1 z hz;simp only at c;omega
   rw [this];simp
  ·rfl


open Go Go.AI

structure Vd (l : Lv) : Prop where
 c0 : 0 <= l.c
 c1 : l.c <= 100
 up : upL l.vars
 v0 : ∀ v ∈ l.vars, 0 <= v.2
 v1 : ∀ v ∈ l.vars, v.2 <= 100
 i0 : ∀ v ∈ l.vars, -65536 <= v.1
 i1 : ∀ v ∈ l.vars, v.1 < 8
def aYj (a b : Lv) : Lv :=
 ⟨if bS a.vars b.vars ≠ [] /\ max a.c b.c <= fZ (bS a.vars b.vars) then 0 else max a.c b.c, bS a.vars b.vars⟩
def aYg (vals : List Lv) (metas : Bool) (v : Int × Int) : Option Lv :=
 if decide (v.1 < 0) = metas then vals[(if metas then -1 - v.1 else v.1).toNat]? else none
def aEz (vals : List Lv) (metas : Bool) (s : Int × List (Int × Int)) (v : Int × Int) : Int × List (Int × Int) :=
 match aYg vals metas v with
 | some x => (max s.1 (x.c + v.2), aMv s.2 x.vars v.2)
 | none => (s.1, fB s.2 v.1 v.2)

structure InvL (o : Lv) (s : Int × List (Int × Int)) : Prop where
 up : upL o.vars
 nd : (s.2.map Prod.fst).Nodup
 lk : ∀ i, lkI o.vars i = lkI s.2 i
 v0 : ∀ x ∈ o.vars, 0 <= x.2
 v1 : ∀ x ∈ o.vars, x.2 <= 100
 c0 : 0 <= s.1
 c1 : s.1 <= 100
 ce : o.c = if o.vars ≠ [] /\ s.1 <= fZ o.vars then 0 else s.1
def BadL (s : Int × List (Int × Int)) : Prop := 100 < s.1 \/ ∃ i v, lkI s.2 i = some v /\ 100 < v
theorem BadL.step {vals : List Lv} {metas : Bool} (hv : ∀ x ∈ vals, Vd x) {s : Int × List (Int × Int)} (v : Int × Int) (h : BadL s) : BadL (aEz vals metas s v) := by
 unfold aEz;split
 ·rename_i x hx
  have hx' : x ∈ vals := by
   unfold aYg at hx;split at hx
   ·exact bBu hx
   ·cases hx
  rcases h with h | ⟨i, p, h, hp⟩
  ·exact .inl (by simp only; omega)
  ·right;simp only;have := aFf v.2 i x.vars s.2 (hv x hx').up;rw [h] at this
   cases hq : lkI (aKu x.vars v.2) i with
   | none => rw [hq] at this; exact ⟨i, p, this, hp⟩
   | some q => rw [hq] at this; exact ⟨i, _, this, by omega⟩
 ·rcases h with h | ⟨i, p, h, hp⟩
  ·exact .inl h
  ·right;have := yE s.2 v.1 v.2 i;rw [h] at this;simp only [aHb] at this
   by_cases c : v.1 = i
   ·rw [if_pos c] at this; exact ⟨i, _, this, by omega⟩
   ·rw [if_neg c] at this; exact ⟨i, _, this, hp⟩
theorem BadL.all {vals : List Lv} {metas : Bool} (hv : ∀ x ∈ vals, Vd x) : ∀ (vs : List (Int × Int)) {s : Int × List (Int × Int)}, BadL s -> BadL (vs.foldl (aEz vals metas) s)
 | [], _, h => h
 | v :: vs, _, h => BadL.all hv vs (h.step hv v)
theorem InvL.join {o p : Lv} {s s' : Int × List (Int × Int)} {c' : Int} (h : InvL o s) (hu : upL p.vars) (h0 : ∀ x ∈ p.vars, 0 <= x.2) (h1 : ∀ x ∈ p.vars, x.2 <= 100)
  (hs : ∀ i, lkI s'.2 i = aP8 (lkI s.2 i) (lkI p.vars i)) (hn : (s'.2.map Prod.fst).Nodup) (hc : s'.1 = max s.1 c') (hc0 : 0 <= c') (hc1 : c' <= 100) (hp : p.c = c' \/ (p.c = 0 /\ p.vars ≠ [] /\ c' <= fZ p.vars)) : InvL (aYj o p) s' := by
 have hb : ∀ x ∈ bS o.vars p.vars, 0 <= x.2 /\ x.2 <= 100 := by
  intro x hx;have hl := aK7 (iN _ _ h.up hu).nodup (show (x.1, x.2) ∈ _ from hx);rw [iM _ _ _ h.up hu] at hl
  cases e1 : lkI o.vars x.1 with
  | none =>
   rw [e1] at hl;have hm := aAt (show lkI p.vars x.1 = some x.2 by simpa using hl);exact ⟨h0 _ hm, h1 _ hm⟩
  | some y =>
   have hy := aAt e1;have a1 := h.v0 _ hy;have a2 := h.v1 _ hy;rw [e1] at hl
   cases e2 : lkI p.vars x.1 with
   | none => rw [e2] at hl; simp at hl; simp only at a1 a2; omega
   | some z =>
    have hz := aAt e2;have a3 := h0 _ hz;have a4 := h1 _ hz;rw [e2] at hl; simp at hl; simp only at a1 a2 a3 a4; omega
 refine ⟨iN _ _ h.up hu, hn, fun i => ?_, fun x hx => (hb x hx).1, fun x hx => (hb x hx).2, ?_, ?_, ?_⟩
 ·rw [hs, <- h.lk]; exact iM _ _ _ h.up hu
 ·have := h.c0; omega
 ·have := h.c1; omega
 ·have he := h.ce;have hm := gN o.vars p.vars;have m1 := oC o.vars;have m2 := oC p.vars;have k0 := h.c0;change (if bS o.vars p.vars ≠ [] /\ max o.c p.c <= fZ (bS o.vars p.vars) then (0 : Int) else max o.c p.c) = if bS o.vars p.vars ≠ [] /\ s'.1 <= fZ (bS o.vars p.vars) then 0 else s'.1
  by_cases hnil : bS o.vars p.vars = []
  ·obtain ⟨e1, e2⟩ := vG hnil;simp only [hnil, ne_eq, bE0, false_and, if_false];simp only [e1, ne_eq, bE0, false_and, if_false] at he;rcases hp with hp | ⟨_, hp, _⟩
   ·rw [hc, he, hp]
   ·exact absurd e2 hp
  ·by_cases hbig : s'.1 <= fZ (bS o.vars p.vars)
   ·have q1 : o.c <= s.1 := by rw [he]; split <;> omega
    have q2 : p.c <= c' := by rcases hp with hp | ⟨hp, _, _⟩ <;> omega
    have q4 : max o.c p.c <= fZ (bS o.vars p.vars) := aB;simp only [hnil, hbig, q4, ne_eq, not_false_eq_true, true_and, if_true]
   ·have q1 : o.c = s.1 \/ (o.c = 0 /\ s.1 <= fZ o.vars) := by
     rw [he]; split
     ·rename_i c; exact .inr ⟨rfl, c.2⟩
     ·exact .inl rfl
    have q3 : max o.c p.c = s'.1 := by
     rcases q1 with q1 | ⟨q1, q2⟩ <;> rcases hp with hp | ⟨hp, _, hp'⟩ <;> omega
    rw [q3]


open Go Go.AI
theorem aYh : sM Tryz.prog 329 = true := aC

attribute [simp] uI mE aK6 aYh

structure SumH (B : List (Int × Int) -> Int -> Heap) (id s n : Nat) : Prop where
 len : ∀ om c, (B om c).length = n
 gi : ∀ om c l, (B om c ++ l)[id]? = some (some (.aux (.map (om.map ikv))))
 gs : ∀ om c l, (B om c ++ l)[s]? = some (some (.cells [.mp id, iA c]))
 si : ∀ om c om' l, (B om c ++ l).set id (some (.aux (.map (om'.map ikv)))) = B om' c ++ l
 ss : ∀ om c c' l, (B om c ++ l).set s (some (.cells [.mp id, iA c'])) = B om c' ++ l
 wf : ∀ om c, WF (B om c)
 lt : id < n /\ s < n
theorem SumH.sl {B : List (Int × Int) -> Int -> Heap} {id s n : Nat} (hB : SumH B id s n) (om : List (Int × Int)) (c : Int) (l : List (Option AO)) (k : Nat) (o : Option AO) : (B om c ++ l).set (n + k) o = B om c ++ l.set k o := dG (hB.len om c)
theorem SumH.wfl {B : List (Int × Int) -> Int -> Heap} {id s n : Nat} (hB : SumH B id s n) (om : List (Int × Int)) (c : Int) (l : List (Option AO)) (hl : l.all (AO.under (n + l.length)) = true) : WF (B om c ++ l) := (hB.wf om c).app (by rw [hB.len]; exact hl)


open Go Go.AI
theorem SumH.app {B : List (Int × Int) -> Int -> Heap} {id s n : Nat} (hB : SumH B id s n) (l : List (Option AO)) (hl : l.all (AO.under (n + l.length)) = true) : SumH (fun om c => B om c ++ l) id s (n + l.length) where
 len om c := by rw [bBp, hB.len]
 gi om c k := by rw [bC3]; exact hB.gi om c _
 gs om c k := by rw [bC3]; exact hB.gs om c _
 si om c om' k := by rw [bC3, bC3]; exact hB.si om c om' _
 ss om c c' k := by rw [bC3, bC3]; exact hB.ss om c c' _
 wf om c := hB.wfl om c l hl
 lt := ⟨Nat.lt_of_lt_of_le hB.lt.1 (Nat.le_add_right _ _), Nat.lt_of_lt_of_le hB.lt.2 (Nat.le_add_right _ _)⟩


open Go Go.AI
theorem aGm (l : List Int) (j : Nat) : (aGl l)[j]? = (l[j]?).map fun z => [iP z] := by simp [aGl]

attribute [simp] eX aGm


open Go Go.AI
theorem mN : ∀ (n : Nat) (l : List Int) (a : Int), l.Nodup -> (∀ x ∈ l, a <= x /\ x < a + n) -> l.length <= n
 | 0, l, a, _, h => by
  cases l with
  | nil => simp
  | cons x l => have := h x aA; omega
 | n + 1, l, a, hn, h => by
  have ih := mN n (l.erase (a + n)) a (hn.erase _) fun x hx => by
   rw [hn.mem_erase_iff] at hx;have := h x hx.2;have := hx.1;omega
  rw [List.length_erase] at ih;split at ih <;> omega

structure StOk (s : Int × List (Int × Int)) : Prop where
 c0 : 0 <= s.1
 c1 : s.1 <= 200
 nd : (s.2.map Prod.fst).Nodup
 k : ∀ i ∈ s.2.map Prod.fst, -65536 <= i /\ i < 8
theorem wG {P : Int -> Prop} (n : Int) : ∀ (vs m : List (Int × Int)), (∀ i ∈ m.map Prod.fst, P i) -> (∀ v ∈ vs, P v.1) -> ∀ i ∈ (aMv m vs n).map Prod.fst, P i
 | [], m, h, _ => h
 | v :: vs, m, h, hv => wG n vs (fB m v.1 (v.2 + n)) (fun i hi => by
     rcases kG m v.1 (v.2 + n) i hi with c | rfl
     ·exact h i c
     ·exact hv v aA) fun w hw => hv w (by simp [hw])
theorem StOk.step {vals : List Lv} {metas : Bool} (hv : ∀ x ∈ vals, Vd x) {s : Int × List (Int × Int)} (h : StOk s) {v : Int × Int} (v0 : -65536 <= v.1) (v1 : v.1 < 8) (p1 : v.2 <= 100) : StOk (aEz vals metas s v) := by
 unfold aEz;split
 ·rename_i x hx
  have hx' : x ∈ vals := by
   unfold aYg at hx;split at hx
   ·exact bBu hx
   ·cases hx
  have V := hv x hx';have := V.c1;have := h.c0;have := h.c1;exact ⟨by simp only; omega, by simp only; omega, aDj _ _ h.nd, wG _ _ _ h.k fun w hw => ⟨V.i0 w hw, V.i1 w hw⟩⟩
 ·refine ⟨h.c0, h.c1, nH _ _ h.nd, fun i hi => ?_⟩;rcases kG s.2 v.1 v.2 i hi with c | rfl
  ·exact h.k i c
  ·exact ⟨v0, v1⟩
theorem StOk.all {vals : List Lv} {metas : Bool} (hv : ∀ x ∈ vals, Vd x) : ∀ (vs : List (Int × Int)) {s : Int × List (Int × Int)}, (∀ v ∈ vs, -65536 <= v.1 /\ v.1 < 8 /\ v.2 <= 100) -> StOk s -> StOk (vs.foldl (aEz vals metas) s)
 | [], _, _, h => h
 | v :: vs, _, hb, h => StOk.all hv vs (fun w hw => hb w (by simp [hw])) (h.step hv (hb v aA).1 (hb v aA).2.1 (hb v aA).2.2)
theorem StOk.len {s : Int × List (Int × Int)} (h : StOk s) : s.2.length <= 65544 := by
 have := mN 65544 (s.2.map Prod.fst) (-65536) h.nd fun x hx => by have := h.k x hx; omega
 simpa using this
theorem StOk.wf {s : Int × List (Int × Int)} (h : StOk s) : ∀ x ∈ s.2, (Lit.int .i64 x.1).wf = true := by
 intro x hx;have := h.k x.1 (bCb.2 ⟨x, hx, rfl⟩);have e1 : IntKind.i64.min = -9223372036854775808 := aD;have e2 : IntKind.i64.max = 9223372036854775807 := aD;simp only [Lit.wf, e1, e2, bBs, bC2];omega


open Go Go.AI
theorem buf_set {sz m j : Nat} {es : List (List PV)} {c : List PV} (hes : ∀ e ∈ es, e.length = sz) (hc : c.length = sz) (hj : j < es.length) : patch (buf sz es m) (j * sz) (c.map .p) = buf sz (es.set j c) m := by
 unfold buf
 have hle : j * sz + sz <= es.length * sz := by
  have : (j + 1) * sz <= es.length * sz := bD4 _ hj;rw [bDn] at this; omega
 rw [patch_app _ _ _ _ (by rw [bC9, bC9, aQ hes, hc]; exact hle), <- iK, kW _ _ _ _ hes hc hj]


open Go Go.AI
def KeyOk (vs : List (Int × Int)) : Prop := upL vs /\ ∀ y ∈ vs, -65536 <= y.1 /\ y.1 < 8
theorem KeyOk.len {vs : List (Int × Int)} (h : KeyOk vs) : vs.length <= 65544 := by
 have := mN 65544 (vs.map Prod.fst) (-65536) h.1.nodup fun x hx => by
  obtain ⟨y, hy, rfl⟩ := bCb.1 hx;have := h.2 y hy; omega
 simpa using this
theorem Vd.key {l : Lv} (h : Vd l) : KeyOk l.vars := ⟨h.up, fun y hy => ⟨h.i0 y hy, h.i1 y hy⟩⟩


open Go Go.AI
def aLb (l : List (List UInt8)) : List (List PV) := l.map fun s => [sP s]
@[simp] theorem aMj (l : List (List UInt8)) : (aLb l).length = l.length := by simp [aLb]
@[simp] theorem aWg (l : List (List UInt8)) (i : Nat) : (aLb l)[i]? = (l[i]?).map fun s => [sP s] := by simp [aLb]


open Go Go.AI

structure En where
 k : Int
 at_ : Int
 it : Int
 ps : Int
 ty : Tm
def En.cells (e : En) : List PV := iP e.k :: iP e.at_ :: iP e.it :: iP e.ps :: e.ty.cells
def En.av (e : En) : AV := .agg (e.cells.map .p)

end Go.Proofs.YtfajdeofhioakaaGreat

namespace Go.AI

open Go
@[simp] theorem aSh (a b : List UInt8) : (ByteArray.mk a.toArray ++ ByteArray.mk b.toArray) = ByteArray.mk (a ++ b).toArray := by
 apply ByteArray.ext;simp
@[simp] theorem aY4 (a : List UInt8) : (ByteArray.mk a.toArray).size = a.length := by simp [ByteArray.size]

end Go.AI

namespace Go.Proofs.YtfajdeofhioakaaGreat

open Go Go.AI
@[simp] theorem aNb (l : List Ct) (j : Nat) : (l.map Ct.cells)[j]? = (l[j]?).map Ct.cells := aA


open Go Go.AI

structure Pb where
 ty : List Tm
 kn : List Bool
 va : List Tm
 tg : Tm
abbrev boPs (l : List Bool) : List (List PV) := l.map fun b => [bP b]
abbrev Pb.cells (p : Pb) : List AV := .p (.sl 5 (aP p.ty)) :: .p (.sl 1 (boPs p.kn)) :: .p (.sl 5 (aP p.va)) :: p.tg.cells.map .p
abbrev Pb.av (p : Pb) : AV := .agg p.cells


open Go Go.AI
theorem WF.at_ {h : Heap} (hh : WF h) {i : Nat} {o : Option AO} (hi : h[i]? = some o) : AO.under h.length o = true := by
 unfold WF at hh;rw [bC0] at hh;exact hh o (bBu hi)


open Go Go.AI
set_option maxRecDepth 8000 in
theorem yP (l : List Int) (hl : l.length <= 1048576) (h : Heap) (hh : WF h) : AC 18 [.p (.sl 1 (aI l)), .p (.sl 1 (aI l))] h (bA true) := by
 have hkl : (aI l).length = l.length := by simp [aI]
 refine nU Tryz.func18 Tryz.ntmps18 ?_;refine y12 ?_;refine Run.loopS [0, 1] (fun j : Nat => j <= l.length) (fun j => l.length - j) (fun j => [(5, iA j)]) (fun _ => h) 0 aA ?_ rfl ?_
 ·exact zS
 intro j hj IH;refine wC hkl ?_
 by_cases hjl : j < l.length
 ·have hg : l[j]? = some l[j] := bBf hjl;have hgi : (aI l)[j]? = some [iP l[j]] := by simp [aI, hg]
  generalize l[j] = b at hg hgi;have hgq : ∀ q : j < (aI l).length, (aI l)[j]'q = [iP b] := fun q => by rw [bBf q] at hgi; exact bD0 hgi
  refine znt1 hjl ?_;refine yr ?_;refine zd3 hgq hkl hjl ?_;refine y8 ?_;refine aMo ?_;refine IH (j + 1) _ _ aB aB ?_ rfl;exact zS
 ·have hje : j = l.length := aB;subst hje;refine jB ?_;exact y1z

end Go.Proofs.YtfajdeofhioakaaGreat
