import Derived.Test.YtfajdeofhioakaaGreatJA0
import Derived.Test.YtfajdeofhioakaaGreatJEVk

namespace Go.AI.EV

open Go Go.AI
def aGd (P : Program) (ρ : Operand -> AV) (n : Nat) (op : Op) : Option (AV × List AV) :=
 match op with
 | .alloc t => match bM P t with
  | some z => some (.ptr n 0, prims z)
  | none => none
 | .box _ x => match cP (ρ x) with
  | some cs => some (.ptr n 0, cs)
  | none => none
 | .makeSlice t l c => match elT P t, rB (ρ l), rB (ρ c) with
  | some e, some k, some m => match szT P e, byT P e, bM P e with
   | some sz, some by_, some z => if 0 <= k /\ k = m /\ k.toNat * by_ <= 140737488355328 /\ k.toNat <= 1099511627776 /\ 0 < sz then
     some (.sm n 0 k.toNat (2 * k.toNat) sz, (List.replicate k.toNat (prims z)).flatten) else none
   | _, _, _ => none
  | _, _, _ => none
 | .buildSlice t 0 ⟨[]⟩ => match elT P t with
  | some e => match szT P e with
   | some sz => some (.sm n 0 0 0 sz, [])
   | none => none
  | none => none
 | _ => none

section

variable {P : Program} {ks : Ks} {E : Env} {w : World} {T : List AV} {h : Heap} {D : List AD} {a : Act} {o : Oper}
theorem aJp {n : Nat} {x : AV} {cs : List AV} (s : St E w a (T.map (io ks)) h D) (hf : aGd P (aev T) n o.op = some (x, cs)) :
  ∃ vs t v, (execOp a.eval o).run P w = .ok (.value v) (w.alloc (.cells (List.toArray vs) t (0, 0))) /\ RepL E w (cs.map (io ks)) vs /\ ∀ E' w', E'.g n = some w.heap.size -> Rep E' w' (io ks x) v := by
 unfold aGd at hf;split at hf
 ·rename_i t hop;split at hf
  ·rename_i z hz;simp only [bBk, bBz] at hf;obtain ⟨rfl, rfl⟩ := hf;obtain ⟨zv, hzr, hzc⟩ := iU (w := w) hz;obtain ⟨_, _, _, _, _, _, hprim⟩ := aS hz;refine ⟨z, t, .pointer (some ⟨w.heap.size, 0, none⟩), ?_, by rw [yD]; exact prims_rep hprim, fun E' w' hg => by simp only [nC, Rep]; exact ⟨_, hg, rfl⟩⟩
   have e : (Instr.alloc t true (.tuple #[])).run P w = .ok (.pointer (some ⟨w.heap.size, 0, none⟩)) (w.alloc (.cells (List.toArray z) t (0, 0))) := by
    simp [Instr.alloc, hzr, newVar, newRow, hzc]
   simp [execOp, hop, e]
  ·cases hf
 ·rename_i t y hop;split at hf
  ·rename_i cs' hc;simp only [bBk, bBz] at hf;obtain ⟨rfl, rfl⟩ := hf;have hr := aev_rep s y;rw [aev_io] at hr;obtain ⟨vs, e1, e2⟩ := fV (by rw [iE, hc]; rfl) hr;refine ⟨vs, t, .pointer (some ⟨w.heap.size, 0, none⟩), ?_, e2, fun E' w' hg => by simp only [nC, Rep]; exact ⟨_, hg, rfl⟩⟩
   have e : (Instr.box t (a.eval y)).run P w = .ok (.pointer (some ⟨w.heap.size, 0, none⟩)) (w.alloc (.cells (List.toArray vs) t (0, 0))) := by
    simp [Instr.box, newVar, newRow, e1]
   simp [execOp, hop, e]
  ·cases hf
 ·rename_i t l c hop;split at hf
  ·rename_i e k m hel hk hm';obtain ⟨kk, hkv⟩ := intA_rep (E := E) (w := w) (v := a.eval l) (by rw [gM ks]; exact hk) (by rw [<- aev_io ks]; exact aev_rep s l);obtain ⟨kk', hmv⟩ := intA_rep (E := E) (w := w) (v := a.eval c) (by rw [gM ks]; exact hm') (by rw [<- aev_io ks]; exact aev_rep s c);split at hf
   ·rename_i sz by_ z hsz hby hz;split at hf
    ·rename_i hcond;obtain ⟨h0, rfl, hb, hn40, hpos⟩ := hcond;simp only [bBk, bBz] at hf;obtain ⟨rfl, rfl⟩ := hf;obtain ⟨i, zv, hi, hzv, hzc, hzl, hprim⟩ := aS hz;have hisz : i.size = sz := by unfold szT at hsz; rw [hi] at hsz; simpa using hsz
     have hiby : i.bytes = by_ := by unfold byT at hby; rw [hi] at hby; simpa using hby
     have hw := zJ h0 aB
     have hrep : RepL E w (List.replicate k.toNat (prims z)).flatten (List.replicate k.toNat z).flatten := by
      have : (List.replicate k.toNat (prims z)).flatten = prims (List.replicate k.toNat z).flatten := by
       unfold prims;generalize k.toNat = q
       induction q with
       | zero => rfl
       | succ q ih => rw [bCn, bCn, bCu, bCu, bCi, ih]
      rw [this];exact y2f
     refine ⟨(List.replicate k.toNat z).flatten, e, .slice (some ⟨w.heap.size, 0, none⟩) k.toNat k.toNat, ?_, by rw [sG]; exact hrep, fun E' w' hg => by rw [io_sm, iG]; simp only [Rep]; exact ⟨_, hg, rfl⟩⟩
     have hrun : (Instr.makeSlice t (.int kk k) (.int kk' k)).run P w = .ok (.slice (some ⟨w.heap.size, 0, none⟩) k.toNat k.toNat) (w.alloc (.cells (List.toArray (List.replicate k.toNat z).flatten) e (0, 0))) := by
      have hinit : (Array.range (k.toNat * sz)).map (fun i => (List.toArray z)[i % (List.toArray z).size]!) = List.toArray (List.replicate k.toNat z).flatten := by
       have := cQ (List.toArray z) k.toNat;simp only [List.size_toArray, hzl, hisz] at this ⊢;exact this
      have hbn : (i.bytes : Int) * k <= 140737488355328 := by
       rw [hiby];have h2 : (k.toNat : Int) = k := Int.toNat_of_nonneg h0;have h3 : ((k.toNat * by_ : Nat) : Int) <= 140737488355328 := aB;rw [Int.natCast_mul, h2, Int.mul_comm] at h3;exact h3
      have htl : ¬ (k < 0 \/ 281474976710656 < (i.bytes : Int) * k) := aB
      by_cases hz0 : k.toNat * sz = 0
      ·have hn0 : k.toNat = 0 := by
        exact y5u
       have hn00 : k = 0 := aB;exact y59
      ·refine yx ?_;simp at hinit;rw [hinit]
     simp [execOp, hop, hkv, hmv, hrun]
    ·cases hf
   ·cases hf
  ·cases hf
 ·rename_i t hop;split at hf
  ·rename_i e he;split at hf
   ·rename_i sz hsz;simp only [bBk, bBz] at hf;obtain ⟨rfl, rfl⟩ := hf;refine ⟨[], e, .slice (some ⟨w.heap.size, 0, none⟩) 0 0, ?_, by simp [RepL], fun E' w' hg => by rw [io_sm, show (0 : Nat) = 2 * 0 from rfl, iG]; simp only [Rep]; exact ⟨_, hg, rfl⟩⟩
    have hrun : (Instr.buildSlice t 0 #[]).run P w = .ok (.slice (some ⟨w.heap.size, 0, none⟩) 0 0) (w.alloc (.cells (List.toArray []) e (0, 0))) := by
     exact y4j
    simp only [execOp, hop];exact y5o
   ·cases hf
  ·cases hf
 ·cases hf
theorem aGe {rd : Option Nat} {ops : Array Oper} {i n : Nat} {x : AV} {cs : List AV} {Qw : Exit -> Act -> World -> Prop} {Kw : Act -> World -> Prop} (ho : ops[i]? = some o) (s : St E w a (T.map (io ks)) h D) (hw : awanted ops (T.map (io ks)) o = some true)
  (hf : aGd P (aev T) n o.op = some (x, cs)) (hn : n < h.length) (hat : h.at n = none) (hg : E.g n = none)
  (hk : ∀ E' w' v, Rel E' (Heap.at (h.set n (some (.cells (cs.map (io ks)))))) w' -> Fresh E' h.length -> Rep E' w' (io ks x) v -> Fr E h.at w E' (Heap.at (h.set n (some (.cells (cs.map (io ks)))))) w' -> (∀ id, id ≠ n -> E'.g id = E.g id) -> Kw (a.put o.dst v) w') :
  wpOpIn (fen rd) 0 P ops Qw i Kw a w := by
 obtain ⟨vs, t, v, hrun, hrep, hx⟩ := aJp s hf;obtain ⟨g1, g2, g3⟩ := aDl s.rel s.fresh hn hat hg hrep t;unfold wpOpIn;simp only [ho];rw [awanted_sound s hw];simp only [if_true];refine ⟨fun _ _ => trivial, ?_⟩
 have hnd : ∀ c, o.op ≠ .defer c := by
  intro c hc;rw [hc] at hf;simp [aGd] at hf
 rw [Oper.semAt_eq _ _ _ hnd, hrun];refine hk _ _ v g1 (by rw [bDe] at g3; exact g3) (hx _ _ aA) g2 ?_;intro id hne;show (if id = n then _ else _) = _;rw [if_neg hne]

end


open Go Go.AI
def pA (ops : Array Oper) (i : Nat) : Option Tmp := (ops[i]?).bind (·.dst)
def Pl.chain (p : Pl) (ops : Array Oper) (i : Nat) : Bool := match ops[i]? with
 | some o => isE o.op && !p.fl.contains i
 | none => false
def Pl.pc (p : Pl) (i : Nat) : Nat := (p.fl.filter fun f => p.pre i f).length
def okOp (ops : Array Oper) (p : Pl) (i : Nat) : Bool := match ops[i]? with
 | none => false
 | some o =>
  (List.range ops.size).all (fun j => !p.pre i j || (decide (j < i) && o.after.any fun e => Region.binds .any e && (e.on == j || p.pre e.on j))) &&
  o.after.all (fun e => !Region.binds .any e || (decide (e.on < i) && p.pre i e.on)) &&
  (List.range ops.size).all (fun j => j == i || match o.dst, pA ops j with | some a, some b => a != b | _, _ => true) &&
  (List.range ops.size).all (fun j => match pA ops j with | some d => !(o.looksAt ops).contains d || p.pre i j || p.pre j i | none => true) &&
  (!p.chain ops i || (List.range i).all (fun j => !p.chain ops j || p.pre i j)) &&
  (List.range p.fl.length).all (fun k => (p.fl[k]?).any (fun f => p.pre i f) == decide (k < p.pc i))
def aH7 (ops : Array Oper) (p : Pl) : Bool := (List.range ops.size).all (okOp ops p) && p.fl.all (fun f => decide (f < ops.size)) && decide p.fl.Nodup

structure OkR (ops : Array Oper) (p : Pl) : Prop where
 lt : ∀ i j, i < ops.size -> p.pre i j = true -> j < ops.size -> j < i
 edge : ∀ i j o, ops[i]? = some o -> p.pre i j = true -> j < ops.size -> ∃ e ∈ o.after, Region.binds .any e = true /\ (e.on = j \/ p.pre e.on j = true)
 back : ∀ i o, ops[i]? = some o -> ∀ e ∈ o.after, Region.binds .any e = true -> e.on < i /\ p.pre i e.on = true
 dst : ∀ i j d, i < ops.size -> j < ops.size -> pA ops i = some d -> pA ops j = some d -> i = j
 look : ∀ i j o d, ops[i]? = some o -> j < ops.size -> pA ops j = some d -> d ∈ o.looksAt ops -> p.pre i j = true \/ p.pre j i = true
 chain : ∀ i j, i < ops.size -> j < i -> p.chain ops i = true -> p.chain ops j = true -> p.pre i j = true
 fl : ∀ i k f, i < ops.size -> p.fl[k]? = some f -> (p.pre i f = true ↔ k < p.pc i)
 flt : ∀ f ∈ p.fl, f < ops.size
 nd : p.fl.Nodup
theorem aEf {ops : Array Oper} {p : Pl} (h : aH7 ops p = true) : OkR ops p := by
 unfold aH7 at h;simp only [bBs, bC0, bCq, bC2] at h;obtain ⟨⟨h1, h2⟩, h3⟩ := h
 have key : ∀ i o, ops[i]? = some o -> _ := fun i o ho => by
  have := h1 i (bCt.1 ho).1;unfold okOp at this;rw [ho] at this;simp only [bBs, bC0, bCq] at this;exact this
 have get : ∀ i, i < ops.size -> ∃ o, ops[i]? = some o := fun i hi => ⟨_, bE3 hi⟩
 refine ⟨fun i j hi hp hj => ?_, fun i j o ho hp hj => ?_, fun i o ho e he hb => ?_, fun i j d hi hj hd hd' => ?_, fun i j o d ho hj hd hl => ?_, fun i j hi hj hc hc' => ?_, fun i k f hi hf => ?_, h2, h3⟩
 ·obtain ⟨o, ho⟩ := get i hi;have := (key i o ho).1.1.1.1.1 j hj;rw [hp] at this;simp only [bE8, bDq, bBs, bC2] at this;exact this.1
 ·have := (key i o ho).1.1.1.1.1 j hj;rw [hp] at this;simp only [bE8, bDq, bBs, bC2] at this;obtain ⟨e, he, hc⟩ := Array.any_eq_true'.1 this.2;simp only [bBs, bCy, beq_iff_eq] at hc;exact ⟨e, he, hc.1, hc.2⟩
 ·have := bDy.1 (key i o ho).1.1.1.1.2 e he;rw [hb] at this;simp only [bE8, bDq, bBs, bC2] at this;exact this
 ·obtain ⟨o, ho⟩ := get i hi;have := (key i o ho).1.1.1.2 j hj;have hd0 : o.dst = some d := by unfold pA at hd; rw [ho] at hd; exact hd
  simp only [hd0, hd', bCy, beq_iff_eq, bne_iff_ne, ne_eq, bE0, or_false] at this;exact this.symm
 ·have := (key i o ho).1.1.2 j hj;simp only [hd, bCy, bCk] at this;rcases this with (h | h) | h
  ·have := bDz.2 hl;rw [h] at this; cases this
  ·exact .inl h
  ·exact .inr h
 ·obtain ⟨o, ho⟩ := get i hi;have := (key i o ho).1.2;rw [hc] at this;simp only [bE8, bDq, bC0, bCq] at this;have := this j hj;rw [hc'] at this;simpa using this
 ·obtain ⟨o, ho⟩ := get i hi;have := (key i o ho).2 k (bBg.1 hf).1;rw [hf] at this;simp only [Option.any_some, beq_iff_eq] at this;rw [this, bC2]

section

variable (ops : Array Oper) (p : Pl) (N : Nat) (T0 : List AV) (xs : List AV) (HS : List HX) (inits : List XO)
def aKo (s : Nat) : Option Nat := (List.range ops.size).find? fun i => pA ops i == some s
def qW (S : Nat -> Bool) (s : Nat) (x : AV) : AV := match aKo ops s with
 | some i => if S i = true then xs.getD i .junk else x
 | none => x
def TnF (S : Nat -> Bool) : List AV := T0.zipIdx.map fun q => qW ops xs S q.2 q.1
def cnt (S : Nat -> Bool) : Nat := (List.range ops.size).countP fun j => p.chain ops j && S j
def flo (V : HX) (k : Nat) : XO := match V.getD (N + k) .dead with
 | .dead => inits.getD k .dead
 | v => v
def dW (k : Nat) (V : HX) : HX := V.take N ++ (List.range k).map (flo N inits V)
def HnF (S : Nat -> Bool) : HX := (HS.getD (cnt ops p S) []).take N ++ (List.range p.fl.length).map fun k => if S (p.fl.getD k 0) = true then flo N inits (HS.getD (cnt ops p S) []) k else .dead

end

section

variable {ops : Array Oper} {p : Pl} {N : Nat} {T0 : List AV} {xs : List AV} {HS : List HX} {inits : List XO}
theorem gB {s i : Nat} (h : aKo ops s = some i) : i < ops.size /\ pA ops i = some s := by
 have h1 := List.find?_some h;have h2 := List.mem_of_find?_eq_some h;exact ⟨bCq.1 h2, by simpa using h1⟩
theorem aKp (hk : OkR ops p) {s i : Nat} (hi : i < ops.size) (h : pA ops i = some s) : aKo ops s = some i := by
 cases e : aKo ops s with
 | none =>
  have := List.find?_eq_none.1 e i (bCq.2 hi);simp [h] at this
 | some j =>
  obtain ⟨h1, h2⟩ := gB e;rw [hk.dst i j s hi h1 h h2]
theorem aMt (S : Nat -> Bool) : (TnF ops T0 xs S).length = T0.length := by simp [TnF]
theorem jY (S : Nat -> Bool) (s : Nat) : (TnF ops T0 xs S)[s]? = (T0[s]?).map fun x => qW ops xs S s x := by
 simp [TnF, List.getElem?_zipIdx]
 cases T0[s]? <;> simp
theorem aCx (S : Nat -> Bool) (s : Nat) : tget (TnF ops T0 xs S) s = if s < T0.length then qW ops xs S s (tget T0 s) else .junk := by
 rw [tget_eq, tget_eq, List.getD, List.getD, jY];split
 ·rename_i l; rw [bBf l]; rfl
 ·rename_i l; rw [bDj aB]; rfl
theorem uD (hk : OkR ops p) {S : Nat -> Bool} {i : Nat} {o : Oper} (ho : ops[i]? = some o) : TnF ops T0 xs (fun j => S j || j == i) = tput (TnF ops T0 xs S) o.dst (xs.getD i .junk) := by
 have hi := (bCt.1 ho).1;have hd : pA ops i = o.dst := by unfold pA; rw [ho]; rfl
 cases e : o.dst with
 | none =>
  simp only [tput];apply bD3;intro s;rw [jY, jY]
  congr 1
  funext x
  unfold qW;split
  ·rename_i j hj;obtain ⟨h1, h2⟩ := gB hj;have hne : j ≠ i := by rintro rfl; rw [hd, e] at h2; cases h2
   simp [hne]
  ·rfl
 | some d =>
  simp only [tput];apply bD3;intro s;rw [List.getElem?_set, jY, jY, aMt]
  by_cases hs : d = s
  ·subst hs;rw [if_pos rfl];have ho' := aKp hk hi (hd.trans e)
   by_cases l : d < T0.length
   ·rw [if_pos l, bBf l, bCm];unfold qW;rw [ho'];simp
   ·rw [if_neg l, bDj (Nat.le_of_not_lt l)]; rfl
  ·rw [if_neg hs]
   congr 1
   funext x
   unfold qW;split
   ·rename_i j hj;obtain ⟨h1, h2⟩ := gB hj;have hne : j ≠ i := by rintro rfl; rw [hd, e] at h2; cases h2; exact hs rfl
    simp [hne]
   ·rfl
def aWl (ops : Array Oper) (p : Pl) (S : Nat -> Bool) : Prop := ∀ i j, i < ops.size -> j < ops.size -> S i = true -> p.pre i j = true -> S j = true
theorem aJ4 (hk : OkR ops p) {S : Nat -> Bool} (hS : aWl ops p S) {i : Nat} {o : Oper} (ho : ops[i]? = some o) (hp : ∀ j, j < ops.size -> p.pre i j = true -> S j = true) (hi : S i = false) {d : Nat} (hd : d ∈ o.looksAt ops) :
  tget (TnF ops T0 xs S) d = tget (TnF ops T0 xs fun j => decide (j < i)) d := by
 have hlt := (bCt.1 ho).1;rw [aCx, aCx];split
 ·unfold qW;split
  ·rename_i j hj;obtain ⟨h1, h2⟩ := gB hj;rcases hk.look i j o d ho h1 h2 hd with h | h
   ·rw [hp j h1 h];have := hk.lt i j hlt h h1;simp [this]
   ·have h3 : S j = false := by
     cases e : S j with
     | false => rfl
     | true => rw [hS j i h1 hlt e h] at hi; cases hi
    have := hk.lt j i h1 h hlt;rw [h3];simp [show ¬ j < i by omega]
  ·rfl
 ·rfl
theorem mF {α : Type} [DecidableEq α] {f g : α -> Bool} {a : α} : ∀ {l : List α}, l.Nodup -> a ∈ l -> f a = false -> g a = true -> (∀ x ∈ l, x ≠ a -> g x = f x) -> l.countP g = l.countP f + 1
 | [], _, h, _, _, _ => by cases h
 | x :: l, hn, hm, hf, hg, he => by
  rw [bCx] at hn;rcases bC1.1 hm with rfl | hm
  ·rw [List.countP_cons_of_pos hg, List.countP_cons_of_neg (by rw [hf]; simp)]
   congr 1
   exact List.countP_congr fun y hy => by
    rw [he y (bDb _ hy) (fun e => hn.1 (e ▸ hy))]
  ·have hx : x ≠ a := fun e => hn.1 (e ▸ hm)
   have ih := mF hn.2 hm hf hg fun y hy hne => he y (bDb _ hy) hne
   rw [List.countP_cons, List.countP_cons, ih, he x (List.mem_cons_self) hx];omega
theorem aA4 {S : Nat -> Bool} {i : Nat} (hi : i < ops.size) (hS : S i = false) (hc : p.chain ops i = true) : cnt ops p (fun j => S j || j == i) = cnt ops p S + 1 := by
 unfold cnt;refine mF (a := i) List.nodup_range (bCq.2 hi) (by simp [hS]) (by simp [hc]) fun x _ hx => ?_
 have : (x == i) = false := by simpa using hx
 show (p.chain ops x && (S x || x == i)) = _;rw [this, Bool.or_false]
theorem nX {S : Nat -> Bool} {i : Nat} (hc : p.chain ops i = false) : cnt ops p (fun j => S j || j == i) = cnt ops p S := by
 unfold cnt;refine List.countP_congr fun x _ => ?_
 by_cases e : x = i
 ·subst e; simp [hc]
 ·have : (x == i) = false := by simpa using e
  show (p.chain ops x && (S x || x == i)) = true ↔ _;rw [this, Bool.or_false]
theorem wT (hk : OkR ops p) {S : Nat -> Bool} (hS : aWl ops p S) {i : Nat} (hi : i < ops.size) (hc : p.chain ops i = true) (hp : ∀ j, j < ops.size -> p.pre i j = true -> S j = true) (hn : S i = false) : cnt ops p S = cnt ops p fun j => decide (j < i) := by
 unfold cnt;refine List.countP_congr fun x hx => ?_
 have hx := bCq.1 hx
 by_cases hcx : p.chain ops x = true
 ·rw [hcx];simp only [Bool.true_and, bC2];constructor
  ·intro h;rcases Nat.lt_trichotomy x i with l | l | l
   ·exact l
   ·subst l; rw [hn] at h; cases h
   ·rw [hS x i hx hi h (hk.chain x i hx l hcx hc)] at hn; cases hn
  ·intro l;exact hp x hx (hk.chain i x hi l hc hcx)
 ·simp [hcx]
theorem oN {S : Nat -> Bool} {m : Nat} (hm : m <= p.fl.length) (hl : N <= (HS.getD (cnt ops p S) []).length) (hS : ∀ k f, k < m -> p.fl[k]? = some f -> S f = true) : (HnF ops p N HS inits S).take (N + m) = dW N inits m (HS.getD (cnt ops p S) []) := by
 unfold HnF dW;rw [List.take_append, List.take_take, bC7, bCw hl, Nat.min_eq_right aB, show N + m - N = m by omega]
 congr 1
 rw [<- List.map_take, List.take_range, bCw hm];refine List.map_congr_left fun k hk => ?_
 have hk := bCq.1 hk;have hf : p.fl[k]? = some p.fl[k] := bBf aB;have : p.fl.getD k 0 = p.fl[k] := by simp [List.getD, hf]
 rw [this, if_pos (hS k _ hk hf)]
theorem zP {S : Nat -> Bool} (hl : N <= (HS.getD (cnt ops p S) []).length) : (HnF ops p N HS inits S).length = N + p.fl.length := by
 unfold HnF;rw [bBp, bC7, bC9, List.length_range, bCw hl]

end


open Go Go.AI

mutual
theorem lU (n : Nat) (ks : Ks) : ∀ x : AV, AV.under n (io ks x) = AV.under n x
 | .p _ => by simp
 | .agg cs => by simp only [io, AV.under, cT n ks cs]
 | .tup cs => by simp only [io, AV.under, cT n ks cs]
 | .ptr _ _ => by simp
 | .sm _ _ _ _ _ => by simp only [io, AV.under]
 | .own _ _ _ => by simp
 | .fn _ xs ys => by simp only [io, AV.under, cT n ks xs, cT n ks ys]
 | .ifc _ x => by simp only [io, AV.under, lU n ks x]
 | .mp _ => by simp
 | .vec _ _ => by simp
 | .junk => by simp
theorem cT (n : Nat) (ks : Ks) : ∀ l : List AV, AV.underL n (ioL ks l) = AV.underL n l
 | [] => rfl
 | x :: l => by simp only [ioL, AV.underL, lU n ks x, cT n ks l]
end
def sE : LT -> Nat -> Option LE
 | [], _ => none
 | e :: lt, i => if Nat.beq e.j i = true then some e else sE lt i
theorem mG : ∀ {lt : LT} {i : Nat} {e : LE}, sE lt i = some e -> e ∈ lt /\ e.j = i
 | [], _, _, h => by simp [sE] at h
 | e :: lt, i, e', h => by
  simp only [sE] at h;split at h
  ·rename_i hb;simp only [bBk] at h;subst h;exact ⟨List.mem_cons_self, Nat.eq_of_beq_eq_true hb⟩
  ·obtain ⟨h1, h2⟩ := mG h;exact ⟨bDb _ h1, h2⟩
def fG (lt : LT) (n : Nat) : XO -> Bool
 | .cells cs => AV.underL n cs
 | .row _ _ _ cs => AV.underL n cs
 | .loop i _ _ => match sE lt i with
  | some e => AV.underL n e.T
  | none => false
 | _ => true
theorem tV (n : Nat) : ∀ (xs ys : List AV), AV.underL n xs = true -> AV.underL n ys = true -> AV.underL n (xs ++ ys) = true
 | [], _, _, h => h
 | x :: xs, ys, h1, h2 => by
  simp only [AV.underL, bBs, bBj] at h1 ⊢;exact ⟨h1.1, tV n xs ys h1.2 h2⟩
theorem aBk (n k : Nat) : AV.underL n (List.replicate k .junk) = true := by
 induction k with
 | zero => simp [AV.underL]
 | succ k ih => simp only [bCn, AV.underL, AV.under, ih]; rfl
theorem aIu {lt : LT} {n j : Nat} {ks : Ks} (hG : Gl lt j ks) {o : XO} (h : fG lt n o = true) : AO.under n (iO ks o) = true := by
 cases o with
 | cells cs => simp only [iO, AO.under, <- eN, cT]; exact h
 | row n0 i sz cs =>
  simp only [iO, AO.under];refine tV n _ _ ?_ (aBk n _);rw [<- eN, cT]; exact h
 | loop i st pend =>
  simp only [fG] at h;split at h
  ·rename_i e he;obtain ⟨h1, rfl⟩ := mG he;obtain ⟨_, _, h3⟩ := hG e h1;simp only [iO, AO.under, h3, <- eN, cT];exact h
  ·cases h
 | _ => rfl
theorem lX {lt : LT} {n j : Nat} {ks : Ks} (hG : Gl lt j ks) {H : HX} (h : H.all (fG lt n) = true) : (iH ks H).all (AO.under n) = true := by
 rw [bC0];intro o ho;obtain ⟨o', h1, rfl⟩ := bCb.1 ho;exact aIu hG (bC0.1 h o' h1)


open Go Go.AI

section

variable {P : Program} {ks : Ks} {m : Nat}
theorem aBl (m : Nat) (v : Value) : (rL v).under m = true := by
 unfold rL;split
 ·split
  ·rename_i cs _;simp only [AV.under];generalize cs.toList = l
   induction l with
   | nil => simp [AV.underL]
   | cons v l ih => simp only [bBx, AV.underL, AV.under, ih]; rfl
  ·rfl
 ·split <;> rfl
 ·split <;> rfl
theorem vW : ∀ (T : List AV) (d : Nat), tget (T.map (cutA m)) d = cutA m (tget T d)
 | [], d => by simp only [bCv, tget]; rfl
 | x :: T, 0 => by simp only [bBx, tget]
 | x :: T, d + 1 => by simp only [bBx, tget, vW T d]
theorem aev_cut (T : List AV) (y : Operand) : aev (T.map (cutA m)) y = cutA m (aev T y) := by
 cases y with
 | tmp d => simp only [aev, vW]
 | const v => simp only [aev]; unfold cutA; rw [if_pos (aBl m v)]
 | global g => simp only [aev]; rfl
 | func f => simp only [aev]; rfl
theorem zY {all : Array Oper} {T : List AV} {o : Oper} {b : Bool} (h : awanted all T o = some b) : awanted all (T.map (cutA m)) o = some b := by
 unfold awanted at h ⊢;split
 ·rename_i hg; rw [hg] at h; exact h
 ·rename_i jj want hg;rw [hg] at h;simp only at h;split
  ·rename_i d hd;rw [hd] at h;simp only at h;rw [vW];split at h
   ·rename_i b' hT; rw [hT]; exact h
   ·rename_i hT; rw [hT]; exact h
   ·cases h
  ·rename_i hd;rw [hd] at h;exact h
theorem gH {all : Array Oper} {T T' : List AV} {o : Oper} (h : ∀ d ∈ o.looksAt all, tget T' d = tget T d) : awanted all T' o = awanted all T o := by
 unfold awanted;split
 ·rfl
 ·rename_i jj want hg;split
  ·rename_i d hd
   have : d ∈ o.looksAt all := by
    unfold Oper.looksAt;rw [hg];simp only [hd, Option.toList_some];exact List.mem_append_right _ (List.mem_singleton.2 rfl)
   rw [h d this]
  ·rfl
theorem aev_congr {all : Array Oper} {T T' : List AV} {o : Oper} (h : ∀ d ∈ o.looksAt all, tget T' d = tget T d) {y : Operand} (hy : y ∈ o.op.operands) : aev T' y = aev T y := by
 cases y with
 | tmp d =>
  simp only [aev];refine h d ?_;unfold Oper.looksAt;exact bD5 _ (List.mem_filterMap.2 ⟨.tmp d, by simpa using hy, rfl⟩)
 | _ => rfl
def aMm (P : Program) (ρ : Operand -> AV) (G : HX) : Op -> Option (Nat × List (List PV))
 | .call ⟨.builtin .append, ⟨[s, x]⟩, ⟨[t, t']⟩⟩ => if t = t' /\ aUt (ρ s) = false then (match aPq P t (ρ s) (ρ x) G with
   | some (.own k sz ys, H') => if Nat.beq k G.length && Nat.beq H'.length (G.length + 1) then some (sz, ys) else none
   | _ => none) else none
 | _ => none
theorem aIl {P : Program} {ρ : Operand -> AV} {G : HX} {op : Op} {sz : Nat} {ys : List (List PV)} (h : aMm P ρ G op = some (sz, ys)) : ∃ n, rA P ρ G op = some (.own G.length sz ys, G ++ [.tok n sz]) := by
 unfold aMm at h;split at h
 ·rename_i s x t t';split at h
  ·rename_i hc;split at h
   ·rename_i k sz' ys' H' hx;split at h
    ·rename_i hk;simp only [bBs] at hk;have hk1 := Nat.eq_of_beq_eq_true hk.1;have hk2 := Nat.eq_of_beq_eq_true hk.2;simp only [bBk, bBz] at h;obtain ⟨rfl, rfl⟩ := h;subst hk1;obtain ⟨n, e⟩ := aLq hx hk2;refine ⟨n, ?_⟩;show (if t = t' /\ aUt (ρ s) = false then aPq P t (ρ s) (ρ x) G else none) = _;rw [if_pos hc, hx, e]
    ·cases h
   ·cases h
  ·cases h
 ·cases h
def aG7 (P : Program) (cf : aX) (m : Nat) (o : Oper) (T : List AV) (G : HX) (j : Nat) : Option (AV × HX) :=
 match o.op with
 | .call ⟨.value f, args, types⟩ => match aN T ⟨.value f, args, types⟩ with
  | some (f, args) => if AV.underL m args = true then (match cf f args G j with
   | some (.ret v, H', j') => if (Nat.beq j' j && Nat.beq H'.length G.length) = true then some (v, H') else none
   | _ => none) else none
  | none => none
 | op => if op.operands.toList.all (fun y => (aev T y).under m) = true then (match aMm P (aev T) G op with
  | some (sz, ys) => some (.p (.sl sz ys), G)
  | none => match rA P (aev T) G op with
   | some (x, H') => if Nat.beq H'.length G.length = true then some (x, H') else none
   | none => none) else none
theorem gT {n : Nat} : ∀ {xs ys : List AV}, AV.underL n (xs ++ ys) = true -> AV.underL n xs = true /\ AV.underL n ys = true
 | [], ys, h => ⟨rfl, h⟩
 | x :: xs, ys, h => by
  simp only [bBj, AV.underL, bBs] at h ⊢;obtain ⟨h1, h2⟩ := gT h.2;exact ⟨⟨h.1, h1⟩, h2⟩
theorem sZ {l : List AV} (h : AV.underL m l = true) : l.map (cutA m) = l := by
 induction l with
 | nil => rfl
 | cons x l ih =>
  simp only [AV.underL, bBs] at h;rw [bBx, ih h.2]
  congr 1
  unfold cutA;rw [if_pos h.1]
theorem zR {T : List AV} {c : Call} {f : FuncId} {args : List AV} (h : aN T c = some (f, args)) (hu : AV.underL m args = true) : aN (T.map (cutA m)) c = some (f, args) := by
 have hm : c.args.toList.map (aev (T.map (cutA m))) = (c.args.toList.map (aev T)).map (cutA m) := by
  rw [bEb]; exact List.map_congr_left fun y _ => aev_cut T y
 unfold aN at h ⊢;split at h
 ·rename_i fo hcal;simp only [aev_cut, hm];split at h
  ·rename_i i x y hev;simp only [bBk, bBz] at h;obtain ⟨rfl, rfl⟩ := h;rw [hev, sZ hu]; rfl
  ·rename_i i first cap hev;simp only [bBk, bBz] at h;obtain ⟨rfl, rfl⟩ := h;obtain ⟨h1, h3⟩ := gT hu;obtain ⟨h1, h2⟩ := gT h1
   have : cutA m (.fn (.func i) first cap) = .fn (.func i) first cap := by
    unfold cutA;rw [if_pos (by simp only [AV.under, h1, h3]; rfl)]
   rw [hev, this, sZ h2]
  ·cases h
 ·cases h
theorem aG8 {G : Kn} {cf : aX} (hcf : eL P G cf) {ops : Array Oper} {o : Oper} {T T' : List AV} {H H' : HX} {j : Nat} {x : AV} (hG : G j ks) (hl : ∀ d ∈ o.looksAt ops, tget T' d = tget T d) (hw : awanted ops T o = some true) (h : aG7 P cf m o T H j = some (x, H')) :
  H'.length = H.length /\ ((awanted ops ((T'.map (cutA m)).map (io ks)) o = some true /\ aop P (aev ((T'.map (cutA m)).map (io ks))) (iH ks H) o.op = some (io ks x, iH ks H')) \/
   (awanted ops ((T'.map (cutA m)).map (io ks)) o = some true /\ ∃ c f args, o.op = .call c /\ aN ((T'.map (cutA m)).map (io ks)) c = some (f, args) /\ aL P f = true /\ ACalls P f args (iH ks H) (fun o' g => o' = .ret (io ks x) /\ g = iH ks H')) \/
   (awanted ops ((T'.map (cutA m)).map (io ks)) o = some true /\ iH ks H' = iH ks H /\ ∃ sz ys n, io ks x = .p (.sl sz ys) /\ aop P (aev ((T'.map (cutA m)).map (io ks))) (iH ks H) o.op = some (.own (iH ks H).length sz ys, iH ks H ++ [some (.tok n sz)]))) := by
 have hw' : awanted ops ((T'.map (cutA m)).map (io ks)) o = some true := cD _ _ _ (zY (by rw [gH hl]; exact hw));unfold aG7 at h;split at h
 ·rename_i f args types hop;split at h
  ·rename_i f' args' hc;split at h
   ·rename_i hu;split at h
    ·rename_i v H2 j2 hcall;split at h
     ·rename_i hj;simp only [bBs] at hj;have hj1 := Nat.eq_of_beq_eq_true hj.1;have hj2 := Nat.eq_of_beq_eq_true hj.2;subst hj1;simp only [bBk, bBz] at h;obtain ⟨rfl, rfl⟩ := h;obtain ⟨c1, c2, c3⟩ := hcf _ _ _ _ _ _ _ hcall;refine ⟨hj2, .inr (.inl ⟨hw', _, f', args'.map (io ks), hop, ?_, c1, (c3 ks hG).mono ?_⟩)⟩
      ·refine fS (zR ?_ hu);rw [kN (T' := T) _ fun y hy => aev_congr hl (by rw [hop]; simpa [Op.operands] using hy)];exact hc
      ·rintro o' g ⟨ks', a1, a2, rfl, rfl⟩;rw [a2 rfl];exact ⟨rfl, rfl⟩
     ·cases h
    ·cases h
   ·cases h
  ·cases h
 ·rename_i nc;split at h
  ·rename_i hu;split at h
   ·rename_i sz ys hx;simp only [bBk, bBz] at h;obtain ⟨rfl, rfl⟩ := h;obtain ⟨n, hx⟩ := aIl hx;refine ⟨rfl, .inr (.inr ⟨hw', rfl, sz, ys, n, dY _ _, ?_⟩)⟩;have h1 := iZ (ks := ks) (ρ' := aev (T.map (io ks))) (fun y => aev_io ks T y) hx;have e1 : iH ks (H ++ [XO.tok n sz]) = iH ks H ++ [some (.tok n sz)] := by rw [dX]; rfl
    rw [lA, e1, <- bD ks] at h1;exact y48
   ·split at h
    ·rename_i y H2 hx;split at h
     ·rename_i hlen;simp only [bBk, bBz] at h;obtain ⟨rfl, rfl⟩ := h;refine ⟨Nat.eq_of_beq_eq_true hlen, .inl ⟨hw', ?_⟩⟩;have h1 := iZ (ks := ks) (ρ' := aev (T.map (io ks))) (fun y => aev_io ks T y) hx;exact y48
     ·cases h
    ·cases h
  ·cases h

end
def alive : XO -> Bool
 | .dead => false
 | _ => true

structure RS where
 xs : List AV
 HS : List HX
 inits : List XO
 T : List AV
 pend : List (Nat × List AV × Op × AV)
def fQ (P : Program) (cf : aX) (ops : Array Oper) (p : Pl) (N j : Nat) : List Nat -> List AV -> HX -> List AV -> List HX -> List XO -> List (Nat × List AV × Op × AV) -> Option RS
 | [], T, _, xs, HS, inits, pend => some ⟨xs, HS, inits, T, pend⟩
 | i :: is, T, V, xs, HS, inits, pend => match ops[i]? with
  | none => none
  | some o => match awanted ops T o with
   | none => none
   | some false => if p.fl.contains i = true then none else fQ P cf ops p N j is (tput T o.dst (.tup [])) V (xs ++ [.tup []]) (if p.chain ops i = true then HS ++ [V] else HS) inits pend
   | some true => if p.fl.contains i = true then
     (match aGd P (aev T) (N + inits.length) o.op with
     | some (x, cs) => if p.fl[inits.length]? = some i then fQ P cf ops p N j is (tput T o.dst x) V (xs ++ [x]) HS (inits ++ [.cells cs]) pend else none
     | none => none)
    else match aG7 P cf (N + p.pc i) o T (dW N inits (p.pc i) V) j with
     | some (x, H') => if p.pc i <= inits.length then (if p.chain ops i = true then
       (if (H'.drop N).all alive = true then fQ P cf ops p N j is (tput T o.dst x) (H' ++ V.drop (N + p.pc i)) (xs ++ [x]) (HS ++ [H' ++ V.drop (N + p.pc i)]) inits pend else none)
      else fQ P cf ops p N j is (tput T o.dst x) V (xs ++ [x]) HS inits (pend ++ [(i, T, o.op, x)])) else none
     | none => none
def aHe (P : Program) (ops : Array Oper) (p : Pl) (N : Nat) (R : RS) : Bool :=
 R.pend.all fun e => (List.range R.HS.length).all fun c =>
  !(decide ((List.range ops.size).countP (fun j => p.chain ops j && p.pre e.1 j) <= c) && decide (c <= (List.range ops.size).countP (fun j => p.chain ops j && !p.pre j e.1))) ||
   fE P e.2.1 e.2.2.1 e.2.2.2 (dW N R.inits (p.pc e.1) (R.HS.getD c []))
def aFr (ops : Array Oper) (p : Pl) (N : Nat) (R : RS) : Bool :=
 (List.range R.HS.length).all fun c => (List.range p.fl.length).all fun k => match (R.HS.getD c []).getD (N + k) .dead with
  | .dead => true
  | _ => (List.range ops.size).any fun i => p.chain ops i && decide (cnt ops p (fun x => decide (x < i)) < c) && p.pre i (p.fl.getD k 0)
def aG9 (P : Program) (cf : aX) (lt : LT) (ops : Array Oper) (p : Pl) (T : List AV) (H : HX) (j : Nat) (D : List AD) : Option (List AV × HX) :=
 match fQ P cf ops p H.length j (List.range ops.size) T (H ++ List.replicate p.fl.length .dead) [] [H ++ List.replicate p.fl.length .dead] [] [] with
 | some R => if (Nat.beq R.inits.length p.fl.length && dJ H.length D && R.HS.all (fun V => Nat.beq V.length (H.length + p.fl.length) && (List.range (p.fl.length + 1)).all fun k => (dW H.length R.inits k V).all (fG lt (H.length + k))) && aHe P ops p H.length R && aFr ops p H.length R) = true then
   some (R.T, dW H.length R.inits p.fl.length (R.HS.getD (cnt ops p fun _ => true) [])) else none
 | none => none

end Go.AI.EV
