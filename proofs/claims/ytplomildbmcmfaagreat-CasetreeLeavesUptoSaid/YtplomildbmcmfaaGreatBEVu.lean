/-
  Names that occur: values over letters.
-/
import Derived.Test.YtplomildbmcmfaaGreatBEVl
import Derived.Test.YtplomildbmcmfaaGreatBEVi

namespace Go.AI.EV

open Go Go.AI
def dstAt (ops : Array Oper) (i : Nat) : Option Tmp := (ops[i]?).bind (·.dst)
def Pl.chain (p : Pl) (ops : Array Oper) (i : Nat) : Bool := match ops[i]? with
  | some o => isE o.op && !p.fl.contains i
  | none => false
def Pl.pc (p : Pl) (i : Nat) : Nat := (p.fl.filter fun f => p.pre i f).length
def okOp (ops : Array Oper) (p : Pl) (i : Nat) : Bool := match ops[i]? with
  | none => false
  | some o =>
    (List.range ops.size).all (fun j => !p.pre i j || (decide (j < i) && o.after.any fun e => Region.binds .any e && (e.on == j || p.pre e.on j))) &&
    o.after.all (fun e => !Region.binds .any e || (decide (e.on < i) && p.pre i e.on)) &&
    (List.range ops.size).all (fun j => j == i || match o.dst, dstAt ops j with | some a, some b => a != b | _, _ => true) &&
    (List.range ops.size).all (fun j => match dstAt ops j with | some d => !(o.looksAt ops).contains d || p.pre i j || p.pre j i | none => true) &&
    (!p.chain ops i || (List.range i).all (fun j => !p.chain ops j || p.pre i j)) &&
    (List.range p.fl.length).all (fun k => (p.fl[k]?).any (fun f => p.pre i f) == decide (k < p.pc i))
def okReg (ops : Array Oper) (p : Pl) : Bool := (List.range ops.size).all (okOp ops p) && p.fl.all (fun f => decide (f < ops.size)) && decide p.fl.Nodup

structure OkR (ops : Array Oper) (p : Pl) : Prop where
  lt : ∀ i j, i < ops.size → p.pre i j = true → j < ops.size → j < i
  edge : ∀ i j o, ops[i]? = some o → p.pre i j = true → j < ops.size → ∃ e ∈ o.after, Region.binds .any e = true ∧ (e.on = j ∨ p.pre e.on j = true)
  back : ∀ i o, ops[i]? = some o → ∀ e ∈ o.after, Region.binds .any e = true → e.on < i ∧ p.pre i e.on = true
  dst : ∀ i j d, i < ops.size → j < ops.size → dstAt ops i = some d → dstAt ops j = some d → i = j
  look : ∀ i j o d, ops[i]? = some o → j < ops.size → dstAt ops j = some d → d ∈ o.looksAt ops → p.pre i j = true ∨ p.pre j i = true
  chain : ∀ i j, i < ops.size → j < i → p.chain ops i = true → p.chain ops j = true → p.pre i j = true
  fl : ∀ i k f, i < ops.size → p.fl[k]? = some f → (p.pre i f = true ↔ k < p.pc i)
  flt : ∀ f ∈ p.fl, f < ops.size
  nd : p.fl.Nodup
theorem okReg_spec {ops : Array Oper} {p : Pl} (h : okReg ops p = true) : OkR ops p := by
  unfold okReg at h
  simp only [Bool.and_eq_true, List.all_eq_true, List.mem_range, decide_eq_true_eq] at h
  obtain ⟨⟨h1, h2⟩, h3⟩ := h
  have key : ∀ i o, ops[i]? = some o → _ := fun i o ho => by
    have := h1 i (Array.getElem?_eq_some_iff.1 ho).1
    unfold okOp at this
    rw [ho] at this
    simp only [Bool.and_eq_true, List.all_eq_true, List.mem_range] at this
    exact this
  have get : ∀ i, i < ops.size → ∃ o, ops[i]? = some o := fun i hi => ⟨_, Array.getElem?_eq_getElem hi⟩
  refine ⟨fun i j hi hp hj => ?_, fun i j o ho hp hj => ?_, fun i o ho e he hb => ?_, fun i j d hi hj hd hd' => ?_, fun i j o d ho hj hd hl => ?_, fun i j hi hj hc hc' => ?_, fun i k f hi hf => ?_, h2, h3⟩
  · obtain ⟨o, ho⟩ := get i hi
    have := (key i o ho).1.1.1.1.1 j hj
    rw [hp] at this
    simp only [Bool.not_true, Bool.false_or, Bool.and_eq_true, decide_eq_true_eq] at this
    exact this.1
  · have := (key i o ho).1.1.1.1.1 j hj
    rw [hp] at this
    simp only [Bool.not_true, Bool.false_or, Bool.and_eq_true, decide_eq_true_eq] at this
    obtain ⟨e, he, hc⟩ := Array.any_eq_true'.1 this.2
    simp only [Bool.and_eq_true, Bool.or_eq_true, beq_iff_eq] at hc
    exact ⟨e, he, hc.1, hc.2⟩
  · have := Array.all_eq_true_iff_forall_mem.1 (key i o ho).1.1.1.1.2 e he
    rw [hb] at this
    simp only [Bool.not_true, Bool.false_or, Bool.and_eq_true, decide_eq_true_eq] at this
    exact this
  · obtain ⟨o, ho⟩ := get i hi
    have := (key i o ho).1.1.1.2 j hj
    have hd0 : o.dst = some d := by unfold dstAt at hd; rw [ho] at hd; exact hd
    simp only [hd0, hd', Bool.or_eq_true, beq_iff_eq, bne_iff_ne, ne_eq, not_true_eq_false, or_false] at this
    exact this.symm
  · have := (key i o ho).1.1.2 j hj
    simp only [hd, Bool.or_eq_true, Bool.not_eq_true'] at this
    rcases this with (h | h) | h
    · have := List.contains_iff_mem.2 hl
      rw [h] at this; cases this
    · exact .inl h
    · exact .inr h
  · obtain ⟨o, ho⟩ := get i hi
    have := (key i o ho).1.2
    rw [hc] at this
    simp only [Bool.not_true, Bool.false_or, List.all_eq_true, List.mem_range] at this
    have := this j hj
    rw [hc'] at this
    simpa using this
  · obtain ⟨o, ho⟩ := get i hi
    have := (key i o ho).2 k (List.getElem?_eq_some_iff.1 hf).1
    rw [hf] at this
    simp only [Option.any_some, beq_iff_eq] at this
    rw [this, decide_eq_true_eq]

section

variable (ops : Array Oper) (p : Pl) (N : Nat) (T0 : List AV) (xs : List AV) (HS : List HX) (inits : List XO)
def ownOf (s : Nat) : Option Nat := (List.range ops.size).find? fun i => dstAt ops i == some s
def valAt (S : Nat → Bool) (s : Nat) (x : AV) : AV := match ownOf ops s with
  | some i => if S i = true then xs.getD i .junk else x
  | none => x
def TnF (S : Nat → Bool) : List AV := T0.zipIdx.map fun q => valAt ops xs S q.2 q.1
def cnt (S : Nat → Bool) : Nat := (List.range ops.size).countP fun j => p.chain ops j && S j
def flo (V : HX) (k : Nat) : XO := match V.getD (N + k) .dead with
  | .dead => inits.getD k .dead
  | v => v
def gfill (k : Nat) (V : HX) : HX := V.take N ++ (List.range k).map (flo N inits V)
def HnF (S : Nat → Bool) : HX := (HS.getD (cnt ops p S) []).take N ++ (List.range p.fl.length).map fun k => if S (p.fl.getD k 0) = true then flo N inits (HS.getD (cnt ops p S) []) k else .dead

end

section

variable {ops : Array Oper} {p : Pl} {N : Nat} {T0 : List AV} {xs : List AV} {HS : List HX} {inits : List XO}
theorem ownOf_some {s i : Nat} (h : ownOf ops s = some i) : i < ops.size ∧ dstAt ops i = some s := by
  have h1 := List.find?_some h
  have h2 := List.mem_of_find?_eq_some h
  exact ⟨List.mem_range.1 h2, by simpa using h1⟩
theorem ownOf_of (hk : OkR ops p) {s i : Nat} (hi : i < ops.size) (h : dstAt ops i = some s) : ownOf ops s = some i := by
  cases e : ownOf ops s with
  | none =>
    have := List.find?_eq_none.1 e i (List.mem_range.2 hi)
    simp [h] at this
  | some j =>
    obtain ⟨h1, h2⟩ := ownOf_some e
    rw [hk.dst i j s hi h1 h h2]
theorem TnF_len (S : Nat → Bool) : (TnF ops T0 xs S).length = T0.length := by simp [TnF]
theorem TnF_get (S : Nat → Bool) (s : Nat) : (TnF ops T0 xs S)[s]? = (T0[s]?).map fun x => valAt ops xs S s x := by
  simp [TnF, List.getElem?_zipIdx]
  cases T0[s]? <;> simp
theorem tget_TnF (S : Nat → Bool) (s : Nat) : tget (TnF ops T0 xs S) s = if s < T0.length then valAt ops xs S s (tget T0 s) else .junk := by
  rw [tget_eq, tget_eq, List.getD, List.getD, TnF_get]
  split
  · rename_i l; rw [List.getElem?_eq_getElem l]; rfl
  · rename_i l; rw [List.getElem?_eq_none (by omega)]; rfl
theorem TnF_put (hk : OkR ops p) {S : Nat → Bool} {i : Nat} {o : Oper} (ho : ops[i]? = some o) : TnF ops T0 xs (fun j => S j || j == i) = tput (TnF ops T0 xs S) o.dst (xs.getD i .junk) := by
  have hi := (Array.getElem?_eq_some_iff.1 ho).1
  have hd : dstAt ops i = o.dst := by unfold dstAt; rw [ho]; rfl
  cases e : o.dst with
  | none =>
    simp only [tput]
    apply List.ext_getElem?
    intro s
    rw [TnF_get, TnF_get]
    congr 1
    funext x
    unfold valAt
    split
    · rename_i j hj
      obtain ⟨h1, h2⟩ := ownOf_some hj
      have hne : j ≠ i := by rintro rfl; rw [hd, e] at h2; cases h2
      simp [hne]
    · rfl
  | some d =>
    simp only [tput]
    apply List.ext_getElem?
    intro s
    rw [List.getElem?_set, TnF_get, TnF_get, TnF_len]
    by_cases hs : d = s
    · subst hs
      rw [if_pos rfl]
      have ho' := ownOf_of hk hi (hd.trans e)
      by_cases l : d < T0.length
      · rw [if_pos l, List.getElem?_eq_getElem l, Option.map_some]
        unfold valAt
        rw [ho']
        simp
      · rw [if_neg l, List.getElem?_eq_none (Nat.le_of_not_lt l)]; rfl
    · rw [if_neg hs]
      congr 1
      funext x
      unfold valAt
      split
      · rename_i j hj
        obtain ⟨h1, h2⟩ := ownOf_some hj
        have hne : j ≠ i := by rintro rfl; rw [hd, e] at h2; cases h2; exact hs rfl
        simp [hne]
      · rfl
def Down (ops : Array Oper) (p : Pl) (S : Nat → Bool) : Prop := ∀ i j, i < ops.size → j < ops.size → S i = true → p.pre i j = true → S j = true
theorem TnF_look (hk : OkR ops p) {S : Nat → Bool} (hS : Down ops p S) {i : Nat} {o : Oper} (ho : ops[i]? = some o) (hp : ∀ j, j < ops.size → p.pre i j = true → S j = true) (hi : S i = false) {d : Nat} (hd : d ∈ o.looksAt ops) :
    tget (TnF ops T0 xs S) d = tget (TnF ops T0 xs fun j => decide (j < i)) d := by
  have hlt := (Array.getElem?_eq_some_iff.1 ho).1
  rw [tget_TnF, tget_TnF]
  split
  · unfold valAt
    split
    · rename_i j hj
      obtain ⟨h1, h2⟩ := ownOf_some hj
      rcases hk.look i j o d ho h1 h2 hd with h | h
      · rw [hp j h1 h]
        have := hk.lt i j hlt h h1
        simp [this]
      · have h3 : S j = false := by
          cases e : S j with
          | false => rfl
          | true => rw [hS j i h1 hlt e h] at hi; cases hi
        have := hk.lt j i h1 h hlt
        rw [h3]
        simp [show ¬ j < i by omega]
    · rfl
  · rfl
theorem countP_one {α : Type} [DecidableEq α] {f g : α → Bool} {a : α} : ∀ {l : List α}, l.Nodup → a ∈ l → f a = false → g a = true → (∀ x ∈ l, x ≠ a → g x = f x) → l.countP g = l.countP f + 1
  | [], _, h, _, _, _ => by cases h
  | x :: l, hn, hm, hf, hg, he => by
    rw [List.nodup_cons] at hn
    rcases List.mem_cons.1 hm with rfl | hm
    · rw [List.countP_cons_of_pos hg, List.countP_cons_of_neg (by rw [hf]; simp)]
      congr 1
      exact List.countP_congr fun y hy => by
        rw [he y (List.mem_cons_of_mem _ hy) (fun e => hn.1 (e ▸ hy))]
    · have hx : x ≠ a := fun e => hn.1 (e ▸ hm)
      have ih := countP_one hn.2 hm hf hg fun y hy hne => he y (List.mem_cons_of_mem _ hy) hne
      rw [List.countP_cons, List.countP_cons, ih, he x (List.mem_cons_self) hx]
      omega
theorem cnt_add {S : Nat → Bool} {i : Nat} (hi : i < ops.size) (hS : S i = false) (hc : p.chain ops i = true) : cnt ops p (fun j => S j || j == i) = cnt ops p S + 1 := by
  unfold cnt
  refine countP_one (a := i) List.nodup_range (List.mem_range.2 hi) (by simp [hS]) (by simp [hc]) fun x _ hx => ?_
  have : (x == i) = false := by simpa using hx
  show (p.chain ops x && (S x || x == i)) = _
  rw [this, Bool.or_false]
theorem cnt_same {S : Nat → Bool} {i : Nat} (hc : p.chain ops i = false) : cnt ops p (fun j => S j || j == i) = cnt ops p S := by
  unfold cnt
  refine List.countP_congr fun x _ => ?_
  by_cases e : x = i
  · subst e; simp [hc]
  · have : (x == i) = false := by simpa using e
    show (p.chain ops x && (S x || x == i)) = true ↔ _
    rw [this, Bool.or_false]
theorem cnt_chain (hk : OkR ops p) {S : Nat → Bool} (hS : Down ops p S) {i : Nat} (hi : i < ops.size) (hc : p.chain ops i = true) (hp : ∀ j, j < ops.size → p.pre i j = true → S j = true) (hn : S i = false) : cnt ops p S = cnt ops p fun j => decide (j < i) := by
  unfold cnt
  refine List.countP_congr fun x hx => ?_
  have hx := List.mem_range.1 hx
  by_cases hcx : p.chain ops x = true
  · rw [hcx]
    simp only [Bool.true_and, decide_eq_true_eq]
    constructor
    · intro h
      rcases Nat.lt_trichotomy x i with l | l | l
      · exact l
      · subst l; rw [hn] at h; cases h
      · rw [hS x i hx hi h (hk.chain x i hx l hcx hc)] at hn; cases hn
    · intro l
      exact hp x hx (hk.chain i x hi l hc hcx)
  · simp [hcx]
theorem take_HnF {S : Nat → Bool} {m : Nat} (hm : m ≤ p.fl.length) (hl : N ≤ (HS.getD (cnt ops p S) []).length) (hS : ∀ k f, k < m → p.fl[k]? = some f → S f = true) : (HnF ops p N HS inits S).take (N + m) = gfill N inits m (HS.getD (cnt ops p S) []) := by
  unfold HnF gfill
  rw [List.take_append, List.take_take, List.length_take, Nat.min_eq_left hl, Nat.min_eq_right (by omega), show N + m - N = m by omega]
  congr 1
  rw [← List.map_take, List.take_range, Nat.min_eq_left hm]
  refine List.map_congr_left fun k hk => ?_
  have hk := List.mem_range.1 hk
  have hf : p.fl[k]? = some p.fl[k] := List.getElem?_eq_getElem (by omega)
  have : p.fl.getD k 0 = p.fl[k] := by simp [List.getD, hf]
  rw [this, if_pos (hS k _ hk hf)]
theorem HnF_len {S : Nat → Bool} (hl : N ≤ (HS.getD (cnt ops p S) []).length) : (HnF ops p N HS inits S).length = N + p.fl.length := by
  unfold HnF
  rw [List.length_append, List.length_take, List.length_map, List.length_range, Nat.min_eq_left hl]

end

end Go.AI.EV

namespace Go.AI.EV

open Go Go.AI

mutual
theorem under_io (n : Nat) (ks : Ks) : ∀ x : AV, AV.under n (io ks x) = AV.under n x
  | .p _ => by simp
  | .agg cs => by simp only [io, AV.under, underL_io n ks cs]
  | .tup cs => by simp only [io, AV.under, underL_io n ks cs]
  | .ptr _ _ => by simp
  | .sm _ _ _ _ _ => by simp only [io, AV.under]
  | .own _ _ _ => by simp
  | .fn _ xs ys => by simp only [io, AV.under, underL_io n ks xs, underL_io n ks ys]
  | .ifc _ x => by simp only [io, AV.under, under_io n ks x]
  | .mp _ => by simp
  | .vec _ _ => by simp
  | .junk => by simp
theorem underL_io (n : Nat) (ks : Ks) : ∀ l : List AV, AV.underL n (ioL ks l) = AV.underL n l
  | [] => rfl
  | x :: l => by simp only [ioL, AV.underL, under_io n ks x, underL_io n ks l]
end
def findLE : LT → Nat → Option LE
  | [], _ => none
  | e :: lt, i => if Nat.beq e.j i = true then some e else findLE lt i
theorem findLE_mem : ∀ {lt : LT} {i : Nat} {e : LE}, findLE lt i = some e → e ∈ lt ∧ e.j = i
  | [], _, _, h => by simp [findLE] at h
  | e :: lt, i, e', h => by
    simp only [findLE] at h
    split at h
    · rename_i hb
      simp only [Option.some.injEq] at h
      subst h
      exact ⟨List.mem_cons_self, Nat.eq_of_beq_eq_true hb⟩
    · obtain ⟨h1, h2⟩ := findLE_mem h
      exact ⟨List.mem_cons_of_mem _ h1, h2⟩
def xunder (lt : LT) (n : Nat) : XO → Bool
  | .cells cs => AV.underL n cs
  | .row _ _ _ cs => AV.underL n cs
  | .loop i _ _ => match findLE lt i with
    | some e => AV.underL n e.T
    | none => false
  | _ => true
theorem underL_app (n : Nat) : ∀ (xs ys : List AV), AV.underL n xs = true → AV.underL n ys = true → AV.underL n (xs ++ ys) = true
  | [], _, _, h => h
  | x :: xs, ys, h1, h2 => by
    simp only [AV.underL, Bool.and_eq_true, List.cons_append] at h1 ⊢
    exact ⟨h1.1, underL_app n xs ys h1.2 h2⟩
theorem underL_junk (n k : Nat) : AV.underL n (List.replicate k .junk) = true := by
  induction k with
  | zero => simp [AV.underL]
  | succ k ih => simp only [List.replicate_succ, AV.underL, AV.under, ih]; rfl
theorem xunder_iO {lt : LT} {n j : Nat} {ks : Ks} (hG : Gl lt j ks) {o : XO} (h : xunder lt n o = true) : AO.under n (iO ks o) = true := by
  cases o with
  | cells cs => simp only [iO, AO.under, ← ioL_eq, underL_io]; exact h
  | row n0 i sz cs =>
    simp only [iO, AO.under]
    refine underL_app n _ _ ?_ (underL_junk n _)
    rw [← ioL_eq, underL_io]; exact h
  | loop i st pend =>
    simp only [xunder] at h
    split at h
    · rename_i e he
      obtain ⟨h1, rfl⟩ := findLE_mem he
      obtain ⟨_, _, h3⟩ := hG e h1
      simp only [iO, AO.under, h3, ← ioL_eq, underL_io]
      exact h
    · cases h
  | _ => rfl
theorem xunder_iH {lt : LT} {n j : Nat} {ks : Ks} (hG : Gl lt j ks) {H : HX} (h : H.all (xunder lt n) = true) : (iH ks H).all (AO.under n) = true := by
  rw [List.all_eq_true]
  intro o ho
  obtain ⟨o', h1, rfl⟩ := List.mem_map.1 ho
  exact xunder_iO hG (List.all_eq_true.1 h o' h1)

end Go.AI.EV
