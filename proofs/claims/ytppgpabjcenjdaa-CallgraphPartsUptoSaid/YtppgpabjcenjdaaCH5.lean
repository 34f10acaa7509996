/-
  An environment among the arguments.
-/
import Derived.Test.YtppgpabjcenjdaaCG1
import Derived.Test.YtppgpabjcenjdaaCK1

namespace Go.Proofs.Ytppgpabjcenjdaa

open Go Go.AI

structure Ct where
  nm : List UInt8
  ty : Tm

mutual
inductive Tr where
  | mk (k : Int) (b : Tm) (v : Int) (bs : List Br)
inductive Br where
  | mk (c : List UInt8) (a : Bool) (t : Tr)
end

structure Fu where
  nm : List UInt8
  ty : Tm
  ar : Int
  tr : Tr

structure Dc where
  k : Int
  nm : List UInt8
  ps : Int
  ty : Tm
  va : Tm
  fx : Int
  cs : List Ct
  rp : Int
  rt : Tm
  rr : List Tm
  fs : List Fu
def Ct.cells (c : Ct) : List PV := sP c.nm :: c.ty.cells
abbrev bP (b : Bool) : PV := .prim (.bool b)

mutual
def Tr.cells : Tr → List PV
  | .mk k b v bs => iP k :: (b.cells ++ [iP v, .sl 10 (brPs bs)])
def Br.cells : Br → List PV
  | .mk c a t => sP c :: bP a :: t.cells
def brPs : List Br → List (List PV)
  | [] => []
  | b :: bs => b.cells :: brPs bs
end
theorem brPs_eq : ∀ l : List Br, brPs l = l.map Br.cells
  | [] => by simp [brPs]
  | b :: l => by simp [brPs, brPs_eq l]
def Fu.cells (f : Fu) : List PV := sP f.nm :: (f.ty.cells ++ (iP f.ar :: f.tr.cells))
def Dc.cells (d : Dc) : List PV := iP d.k :: sP d.nm :: iP d.ps :: (d.ty.cells ++ (d.va.cells ++ (iP d.fx :: .sl 6 (d.cs.map Ct.cells) :: iP d.rp :: (d.rt.cells ++ [.sl 5 (tmPs d.rr), .sl 15 (d.fs.map Fu.cells)]))))
def Dc.av (d : Dc) : AV := .agg (d.cells.map .p)
def Tr.av (t : Tr) : AV := .agg (t.cells.map .p)
abbrev envA (env : List Dc) : AV := .p (.sl 23 (env.map Dc.cells))
theorem ct_cells_len (c : Ct) : c.cells.length = 6 := by simp [Ct.cells]
theorem tr_cells_len (t : Tr) : t.cells.length = 8 := by cases t; simp [Tr.cells]
theorem br_cells_len (b : Br) : b.cells.length = 10 := by cases b; simp [Br.cells, tr_cells_len]
theorem fu_cells_len (f : Fu) : f.cells.length = 15 := by simp [Fu.cells, tr_cells_len]
theorem dc_cells_len (d : Dc) : d.cells.length = 23 := by simp [Dc.cells]
def Tm.good (t : Tm) : Prop := t.size ≤ 1048576 ∧ t.fit ∧ t.lvs

mutual
def Tr.size : Tr → Nat
  | .mk _ _ _ bs => 1 + Br.sizes bs
def Br.size : Br → Nat
  | .mk _ _ t => 1 + t.size
def Br.sizes : List Br → Nat
  | [] => 0
  | b :: bs => b.size + Br.sizes bs
end

mutual
def Tr.good : Tr → Prop
  | .mk _ b _ bs => b.good ∧ bs.length ≤ 1048576 ∧ Br.goods bs
def Br.good : Br → Prop
  | .mk _ _ t => t.good
def Br.goods : List Br → Prop
  | [] => True
  | b :: bs => b.good ∧ Br.goods bs
end
theorem Br.goods_at {l : List Br} (h : Br.goods l) : ∀ b ∈ l, b.good := by
  induction l with
  | nil => intro b hb; cases hb
  | cons x l ih =>
    simp only [Br.goods] at h
    intro b hb
    cases List.mem_cons.1 hb with
    | inl e => subst e; exact h.1
    | inr e => exact ih h.2 b e
theorem br_size_at {l : List Br} {b : Br} (h : b ∈ l) : b.size ≤ Br.sizes l := by
  induction l with
  | nil => cases h
  | cons x l ih =>
    simp only [Br.sizes]
    rcases List.mem_cons.1 h with rfl | h
    · omega
    · have := ih h; omega
def Fu.good (f : Fu) : Prop := f.ty.good ∧ f.tr.good

structure Dc.good (d : Dc) : Prop where
  ty : d.ty.good
  va : d.va.good
  rt : d.rt.good
  csl : d.cs.length ≤ 1048576
  cs : ∀ c ∈ d.cs, c.ty.good
  rrl : d.rr.length ≤ 1048576
  rr : ∀ t ∈ d.rr, t.good
  fsl : d.fs.length ≤ 1048576
  fs : ∀ f ∈ d.fs, f.good
def Env.good (env : List Dc) : Prop := env.length ≤ 1048576 ∧ ∀ d ∈ env, d.good

end Go.Proofs.Ytppgpabjcenjdaa

namespace Go.Proofs.Ytppgpabjcenjdaa

open Go Go.AI

open Rows (uptoBulk uptoBulkAll)

open Go.ChangeShapes Go.WideShapes Go.ChangeAt Go.RowKit

section

variable {H : Type} {enc : TypeId × Value → H} {W : World} {sp : Nat → Bool} {held : Bool}
theorem cells130 : Try.prog.cellsOf 130 = 23 := by kernel_rfl
theorem cells177 : Try.prog.cellsOf 177 = 6 := by kernel_rfl
theorem cells240 : Try.prog.cellsOf 240 = 8 := by kernel_rfl
theorem cells242 : Try.prog.cellsOf 242 = 15 := by kernel_rfl
theorem cells261 : Try.prog.cellsOf 261 = 10 := by kernel_rfl
theorem GL_all {α : Type} {G : α → DataW H → Prop} {Q : α → Prop} (hq : ∀ x d, G x d → uptoBulk d ≤ 1048576 → Q x) {xs : List α} {ds : List (DataW H)} (h : GL G xs ds) (hb : uptoBulkAll ds ≤ 1048576) : xs.length ≤ 1048576 ∧ ∀ x ∈ xs, Q x := by
  refine ⟨by have := GL_len h; have := length_le ds; omega, fun x hx => ?_⟩
  obtain ⟨d, hd, hg⟩ := GL_mem h x hx
  have := part_le hd
  exact hq x d hg (by omega)
theorem slice_all {α : Type} {G : α → DataW H → Prop} {Q : α → Prop} (hq : ∀ x d, G x d → uptoBulk d ≤ 1048576 → Q x) {xs : List α} {x : DataW H} (h : (xs = [] ∧ x = .nil) ∨ ∃ elems rest, x = .slice elems rest ∧ GL G xs elems) (hb : uptoBulk x ≤ 1048576) : xs.length ≤ 1048576 ∧ ∀ x ∈ xs, Q x := by
  rcases h with ⟨rfl, _⟩ | ⟨elems, rest, rfl, hG⟩
  · simp
  · simp only [uptoBulk] at hb
    exact GL_all hq hG (by omega)
theorem open_s {n : Nat} {cs : List Value} {x : DataW H × List MemPlace} (h : DataW.trod enc Try.prog W 0 sp held n 9 cs = some x) : ∃ (s : List UInt8) (v : Value), cs = [v] ∧ RepP (roAll W) W (sP s) v := by
  obtain ⟨s, rfl, _⟩ := DataW.trod_string Try.underlying9 h
  exact ⟨s.data.toList, _, rfl, by simp [RepP, isPrim]⟩
theorem open_b {n : Nat} {cs : List Value} {x : DataW H × List MemPlace} (h : DataW.trod enc Try.prog W 0 sp held n 4 cs = some x) : ∃ b : Bool, cs = [.bool b] ∧ RepP (roAll W) W (bP b) (.bool b) := by
  obtain ⟨b, rfl, _⟩ := DataW.trod_bool Try.underlying4 h
  exact ⟨b, rfl, by simp [RepP, isPrim]⟩
theorem open_t {n : Nat} {cs : List Value} {x : DataW H × List MemPlace} (h : DataW.trod enc Try.prog W 0 sp held n 25 cs = some x) : ∃ t : Tm, RepL (roAll W) W (t.cells.map .p) cs ∧ (uptoBulk x.1 ≤ 1048576 → t.good) := by
  obtain ⟨t, ht, hg⟩ := open_tm n n cs x (Nat.le_refl _) h
  exact ⟨t, ht, fun hb => by have := hg hb; exact ⟨by omega, this.2⟩⟩
def GCt (c : Ct) (d : DataW H) : Prop := uptoBulk d ≤ 1048576 → c.ty.good
set_option maxRecDepth 8000 in
theorem open_ct {n : Nat} {cs : List Value} {x : DataW H × List MemPlace} (h : DataW.trod enc Try.prog W 0 sp held n 177 cs = some x) : ∃ c : Ct, RepL (roAll W) W (c.cells.map .p) cs ∧ GCt c x.1 := by
  obtain ⟨xs, m, rfl, rfl, hl, hlen, hf⟩ := DataW.trod_struct Try.underlying177 h
  rw [cells177] at hl
  obtain ⟨c0, c1, c2, c3, c4, c5, rfl⟩ : ∃ a b c d e f, cs = [a, b, c, d, e, f] := by match cs, hl with | [a, b, c, d, e, f], _ => exact ⟨a, b, c, d, e, f, rfl⟩
  obtain ⟨x0, x1, rfl⟩ : ∃ a b, xs = [a, b] := by match xs, hlen with | [a, b], _ => exact ⟨a, b, rfl⟩
  have h0 := hf 0 _ rfl
  have h1 := hf 1 _ rfl
  simp only [List.getElem?_cons_zero, List.getElem?_cons_succ] at h0 h1
  obtain ⟨s, v, e0, r0⟩ := open_s h0
  obtain ⟨t, r1, g1⟩ := open_t h1
  injection e0 with e0; subst e0
  refine ⟨⟨s, t⟩, ?_, fun hb => ?_⟩
  · simp only [Ct.cells, List.map_cons, RepL, Rep]
    exact ⟨_, _, rfl, r0, r1⟩
  · simp only [List.map_cons, List.map_nil, uptoBulk, uptoBulkAll] at hb
    exact g1 (by omega)
def GTr (t : Tr) (d : DataW H) : Prop := uptoBulk d ≤ 1048576 → t.good
def GBr (b : Br) (d : DataW H) : Prop := uptoBulk d ≤ 1048576 → b.good
theorem goods_of : ∀ {l : List Br}, (∀ b ∈ l, b.good) → Br.goods l
  | [], _ => trivial
  | b :: l, h => by
    simp only [Br.goods]
    exact ⟨h b (by simp), goods_of fun x hx => h x (List.mem_cons_of_mem _ hx)⟩
set_option maxRecDepth 8000 in
theorem open_tr (N : Nat) : ∀ (n : Nat) (cs : List Value) (x : DataW H × List MemPlace), n ≤ N → DataW.trod enc Try.prog W 0 sp held n 240 cs = some x →
    ∃ t : Tr, RepL (roAll W) W (t.cells.map .p) cs ∧ GTr t x.1 := by
  induction N with
  | zero => intro n cs x hn h; obtain rfl : n = 0 := by omega
            simp [DataW.trod] at h
  | succ N ih =>
  intro n cs x hn h
  obtain ⟨xs, m, rfl, rfl, hl, hlen, hf⟩ := DataW.trod_struct Try.underlying240 h
  rw [cells240] at hl
  obtain ⟨c0, c1, c2, c3, c4, c5, c6, c7, rfl⟩ : ∃ a b c d e f g h, cs = [a, b, c, d, e, f, g, h] := by match cs, hl with | [a, b, c, d, e, f, g, h], _ => exact ⟨a, b, c, d, e, f, g, h, rfl⟩
  obtain ⟨x0, x1, x2, x3, rfl⟩ : ∃ a b c d, xs = [a, b, c, d] := by match xs, hlen with | [a, b, c, d], _ => exact ⟨a, b, c, d, rfl⟩
  have h0 := hf 0 _ rfl
  have h1 := hf 1 _ rfl
  have h2 := hf 2 _ rfl
  have h3 := hf 3 _ rfl
  simp only [List.getElem?_cons_zero, List.getElem?_cons_succ] at h0 h1 h2 h3
  obtain ⟨k, e0, r0, _, _⟩ := open_i h0
  obtain ⟨b, r1, g1⟩ := open_t h1
  obtain ⟨v, e2, r2, _, _⟩ := open_i h2
  obtain ⟨bs, w, e3, r3, hG3⟩ := open_slice (α := Br) Try.underlying238 cells261 (by decide) Br.cells GBr br_cells_len (fun m' hm cs y hy => by
    obtain ⟨xs, m2, rfl, hy1, hl, hlen, hf⟩ := DataW.trod_struct Try.underlying261 hy
    rw [cells261] at hl
    obtain ⟨d0, d1, d2, d3, d4, d5, d6, d7, d8, d9, rfl⟩ : ∃ a b c d e f g h i j, cs = [a, b, c, d, e, f, g, h, i, j] := by match cs, hl with | [a, b, c, d, e, f, g, h, i, j], _ => exact ⟨a, b, c, d, e, f, g, h, i, j, rfl⟩
    obtain ⟨y0, y1, y2, rfl⟩ : ∃ a b c, xs = [a, b, c] := by match xs, hlen with | [a, b, c], _ => exact ⟨a, b, c, rfl⟩
    have k0 := hf 0 _ rfl
    have k1 := hf 1 _ rfl
    have k2 := hf 2 _ rfl
    simp only [List.getElem?_cons_zero, List.getElem?_cons_succ] at k0 k1 k2
    obtain ⟨s, v, f0, q0⟩ := open_s k0
    obtain ⟨bo, f1, q1⟩ := open_b k1
    obtain ⟨t, q2, g2⟩ := ih m2 _ _ (by omega) k2
    injection f0 with f0; injection f1 with f1; subst f0; subst f1
    refine ⟨.mk s bo t, ?_, fun hb => ?_⟩
    · simp only [Br.cells, List.map_cons, RepL, Rep]
      exact ⟨_, _, rfl, q0, _, _, rfl, q1, q2⟩
    · rw [hy1] at hb
      simp only [List.map_cons, List.map_nil, uptoBulk, uptoBulkAll] at hb
      simp only [Br.good]
      exact g2 (by omega)) h3
  injection e0 with e0; injection e2 with e2; injection e3 with e3
  subst e0; subst e2; subst e3
  refine ⟨.mk k b v bs, ?_, fun hb => ?_⟩
  · simp only [Tr.cells, brPs_eq]
    show RepL (roAll W) W (.p (iP k) :: List.map AV.p (b.cells ++ [iP v, .sl 10 (bs.map Br.cells)])) (_ :: ([c1, c2, c3, c4, c5] ++ [_, _]))
    rw [List.map_append]
    simp only [RepL, Rep]
    refine ⟨_, _, rfl, r0, RepL.append r1 ?_⟩
    simp only [List.map_cons, List.map_nil, RepL, Rep]
    exact ⟨_, _, rfl, r2, _, _, rfl, r3, rfl⟩
  · simp only [List.map_cons, List.map_nil, uptoBulk, uptoBulkAll] at hb
    simp only [Tr.good]
    have h3 := slice_all (Q := Br.good) (fun x d hg hb => hg hb) hG3 (by omega)
    exact ⟨g1 (by omega), h3.1, goods_of h3.2⟩
def GFu (f : Fu) (d : DataW H) : Prop := uptoBulk d ≤ 1048576 → f.good
set_option maxRecDepth 8000 in
theorem open_fu {n : Nat} {cs : List Value} {x : DataW H × List MemPlace} (h : DataW.trod enc Try.prog W 0 sp held n 242 cs = some x) : ∃ f : Fu, RepL (roAll W) W (f.cells.map .p) cs ∧ GFu f x.1 := by
  obtain ⟨xs, m, rfl, rfl, hl, hlen, hf⟩ := DataW.trod_struct Try.underlying242 h
  rw [cells242] at hl
  obtain ⟨c0, c1, c2, c3, c4, c5, c6, c7, c8, c9, c10, c11, c12, c13, c14, rfl⟩ : ∃ a b c d e f g h i j k l m n o, cs = [a, b, c, d, e, f, g, h, i, j, k, l, m, n, o] := by match cs, hl with | [a, b, c, d, e, f, g, h, i, j, k, l, m, n, o], _ => exact ⟨a, b, c, d, e, f, g, h, i, j, k, l, m, n, o, rfl⟩
  obtain ⟨x0, x1, x2, x3, rfl⟩ : ∃ a b c d, xs = [a, b, c, d] := by match xs, hlen with | [a, b, c, d], _ => exact ⟨a, b, c, d, rfl⟩
  have h0 := hf 0 _ rfl
  have h1 := hf 1 _ rfl
  have h2 := hf 2 _ rfl
  have h3 := hf 3 _ rfl
  simp only [List.getElem?_cons_zero, List.getElem?_cons_succ] at h0 h1 h2 h3
  obtain ⟨s, v, e0, r0⟩ := open_s h0
  obtain ⟨t, r1, g1⟩ := open_t h1
  obtain ⟨a, e2, r2, _, _⟩ := open_i h2
  obtain ⟨tr, r3, g3⟩ := open_tr m m _ _ (Nat.le_refl _) h3
  injection e0 with e0; injection e2 with e2; subst e0; subst e2
  refine ⟨⟨s, t, a, tr⟩, ?_, fun hb => ?_⟩
  · simp only [Fu.cells]
    show RepL (roAll W) W (.p (sP s) :: List.map AV.p (t.cells ++ (iP a :: tr.cells))) (_ :: ([c1, c2, c3, c4, c5] ++ (_ :: [c7, c8, c9, c10, c11, c12, c13, c14])))
    rw [List.map_append]
    simp only [RepL, Rep]
    refine ⟨_, _, rfl, r0, RepL.append r1 ?_⟩
    simp only [List.map_cons, RepL, Rep]
    exact ⟨_, _, rfl, r2, r3⟩
  · simp only [List.map_cons, List.map_nil, uptoBulk, uptoBulkAll] at hb
    exact ⟨g1 (by omega), g3 (by omega)⟩
def GDc (d : Dc) (x : DataW H) : Prop := uptoBulk x ≤ 1048576 → d.good
set_option maxRecDepth 8000 in
theorem open_dc {n : Nat} {cs : List Value} {x : DataW H × List MemPlace} (h : DataW.trod enc Try.prog W 0 sp held n 130 cs = some x) : ∃ d : Dc, RepL (roAll W) W (d.cells.map .p) cs ∧ GDc d x.1 := by
  obtain ⟨xs, m, rfl, rfl, hl, hlen, hf⟩ := DataW.trod_struct Try.underlying130 h
  rw [cells130] at hl
  obtain ⟨c0, c1, c2, c3, c4, c5, c6, c7, c8, c9, c10, c11, c12, c13, c14, c15, c16, c17, c18, c19, c20, c21, c22, rfl⟩ : ∃ a b c d e f g h i j k l m n o p q r s t u v w, cs = [a, b, c, d, e, f, g, h, i, j, k, l, m, n, o, p, q, r, s, t, u, v, w] := by
    match cs, hl with | [a, b, c, d, e, f, g, h, i, j, k, l, m, n, o, p, q, r, s, t, u, v, w], _ => exact ⟨a, b, c, d, e, f, g, h, i, j, k, l, m, n, o, p, q, r, s, t, u, v, w, rfl⟩
  obtain ⟨x0, x1, x2, x3, x4, x5, x6, x7, x8, rfl⟩ : ∃ a b c d e f g h i, xs = [a, b, c, d, e, f, g, h, i] := by match xs, hlen with | [a, b, c, d, e, f, g, h, i], _ => exact ⟨a, b, c, d, e, f, g, h, i, rfl⟩
  have h0 := hf 0 _ rfl
  have h1 := hf 1 _ rfl
  have h2 := hf 2 _ rfl
  have h3 := hf 3 _ rfl
  have h4 := hf 4 _ rfl
  have h5 := hf 5 _ rfl
  have h6 := hf 6 _ rfl
  have h7 := hf 7 _ rfl
  have h8 := hf 8 _ rfl
  simp only [List.getElem?_cons_zero, List.getElem?_cons_succ] at h0 h1 h2 h3 h4 h5 h6 h7 h8
  obtain ⟨k, e0, r0, _, _⟩ := open_i h0
  obtain ⟨nm, w1, e1, r1⟩ := open_s h1
  obtain ⟨ps, e2, r2, _, _⟩ := open_i h2
  obtain ⟨ty, r3, g3⟩ := open_t h3
  obtain ⟨va, r4, g4⟩ := open_t h4
  obtain ⟨fx, e5, r5, _, _⟩ := open_i h5
  obtain ⟨ct, w6, e6, r6, hG6⟩ := open_slice (α := Ct) Try.underlying125 cells177 (by decide) Ct.cells GCt ct_cells_len (fun m' _ cs y hy => open_ct hy) h6
  obtain ⟨fu, w8, e8, r8, hG8⟩ := open_slice (α := Fu) Try.underlying128 cells242 (by decide) Fu.cells GFu fu_cells_len (fun m' _ cs y hy => open_fu hy) h8
  obtain ⟨zs, m7, hm7, hx7, hl7, hlen7, hf7⟩ := DataW.trod_struct Try.underlying127 h7
  obtain ⟨z0, z1, z2, rfl⟩ : ∃ a b c, zs = [a, b, c] := by match zs, hlen7 with | [a, b, c], _ => exact ⟨a, b, c, rfl⟩
  have k0 := hf7 0 _ rfl
  have k1 := hf7 1 _ rfl
  have k2 := hf7 2 _ rfl
  simp only [List.getElem?_cons_zero, List.getElem?_cons_succ] at k0 k1 k2
  obtain ⟨rp, f0, q0, _, _⟩ := open_i k0
  obtain ⟨rt, q1, g1⟩ := open_t k1
  obtain ⟨rr, w2, f2, q2, hG2⟩ := open_slice (α := Tm) Try.underlying23 cells25 (by decide) Tm.cells GTm (fun t => by cases t; rfl) (fun m' _ cs y hy => open_tm m' m' cs y (Nat.le_refl _) hy) k2
  injection e0 with e0; injection e1 with e1; injection e2 with e2; injection e5 with e5; injection e6 with e6; injection e8 with e8; injection f0 with f0; injection f2 with f2
  subst e0; subst e1; subst e2; subst e5; subst e6; subst e8; subst f0; subst f2
  refine ⟨⟨k, nm, ps, ty, va, fx, ct, rp, rt, rr, fu⟩, ?_, fun hb => ?_⟩
  · simp only [Dc.cells]
    show RepL (roAll W) W (.p (iP k) :: .p (sP nm) :: .p (iP ps) :: List.map AV.p (ty.cells ++ (va.cells ++ (iP fx :: .sl 6 (ct.map Ct.cells) :: iP rp :: (rt.cells ++ [.sl 5 (tmPs rr), .sl 15 (fu.map Fu.cells)])))))
      (_ :: _ :: _ :: ([c3, c4, c5, c6, c7] ++ ([c8, c9, c10, c11, c12] ++ (_ :: _ :: _ :: ([c16, c17, c18, c19, c20] ++ [_, _])))))
    rw [List.map_append, List.map_append]
    simp only [RepL, Rep]
    refine ⟨_, _, rfl, r0, _, _, rfl, r1, _, _, rfl, r2, RepL.append r3 (RepL.append r4 ?_)⟩
    simp only [List.map_cons, List.map_append, RepL, Rep]
    refine ⟨_, _, rfl, r5, _, _, rfl, r6, _, _, rfl, q0, RepL.append q1 ?_⟩
    simp only [List.map_nil, RepL, Rep, tmPs_eq]
    exact ⟨_, _, rfl, q2, _, _, rfl, r8, rfl⟩
  · simp only [List.map_cons, List.map_nil, uptoBulk, uptoBulkAll] at hb
    have hb7 : uptoBulk x7.1 = uptoBulk (DataW.agg (List.map (·.1) [z0, z1, z2])) := by rw [hx7]
    simp only [List.map_cons, List.map_nil, uptoBulk, uptoBulkAll] at hb7
    have a6 := slice_all (Q := fun c : Ct => c.ty.good) (fun x d hg hb => hg hb) hG6 (by omega)
    have a8 := slice_all (Q := Fu.good) (fun x d hg hb => hg hb) hG8 (by omega)
    have a2 := slice_all (Q := Tm.good) (fun x d hg hb => by have := hg hb; exact ⟨by omega, this.2⟩) hG2 (by omega)
    exact ⟨g3 (by omega), g4 (by omega), g1 (by omega), a6.1, a6.2, a2.1, a2.2, a8.1, a8.2⟩
set_option maxRecDepth 8000 in
theorem arg_env {v : Value} {d : DataW H} {p : List MemPlace} {base : Nat}
    (hv : Value.okWide Try.prog W .any base 45 v) (h : DataW.Trod enc Try.prog W 0 (fun _ => true) true 45 v d p) : ∃ env : List Dc, Rep (roAll W) W (envA env) v ∧ (uptoBulk d ≤ 1048576 → Env.good env) := by
  obtain ⟨a, len, cap, rfl⟩ := okWide_slice Try.underlying45 hv
  obtain ⟨n, hn⟩ := h
  obtain ⟨xs, v', e, r, hG⟩ := open_slice (α := Dc) Try.underlying45 cells130 (by decide) Dc.cells GDc dc_cells_len (fun m' _ cs y hy => open_dc hy) hn
  simp [Value.cells] at e
  subst e
  exact ⟨xs, by simp only [Rep]; exact r, fun hb => slice_all (Q := Dc.good) (fun x d hg hb => hg hb) hG hb⟩

end

end Go.Proofs.Ytppgpabjcenjdaa
