import Derived.ChangeMaps5
import Derived.Test.YtcfcolkbeelegaaGreatSX0
import Derived.Test.YtcfcolkbeelegaaGreatSFD
set_option maxRecDepth 8000

namespace Go.Proofs.YtcfcolkbeelegaaGreat

open Go Go.AI

open Rows (uptoBulk uptoBulkAll)

open Go.ChangeShapes Go.WideShapes Go.ChangeAt Go.RowKit

section

variable {H : Type} {enc : TypeId × Value → H} {W : World} {sp : Nat → Bool} {held : Bool}
theorem cells63 : Tryz.prog.cellsOf 63 = 23 := by kernel_rfl
theorem cells141 : Tryz.prog.cellsOf 141 = 6 := by kernel_rfl
theorem cells265 : Tryz.prog.cellsOf 265 = 8 := by kernel_rfl
theorem cells267 : Tryz.prog.cellsOf 267 = 15 := by kernel_rfl
theorem cells291 : Tryz.prog.cellsOf 291 = 10 := by kernel_rfl
theorem GL_all {α : Type} {G : α → DataW H → Prop} {Q : α → Prop} (hq : ∀ x d, G x d → uptoBulk d ≤ 1048576 → Q x) {xs : List α} {ds : List (DataW H)} (h : GL G xs ds) (hb : uptoBulkAll ds ≤ 1048576) : xs.length ≤ 1048576 ∧ ∀ x ∈ xs, Q x := by
 refine ⟨by have := GL_len h; have := length_le ds; omega, fun x hx => ?_⟩
 obtain ⟨d, hd, hg⟩ := GL_mem h x hx
 have := part_le hd
 exact hq x d hg (by omega)
theorem slice_all {α : Type} {G : α → DataW H → Prop} {Q : α → Prop} (hq : ∀ x d, G x d → uptoBulk d ≤ 1048576 → Q x) {xs : List α} {x : DataW H} (h : (xs = [] ∧ x = .nil) ∨ ∃ elems rest, x = .slice elems rest ∧ GL G xs elems) (hb : uptoBulk x ≤ 1048576) : xs.length ≤ 1048576 ∧ ∀ x ∈ xs, Q x := by
 rcases h with ⟨rfl, _⟩ | ⟨elems, rest, rfl, hG⟩
 ·simp
 ·simp only [uptoBulk] at hb
  exact GL_all hq hG (by omega)
theorem open_s {n : Nat} {cs : List Value} {x : DataW H × List MemPlace} (h : DataW.trod enc Tryz.prog W 0 sp held n 9 cs = some x) : ∃ (s : List UInt8) (v : Value), cs = [v] ∧ RepP (roAll W) W (sP s) v := by
 obtain ⟨s, rfl, _⟩ := DataW.trod_string Tryz.underlying9 h
 exact ⟨s.data.toList, _, rfl, by simp [RepP, isPrim]⟩
theorem open_b {n : Nat} {cs : List Value} {x : DataW H × List MemPlace} (h : DataW.trod enc Tryz.prog W 0 sp held n 4 cs = some x) : ∃ b : Bool, cs = [.bool b] ∧ RepP (roAll W) W (bP b) (.bool b) := by
 obtain ⟨b, rfl, _⟩ := DataW.trod_bool Tryz.underlying4 h
 exact ⟨b, rfl, by simp [RepP, isPrim]⟩
theorem open_t {n : Nat} {cs : List Value} {x : DataW H × List MemPlace} (h : DataW.trod enc Tryz.prog W 0 sp held n 25 cs = some x) : ∃ t : Tm, RepL (roAll W) W (t.cells.map .p) cs ∧ (uptoBulk x.1 ≤ 1048576 → t.good) := by
 obtain ⟨t, ht, hg⟩ := open_tm n n cs x (Nat.le_refl _) h
 exact ⟨t, ht, fun hb => by have := hg hb; exact ⟨by omega, this.2⟩⟩
def GCt (c : Ct) (d : DataW H) : Prop := uptoBulk d ≤ 1048576 → c.ty.good
theorem open_ct {n : Nat} {cs : List Value} {x : DataW H × List MemPlace} (h : DataW.trod enc Tryz.prog W 0 sp held n 141 cs = some x) : ∃ c : Ct, RepL (roAll W) W (c.cells.map .p) cs ∧ GCt c x.1 := by
 obtain ⟨xs, m, rfl, rfl, hl, hlen, hf⟩ := DataW.trod_struct Tryz.underlying141 h
 rw [cells141] at hl
 obtain ⟨c0, c1, c2, c3, c4, c5, rfl⟩ : ∃ a b c d e f, cs = [a, b, c, d, e, f] := by match cs, hl with | [a, b, c, d, e, f], _ => exact ⟨a, b, c, d, e, f, rfl⟩
 obtain ⟨x0, x1, rfl⟩ : ∃ a b, xs = [a, b] := by match xs, hlen with | [a, b], _ => exact ⟨a, b, rfl⟩
 have h0 := hf 0 _ rfl
 have h1 := hf 1 _ rfl
 simp only [List.getElem?_cons_zero, List.getElem?_cons_succ] at h0 h1
 obtain ⟨s, v, e0, r0⟩ := open_s h0
 obtain ⟨t, r1, g1⟩ := open_t h1
 injection e0 with e0; subst e0
 refine ⟨⟨s, t⟩, ?_, fun hb => ?_⟩
 ·simp only [Ct.cells, List.map_cons, RepL, Rep]
  exact ⟨_, _, rfl, r0, r1⟩
 ·simp only [List.map_cons, List.map_nil, uptoBulk, uptoBulkAll] at hb
  exact g1 (by omega)
def GTr (t : Tr) (d : DataW H) : Prop := uptoBulk d ≤ 1048576 → t.good
def GBr (b : Br) (d : DataW H) : Prop := uptoBulk d ≤ 1048576 → b.good
theorem goods_of : ∀ {l : List Br}, (∀ b ∈ l, b.good) → Br.goods l
 | [], _ => trivial
 | b :: l, h => by
  simp only [Br.goods]
  exact ⟨h b (by simp), goods_of fun x hx => h x (List.mem_cons_of_mem _ hx)⟩
theorem open_tr (N : Nat) : ∀ (n : Nat) (cs : List Value) (x : DataW H × List MemPlace), n ≤ N → DataW.trod enc Tryz.prog W 0 sp held n 265 cs = some x →
  ∃ t : Tr, RepL (roAll W) W (t.cells.map .p) cs ∧ GTr t x.1 := by
 induction N with
 | zero => intro n cs x hn h; obtain rfl : n = 0 := by omega
           simp [DataW.trod] at h
 | succ N ih =>
 intro n cs x hn h
 obtain ⟨xs, m, rfl, rfl, hl, hlen, hf⟩ := DataW.trod_struct Tryz.underlying265 h
 rw [cells265] at hl
 obtain ⟨c0, c1, c2, c3, c4, c5, c6, c7, rfl⟩ : ∃ a b c d e f g h, cs = [a, b, c, d, e, f, g, h] := by match cs, hl with | [a, b, c, d, e, f, g, h], _ => exact ⟨a, b, c, d, e, f, g, h, rfl⟩
 obtain ⟨x0, x1, x2, x3, rfl⟩ : ∃ a b c d, xs = [a, b, c, d] := by match xs, hlen with | [a, b, c, d], _ => exact ⟨a, b, c, d, rfl⟩
 have h0 := hf 0 _ rfl
 have h1 := hf 1 _ rfl
 have h2 := hf 2 _ rfl
 have h3 := hf 3 _ rfl
 simp only [List.getElem?_cons_zero, List.getElem?_cons_succ] at h0 h1 h2 h3
 obtain ⟨k, e0, r0, _, _⟩ := open_i h0
 obtain ⟨b, r1, g1⟩ := open_t h1
 obtain ⟨v, e2, r2, _, _⟩ := open_i h2
 obtain ⟨bs, w, e3, r3, hG3⟩ := open_slice (α := Br) Tryz.underlying263 cells291 (by decide) Br.cells GBr br_cells_len (fun m' hm cs y hy => by
  obtain ⟨xs, m2, rfl, hy1, hl, hlen, hf⟩ := DataW.trod_struct Tryz.underlying291 hy
  rw [cells291] at hl
  obtain ⟨d0, d1, d2, d3, d4, d5, d6, d7, d8, d9, rfl⟩ : ∃ a b c d e f g h i j, cs = [a, b, c, d, e, f, g, h, i, j] := by match cs, hl with | [a, b, c, d, e, f, g, h, i, j], _ => exact ⟨a, b, c, d, e, f, g, h, i, j, rfl⟩
  obtain ⟨y0, y1, y2, rfl⟩ : ∃ a b c, xs = [a, b, c] := by match xs, hlen with | [a, b, c], _ => exact ⟨a, b, c, rfl⟩
  have k0 := hf 0 _ rfl
  have k1 := hf 1 _ rfl
  have k2 := hf 2 _ rfl
  simp only [List.getElem?_cons_zero, List.getElem?_cons_succ] at k0 k1 k2
  obtain ⟨s, v, f0, q0⟩ := open_s k0
  obtain ⟨bo, f1, q1⟩ := open_b k1
  obtain ⟨t, q2, g2⟩ := ih m2 _ _ (by omega) k2
  injection f0 with f0; injection f1 with f1; subst f0; subst f1
  refine ⟨.mk s bo t, ?_, fun hb => ?_⟩
  ·simp only [Br.cells, List.map_cons, RepL, Rep]
   exact ⟨_, _, rfl, q0, _, _, rfl, q1, q2⟩
  ·rw [hy1] at hb
   simp only [List.map_cons, List.map_nil, uptoBulk, uptoBulkAll] at hb
   simp only [Br.good]
   exact g2 (by omega)) h3
 injection e0 with e0; injection e2 with e2; injection e3 with e3
 subst e0; subst e2; subst e3
 refine ⟨.mk k b v bs, ?_, fun hb => ?_⟩
 ·simp only [Tr.cells, brPs_eq]
  show RepL (roAll W) W (.p (iP k) :: List.map AV.p (b.cells ++ [iP v, .sl 10 (bs.map Br.cells)])) (_ :: ([c1, c2, c3, c4, c5] ++ [_, _]))
  rw [List.map_append]
  simp only [RepL, Rep]
  refine ⟨_, _, rfl, r0, RepL.append r1 ?_⟩
  simp only [List.map_cons, List.map_nil, RepL, Rep]
  exact ⟨_, _, rfl, r2, _, _, rfl, r3, rfl⟩
 ·simp only [List.map_cons, List.map_nil, uptoBulk, uptoBulkAll] at hb
  simp only [Tr.good]
  have h3 := slice_all (Q := Br.good) (fun x d hg hb => hg hb) hG3 (by omega)
  exact ⟨g1 (by omega), h3.1, goods_of h3.2⟩
def GFu (f : Fu) (d : DataW H) : Prop := uptoBulk d ≤ 1048576 → f.good
theorem open_fu {n : Nat} {cs : List Value} {x : DataW H × List MemPlace} (h : DataW.trod enc Tryz.prog W 0 sp held n 267 cs = some x) : ∃ f : Fu, RepL (roAll W) W (f.cells.map .p) cs ∧ GFu f x.1 := by
 obtain ⟨xs, m, rfl, rfl, hl, hlen, hf⟩ := DataW.trod_struct Tryz.underlying267 h
 rw [cells267] at hl
 obtain ⟨c0, c1, c2, c3, c4, c5, c6, c7, c8, c9, c10, c11, c12, c13, c14, rfl⟩ : ∃ a b c d e f g h i j k l m n o, cs = [a, b, c, d, e, f, g, h, i, j, k, l, m, n, o] := by match cs, hl with | [a, b, c, d, e, f, g, h, i, j, k, l, m, n, o], _ => exact ⟨a, b, c, d, e, f, g, h, i, j, k, l, m, n, o, rfl⟩
 obtain ⟨x0, x1, x2, x3, rfl⟩ : ∃ a b c d, xs = [a, b, c, d] := by match xs, hlen with | [a, b, c, d], _ => exact ⟨a, b, c, d, rfl⟩
 have h0 := hf 0 _ rfl
 have h1 := hf 1 _ rfl
 have h2 := hf 2 _ rfl
 have h3 := hf 3 _ rfl
 simp only [List.getElem?_cons_zero, List.getElem?_cons_succ] at h0 h1 h2 h3
 obtain ⟨s, v, e0, r0⟩ := open_s h0
 obtain ⟨t, r1, g1⟩ := open_t h1
 obtain ⟨a, e2, r2, _, _⟩ := open_i h2
 obtain ⟨tr, r3, g3⟩ := open_tr m m _ _ (Nat.le_refl _) h3
 injection e0 with e0; injection e2 with e2; subst e0; subst e2
 refine ⟨⟨s, t, a, tr⟩, ?_, fun hb => ?_⟩
 ·simp only [Fu.cells]
  show RepL (roAll W) W (.p (sP s) :: List.map AV.p (t.cells ++ (iP a :: tr.cells))) (_ :: ([c1, c2, c3, c4, c5] ++ (_ :: [c7, c8, c9, c10, c11, c12, c13, c14])))
  rw [List.map_append]
  simp only [RepL, Rep]
  refine ⟨_, _, rfl, r0, RepL.append r1 ?_⟩
  simp only [List.map_cons, RepL, Rep]
  exact ⟨_, _, rfl, r2, r3⟩
 ·simp only [List.map_cons, List.map_nil, uptoBulk, uptoBulkAll] at hb
  exact ⟨g1 (by omega), g3 (by omega)⟩
def GDc (d : Dc) (x : DataW H) : Prop := uptoBulk x ≤ 1048576 → d.good
theorem open_dc {n : Nat} {cs : List Value} {x : DataW H × List MemPlace} (h : DataW.trod enc Tryz.prog W 0 sp held n 63 cs = some x) : ∃ d : Dc, RepL (roAll W) W (d.cells.map .p) cs ∧ GDc d x.1 := by
 obtain ⟨xs, m, rfl, rfl, hl, hlen, hf⟩ := DataW.trod_struct Tryz.underlying63 h
 rw [cells63] at hl
 obtain ⟨c0, c1, c2, c3, c4, c5, c6, c7, c8, c9, c10, c11, c12, c13, c14, c15, c16, c17, c18, c19, c20, c21, c22, rfl⟩ : ∃ a b c d e f g h i j k l m n o p q r s t u v w, cs = [a, b, c, d, e, f, g, h, i, j, k, l, m, n, o, p, q, r, s, t, u, v, w] := by
  match cs, hl with | [a, b, c, d, e, f, g, h, i, j, k, l, m, n, o, p, q, r, s, t, u, v, w], _ => exact ⟨a, b, c, d, e, f, g, h, i, j, k, l, m, n, o, p, q, r, s, t, u, v, w, rfl⟩
 obtain ⟨x0, x1, x2, x3, x4, x5, x6, x7, x8, rfl⟩ : ∃ a b c d e f g h i, xs = [a, b, c, d, e, f, g, h, i] := by match xs, hlen with | [a, b, c, d, e, f, g, h, i], _ => exact ⟨a, b, c, d, e, f, g, h, i, rfl⟩
 have h0 := hf 0 _ rfl
 have h1 := hf 1 _ rfl
 have h2 := hf 2 _ rfl
 have h3 := hf 3 _ rfl
 have h4 := hf 4 _ rfl
 have h5 := hf 5 _ rfl
 have h6 := hf 6 _ rfl
 have h7 := hf 7 _ rfl
 have h8 := hf 8 _ rfl
 simp only [List.getElem?_cons_zero, List.getElem?_cons_succ] at h0 h1 h2 h3 h4 h5 h6 h7 h8
 obtain ⟨k, e0, r0, _, _⟩ := open_i h0
 obtain ⟨nm, w1, e1, r1⟩ := open_s h1
 obtain ⟨ps, e2, r2, _, _⟩ := open_i h2
 obtain ⟨ty, r3, g3⟩ := open_t h3
 obtain ⟨va, r4, g4⟩ := open_t h4
 obtain ⟨fx, e5, r5, _, _⟩ := open_i h5
 obtain ⟨ct, w6, e6, r6, hG6⟩ := open_slice (α := Ct) Tryz.underlying58 cells141 (by decide) Ct.cells GCt ct_cells_len (fun m' _ cs y hy => open_ct hy) h6
 obtain ⟨fu, w8, e8, r8, hG8⟩ := open_slice (α := Fu) Tryz.underlying61 cells267 (by decide) Fu.cells GFu fu_cells_len (fun m' _ cs y hy => open_fu hy) h8
 obtain ⟨zs, m7, hm7, hx7, hl7, hlen7, hf7⟩ := DataW.trod_struct Tryz.underlying60 h7
 obtain ⟨z0, z1, z2, rfl⟩ : ∃ a b c, zs = [a, b, c] := by match zs, hlen7 with | [a, b, c], _ => exact ⟨a, b, c, rfl⟩
 have k0 := hf7 0 _ rfl
 have k1 := hf7 1 _ rfl
 have k2 := hf7 2 _ rfl
 simp only [List.getElem?_cons_zero, List.getElem?_cons_succ] at k0 k1 k2
 obtain ⟨rp, f0, q0, _, _⟩ := open_i k0
 obtain ⟨rt, q1, g1⟩ := open_t k1
 obtain ⟨rr, w2, f2, q2, hG2⟩ := open_slice (α := Tm) Tryz.underlying23 cells25 (by decide) Tm.cells GTm (fun t => by cases t; rfl) (fun m' _ cs y hy => open_tm m' m' cs y (Nat.le_refl _) hy) k2
 injection e0 with e0; injection e1 with e1; injection e2 with e2; injection e5 with e5; injection e6 with e6; injection e8 with e8; injection f0 with f0; injection f2 with f2
 subst e0; subst e1; subst e2; subst e5; subst e6; subst e8; subst f0; subst f2
 refine ⟨⟨k, nm, ps, ty, va, fx, ct, rp, rt, rr, fu⟩, ?_, fun hb => ?_⟩
 ·simp only [Dc.cells]
  show RepL (roAll W) W (.p (iP k) :: .p (sP nm) :: .p (iP ps) :: List.map AV.p (ty.cells ++ (va.cells ++ (iP fx :: .sl 6 (ct.map Ct.cells) :: iP rp :: (rt.cells ++ [.sl 5 (tmPs rr), .sl 15 (fu.map Fu.cells)])))))
   (_ :: _ :: _ :: ([c3, c4, c5, c6, c7] ++ ([c8, c9, c10, c11, c12] ++ (_ :: _ :: _ :: ([c16, c17, c18, c19, c20] ++ [_, _])))))
  rw [List.map_append, List.map_append]
  simp only [RepL, Rep]
  refine ⟨_, _, rfl, r0, _, _, rfl, r1, _, _, rfl, r2, RepL.append r3 (RepL.append r4 ?_)⟩
  simp only [List.map_cons, List.map_append, RepL, Rep]
  refine ⟨_, _, rfl, r5, _, _, rfl, r6, _, _, rfl, q0, RepL.append q1 ?_⟩
  simp only [List.map_nil, RepL, Rep, tmPs_eq]
  exact ⟨_, _, rfl, q2, _, _, rfl, r8, rfl⟩
 ·simp only [List.map_cons, List.map_nil, uptoBulk, uptoBulkAll] at hb
  have hb7 : uptoBulk x7.1 = uptoBulk (DataW.agg (List.map (·.1) [z0, z1, z2])) := by rw [hx7]
  simp only [List.map_cons, List.map_nil, uptoBulk, uptoBulkAll] at hb7
  have a6 := slice_all (Q := fun c : Ct => c.ty.good) (fun x d hg hb => hg hb) hG6 (by omega)
  have a8 := slice_all (Q := Fu.good) (fun x d hg hb => hg hb) hG8 (by omega)
  have a2 := slice_all (Q := Tm.good) (fun x d hg hb => by have := hg hb; exact ⟨by omega, this.2⟩) hG2 (by omega)
  exact ⟨g3 (by omega), g4 (by omega), g1 (by omega), a6.1, a6.2, a2.1, a2.2, a8.1, a8.2⟩
theorem arg_env {v : Value} {d : DataW H} {p : List MemPlace} {base : Nat}
  (hv : Value.okWide Tryz.prog W .any base 36 v) (h : DataW.Trod enc Tryz.prog W 0 (fun _ => true) true 36 v d p) : ∃ env : List Dc, Rep (roAll W) W (envA env) v ∧ (uptoBulk d ≤ 1048576 → Env.good env) := by
 obtain ⟨a, len, cap, rfl⟩ := okWide_slice Tryz.underlying36 hv
 obtain ⟨n, hn⟩ := h
 obtain ⟨xs, v', e, r, hG⟩ := open_slice (α := Dc) Tryz.underlying36 cells63 (by decide) Dc.cells GDc dc_cells_len (fun m' _ cs y hy => open_dc hy) hn
 simp [Value.cells] at e
 subst e
 exact ⟨xs, by simp only [Rep]; exact r, fun hb => slice_all (Q := Dc.good) (fun x d hg hb => hg hb) hG hb⟩

end

end Go.Proofs.YtcfcolkbeelegaaGreat

namespace Go.AI

open Go
def buf (sz : Nat) (es : List (List PV)) (m : Nat) : List AV := es.flatten.map .p ++ List.replicate (m * sz) .junk
theorem RepL.junks {E w} : ∀ (l : List Value), RepL E w (List.replicate l.length .junk) l
 | [] => by simp [RepL]
 | v :: l => by simp only [List.length_cons, List.replicate_succ, RepL]; exact ⟨v, l, rfl, by simp only [Rep], RepL.junks l⟩
theorem buf_len {sz : Nat} {es : List (List PV)} {m : Nat} (h : ∀ e ∈ es, e.length = sz) : (buf sz es m).length = (es.length + m) * sz := by
 unfold buf
 rw [List.length_append, List.length_map, flat_length h, List.length_replicate, Nat.add_mul]
theorem buf_under (n sz : Nat) (es : List (List PV)) (m : Nat) : AV.underL n (buf sz es m) = true := by
 have hj : ∀ k, AV.underL n (List.replicate k .junk) = true := by
  intro k
  induction k with
  | zero => simp [AV.underL]
  | succ k ih => simp only [List.replicate_succ, AV.underL, AV.under, ih]; rfl
 have ha : ∀ (xs ys : List AV), AV.underL n xs = true → AV.underL n ys = true → AV.underL n (xs ++ ys) = true := by
  intro xs ys h1 h2
  induction xs with
  | nil => exact h2
  | cons x xs ih => simp only [AV.underL, Bool.and_eq_true, List.cons_append] at h1 ⊢; exact ⟨h1.1, ih h1.2⟩
 refine ha _ _ ?_ (hj _)
 generalize es.flatten = l
 induction l with
 | nil => simp [AV.underL]
 | cons x l ih => simp only [List.map_cons, AV.underL, AV.under, ih]; rfl
theorem buf_put {sz : Nat} {es ys : List (List PV)} {m : Nat} (h : ∀ e ∈ es, e.length = sz) (hy : ∀ e ∈ ys, e.length = sz) (hm : ys.length ≤ m) :
  patch (buf sz es m) (es.length * sz) (ys.flatten.map .p) = buf sz (es ++ ys) (m - ys.length) := by
 have hle : (ys.flatten.map AV.p).length = ys.length * sz := by rw [List.length_map, flat_length hy]
 have h1 : (es.flatten.map AV.p).length = es.length * sz := by rw [List.length_map, flat_length h]
 have hsp : m * sz = ys.length * sz + (m - ys.length) * sz := by rw [← Nat.add_mul]; congr 1; omega
 unfold buf
 rw [← h1, ← Nat.add_zero ((es.flatten.map AV.p).length), patch_skip, hsp, ← List.replicate_append_replicate, patch_full _ _ _ (by rw [hle, List.length_replicate]), List.flatten_append, List.map_append, List.append_assoc]

section

variable {P : Program} {rd : Option Nat} {nb : Nat} {k : List It} {T : List AV} {h : Heap} {D : List AD} {Q : AX → List AV → Heap → List AD → Prop} {all : Array Oper} {o : Oper} {rest : List Oper}
theorem runOps_pre (b : List Oper) : ∀ (l : List Oper) (T : List AV) (h : Heap), runOps P all (fun l T h => Run P rd nb (.ops all (l ++ b) :: k) T h D Q) l T h → Run P rd nb (.ops all (l ++ b) :: k) T h D Q
 | [], T, h, r => r
 | o :: l, T, h, r => by
  simp only [runOps] at r
  split at r
  ·rename_i hw
   split at r
   ·rename_i x h' ho
    exact Run.op hw ho (runOps_pre b l _ _ r)
   ·exact r
  ·rename_i hw
   exact Run.off hw (runOps_pre b l _ _ r)
  ·exact r
theorem Run.opsPre (n : Nat) {l : List Oper} (r : ∀ K : List Oper → List AV → Heap → Prop, (∀ l' T h, Run P rd nb (.ops all (l' ++ l.drop n) :: k) T h D Q → K l' T h) → runOps P all K (l.take n) T h) : Run P rd nb (.ops all l :: k) T h D Q := by
 have := runOps_pre (P := P) (rd := rd) (nb := nb) (all := all) (k := k) (D := D) (Q := Q) (l.drop n) (l.take n) T h (r _ fun _ _ _ h => h)
 rwa [List.take_append_drop] at this
theorem Run.opR {R : AV → Heap → Prop} (hw : awanted all T o = some true) (hnd : ∀ c, o.op ≠ .defer c)
  (ho : ∀ E w a, St E w a T h D → ∃ x h' E' w' v, R x h' ∧ (execOp a.eval o).run P w = .ok (.value v) w' ∧ Rel E' (Heap.at h') w' ∧ Fresh E' h'.length ∧ Rep E' w' x v ∧ Fr E (Heap.at h) w E' (Heap.at h') w')
  (r : ∀ x h', R x h' → Run P rd nb (.ops all rest :: k) (tput T o.dst x) h' D Q) : Run P rd nb (.ops all (o :: rest) :: k) T h D Q := by
 intro E w a s
 obtain ⟨x, h', E', w', v, hR, hrun, hr, hf, hx, hfr⟩ := ho E w a s
 have s' : St E' w' (a.put o.dst v) (tput T o.dst x) h' D := (s.move hfr hr hf).put hx o.dst
 have := r x h' hR E' w' _ s'
 have hk := K_mono (P := P) (rd := rd) (Post.of_fr (Q := Q) hfr) (.ops all rest :: k) _ _ _ this
 show wpListIn (fen rd) 0 P all (K P rd (Post nb Q E h w) k) (o :: rest) a w
 simp only [wpListIn]
 rw [awanted_sound s hw]
 simp only [if_true]
 refine ⟨fun _ _ => trivial, ?_⟩
 rw [Oper.semAt_eq _ _ _ hnd, hrun]
 exact hk
theorem row_new {E : Env} {w : World} {sz c' : Nat} {es : List (List PV)} {vals zs : List Value} {e : TypeId} (r : Rel E h.at w) (hf : Fresh E h.length) (hv : RepL E w (es.flatten.map .p) vals) (hz : zs.length = (c' - es.length) * sz) :
  ∃ E', Rel E' (Heap.at (h ++ [some (.cells (buf sz es (c' - es.length)))])) (w.drew.alloc (.cells (List.toArray (vals ++ zs)) e (0, 0))) ∧ Fresh E' (h.length + 1) ∧
   Fr E h.at w E' (Heap.at (h ++ [some (.cells (buf sz es (c' - es.length)))])) (w.drew.alloc (.cells (List.toArray (vals ++ zs)) e (0, 0))) ∧ E'.g h.length = some w.heap.size := by
 have hb : RepL E w.drew (buf sz es (c' - es.length)) (vals ++ zs) := by
  unfold buf
  refine RepL.append (RepL.ext (E := E) (w := w) (E' := E) (w' := w.drew) ⟨fun _ _ h => h, fun _ _ _ => rfl, fun _ _ h => h, fun _ L h => ⟨L, h, Nat.le_refl _, fun _ => rfl⟩⟩ hv) ?_
  rw [← hz]
  exact RepL.junks zs
 have hd := r.of_heap (w' := w.drew) rfl rfl rfl
 obtain ⟨h1, h2, h3⟩ := hd.1.alloc hf hb e
 exact ⟨_, h1, h3, hd.2.trans h2, if_pos rfl⟩
theorem exec_append {a : Act} {s x : Operand} {t : TypeId} {v : Value} {w w' : World} (ho : o.op = .call ⟨.builtin .append, #[s, x], #[t, t]⟩) (hrun : (Builtin.append_ #[t, t] o.type #[a.eval s, a.eval x]).run P w = .ok v w') :
  (execOp a.eval o).run P w = .ok (.value v) w' := by
 simp only [execOp, ho, resolve, Sem.run_bind, Sem.run_pure, Result.andThen_ok, invoke]
 simp [builtin, hrun]
theorem Run.appendN {s x : Operand} {t e : TypeId} {ys : List (List PV)} {sz by_ : Nat} {z : List Value} (ho : o.op = .call ⟨.builtin .append, #[s, x], #[t, t]⟩) (hw : awanted all T o = some true) (he : elT P t = some e) (hsz : szT P e = some sz) (hby : byT P e = some by_) (hz : zeroT P e = some z)
  (hs : aev T s = .p (.prim (.slice none 0 0))) (hx : srcA (aev T x) = some ys) (hx2 : srcSz sz (aev T x) = true) (hpos : 0 < ys.length) (hb : ys.length * by_ ≤ 140737488355328) (hb2 : ys.length ≤ 9223372036854775807)
  (r : ∀ c', ys.length ≤ c' → Run P rd nb (.ops all rest :: k) (tput T o.dst (.sm h.length 0 ys.length c' sz)) (h ++ [some (.cells (buf sz ys (c' - ys.length)))]) D Q) : Run P rd nb (.ops all (o :: rest) :: k) T h D Q := by
 refine Run.opR (R := fun x h' => ∃ c', ys.length ≤ c' ∧ x = .sm h.length 0 ys.length c' sz ∧ h' = h ++ [some (.cells (buf sz ys (c' - ys.length)))]) hw (fun c hc => by rw [hc] at ho; cases ho) ?_ (by rintro x h' ⟨c', h1, rfl, rfl⟩; exact r c' h1)
 intro E w a st
 have hsr := aev_rep st s
 rw [hs] at hsr
 simp only [Rep, RepP] at hsr
 have hX := src_rep hx hx2 (aev_rep st x)
 simp only [RepP] at hX
 obtain ⟨ad, cx, hxv, _, hX⟩ := hX
 have hne : ys ≠ [] := by intro h0; rw [h0] at hpos; simp at hpos
 obtain ⟨b, off, rfl, hr⟩ := hX.resolve_left hne
 have hu := und_elT he
 obtain ⟨i, zv, hi, hzv, hzc, hzl, _⟩ := zeroT_parts hz
 have hisz : i.size = sz := by unfold szT at hsz; rw [hi] at hsz; simpa using hsz
 have hiby : i.bytes = by_ := by unfold byT at hby; rw [hi] at hby; simpa using hby
 have hyl := hr.length
 obtain ⟨news, n1, n2, n3⟩ := hr.values
 have hrun := run_append_nil (P := P) w t o.type e i zv hu hi hzv ⟨b, off, none⟩ ys.length cx news (by rw [n1, hisz]) (fun j v hj => by rw [addr_add]; exact n2 j v hj) hpos (by omega) (by rw [hiby]; omega)
 have hzs : ((Builtin.zeroCells zv.cells (grownCap w ys.length 0 e - ys.length)).toList).length = (grownCap w ys.length 0 e - ys.length) * sz := by
  rw [Array.length_toList, size_zeroCells, hzc]; simp [hzl, hisz]
 obtain ⟨E', g1, g2, g3, g4⟩ := row_new (h := h) (e := e) st.rel st.fresh n3 hzs
 refine ⟨_, _, E', _, .slice (some ⟨w.heap.size, 0, none⟩) ys.length (grownCap w ys.length 0 e), ⟨grownCap w ys.length 0 e, le_grownCap w _ 0 e, rfl, rfl⟩, ?_, g1, by simpa using g2, ?_, g3⟩
 ·have hq : List.toArray (news ++ (Builtin.zeroCells zv.cells (grownCap w ys.length 0 e - ys.length)).toList) = news.toArray ++ Builtin.zeroCells zv.cells (grownCap w ys.length 0 e - ys.length) := by
   apply Array.ext'; simp
  rw [hq]
  exact exec_append ho (by rw [hsr.1, hxv]; exact hrun)
 ·simp only [Rep]
  exact ⟨_, g4, rfl⟩
theorem Run.appendS {s x : Operand} {t e : TypeId} {es ys : List (List PV)} {id cap sz by_ : Nat} {z : List Value} (ho : o.op = .call ⟨.builtin .append, #[s, x], #[t, t]⟩) (hw : awanted all T o = some true) (he : elT P t = some e) (hsz : szT P e = some sz) (hby : byT P e = some by_) (hz : zeroT P e = some z)
  (hs : aev T s = .sm id 0 es.length cap sz) (hid : h.at id = some (.cells (buf sz es (cap - es.length)))) (hes : ∀ e ∈ es, e.length = sz) (hcap : es.length ≤ cap) (hx : srcA (aev T x) = some ys) (hx2 : srcSz sz (aev T x) = true) (hpos : 0 < ys.length)
  (hb : (es.length + ys.length) * by_ ≤ 140737488355328) (hb2 : es.length + ys.length ≤ 9223372036854775807)
  (r1 : es.length + ys.length ≤ cap → Run P rd nb (.ops all rest :: k) (tput T o.dst (.sm id 0 (es.length + ys.length) cap sz)) (h.set id (some (.cells (buf sz (es ++ ys) (cap - (es.length + ys.length)))))) D Q)
  (r2 : ∀ c', es.length + ys.length ≤ c' → Run P rd nb (.ops all rest :: k) (tput T o.dst (.sm h.length 0 (es.length + ys.length) c' sz)) (h ++ [some (.cells (buf sz (es ++ ys) (c' - (es.length + ys.length))))]) D Q) : Run P rd nb (.ops all (o :: rest) :: k) T h D Q := by
 refine Run.opR (R := fun x h' => (es.length + ys.length ≤ cap ∧ x = .sm id 0 (es.length + ys.length) cap sz ∧ h' = h.set id (some (.cells (buf sz (es ++ ys) (cap - (es.length + ys.length)))))) ∨
   ∃ c', es.length + ys.length ≤ c' ∧ x = .sm h.length 0 (es.length + ys.length) c' sz ∧ h' = h ++ [some (.cells (buf sz (es ++ ys) (c' - (es.length + ys.length))))]) hw (fun c hc => by rw [hc] at ho; cases ho) ?_
  (by rintro x h' (⟨h1, rfl, rfl⟩ | ⟨c', h1, rfl, rfl⟩)
      ·exact r1 h1
      ·exact r2 c' h1)
 intro E w a st
 have hsr := aev_rep st s
 rw [hs] at hsr
 simp only [Rep] at hsr
 obtain ⟨g, hg, hsv⟩ := hsr
 have hX := src_rep hx hx2 (aev_rep st x)
 simp only [RepP] at hX
 obtain ⟨ad, cx, hxv, _, hX⟩ := hX
 have hne : ys ≠ [] := by intro h0; rw [h0] at hpos; simp at hpos
 obtain ⟨b, off, rfl, hr⟩ := hX.resolve_left hne
 have hu := und_elT he
 obtain ⟨i, zv, hi, hzv, hzc, hzl, _⟩ := zeroT_parts hz
 have hisz : i.size = sz := by unfold szT at hsz; rw [hi] at hsz; simpa using hsz
 have hiby : i.bytes = by_ := by unfold byT at hby; rw [hi] at hby; simpa using hby
 have hyl := hr.length
 obtain ⟨news, n1, n2, n3⟩ := hr.values
 obtain ⟨g', cur, hg', hrow, hreps⟩ := st.rel.objs id _ hid
 rw [hg] at hg'; cases hg'
 have hcl := hreps.length
 rw [buf_len hes] at hcl
 have hmul : (es.length + (cap - es.length)) * sz = cap * sz := by congr 1; omega
 have hadd : (es.length + ys.length) * sz = es.length * sz + ys.length * sz := Nat.add_mul _ _ _
 by_cases hroom : es.length + ys.length ≤ cap
 ·have hmulle : (es.length + ys.length) * sz ≤ cap * sz := Nat.mul_le_mul_right _ hroom
  obtain ⟨w', hrun, hrow', hsame, hsize, hos, hout⟩ := append_room (P := P) (ty := o.type) hu hi hrow (a := ⟨b, off, none⟩) (m := ys.length) (c := cx) (news := news) (n := es.length) (cap := cap) (by rw [n1, hisz]) (fun j v hj => by rw [addr_add]; exact n2 j v hj)
   (RepL.one_p n3) hroom (by rw [hisz]; omega)
  rw [hisz] at hrow'
  have hnew : RepL E w (buf sz (es ++ ys) (cap - (es.length + ys.length))) (patch cur (es.length * sz) news) := by
   have := RepL.patch (es.length * sz) n3 hreps
   rw [buf_put hes hyl (by omega)] at this
   rwa [show cap - es.length - ys.length = cap - (es.length + ys.length) by omega] at this
  have hx : Ext E w E w' := ⟨fun _ _ h => h, fun b' off' hb' => cell_of_heap (hsame b' (fun e => st.rel.sep id _ g off' hid hg (e ▸ hb'))) off', fun _ _ h => h, fun _ L h => ⟨L, h, Nat.le_refl _, fun _ => rfl⟩⟩
  obtain ⟨g1, g2⟩ := st.rel.writeO hid rfl (o' := .cells (buf sz (es ++ ys) (cap - (es.length + ys.length)))) rfl hg (fun hx => ⟨_, hrow', hnew.ext hx⟩) hsame hsize hos hout
  refine ⟨_, _, E, w', .slice (some ⟨g, 0, none⟩) (es.length + ys.length) cap, .inl ⟨hroom, rfl, rfl⟩, ?_, g1, by simpa using st.fresh, ?_, g2⟩
  ·exact exec_append ho (by rw [hsv, hxv]; exact hrun)
  ·simp only [Rep]
   exact ⟨g, hg, rfl⟩
 ·have holds : ∀ j v, (cur.take (es.length * sz))[j]? = some v → w.cell? ((⟨g, 0, none⟩ : Addr).add j) = some v := by
   intro j v hj
   rw [addr_add, Nat.zero_add, hrow.cell]
   rw [List.getElem?_take] at hj
   split at hj
   ·exact hj
   ·cases hj
  have hlec : es.length * sz ≤ cap * sz := Nat.mul_le_mul_right _ hcap
  have hol : (cur.take (es.length * sz)).length = es.length * sz := by rw [List.length_take]; omega
  have horep : RepL E w (es.flatten.map .p) (cur.take (es.length * sz)) := by
   have := hreps.take (es.length * sz)
   have hel : (es.flatten.map AV.p).length = es.length * sz := by rw [List.length_map, flat_length hes]
   unfold buf at this
   rwa [List.take_append_of_le_length (by omega), List.take_of_length_le (by omega)] at this
  have hrun := run_append_grow (P := P) w t o.type e i zv hu hi hzv ⟨g, 0, none⟩ es.length cap (cur.take (es.length * sz)) (by rw [hol, hisz]) holds ⟨b, off, none⟩ ys.length cx news (by rw [n1, hisz])
   (fun j v hj => by rw [addr_add]; exact n2 j v hj) (by omega) (by omega) (growslice_fits (by omega) (by rw [hiby]; exact hb))
  have hzs : ((Builtin.zeroCells zv.cells (grownCap w (es.length + ys.length) cap e - (es.length + ys.length))).toList).length = (grownCap w (es.length + ys.length) cap e - (es ++ ys).length) * sz := by
   rw [Array.length_toList, size_zeroCells, hzc]; simp [hzl, hisz]
  obtain ⟨E', g1, g2, g3, g4⟩ := row_new (h := h) (e := e) (es := es ++ ys) st.rel st.fresh (by rw [List.flatten_append, List.map_append]; exact horep.append n3) hzs
  rw [List.length_append] at g1 g3
  refine ⟨_, _, E', _, .slice (some ⟨w.heap.size, 0, none⟩) (es.length + ys.length) (grownCap w (es.length + ys.length) cap e), .inr ⟨grownCap w (es.length + ys.length) cap e, le_grownCap w _ cap e, rfl, rfl⟩, ?_, g1, by simpa using g2, ?_, g3⟩
  ·have hq : List.toArray (cur.take (es.length * sz) ++ news ++ (Builtin.zeroCells zv.cells (grownCap w (es.length + ys.length) cap e - (es.length + ys.length))).toList) =
     (cur.take (es.length * sz)).toArray ++ news.toArray ++ Builtin.zeroCells zv.cells (grownCap w (es.length + ys.length) cap e - (es.length + ys.length)) := by
    apply Array.ext'; simp
   rw [hq]
   exact exec_append ho (by rw [hsv, hxv]; exact hrun)
  ·simp only [Rep]
   exact ⟨_, g4, rfl⟩
theorem Run.freezeS (slot : Nat) {id n cap sz m : Nat} {es : List (List PV)} (hs : tget T slot = .sm id 0 n cap sz) (hat : h.at id = some (.cells (buf sz es m))) (hes : ∀ e ∈ es, e.length = sz) (hn : es.length = n) (hcap : n ≤ cap)
  (r : Run P rd nb k (T.set slot (.p (.sl sz es))) (h.set id none) D Q) : Run P rd nb k T h D Q := by
 intro E w a s
 have hv := s.tmps.get slot
 rw [← tget_eq, hs] at hv
 simp only [Rep] at hv
 obtain ⟨b, hg, hv⟩ := hv
 obtain ⟨b', vals, hg', hrow, hreps⟩ := s.rel.objs id _ hat
 rw [hg] at hg'; cases hg'
 obtain ⟨f1, f2⟩ := s.rel.freeze hat hg
 have s' := s.move f2 f1 (fun i hi => s.fresh i (by simpa using hi))
 have hel : (es.flatten.map AV.p).length = es.length * sz := by rw [List.length_map, flat_length hes]
 have hx : Rep { E with ro := fun b' off => E.ro b' off ∨ b' = b } w (.p (.sl sz es)) (.slice (some ⟨b, 0, none⟩) n cap) := by
  simp only [Rep, RepP]
  refine ⟨_, cap, by rw [hn], by omega, .inr ⟨b, 0, rfl, ?_⟩⟩
  refine RepEs.of_row (vs := vals.take (es.length * sz)) hes (fun j v hj => ⟨.inr rfl, ?_⟩) ?_
  ·rw [hrow.cell, Nat.zero_add]
   rw [List.getElem?_take] at hj
   split at hj
   ·exact hj
   ·cases hj
  ·have := (hreps.ext f2.ext).take (es.length * sz)
   unfold buf at this
   rwa [List.take_append_of_le_length (by omega), List.take_of_length_le (by omega)] at this
 have hset := s'.tmps.set hx slot
 have hsame : (a.tmps.toList).set slot (.slice (some ⟨b, 0, none⟩) n cap) = a.tmps.toList := by
  apply List.ext_getElem?
  intro j
  rw [List.getElem?_set]
  split
  ·rename_i e; subst e
   rcases Nat.lt_or_ge slot a.tmps.size with l | l
   ·simp [l] at hv ⊢; exact hv.symm
   ·have l' : ¬ slot < a.tmps.size := by omega
    simp [l']
  ·rfl
 rw [hsame] at hset
 exact K_mono (P := P) (rd := rd) (Post.of_fr (Q := Q) f2) k _ _ _ (r _ w a ⟨s'.rel, s'.fresh, hset, s'.defers⟩)

end

end Go.AI
