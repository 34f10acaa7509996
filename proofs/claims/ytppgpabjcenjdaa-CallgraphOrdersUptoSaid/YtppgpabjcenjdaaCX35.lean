/-
  euclidlaw21: the contract of CallgraphOrders.
-/
import Derived.Test.YtppgpabjcenjdaaCX33
import Derived.Test.YtppgpabjcenjdaaCH5
import Derived.Test.YtppgpabjcenjdaaCFX

namespace Go.Proofs.Ytppgpabjcenjdaa

open Go Go.AI
set_option maxRecDepth 8000 in
set_option maxHeartbeats 8000000 in
theorem parts9_any (h : Heap) (hh : WF h) (env : List Dc) (x y : Tm) (hg : Env.good env) (hx : x.good) (hy : y.good) (hxy : x.size + y.size ≤ 1048576) : ACalls Try.prog 9 [envA env, x.av, y.av] h fun o h' => o = .ret (bA true) ∧ h' = h := by
  have c1 := fun (g : Heap) (hw : WF g) => small08_any g hw env [x, y] hg (by simpa [Tm.sizes] using hxy) (by simp only [Tm.lvss]; exact ⟨hx.2.2, hy.2.2, trivial⟩) (by simp only [Tm.fits]; exact ⟨hx.2.1, hy.2.1, trivial⟩) (fun t ht => by
    simp only [List.mem_cons, List.not_mem_nil, or_false] at ht
    rcases ht with rfl | rfl
    · exact hx
    · exact hy)
  have c2 := fun (hf : EnvFine env) (g : Heap) (hw : WF g) => relate42_any env hg hf x hx.2.2 hx.1 y.size y g (Nat.le_refl _) hy.1 hw
  have hp := fun (hf : EnvFine env) => relZ_parts hf (x := x) (y := y)
  have hhd := spG_ok' x.size x hx.2.2
  rw [show spG x.size x = resSpine x from rfl] at hhd
  have c3 := fun (g : Heap) (hw : WF g) => spine44' g hw x hx.1
  have c4 := fun (g : Heap) (hw : WF g) => part45_any (resSpine x).1 hhd.1 (by have := hhd.2.1; have := hx.1; omega) y.size y g (Nat.le_refl _) hy.1 hw
  have c5 := fun (g : Heap) (hw : WF g) => part45_any x hx.2.2 hx.1 y.size y g (Nat.le_refl _) hy.1 hw
  have c6 := fun (g : Heap) (hw : WF g) => size_any x.size x g (Nat.le_refl _) (by have := hx.1; omega) hw
  have c7 := fun (g : Heap) (hw : WF g) => size_any y.size y g (Nat.le_refl _) (by have := hy.1; omega) hw
  rw [show relF env x y.size y = relZ env x y from rfl] at c2
  generalize relZ env x y = r at c2 hp
  generalize goodB [x, y] = gb at c1
  generalize partZ x y = b2 at c5 hp
  generalize partZ (resSpine x).1 y = b1 at c4 hp
  generalize resSpine x = sx at c3 c4 hp
  have hxs := hx.1
  have hys := hy.1
  obtain ⟨m, hm⟩ : ∃ m, m = x.size := ⟨_, rfl⟩
  obtain ⟨m', hm'⟩ : ∃ m, m = y.size := ⟨_, rfl⟩
  rw [← hm] at c6 hp hxs
  rw [← hm'] at c7 hp hys
  obtain ⟨k, i, n, ls, ks⟩ := x
  obtain ⟨k1, i1, n1, l1, s1⟩ := y
  obtain ⟨⟨k2, i2, n2, l2, s2⟩, xs⟩ := sx
  simp only [tmPs, cells_mk, Tm.av, Tm.kind, List.map] at c1 c2 c3 c4 c5 c6 c7 hp ⊢
  clear hg hx hy hxy hm hm' hhd
  refine ACalls.of_run Try.func9 rfl ?_
  simp only [Try.ntmps9, List.length_cons, List.length_nil]
  refine Run.reg fun K hK => ?_
  simp
  refine hK _ _ _ ?_; clear hK K
  refine Run.reg fun K hK => ?_
  simp
  refine hK _ _ _ ?_; clear hK K
  refine Run.call rfl (by first | rfl | simp) (by simp) rfl (c1 _ (hh.app (by simp))) ?_ ?_
  rotate_left
  · rintro v h' ⟨⟨_, hv, _⟩, _⟩; cases hv
  rintro v h' ⟨⟨b, hv, hb⟩, rfl⟩
  simp only [AOut.ret.injEq] at hv
  subst hv
  cases b with
  | false =>
    refine Run.ops fun K hK => ?_
    simp
    refine hK _ _ _ ?_; clear hK K
    refine Run.cond (b := true) (by simp) ?_
    simp only [if_true]
    refine Run.reg fun K hK => ?_
    simp
    refine hK _ _ _ ?_; clear hK K
    refine Run.call rfl (by first | rfl | simp) (by simp) rfl (aw41_any _ (hh.app (by simp))) ?_ ?_
    rotate_left
    · rintro v h' ⟨hv, _⟩; cases hv
    rintro v h' ⟨hv, rfl⟩
    simp only [AOut.ret.injEq] at hv
    subst hv
    refine Run.ops fun K hK => ?_
    simp
    refine hK _ _ _ ?_; clear hK K
    refine Run.ret ?_
    exact Fin.ret' (h0 := h) (by simp) rfl hh rfl (by simp; rfl) rfl (Weak.refl _) (by simp) ⟨rfl, rfl⟩
  | true =>
    have hf := (hb rfl).1
    replace hp := hp hf
    refine Run.ops fun K hK => ?_
    simp
    refine hK _ _ _ ?_; clear hK K
    refine Run.cond (b := false) (by simp) ?_
    simp only [Bool.false_eq_true, if_false]
    refine Run.reg fun K hK => ?_
    simp
    refine hK _ _ _ ?_; clear hK K
    refine Run.call rfl (by first | rfl | simp) (by simp) rfl (c2 hf _ (hh.app (by simp))) ?_ ?_
    rotate_left
    · rintro v h' ⟨hv, _⟩; cases hv
    rintro v h' ⟨hv, rfl⟩
    simp only [AOut.ret.injEq] at hv
    subst hv
    refine Run.ops fun K hK => ?_
    simp
    refine hK _ _ _ ?_; clear hK K
    by_cases h2 : r = 2
    rotate_left
    · have h2' : (r != 2) = true := by simpa using h2
      refine Run.cond (b := true) (by simp [h2']) ?_
      simp only [if_true]
      refine Run.reg fun K hK => ?_
      simp
      refine hK _ _ _ ?_; clear hK K
      refine Run.call rfl (by first | rfl | simp) (by simp) rfl (aw41_any _ (hh.app (by simp))) ?_ ?_
      rotate_left
      · rintro v h' ⟨hv, _⟩; cases hv
      rintro v h' ⟨hv, rfl⟩
      simp only [AOut.ret.injEq] at hv
      subst hv
      refine Run.ops fun K hK => ?_
      simp
      refine hK _ _ _ ?_; clear hK K
      refine Run.ret ?_
      exact Fin.ret' (h0 := h) (by simp) rfl hh rfl (by simp; rfl) rfl (Weak.refl _) (by simp) ⟨rfl, rfl⟩
    subst h2
    obtain ⟨hp1, hp2⟩ := hp rfl
    refine Run.cond (b := false) (by simp) ?_
    simp only [Bool.false_eq_true, if_false]
    refine Run.reg fun K hK => ?_
    simp
    refine hK _ _ _ ?_; clear hK K
    refine Run.call rfl (by first | rfl | simp) (by simp) rfl (c3 _ (hh.app (by simp))) ?_ ?_
    rotate_left
    · rintro v h' ⟨hv, _⟩; cases hv
    rintro v h' ⟨hv, rfl⟩
    simp only [AOut.ret.injEq] at hv
    subst hv
    refine Run.ops fun K hK => ?_
    simp
    refine hK _ _ _ ?_; clear hK K
    refine Run.regJ [4, 5, 6, 7, 8] 34 (k2 == 0 && decide (0 < xs.length)) (fun K hK => ?_) ?_
    · simp
      repeat' (first | apply And.intro | intro _)
      all_goals
        refine hK _ ?_
        simp
        repeat' (first | exact WeakL.nil | apply WeakL.cons)
        all_goals first | exact Weak.junk _ | (refine Weak.bool ?_; clear hK K; rw [Bool.eq_iff_iff]; simp; done) | (refine Weak.bool ?_; clear hK K; rw [Bool.eq_iff_iff]; simp; omega) | (refine Weak.bool ?_; clear hK K; simp_all; done) | (refine Weak.bool ?_; clear hK K; simp [*]; done) | (refine Weak.bool ?_; clear hK K; rw [Bool.eq_iff_iff]; simp [*]; omega) | exact Weak.refl _
    simp only [setMany, keepT, keepT.go, List.contains_cons, List.set_cons_succ, List.set_cons_zero]
    simp
    by_cases hb : k2 = 0 ∧ 0 < xs.length
    · have hb' : (k2 == 0 && decide (0 < xs.length)) = true := by simpa using hb
      have hpp := hp1 hb
      rw [hb']
      refine Run.cond (b := true) (by simp) ?_
      simp only [if_true]
      refine Run.reg fun K hK => ?_
      simp
      refine hK _ _ _ ?_; clear hK K
      refine Run.call rfl (by first | rfl | simp) (by simp) rfl (c4 _ (hh.app (by simp))) ?_ ?_
      rotate_left
      · rintro v h' ⟨hv, _⟩; cases hv
      rintro v h' ⟨hv, rfl⟩
      simp only [AOut.ret.injEq] at hv
      subst hv
      cases b1 with
      | true =>
        refine Run.ops fun K hK => ?_
        simp
        refine hK _ _ _ ?_; clear hK K
        refine Run.call rfl (by first | rfl | simp) (by simp) rfl (aw41_any _ (hh.app (by simp))) ?_ ?_
        rotate_left
        · rintro v h' ⟨hv, _⟩; cases hv
        rintro v h' ⟨hv, rfl⟩
        simp only [AOut.ret.injEq] at hv
        subst hv
        refine Run.ops fun K hK => ?_
        simp
        refine hK _ _ _ ?_; clear hK K
        refine Run.ret ?_
        exact Fin.ret' (h0 := h) (by simp) rfl hh rfl (by simp; rfl) rfl (Weak.refl _) (by simp) ⟨rfl, rfl⟩
      | false =>
        obtain rfl : b2 = true := by simpa using hpp
        refine Run.ops fun K hK => ?_
        simp
        refine hK _ _ _ ?_; clear hK K
        refine Run.call rfl (by first | rfl | simp) (by simp) rfl (c5 _ (hh.app (by simp))) ?_ ?_
        rotate_left
        · rintro v h' ⟨hv, _⟩; cases hv
        rintro v h' ⟨hv, rfl⟩
        simp only [AOut.ret.injEq] at hv
        subst hv
        refine Run.ops fun K hK => ?_
        simp
        refine hK _ _ _ ?_; clear hK K
        refine Run.call rfl (by first | rfl | simp) (by simp) rfl (aw41_any _ (hh.app (by simp))) ?_ ?_
        rotate_left
        · rintro v h' ⟨hv, _⟩; cases hv
        rintro v h' ⟨hv, rfl⟩
        simp only [AOut.ret.injEq] at hv
        subst hv
        refine Run.ops fun K hK => ?_
        simp
        refine hK _ _ _ ?_; clear hK K
        refine Run.ret ?_
        exact Fin.ret' (h0 := h) (by simp) rfl hh rfl (by simp; rfl) rfl (Weak.refl _) (by simp) ⟨rfl, rfl⟩
    · have hb' : (k2 == 0 && decide (0 < xs.length)) = false := by rw [Bool.eq_false_iff]; simpa using hb
      obtain ⟨rfl, hlt⟩ := hp2 hb
      have hlt' : (m : Int) < m' := by omega
      rw [hb']
      refine Run.cond (b := false) (by simp) ?_
      simp only [Bool.false_eq_true, if_false]
      refine Run.draw [0, 0, 0, 1, 1, 1, 1, 2, 3, 3, 3, 3, 4, 4] [0, 0, 0, 0, 0, 1, 0, 2, 0, 0, 0, 3, 0, 0] [0, 0, 3, 7, 15, 31, 15, 127, 255, 511, 1023, 2047, 4095, 8191] [0, 1, 2, 3, 4, 5, 6, 7, 8, 9, 10, 11, 12, 13] (by kernel_rfl) (by kernel_rfl) ?_
      refine DR.go fun K hK => ?_
      simp
      refine hK _ _ _ _ ?_; clear hK K
      refine DR.call rfl rfl rfl (by simp) rfl (c5 _ (hh.app (by simp))) ?_
      refine DR.go fun K hK => ?_
      simp
      refine hK _ _ _ _ ?_; clear hK K
      refine DR.call rfl rfl rfl (by simp) rfl (c6 _ (hh.app (by simp))) ?_
      refine DR.go fun K hK => ?_
      simp
      refine hK _ _ _ _ ?_; clear hK K
      refine DR.call rfl rfl rfl (by simp) rfl (c7 _ (hh.app (by simp))) ?_
      refine DR.go fun K hK => ?_
      simp [hlt']
      refine hK _ _ _ _ ?_; clear hK K
      refine DR.call rfl rfl rfl (by simp) rfl (aw41_any _ (hh.app (by simp))) ?_
      refine DR.go fun K hK => ?_
      simp
      refine hK _ _ _ _ ?_; clear hK K
      change Run _ _ _ _ _ _ _ _
      refine Run.ret ?_
      exact Fin.ret' (h0 := h) (by simp) rfl hh rfl (by simp; rfl) rfl (Weak.refl _) (by simp) ⟨rfl, rfl⟩

end Go.Proofs.Ytppgpabjcenjdaa

namespace Go.Proofs.Ytppgpabjcenjdaa

open Go Go.AI

open Rows (uptoBulk uptoBulkAll)

open Go.ChangeShapes Go.WideShapes Go.ChangeAt Go.RowKit
theorem cells49 : Try.prog.cellsOf 49 = 15 := by kernel_rfl
def tm3A (x y z : Tm) : AV := .agg ((x.cells ++ (y.cells ++ z.cells)).map .p)
set_option maxRecDepth 8000 in
theorem arg_tm3 {H : Type} {enc : TypeId × Value → H} {W : World} {v : Value} {d : DataW H} {p : List MemPlace} {base : Nat}
    (hv : Value.okWide Try.prog W .any base 49 v) (h : DataW.Trod enc Try.prog W 0 (fun _ => true) true 49 v d p) : ∃ x y z : Tm, Rep (roAll W) W (tm3A x y z) v ∧ (uptoBulk d ≤ 1048576 → x.good ∧ y.good ∧ z.good ∧ x.size + y.size + z.size ≤ uptoBulk d) := by
  obtain ⟨⟨cs⟩, rfl, hcs⟩ := okWide_arr Try.underlying49 hv
  obtain ⟨n, hn⟩ := h
  obtain ⟨xs, m, rfl, hd, hl, hlen, hf⟩ := DataW.trod_array Try.underlying49 hn
  simp only [Value.cells] at hl hf
  rw [cells49] at hl
  obtain ⟨c0, c1, c2, c3, c4, c5, c6, c7, c8, c9, c10, c11, c12, c13, c14, rfl⟩ : ∃ a b c d e f g h i j k l m n o, cs = [a, b, c, d, e, f, g, h, i, j, k, l, m, n, o] := by match cs, hl with | [a, b, c, d, e, f, g, h, i, j, k, l, m, n, o], _ => exact ⟨a, b, c, d, e, f, g, h, i, j, k, l, m, n, o, rfl⟩
  obtain ⟨x0, x1, x2, rfl⟩ : ∃ a b c, xs = [a, b, c] := by match xs, hlen with | [a, b, c], _ => exact ⟨a, b, c, rfl⟩
  have h0 := hf 0 (by decide)
  have h1 := hf 1 (by decide)
  have h2 := hf 2 (by decide)
  simp only [cells25, Nat.zero_mul, Nat.one_mul, Nat.reduceMul, List.drop_zero, List.take_succ_cons, List.take_zero, List.drop_succ_cons, List.getElem?_cons_zero, List.getElem?_cons_succ] at h0 h1 h2
  obtain ⟨x, r0, g0⟩ := open_tm _ _ _ _ (Nat.le_refl _) h0
  obtain ⟨y, r1, g1⟩ := open_tm _ _ _ _ (Nat.le_refl _) h1
  obtain ⟨z, r2, g2⟩ := open_tm _ _ _ _ (Nat.le_refl _) h2
  refine ⟨x, y, z, ?_, fun hb => ?_⟩
  · simp only [Rep, tm3A, List.map_append]
    exact ⟨[c0, c1, c2, c3, c4] ++ ([c5, c6, c7, c8, c9] ++ [c10, c11, c12, c13, c14]), rfl, RepL.append r0 (RepL.append r1 r2)⟩
  · injection hd with hd1 hd2
    subst hd1
    simp only [List.map_cons, List.map_nil, uptoBulk, uptoBulkAll] at hb ⊢
    obtain ⟨s0, f0, l0⟩ := g0 (by omega)
    obtain ⟨s1, f1, l1⟩ := g1 (by omega)
    obtain ⟨s2, f2, l2⟩ := g2 (by omega)
    exact ⟨⟨by omega, f0, l0⟩, ⟨by omega, f1, l1⟩, ⟨by omega, f2, l2⟩, by omega⟩

end Go.Proofs.Ytppgpabjcenjdaa

namespace Go.AI

open Go

section

variable {P : Program} {rd : Option Nat} {nb : Nat} {k : List It} {T : List AV} {h : Heap} {D : List AD} {Q : AX → List AV → Heap → List AD → Prop} {all : Array Oper} {o : Oper} {rest : List Oper}
theorem repAt_of_row {E : Env} {w : World} {b : Nat} : ∀ (cs : List PV) (off : Nat) (us : List Value), (∀ j v, us[j]? = some v → E.ro b (off + j) ∧ w.cell? ⟨b, off + j, none⟩ = some v) → RepL E w (cs.map .p) us → RepAt E w b off cs
  | [], off, us, _, _ => by simp [RepAt]
  | c :: cs, off, us, hu, ru => by
    simp only [List.map_cons, RepL] at ru
    obtain ⟨v, us', rfl, r1, r2⟩ := ru
    simp only [Rep] at r1
    simp only [RepAt]
    have h0 := hu 0 v (by simp)
    refine ⟨v, by simpa using h0.1, by simpa using h0.2, r1, repAt_of_row cs (off + 1) us' (fun j u hj => ?_) r2⟩
    have := hu (j + 1) u (by simpa using hj)
    rwa [show off + (j + 1) = off + 1 + j by omega] at this
theorem Run.roPtr (slot : Nat) {id : Nat} {cs : List PV} (hs : tget T slot = .ptr id 0) (hat : h.at id = some (.cells (cs.map .p)))
    (r : Run P rd nb k (T.set slot (.p (.ro cs))) (h.set id none) D Q) : Run P rd nb k T h D Q := by
  intro E w a s
  have hv := s.tmps.get slot
  rw [← tget_eq, hs] at hv
  simp only [Rep] at hv
  obtain ⟨b, hg, hv⟩ := hv
  obtain ⟨b', vals, hg', hrow, hreps⟩ := s.rel.objs id _ hat
  rw [hg] at hg'; cases hg'
  obtain ⟨f1, f2⟩ := s.rel.freeze hat hg
  have s' := s.move f2 f1 (fun i hi => s.fresh i (by simpa using hi))
  have hx : Rep { E with ro := fun b' off => E.ro b' off ∨ b' = b } w (.p (.ro cs)) (.pointer (some ⟨b, 0, none⟩)) := by
    simp only [Rep, RepP]
    refine ⟨b, 0, rfl, ?_⟩
    refine repAt_of_row cs 0 vals (fun j v hj => ⟨.inr rfl, ?_⟩) (hreps.ext f2.ext)
    rw [hrow.cell, Nat.zero_add]; exact hj
  have hset := s'.tmps.set hx slot
  have hsame : (a.tmps.toList).set slot (.pointer (some ⟨b, 0, none⟩)) = a.tmps.toList := by
    apply List.ext_getElem?
    intro j
    rw [List.getElem?_set]
    split
    · rename_i e; subst e
      rcases Nat.lt_or_ge slot a.tmps.size with l | l
      · simp [l] at hv ⊢; exact hv.symm
      · have l' : ¬ slot < a.tmps.size := by omega
        simp [l']
    · rfl
  rw [hsame] at hset
  exact K_mono (P := P) (rd := rd) (Post.of_fr (Q := Q) f2) k _ _ _ (r _ w a ⟨s'.rel, s'.fresh, hset, s'.defers⟩)
theorem RepEs.of_flat {E : Env} {w : World} {b sz : Nat} : ∀ {es : List (List PV)} {off : Nat}, (∀ e ∈ es, e.length = sz) → RepAt E w b off es.flatten → RepEs E w b sz off es
  | [], _, _, _ => by simp [RepEs]
  | x :: xs, off, hl, r => by
    have hx := hl x (by simp)
    rw [List.flatten_cons] at r
    simp only [RepEs]
    have h1 : ∀ (cs ds : List PV) (off : Nat), RepAt E w b off (cs ++ ds) → RepAt E w b off cs := by
      intro cs
      induction cs with
      | nil => intro ds off _; simp [RepAt]
      | cons c cs ih =>
        intro ds off r
        simp only [List.cons_append, RepAt] at r ⊢
        obtain ⟨v, a, b, c, d⟩ := r
        exact ⟨v, a, b, c, ih ds _ d⟩
    have h2 := r.drop x.length (by simp)
    rw [List.drop_left, hx] at h2
    exact ⟨hx, h1 _ _ _ r, RepEs.of_flat (fun e he => hl e (by simp [he])) h2⟩
theorem Run.sliceRo {t e : TypeId} {x : Operand} {sz : Nat} {cs : List PV} (es : List (List PV)) (ho : o.op = .slice t x none none none) (hw : awanted all T o = some true)
    (ht : arT P t = some (es.length, e)) (hsz : szT P e = some sz) (hx : aev T x = .p (.ro cs)) (hcs : cs = es.flatten) (hes : ∀ e ∈ es, e.length = sz)
    (r : Run P rd nb (.ops all rest :: k) (tput T o.dst (.p (.sl sz es))) h D Q) : Run P rd nb (.ops all (o :: rest) :: k) T h D Q := by
  subst hcs
  refine Run.opR (R := fun x h' => x = .p (.sl sz es) ∧ h' = h) hw (fun c hc => by rw [hc] at ho; cases ho) ?_ (by rintro x h' ⟨rfl, rfl⟩; exact r)
  intro E w a s
  have hxr := aev_rep s x
  rw [hx] at hxr
  simp only [Rep, RepP] at hxr
  obtain ⟨b, off, hv, hr⟩ := hxr
  refine ⟨_, _, E, w, .slice (some ⟨b, off, none⟩) es.length es.length, ⟨rfl, rfl⟩, ?_, s.rel, s.fresh, ?_, Fr.refl _ _ _⟩
  · have hu := und_arT ht
    have hbd : (Instr.sliceBounds false es.length es.length none none none).run P w = .ok (0, es.length, es.length) w := by simp [Instr.sliceBounds]
    have : (Instr.sliceAt t (a.eval x) none none none).run P w = .ok (.slice (some ⟨b, off, none⟩) es.length es.length) w := by
      rw [hv]
      simp [Instr.sliceAt, run_underlying hu, hbd, run_szT hsz, Instr.sureAddr, addr_add]
    simp only [execOp, ho]
    simp [this]
  · simp only [Rep, RepP]
    exact ⟨_, _, rfl, Nat.le_refl _, .inr ⟨b, off, rfl, RepEs.of_flat hes hr⟩⟩

end

end Go.AI

namespace Go.Proofs.Ytppgpabjcenjdaa

open Go Go.AI
set_option maxRecDepth 8000 in
set_option maxHeartbeats 8000000 in
theorem orders8_any (h : Heap) (hh : WF h) (env : List Dc) (x y z : Tm) (hg : Env.good env) (hx : x.good) (hy : y.good) (hz : z.good) (hxy : x.size + y.size + z.size ≤ 1048576) :
    ACalls Try.prog 8 [envA env, .agg ((x.cells ++ (y.cells ++ z.cells)).map .p)] h fun o h' => o = .ret (bA true) ∧ h' = h := by
  have c1 := fun (g : Heap) (hw : WF g) => small08_any g hw env [x, y, z] hg (by simp only [Tm.sizes]; omega) (by simp only [Tm.lvss]; exact ⟨hx.2.2, hy.2.2, hz.2.2, trivial⟩) (by simp only [Tm.fits]; exact ⟨hx.2.1, hy.2.1, hz.2.1, trivial⟩) (fun t ht => by
    simp only [List.mem_cons, List.not_mem_nil, or_false] at ht
    rcases ht with rfl | rfl | rfl
    · exact hx
    · exact hy
    · exact hz)
  have c2 := fun (hf : EnvFine env) (g : Heap) (hw : WF g) => relate42_any env hg hf x hx.2.2 hx.1 y.size y g (Nat.le_refl _) hy.1 hw
  have c3 := fun (hf : EnvFine env) (g : Heap) (hw : WF g) => relate42_any env hg hf y hy.2.2 hy.1 z.size z g (Nat.le_refl _) hz.1 hw
  have c4 := fun (hf : EnvFine env) (g : Heap) (hw : WF g) => relate42_any env hg hf x hx.2.2 hx.1 z.size z g (Nat.le_refl _) hz.1 hw
  have c5 := fun (hf : EnvFine env) (g : Heap) (hw : WF g) => relate42_any env hg hf x hx.2.2 hx.1 x.size x g (Nat.le_refl _) hx.1 hw
  rw [show relF env x y.size y = relZ env x y from rfl] at c2
  rw [show relF env y z.size z = relZ env y z from rfl] at c3
  rw [show relF env x z.size z = relZ env x z from rfl] at c4
  rw [show relF env x x.size x = relZ env x x from rfl] at c5
  have q1 := fun (hf : EnvFine env) => relZ_order hf x y z
  have q2 := fun (hf : EnvFine env) => relZ_cases hf x y
  have q3 := fun (hf : EnvFine env) => relZ_self hf x
  generalize relZ env x y = r1 at c2 q1 q2
  generalize relZ env y z = r2 at c3 q1
  generalize relZ env x z = r3 at c4 q1
  generalize relZ env x x = r0 at c5 q3
  generalize goodB [x, y, z] = gb at c1
  have hes : [x.cells, y.cells, z.cells].flatten = x.cells ++ (y.cells ++ z.cells) := by simp
  obtain ⟨k, i, n, ls, ks⟩ := x
  obtain ⟨k1, i1, n1, l1, s1⟩ := y
  obtain ⟨k2, i2, n2, l2, s2⟩ := z
  simp only [tmPs, cells_mk, Tm.av, List.map, List.cons_append, List.nil_append] at c1 c2 c3 c4 c5 hes ⊢
  clear hg hx hy hz hxy
  refine ACalls.of_run Try.func8 rfl ?_
  simp only [Try.ntmps8, List.length_cons, List.length_nil]
  refine Run.reg fun K hK => ?_
  simp
  refine hK _ _ _ ?_; clear hK K
  refine Run.roPtr 3 (id := h.length) (cs := [iP k, iP i, sP n, .sl 2 (lvPs ls), .sl 5 (tmPs ks), iP k1, iP i1, sP n1, .sl 2 (lvPs l1), .sl 5 (tmPs s1), iP k2, iP i2, sP n2, .sl 2 (lvPs l2), .sl 5 (tmPs s2)]) (by simp) (by simp) ?_
  simp
  refine Run.regPre 1 fun K hK => ?_
  simp only [List.take_succ_cons, List.take_zero]
  simp
  refine hK _ _ _ ?_; clear hK K
  simp only [List.nil_append, List.drop_succ_cons, List.drop_zero]
  refine Run.sliceRo (e := 25) (sz := 5) [[iP k, iP i, sP n, .sl 2 (lvPs ls), .sl 5 (tmPs ks)], [iP k1, iP i1, sP n1, .sl 2 (lvPs l1), .sl 5 (tmPs s1)], [iP k2, iP i2, sP n2, .sl 2 (lvPs l2), .sl 5 (tmPs s2)]] rfl (by simp) (by kernel_rfl) (by kernel_rfl) (by first | (simp; done) | (simp; rfl)) hes.symm (by simp) ?_
  simp
  refine Run.call rfl (by first | rfl | simp) (by simp) rfl (c1 _ (hh.app (by simp))) ?_ ?_
  rotate_left
  · rintro v h' ⟨⟨_, hv, _⟩, _⟩; cases hv
  rintro v h' ⟨⟨b, hv, hb⟩, rfl⟩
  simp only [AOut.ret.injEq] at hv
  subst hv
  cases b with
  | false =>
    refine Run.ops fun K hK => ?_
    simp
    refine hK _ _ _ ?_; clear hK K
    refine Run.cond (b := true) (by simp) ?_
    simp only [if_true]
    refine Run.reg fun K hK => ?_
    simp
    refine hK _ _ _ ?_; clear hK K
    refine Run.call rfl (by first | rfl | simp) (by simp) rfl (aw41_any _ (hh.app (by simp))) ?_ ?_
    rotate_left
    · rintro v h' ⟨hv, _⟩; cases hv
    rintro v h' ⟨hv, rfl⟩
    simp only [AOut.ret.injEq] at hv
    subst hv
    refine Run.ops fun K hK => ?_
    simp
    refine hK _ _ _ ?_; clear hK K
    refine Run.ret ?_
    exact Fin.ret' (h0 := h) (by simp) rfl hh rfl (by simp; rfl) rfl (Weak.refl _) (by simp) ⟨rfl, rfl⟩
  | true =>
    have hf := (hb rfl).1
    replace q1 := q1 hf
    replace q2 := q2 hf
    obtain rfl := q3 hf
    refine Run.ops fun K hK => ?_
    simp
    refine hK _ _ _ ?_; clear hK K
    refine Run.cond (b := false) (by simp) ?_
    simp only [Bool.false_eq_true, if_false]
    refine Run.draw [0, 0, 0, 0, 0, 0, 0, 0, 0, 0, 0, 1, 0, 0, 0, 0, 0, 2, 3, 3, 3] [0, 0, 0, 0, 0, 0, 0, 0, 0, 0, 0, 1, 0, 0, 0, 0, 0, 2, 0, 0, 0] [0, 0, 2, 0, 8, 31, 0, 0, 128, 0, 512, 2047, 0, 0, 8192, 0, 32768, 131071, 262143, 524287, 1048575] [0, 1, 2, 3, 4, 5, 6, 7, 8, 9, 10, 11, 12, 13, 14, 15, 16, 17, 18, 19, 20] (by kernel_rfl) (by kernel_rfl) ?_
    refine DR.go fun K hK => ?_
    simp
    refine hK _ _ _ _ ?_; clear hK K
    refine DR.call rfl rfl rfl (by simp) rfl (c2 hf _ (hh.app (by simp))) ?_
    refine DR.go fun K hK => ?_
    simp
    refine hK _ _ _ _ ?_; clear hK K
    refine DR.call rfl rfl rfl (by simp) rfl (c3 hf _ (hh.app (by simp))) ?_
    refine DR.go fun K hK => ?_
    simp
    refine hK _ _ _ _ ?_; clear hK K
    refine DR.call rfl rfl rfl (by simp) rfl (c4 hf _ (hh.app (by simp))) ?_
    refine DR.go fun K hK => ?_
    simp
    refine hK _ _ _ _ ?_; clear hK K
    change Run _ _ _ _ _ _ _ _
    refine Run.reg fun K hK => ?_
    simp
    refine hK _ _ _ ?_; clear hK K
    refine Run.call rfl (by first | rfl | simp) (by simp) rfl (c5 hf _ (hh.app (by simp))) ?_ ?_
    rotate_left
    · rintro v h' ⟨hv, _⟩; cases hv
    rintro v h' ⟨hv, rfl⟩
    simp only [AOut.ret.injEq] at hv
    subst hv
    have e1 : ¬ r1 < 0 := by omega
    have e2 : ¬ 2 < r1 := by omega
    refine Run.ops fun K hK => ?_
    simp [e1, e2]
    refine hK _ _ _ ?_; clear hK K
    refine Run.cond (b := false) (by simp) ?_
    simp only [Bool.false_eq_true, if_false]
    by_cases e3 : r1 = 0
    · subst e3
      refine Run.reg fun K hK => ?_
      simp
      refine hK _ _ _ ?_; clear hK K
      refine Run.cond (b := true) (by simp) ?_
      simp only [if_true]
      refine Run.reg fun K hK => ?_
      simp
      refine hK _ _ _ ?_; clear hK K
      refine Run.call rfl (by first | rfl | simp) (by simp) rfl (aw41_any _ (hh.app (by simp))) ?_ ?_
      rotate_left
      · rintro v h' ⟨hv, _⟩; cases hv
      rintro v h' ⟨hv, rfl⟩
      simp only [AOut.ret.injEq] at hv
      subst hv
      refine Run.ops fun K hK => ?_
      simp
      refine hK _ _ _ ?_; clear hK K
      refine Run.ret ?_
      exact Fin.ret' (h0 := h) (by simp) rfl hh rfl (by simp; rfl) rfl (Weak.refl _) (by simp) ⟨rfl, rfl⟩
    have e3' : (r1 == 0) = false := by simpa using e3
    by_cases e4 : r2 = 0
    · subst e4
      refine Run.reg fun K hK => ?_
      simp [e3']
      refine hK _ _ _ ?_; clear hK K
      refine Run.cond (b := true) (by simp) ?_
      simp only [if_true]
      refine Run.reg fun K hK => ?_
      simp
      refine hK _ _ _ ?_; clear hK K
      refine Run.call rfl (by first | rfl | simp) (by simp) rfl (aw41_any _ (hh.app (by simp))) ?_ ?_
      rotate_left
      · rintro v h' ⟨hv, _⟩; cases hv
      rintro v h' ⟨hv, rfl⟩
      simp only [AOut.ret.injEq] at hv
      subst hv
      refine Run.ops fun K hK => ?_
      simp
      refine hK _ _ _ ?_; clear hK K
      refine Run.ret ?_
      exact Fin.ret' (h0 := h) (by simp) rfl hh rfl (by simp; rfl) rfl (Weak.refl _) (by simp) ⟨rfl, rfl⟩
    have e4' : (r2 == 0) = false := by simpa using e4
    have q := q1 e3 e4
    refine Run.reg fun K hK => ?_
    simp [e3', e4']
    refine hK _ _ _ ?_; clear hK K
    refine Run.cond (b := false) (by simp) ?_
    simp only [Bool.false_eq_true, if_false]
    refine Run.reg fun K hK => ?_
    simp [q]
    refine hK _ _ _ ?_; clear hK K
    refine Run.call rfl (by first | rfl | simp) (by simp) rfl (aw41_any _ (hh.app (by simp))) ?_ ?_
    rotate_left
    · rintro v h' ⟨hv, _⟩; cases hv
    rintro v h' ⟨hv, rfl⟩
    simp only [AOut.ret.injEq] at hv
    subst hv
    refine Run.ops fun K hK => ?_
    simp
    refine hK _ _ _ ?_; clear hK K
    refine Run.ret ?_
    exact Fin.ret' (h0 := h) (by simp) rfl hh rfl (by simp; rfl) rfl (Weak.refl _) (by simp) ⟨rfl, rfl⟩

end Go.Proofs.Ytppgpabjcenjdaa
