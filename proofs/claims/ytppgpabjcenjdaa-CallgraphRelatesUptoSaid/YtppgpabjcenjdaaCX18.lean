/-
  family: alike, result; the reference's result.
-/
import Derived.Test.YtppgpabjcenjdaaCX17
import Derived.Test.YtppgpabjcenjdaaCV0

namespace Go.AI

open Go
theorem ACalls.plain {P : Program} {f : FuncId} {args : List AV} {h : Heap} {R R' : AOut → Heap → Prop} (hh : WF h) (c : ACalls P f args h R) (hR : ∀ o h', R o h' → ∃ x y l, o = .ret x ∧ h' = h ++ l ∧ Weak x y ∧ y.under h.length = true ∧ R' (.ret y) h) : ACalls P f args h R' := by
  intro E w vs h1 h2 h3
  refine (c E w vs h1 h2 h3).mono ?_
  rintro e w' ⟨out, h', E', hr, r2, f2, ho, fr⟩
  obtain ⟨x, y, l, rfl, rfl, hw, hy, hR'⟩ := hR _ _ hr
  obtain ⟨v, he, hv⟩ := ho
  have a1 := r2.cut h.length (by rw [take_last]; exact hh)
  have a2 := Fresh.cut E' (m := h.length) (h := h ++ l) (by simp)
  have a3 := (fr.toN h.length).cut h2 (m := h.length) (Nat.le_refl _)
  rw [take_last] at a1 a2 a3
  exact ⟨.ret y, h, E'.cut h.length, hR', a1, a2, ⟨v, he, (hw _ _ _ hv).cut hy⟩, a3⟩

end Go.AI

namespace Go.Proofs.Ytppgpabjcenjdaa

open Go Go.AI
theorem spine44' (h : Heap) (hh : WF h) (t : Tm) (hsz : t.size ≤ 1048576) : ACalls Try.prog 44 [t.av] h fun o h' => o = .ret (.tup [(resSpine t).1.av, .p (.sl 5 (tmPs (resSpine t).2))]) ∧ h' = h :=
  ACalls.plain hh (spine44_any t.size t h (Nat.le_refl _) hsz hh) (by
    rintro o h' ⟨G, hG, rfl, rfl⟩
    exact ⟨_, _, _, rfl, rfl, Weak.tup (WeakL.cons (Weak.refl _) (WeakL.cons (Weak.own _ _ _) WeakL.nil)), by simp, rfl, rfl⟩)
theorem isB_lvs' {k : Int} {t a b : Tm} (h : isB k t = some (a, b)) (hl : t.lvs) : a.lvs ∧ b.lvs := by
  obtain ⟨k', i, n, ls, ks⟩ := t
  match ks, h with
  | [x, y], h =>
    simp only [isB] at h
    split at h
    · injection h with h; injection h with h1 h2
      subst h1; subst h2
      simp only [Tm.lvs, Tm.lvss] at hl
      exact ⟨hl.2.2.1, hl.2.2.2.1⟩
    · cases h
theorem spG_ok' : ∀ (n : Nat) (t : Tm), t.lvs → (spG n t).1.lvs ∧ (spG n t).1.size ≤ t.size ∧ ∀ a ∈ (spG n t).2, a.lvs ∧ a.size ≤ t.size
  | 0, t, h => ⟨h, Nat.le_refl _, by simp [spG]⟩
  | n + 1, t, h => by
    simp only [spG]
    cases hb : isB 4 t with
    | none => exact ⟨h, Nat.le_refl _, by simp⟩
    | some p =>
      obtain ⟨f, a⟩ := p
      have hs := isB_size hb
      have hl := isB_lvs' hb h
      have := spG_ok' n f hl.1
      refine ⟨this.1, by have := this.2.1; simp only; omega, fun x hx => ?_⟩
      simp only [List.mem_append, List.mem_singleton] at hx
      rcases hx with hx | rfl
      · have := this.2.2 x hx; exact ⟨this.1, by omega⟩
      · exact ⟨hl.2, by omega⟩
@[simp] theorem tmPs_take (l : List Tm) (n : Nat) : (tmPs l).take n = tmPs (l.take n) := by simp [tmPs_eq]
@[simp] theorem tmPs_drop (l : List Tm) (n : Nat) : (tmPs l).drop n = tmPs (l.drop n) := by simp [tmPs_eq]
set_option maxRecDepth 8000 in
theorem alike_any (h : Heap) (hh : WF h) (xs ys : List Tm) (hb : xs.length ≤ 1099511627776) (hx : ∀ u ∈ xs, u.lvs ∧ u.size ≤ 1099511627776) :
    ACalls Try.prog 214 [.p (.sl 5 (tmPs xs)), .p (.sl 5 (tmPs ys)), .p (.prim (.func (.func 74) #[] #[]))] h fun o h' => o = .ret (bA (sameL xs ys)) ∧ h' = h := by
  have c1 := fun (g : Heap) (hw : WF g) => eqTms_any g hw xs ys hb fun u hu v g' hw' => tsame_any u.size u v g' (Nat.le_refl _) (hx u hu).2 (hx u hu).1 hw'
  have hs : sameL xs ys = (!((xs.length : Int) != ys.length) && sameTs xs ys) := by rw [sameL, sameTs_at]
  rw [hs]
  refine ACalls.of_run Try.func214 rfl ?_
  simp only [Try.ntmps214, List.length_cons, List.length_nil]
  refine Run.reg fun K hK => ?_
  simp
  refine hK _ _ _ ?_; clear hK K
  by_cases hl : xs.length = ys.length
  · have h0 : ((xs.length : Int) != ys.length) = false := by simp [hl]
    rw [h0] at c1 ⊢
    generalize sameTs xs ys = b at c1 ⊢
    refine Run.reg fun K hK => ?_
    simp [hl]
    refine hK _ _ _ ?_; clear hK K
    refine Run.call rfl (by first | rfl | simp) (by simp) rfl (c1 _ hh) ?_ ?_
    rotate_left
    · rintro v h' ⟨hv, _⟩; cases hv
    rintro v h' ⟨hv, rfl⟩
    simp only [AOut.ret.injEq] at hv
    subst hv
    refine Run.ops fun K hK => ?_
    simp
    refine hK _ _ _ ?_; clear hK K
    refine Run.ret ?_
    exact Fin.ret' (by simp) rfl hh (List.append_nil _).symm (by simp; rfl) rfl (Weak.refl _) (by simp) ⟨by simp, rfl⟩
  · have h0 : ((xs.length : Int) != ys.length) = true := by simp; omega
    have hl' : ((xs.length : Int) == ys.length) = false := by simp; omega
    rw [h0]
    refine Run.reg fun K hK => ?_
    simp [hl']
    refine hK _ _ _ ?_; clear hK K
    refine Run.ret ?_
    exact Fin.ret' (by simp) rfl hh (List.append_nil _).symm (by simp; rfl) rfl (Weak.refl _) (by simp) ⟨by simp, rfl⟩
def resultZ (own : Tm) (np ni : Nat) (t : Tm) (dp : Int) : Option (List Tm) :=
  if ((resSpine t).2.length : Int) = np + ni ∧ sameT (resSpine t).1 own = true ∧ sameL ((resSpine t).2.take np) (varL np dp) = true then some ((resSpine t).2.drop np) else none
def optL (o : Option (List Tm)) : List Tm := o.getD []
abbrev shA (own : Tm) (ps : List Tm) (ni : Nat) : AV := .agg (own.cells.map .p ++ [.p (.sl 5 (tmPs ps)), iA ni])
set_option maxRecDepth 8000 in
set_option maxHeartbeats 8000000 in
theorem result_any (h : Heap) (hh : WF h) (own : Tm) (ps : List Tm) (ni : Nat) (t : Tm) (dp : Int) (hp : ps.length ≤ 1048576) (hi : ni ≤ 1048576) (hsz : t.size ≤ 1048576) (hlv : t.lvs) (hd1 : dp ≤ 1099511627776) :
    ACalls Try.prog 215 [shA own ps ni, t.av, iA dp] h fun o h' => o = .ret (.tup [.p (.sl 5 (tmPs (optL (resultZ own ps.length ni t dp)))), bA (resultZ own ps.length ni t dp).isSome]) ∧ h' = h := by
  have hok := spG_ok' t.size t hlv
  have hsl := resSpine_len t
  have c1 := fun (g : Heap) (hw : WF g) => spine72_any g hw t hsz
  obtain ⟨r, hr⟩ : ∃ r, r = resultZ own ps.length ni t dp := ⟨_, rfl⟩
  rw [← hr]
  unfold resultZ at hr
  rw [show spG t.size t = resSpine t from rfl] at hok
  generalize resSpine t = q at hok hsl c1 hr
  obtain ⟨hd, xs⟩ := q
  simp only at hok hsl c1 hr
  have c2 := fun (g : Heap) (hw : WF g) => tsame_any hd.size hd own g (Nat.le_refl _) (by omega) hok.1 hw
  have c3 := fun (g : Heap) (hw : WF g) => vars53_any g hw ps.length dp (by omega) (by omega) hd1
  have c4 := fun (g : Heap) (hw : WF g) => alike_any g hw (xs.take ps.length) (varL ps.length dp) (by simp; omega) (fun u hu => by
    have := hok.2.2 u (List.mem_of_mem_take hu); exact ⟨this.1, by omega⟩)
  generalize varL ps.length dp = vl at c3 c4 hr
  generalize sameT hd own = b1 at c2 hr
  generalize sameL (xs.take ps.length) vl = b2 at c4 hr
  obtain ⟨k, i, n, ls, ks⟩ := own
  obtain ⟨k1, i1, n1, l1, s1⟩ := t
  obtain ⟨k2, i2, n2, l2, s2⟩ := hd
  clear hok
  simp only [shA, Tm.av, cells_mk, List.map, List.cons_append, List.nil_append] at c1 c2 ⊢
  refine ACalls.of_run Try.func215 rfl ?_
  simp only [Try.ntmps215, List.length_cons, List.length_nil]
  refine Run.reg fun K hK => ?_
  simp
  refine hK _ _ _ ?_; clear hK K
  refine Run.reg fun K hK => ?_
  simp
  refine hK _ _ _ ?_; clear hK K
  refine Run.call rfl (by first | rfl | simp) (by simp) rfl (c1 _ (hh.app (by simp))) ?_ ?_
  rotate_left
  · rintro v h' ⟨hv, _⟩; cases hv
  rintro v h' ⟨hv, rfl⟩
  simp only [AOut.ret.injEq] at hv
  subst hv
  refine Run.ops fun K hK => ?_
  simp
  refine hK _ _ _ ?_; clear hK K
  refine Run.reg fun K hK => ?_
  simp
  refine hK _ _ _ ?_; clear hK K
  by_cases e1 : (xs.length : Int) = ps.length + ni
  · have e1' : ((xs.length : Int) != (ps.length : Int) + ni) = false := by simp [e1]
    have hle : (ps.length : Int) ≤ xs.length := by omega
    have hle' : ps.length ≤ xs.length := by omega
    have hw1 : IntKind.i64.wrap ((ps.length : Int) + ni) = (ps.length : Int) + ni := wrap_id (by omega) (by omega)
    cases b1 with
    | false =>
      rw [if_neg (by simp)] at hr
      refine Run.draw [0, 0, 0, 0, 0, 0, 0, 0, 0, 0, 0, 0, 1, 1, 1, 1, 1, 1, 1, 1, 1, 2, 3, 3] [0, 0, 0, 0, 0, 0, 0, 0, 0, 0, 0, 0, 0, 0, 0, 0, 0, 0, 0, 0, 1, 2, 0, 0] [0, 1, 0, 0, 8, 28, 63, 127, 255, 255, 767, 2047, 4095, 8191, 16383, 32767, 32767, 131071, 32767, 32767, 819199, 2097151, 4194303, 8388607] [0, 1, 2, 3, 4, 5, 6, 7, 8, 9, 10, 11, 12, 13, 14, 18, 19, 20, 15, 16, 17, 21, 22, 23] (by kernel_rfl) (by kernel_rfl) ?_
      refine DR.go fun K hK => ?_
      simp [e1', hw1]
      refine hK _ _ _ _ ?_; clear hK K
      refine DR.call rfl rfl rfl (by simp) rfl (c2 _ (hh.app (by simp))) ?_
      refine DR.go fun K hK => ?_
      simp
      refine hK _ _ _ _ ?_; clear hK K
      change Run _ _ _ _ _ _ _ _
      refine Run.cond (b := true) (by simp) ?_
      simp only [if_true]
      refine Run.reg fun K hK => ?_
      simp
      refine hK _ _ _ ?_; clear hK K
      refine Run.ret ?_
      exact Fin.ret' (h0 := h) (xs := [.p (.prim (.slice none 0 0)), bA false]) (by simp) rfl hh rfl (by simp) rfl (Weak.tup (WeakL.cons (Weak.nil 5) (WeakL.refl _))) (by simp) ⟨by rw [hr]; rfl, rfl⟩
    | true =>
      cases b2 with
      | false =>
        rw [if_neg (by simp)] at hr
        refine Run.draw [0, 0, 0, 0, 0, 0, 0, 0, 0, 0, 0, 0, 1, 1, 1, 1, 1, 1, 1, 1, 1, 2, 3, 3] [0, 0, 0, 0, 0, 0, 0, 0, 0, 0, 0, 0, 0, 0, 0, 0, 0, 0, 0, 0, 1, 2, 0, 0] [0, 1, 0, 0, 8, 28, 63, 127, 255, 255, 767, 2047, 4095, 8191, 16383, 32767, 32767, 131071, 32767, 32767, 819199, 2097151, 4194303, 8388607] [0, 1, 2, 3, 4, 5, 6, 7, 8, 9, 10, 11, 12, 13, 14, 18, 19, 20, 15, 16, 17, 21, 22, 23] (by kernel_rfl) (by kernel_rfl) ?_
        refine DR.go fun K hK => ?_
        simp [e1', hw1]
        refine hK _ _ _ _ ?_; clear hK K
        refine DR.call rfl rfl rfl (by simp) rfl (c2 _ (hh.app (by simp))) ?_
        refine DR.go fun K hK => ?_
        simp
        refine hK _ _ _ _ ?_; clear hK K
        refine DR.call rfl rfl rfl (by simp) rfl (c3 _ (hh.app (by simp))) ?_
        refine DR.go fun K hK => ?_
        simp [hle]
        refine hK _ _ _ _ ?_; clear hK K
        refine DR.call (args := [.p (.sl 5 (tmPs (xs.take ps.length))), .p (.sl 5 (tmPs vl)), .p (.prim (.func (.func 74) #[] #[]))]) rfl rfl rfl (by simp) rfl (c4 _ (hh.app (by simp))) ?_
        refine DR.go fun K hK => ?_
        simp
        refine hK _ _ _ _ ?_; clear hK K
        change Run _ _ _ _ _ _ _ _
        refine Run.cond (b := true) (by simp) ?_
        simp only [if_true]
        refine Run.reg fun K hK => ?_
        simp
        refine hK _ _ _ ?_; clear hK K
        refine Run.ret ?_
        exact Fin.ret' (h0 := h) (xs := [.p (.prim (.slice none 0 0)), bA false]) (by simp) rfl hh rfl (by simp) rfl (Weak.tup (WeakL.cons (Weak.nil 5) (WeakL.refl _))) (by simp) ⟨by rw [hr]; rfl, rfl⟩
      | true =>
        rw [if_pos (by simp; omega)] at hr
        refine Run.draw [0, 0, 0, 0, 0, 0, 0, 0, 0, 0, 0, 0, 1, 1, 1, 1, 1, 1, 1, 1, 1, 2, 3, 3] [0, 0, 0, 0, 0, 0, 0, 0, 0, 0, 0, 0, 0, 0, 0, 0, 0, 0, 0, 0, 1, 2, 0, 0] [0, 1, 0, 0, 8, 28, 63, 127, 255, 255, 767, 2047, 4095, 8191, 16383, 32767, 32767, 131071, 32767, 32767, 819199, 2097151, 4194303, 8388607] [0, 1, 2, 3, 4, 5, 6, 7, 8, 9, 10, 11, 12, 13, 14, 18, 19, 20, 15, 16, 17, 21, 22, 23] (by kernel_rfl) (by kernel_rfl) ?_
        refine DR.go fun K hK => ?_
        simp [e1', hw1]
        refine hK _ _ _ _ ?_; clear hK K
        refine DR.call rfl rfl rfl (by simp) rfl (c2 _ (hh.app (by simp))) ?_
        refine DR.go fun K hK => ?_
        simp
        refine hK _ _ _ _ ?_; clear hK K
        refine DR.call rfl rfl rfl (by simp) rfl (c3 _ (hh.app (by simp))) ?_
        refine DR.go fun K hK => ?_
        simp [hle]
        refine hK _ _ _ _ ?_; clear hK K
        refine DR.call (args := [.p (.sl 5 (tmPs (xs.take ps.length))), .p (.sl 5 (tmPs vl)), .p (.prim (.func (.func 74) #[] #[]))]) rfl rfl rfl (by simp) rfl (c4 _ (hh.app (by simp))) ?_
        refine DR.go fun K hK => ?_
        simp
        refine hK _ _ _ _ ?_; clear hK K
        change Run _ _ _ _ _ _ _ _
        refine Run.cond (b := false) (by simp) ?_
        simp only [Bool.false_eq_true, if_false]
        refine Run.reg fun K hK => ?_
        simp [hle]
        refine hK _ _ _ ?_; clear hK K
        refine Run.ret ?_
        exact Fin.ret' (h0 := h) (by simp) rfl hh rfl (by simp; rfl) rfl (Weak.refl _) (by simp) ⟨by rw [hr]; simp [optL], rfl⟩
  · rw [if_neg (by omega)] at hr
    have hw1 : IntKind.i64.wrap ((ps.length : Int) + ni) = (ps.length : Int) + ni := wrap_id (by omega) (by omega)
    have e1' : ((xs.length : Int) != (ps.length : Int) + ni) = true := by simp [e1]
    refine Run.draw [0, 0, 0, 0, 0, 0, 0, 0, 0, 0, 0, 0, 1, 1, 1, 1, 1, 1, 1, 1, 1, 2, 3, 3] [0, 0, 0, 0, 0, 0, 0, 0, 0, 0, 0, 0, 0, 0, 0, 0, 0, 0, 0, 0, 1, 2, 0, 0] [0, 1, 0, 0, 8, 28, 63, 127, 255, 255, 767, 2047, 4095, 8191, 16383, 32767, 32767, 131071, 32767, 32767, 819199, 2097151, 4194303, 8388607] [0, 1, 2, 3, 4, 5, 6, 7, 8, 9, 10, 11, 12, 13, 14, 18, 19, 20, 15, 16, 17, 21, 22, 23] (by kernel_rfl) (by kernel_rfl) ?_
    refine DR.go fun K hK => ?_
    simp [e1', hw1]
    refine hK _ _ _ _ ?_; clear hK K
    change Run _ _ _ _ _ _ _ _
    refine Run.cond (b := true) (by simp) ?_
    simp only [if_true]
    refine Run.reg fun K hK => ?_
    simp
    refine hK _ _ _ ?_; clear hK K
    refine Run.ret ?_
    exact Fin.ret' (h0 := h) (xs := [.p (.prim (.slice none 0 0)), bA false]) (by simp) rfl hh rfl (by simp) rfl (Weak.tup (WeakL.cons (Weak.nil 5) (WeakL.refl _))) (by simp) ⟨by rw [hr]; rfl, rfl⟩
set_option maxRecDepth 8000 in
set_option maxHeartbeats 8000000 in
theorem refResult_any (h : Heap) (hh : WF h) (own t : Tm) (np ni : Nat) (dp : Int) (hp : np ≤ 1048576) (hi : ni ≤ 1048576) (hsz : t.size ≤ 1048576) (hlv : t.lvs) (hd1 : dp ≤ 1099511627776) :
    ACalls Try.prog 221 [own.av, t.av, iA np, iA dp, iA ni] h fun o h' => o = .ret (.tup [.p (.sl 5 (tmPs (optL (resultZ own np ni t dp)))), bA (resultZ own np ni t dp).isSome]) ∧ h' = h := by
  have hok := spG_ok' t.size t hlv
  have hsl := resSpine_len t
  have c1 := fun (g : Heap) (hw : WF g) => spine44' g hw t hsz
  obtain ⟨r, hr⟩ : ∃ r, r = resultZ own np ni t dp := ⟨_, rfl⟩
  rw [← hr]
  unfold resultZ at hr
  rw [show spG t.size t = resSpine t from rfl] at hok
  generalize resSpine t = q at hok hsl c1 hr
  obtain ⟨hd, xs⟩ := q
  simp only at hok hsl c1 hr
  have c2 := fun (g : Heap) (hw : WF g) => same_any hd.size hd own g (Nat.le_refl _) (by omega) hok.1 hw
  have c3 := fun (g : Heap) (hw : WF g) => vars54_any g hw np dp (by omega) (by omega) hd1
  have c4 := fun (g : Heap) (hw : WF g) => sameL_any g hw (xs.take np) (varL np dp) (by simp; omega) (fun u hu => by
    have := hok.2.2 u (List.mem_of_mem_take hu); exact ⟨this.1, by omega⟩)
  generalize varL np dp = vl at c3 c4 hr
  generalize sameT hd own = b1 at c2 hr
  generalize sameL (xs.take np) vl = b2 at c4 hr
  obtain ⟨k, i, n, ls, ks⟩ := own
  obtain ⟨k1, i1, n1, l1, s1⟩ := t
  obtain ⟨k2, i2, n2, l2, s2⟩ := hd
  clear hok
  simp only [Tm.av, cells_mk, List.map] at c1 c2 ⊢
  refine ACalls.of_run Try.func221 rfl ?_
  simp only [Try.ntmps221, List.length_cons, List.length_nil]
  refine Run.reg fun K hK => ?_
  simp
  refine hK _ _ _ ?_; clear hK K
  refine Run.reg fun K hK => ?_
  simp
  refine hK _ _ _ ?_; clear hK K
  refine Run.call rfl (by first | rfl | simp) (by simp) rfl (c1 _ (hh.app (by simp))) ?_ ?_
  rotate_left
  · rintro v h' ⟨hv, _⟩; cases hv
  rintro v h' ⟨hv, rfl⟩
  simp only [AOut.ret.injEq] at hv
  subst hv
  refine Run.ops fun K hK => ?_
  simp
  refine hK _ _ _ ?_; clear hK K
  cases b1 with
  | false =>
    rw [if_neg (by simp)] at hr
    refine Run.draw [0, 0, 0, 1, 1, 1, 1, 1, 1, 1, 1, 1, 1, 1, 1, 1, 1, 1, 1, 2, 3, 3] [0, 0, 0, 0, 0, 0, 0, 0, 0, 0, 0, 0, 0, 0, 0, 0, 0, 0, 1, 2, 0, 0] [0, 0, 3, 7, 15, 31, 63, 31, 31, 415, 1023, 2047, 4095, 8191, 8191, 32767, 8191, 8191, 204799, 524287, 1048575, 2097151] [0, 1, 2, 3, 4, 5, 6, 7, 8, 9, 10, 11, 12, 16, 17, 18, 13, 14, 15, 19, 20, 21] (by kernel_rfl) (by kernel_rfl) ?_
    refine DR.go fun K hK => ?_
    simp
    refine hK _ _ _ _ ?_; clear hK K
    refine DR.call rfl rfl rfl (by simp) rfl (c2 _ (hh.app (by simp))) ?_
    refine DR.go fun K hK => ?_
    simp
    refine hK _ _ _ _ ?_; clear hK K
    change Run _ _ _ _ _ _ _ _
    refine Run.cond (b := true) (by simp) ?_
    simp only [if_true]
    refine Run.reg fun K hK => ?_
    simp
    refine hK _ _ _ ?_; clear hK K
    refine Run.ret ?_
    exact Fin.ret' (h0 := h) (xs := [.p (.prim (.slice none 0 0)), bA false]) (by simp) rfl hh rfl (by simp) rfl (Weak.tup (WeakL.cons (Weak.nil 5) (WeakL.refl _))) (by simp) ⟨by rw [hr]; rfl, rfl⟩
  | true =>
    have hw1 : IntKind.i64.wrap ((np : Int) + ni) = (np : Int) + ni := wrap_id (by omega) (by omega)
    by_cases e1 : (xs.length : Int) = np + ni
    · have e1' : ((xs.length : Int) != (np : Int) + ni) = false := by simp [e1]
      have hle : (np : Int) ≤ xs.length := by omega
      have hle' : np ≤ xs.length := by omega
      cases b2 with
      | false =>
        rw [if_neg (by simp)] at hr
        refine Run.draw [0, 0, 0, 1, 1, 1, 1, 1, 1, 1, 1, 1, 1, 1, 1, 1, 1, 1, 1, 2, 3, 3] [0, 0, 0, 0, 0, 0, 0, 0, 0, 0, 0, 0, 0, 0, 0, 0, 0, 0, 1, 2, 0, 0] [0, 0, 3, 7, 15, 31, 63, 31, 31, 415, 1023, 2047, 4095, 8191, 8191, 32767, 8191, 8191, 204799, 524287, 1048575, 2097151] [0, 1, 2, 3, 4, 5, 6, 7, 8, 9, 10, 11, 12, 16, 17, 18, 13, 14, 15, 19, 20, 21] (by kernel_rfl) (by kernel_rfl) ?_
        refine DR.go fun K hK => ?_
        simp
        refine hK _ _ _ _ ?_; clear hK K
        refine DR.call rfl rfl rfl (by simp) rfl (c2 _ (hh.app (by simp))) ?_
        refine DR.go fun K hK => ?_
        simp [e1', hw1]
        refine hK _ _ _ _ ?_; clear hK K
        refine DR.call rfl rfl rfl (by simp) rfl (c3 _ (hh.app (by simp))) ?_
        refine DR.go fun K hK => ?_
        simp [hle]
        refine hK _ _ _ _ ?_; clear hK K
        refine DR.call (args := [.p (.sl 5 (tmPs (xs.take np))), .p (.sl 5 (tmPs vl))]) rfl rfl rfl (by simp) rfl (c4 _ (hh.app (by simp))) ?_
        refine DR.go fun K hK => ?_
        simp
        refine hK _ _ _ _ ?_; clear hK K
        change Run _ _ _ _ _ _ _ _
        refine Run.cond (b := true) (by simp) ?_
        simp only [if_true]
        refine Run.reg fun K hK => ?_
        simp
        refine hK _ _ _ ?_; clear hK K
        refine Run.ret ?_
        exact Fin.ret' (h0 := h) (xs := [.p (.prim (.slice none 0 0)), bA false]) (by simp) rfl hh rfl (by simp) rfl (Weak.tup (WeakL.cons (Weak.nil 5) (WeakL.refl _))) (by simp) ⟨by rw [hr]; rfl, rfl⟩
      | true =>
        rw [if_pos (by simp; omega)] at hr
        refine Run.draw [0, 0, 0, 1, 1, 1, 1, 1, 1, 1, 1, 1, 1, 1, 1, 1, 1, 1, 1, 2, 3, 3] [0, 0, 0, 0, 0, 0, 0, 0, 0, 0, 0, 0, 0, 0, 0, 0, 0, 0, 1, 2, 0, 0] [0, 0, 3, 7, 15, 31, 63, 31, 31, 415, 1023, 2047, 4095, 8191, 8191, 32767, 8191, 8191, 204799, 524287, 1048575, 2097151] [0, 1, 2, 3, 4, 5, 6, 7, 8, 9, 10, 11, 12, 16, 17, 18, 13, 14, 15, 19, 20, 21] (by kernel_rfl) (by kernel_rfl) ?_
        refine DR.go fun K hK => ?_
        simp
        refine hK _ _ _ _ ?_; clear hK K
        refine DR.call rfl rfl rfl (by simp) rfl (c2 _ (hh.app (by simp))) ?_
        refine DR.go fun K hK => ?_
        simp [e1', hw1]
        refine hK _ _ _ _ ?_; clear hK K
        refine DR.call rfl rfl rfl (by simp) rfl (c3 _ (hh.app (by simp))) ?_
        refine DR.go fun K hK => ?_
        simp [hle]
        refine hK _ _ _ _ ?_; clear hK K
        refine DR.call (args := [.p (.sl 5 (tmPs (xs.take np))), .p (.sl 5 (tmPs vl))]) rfl rfl rfl (by simp) rfl (c4 _ (hh.app (by simp))) ?_
        refine DR.go fun K hK => ?_
        simp
        refine hK _ _ _ _ ?_; clear hK K
        change Run _ _ _ _ _ _ _ _
        refine Run.cond (b := false) (by simp) ?_
        simp only [Bool.false_eq_true, if_false]
        refine Run.reg fun K hK => ?_
        simp [hle]
        refine hK _ _ _ ?_; clear hK K
        refine Run.ret ?_
        exact Fin.ret' (h0 := h) (by simp) rfl hh rfl (by simp; rfl) rfl (Weak.refl _) (by simp) ⟨by rw [hr]; simp [optL], rfl⟩
    · rw [if_neg (by omega)] at hr
      have e1' : ((xs.length : Int) != (np : Int) + ni) = true := by simp [e1]
      refine Run.draw [0, 0, 0, 1, 1, 1, 1, 1, 1, 1, 1, 1, 1, 1, 1, 1, 1, 1, 1, 2, 3, 3] [0, 0, 0, 0, 0, 0, 0, 0, 0, 0, 0, 0, 0, 0, 0, 0, 0, 0, 1, 2, 0, 0] [0, 0, 3, 7, 15, 31, 63, 31, 31, 415, 1023, 2047, 4095, 8191, 8191, 32767, 8191, 8191, 204799, 524287, 1048575, 2097151] [0, 1, 2, 3, 4, 5, 6, 7, 8, 9, 10, 11, 12, 16, 17, 18, 13, 14, 15, 19, 20, 21] (by kernel_rfl) (by kernel_rfl) ?_
      refine DR.go fun K hK => ?_
      simp
      refine hK _ _ _ _ ?_; clear hK K
      refine DR.call rfl rfl rfl (by simp) rfl (c2 _ (hh.app (by simp))) ?_
      refine DR.go fun K hK => ?_
      simp [e1', hw1]
      refine hK _ _ _ _ ?_; clear hK K
      change Run _ _ _ _ _ _ _ _
      refine Run.cond (b := true) (by simp) ?_
      simp only [if_true]
      refine Run.reg fun K hK => ?_
      simp
      refine hK _ _ _ ?_; clear hK K
      refine Run.ret ?_
      exact Fin.ret' (h0 := h) (xs := [.p (.prim (.slice none 0 0)), bA false]) (by simp) rfl hh rfl (by simp) rfl (Weak.tup (WeakL.cons (Weak.nil 5) (WeakL.refl _))) (by simp) ⟨by rw [hr]; rfl, rfl⟩

end Go.Proofs.Ytppgpabjcenjdaa
