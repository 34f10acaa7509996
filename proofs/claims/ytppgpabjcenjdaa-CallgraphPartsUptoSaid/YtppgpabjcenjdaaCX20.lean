/-
  family: ctor, on both sides.
-/
import Derived.Test.YtppgpabjcenjdaaCX19

namespace Go.Proofs.Ytppgpabjcenjdaa

open Go Go.AI
def zCn : Cn := ⟨[], [], [], []⟩
def Cn.av (c : Cn) : AV := .agg (c.cells.map .p)
def optC (o : Option Cn) : Cn := o.getD zCn
theorem cn_weak0 : Weak (.agg [.p (sP []), .p (.prim (.slice none 0 0)), .p (.prim (.slice none 0 0)), .p (.prim (.slice none 0 0))]) zCn.av := by
  simp only [zCn, Cn.av, Cn.cells, List.map, tmPs, rcPs]
  refine Weak.agg ?_
  repeat' (first | exact WeakL.nil | apply WeakL.cons)
  all_goals first | exact Weak.refl _ | exact Weak.nil _
def Ct.av (c : Ct) : AV := .agg (c.cells.map .p)
set_option maxRecDepth 8000 in
set_option maxHeartbeats 8000000 in
theorem ctor_any (h : Heap) (hh : WF h) (own : Tm) (ps : List Tm) (ni : Nat) (c : Ct) (hp : ps.length ≤ 1048576) (hi : ni ≤ 1048576) (hs : c.ty.size ≤ 1048576) (hl : c.ty.lvs) :
    ACalls Try.prog 187 [shA own ps ni, c.av] h fun o h' => o = .ret (.tup [(optC (ctorZ own ps ni c.nm c.ty)).av, bA (ctorZ own ps ni c.nm c.ty).isSome]) ∧ h' = h := by
  obtain ⟨nm, ty⟩ := c
  simp only at hs hl ⊢
  have c1 := fun (g : Heap) (hw : WF g) => all69_any g hw ty hs
  have hao := all_ok ty hl hs
  obtain ⟨r, hr⟩ : ∃ r, r = ctorZ own ps ni nm ty := ⟨_, rfl⟩
  rw [← hr]
  unfold ctorZ at hr
  generalize resAll ty = q at c1 hao hr
  obtain ⟨bs, bd⟩ := q
  simp only at c1 hao hr
  have c2 := fun (g : Heap) (hw : WF g) => alike_any g hw (bs.take ps.length) ps (by simp; omega) (fun u hu => by
    have := hao.1 u (List.mem_of_mem_take hu); exact ⟨this.1, by omega⟩)
  have c3 := fun (g : Heap) (hw : WF g) => result_any g hw own ps ni bd (bs.drop ps.length).length hp hi hao.2.2.1 hao.2.1 (by simp; omega)
  have c4 := fun (g : Heap) (hw : WF g) => recursive_any g hw own ps ni (bs.drop ps.length) hp hi (by simp; omega) (fun u hu => hao.1 u (List.mem_of_mem_drop hu))
  generalize sameL (bs.take ps.length) ps = b at c2 hr
  generalize resultZ own ps.length ni bd (bs.drop ps.length).length = o at c3 hr
  generalize recZ own ps.length ni (bs.drop ps.length) 0 = rz at c4 hr
  have hbl := hao.2.2.2
  clear hao
  obtain ⟨k, i, n, ls, ks⟩ := own
  obtain ⟨k1, i1, n1, l1, s1⟩ := ty
  obtain ⟨k2, i2, n2, l2, s2⟩ := bd
  simp only [shA, Ct.av, Ct.cells, Tm.av, cells_mk, List.map, List.cons_append, List.nil_append] at c1 c2 c3 c4 ⊢
  refine ACalls.of_run Try.func187 rfl ?_
  simp only [Try.ntmps187, List.length_cons, List.length_nil]
  refine Run.reg fun K hK => ?_
  simp
  refine hK _ _ _ ?_; clear hK K
  refine Run.reg fun K hK => ?_
  simp
  refine hK _ _ _ ?_; clear hK K
  refine Run.call rfl (by first | rfl | simp) (by simp) rfl (c1 _ (hh.app (by simp))) ?_ ?_
  rotate_left
  · rintro v h' ⟨hv, _⟩; cases hv
  rintro v h' ⟨hv, rfl⟩
  simp only [AOut.ret.injEq] at hv
  subst hv
  refine Run.ops fun K hK => ?_
  simp
  refine hK _ _ _ ?_; clear hK K
  refine Run.reg fun K hK => ?_
  simp
  refine hK _ _ _ ?_; clear hK K
  by_cases e1 : bs.length < ps.length
  · rw [if_neg (by omega)] at hr
    have e1' : (bs.length : Int) < ps.length := by omega
    refine Run.draw [0, 0, 0, 0, 0, 0, 0, 0, 0, 0, 0, 1, 1] [0, 0, 0, 0, 0, 0, 0, 0, 0, 0, 0, 0, 0] [0, 1, 0, 7, 15, 31, 31, 127, 31, 287, 1023, 2047, 4095] [0, 1, 2, 3, 4, 5, 6, 7, 8, 9, 10, 11, 12] (by kernel_rfl) (by kernel_rfl) ?_
    refine DR.go fun K hK => ?_
    simp [e1']
    refine hK _ _ _ _ ?_; clear hK K
    change Run _ _ _ _ _ _ _ _
    refine Run.cond (b := true) (by simp) ?_
    simp only [if_true]
    refine Run.reg fun K hK => ?_
    simp
    refine hK _ _ _ ?_; clear hK K
    refine Run.ret ?_
    exact Fin.ret' (h0 := h) (xs := [.agg [.p (sP []), .p (.prim (.slice none 0 0)), .p (.prim (.slice none 0 0)), .p (.prim (.slice none 0 0))], bA false]) (by simp) rfl hh rfl (by simp) rfl (Weak.tup (WeakL.cons cn_weak0 (WeakL.refl _))) (by simp [Cn.av, zCn, Cn.cells]) ⟨by rw [hr]; rfl, rfl⟩
  have e1' : ¬ (bs.length : Int) < ps.length := by omega
  have e2 : ps.length ≤ bs.length := by omega
  have e2' : (ps.length : Int) ≤ bs.length := by omega
  cases b with
  | false =>
    rw [if_neg (by simp)] at hr
    refine Run.draw [0, 0, 0, 0, 0, 0, 0, 0, 0, 0, 0, 1, 1] [0, 0, 0, 0, 0, 0, 0, 0, 0, 0, 0, 0, 0] [0, 1, 0, 7, 15, 31, 31, 127, 31, 287, 1023, 2047, 4095] [0, 1, 2, 3, 4, 5, 6, 7, 8, 9, 10, 11, 12] (by kernel_rfl) (by kernel_rfl) ?_
    refine DR.go fun K hK => ?_
    simp [e1', e2']
    refine hK _ _ _ _ ?_; clear hK K
    refine DR.call (args := [.p (.sl 5 (tmPs (bs.take ps.length))), .p (.sl 5 (tmPs ps)), .p (.prim (.func (.func 74) #[] #[]))]) rfl rfl rfl (by simp) rfl (c2 _ (hh.app (by simp))) ?_
    refine DR.go fun K hK => ?_
    simp
    refine hK _ _ _ _ ?_; clear hK K
    change Run _ _ _ _ _ _ _ _
    refine Run.cond (b := true) (by simp) ?_
    simp only [if_true]
    refine Run.reg fun K hK => ?_
    simp
    refine hK _ _ _ ?_; clear hK K
    refine Run.ret ?_
    exact Fin.ret' (h0 := h) (xs := [.agg [.p (sP []), .p (.prim (.slice none 0 0)), .p (.prim (.slice none 0 0)), .p (.prim (.slice none 0 0))], bA false]) (by simp) rfl hh rfl (by simp) rfl (Weak.tup (WeakL.cons cn_weak0 (WeakL.refl _))) (by simp [Cn.av, zCn, Cn.cells]) ⟨by rw [hr]; rfl, rfl⟩
  | true =>
    rw [if_pos ⟨e2, rfl⟩] at hr
    refine Run.draw [0, 0, 0, 0, 0, 0, 0, 0, 0, 0, 0, 1, 1] [0, 0, 0, 0, 0, 0, 0, 0, 0, 0, 0, 0, 0] [0, 1, 0, 7, 15, 31, 31, 127, 31, 287, 1023, 2047, 4095] [0, 1, 2, 3, 4, 5, 6, 7, 8, 9, 10, 11, 12] (by kernel_rfl) (by kernel_rfl) ?_
    refine DR.go fun K hK => ?_
    simp [e1', e2']
    refine hK _ _ _ _ ?_; clear hK K
    refine DR.call (args := [.p (.sl 5 (tmPs (bs.take ps.length))), .p (.sl 5 (tmPs ps)), .p (.prim (.func (.func 74) #[] #[]))]) rfl rfl rfl (by simp) rfl (c2 _ (hh.app (by simp))) ?_
    refine DR.go fun K hK => ?_
    simp
    refine hK _ _ _ _ ?_; clear hK K
    change Run _ _ _ _ _ _ _ _
    refine Run.cond (b := false) (by simp) ?_
    simp only [Bool.false_eq_true, if_false]
    refine Run.reg fun K hK => ?_
    simp [e2']
    refine hK _ _ _ ?_; clear hK K
    refine Run.reg fun K hK => ?_
    simp
    refine hK _ _ _ ?_; clear hK K
    obtain ⟨fs, hfs⟩ : ∃ fs, fs = bs.drop ps.length := ⟨_, rfl⟩
    have hfl : fs.length = bs.length - ps.length := by rw [hfs]; simp
    rw [← hfs] at c3 c4 hr ⊢
    rw [hfl] at c3
    refine Run.call rfl (by first | rfl | simp) (by simp) rfl (c3 _ (hh.app (by simp))) ?_ ?_
    rotate_left
    · rintro v h' ⟨hv, _⟩; cases hv
    rintro v h' ⟨hv, rfl⟩
    simp only [AOut.ret.injEq] at hv
    subst hv
    refine Run.ops fun K hK => ?_
    simp
    refine hK _ _ _ ?_; clear hK K
    cases o with
    | none =>
      simp only at hr
      refine Run.reg fun K hK => ?_
      simp
      refine hK _ _ _ ?_; clear hK K
      refine Run.cond (b := true) (by simp) ?_
      simp only [if_true]
      refine Run.reg fun K hK => ?_
      simp
      refine hK _ _ _ ?_; clear hK K
      refine Run.ret ?_
      exact Fin.ret' (h0 := h) (xs := [.agg [.p (sP []), .p (.prim (.slice none 0 0)), .p (.prim (.slice none 0 0)), .p (.prim (.slice none 0 0))], bA false]) (by simp) rfl hh rfl (by simp) rfl (Weak.tup (WeakL.cons cn_weak0 (WeakL.refl _))) (by simp [Cn.av, zCn, Cn.cells]) ⟨by rw [hr]; rfl, rfl⟩
    | some ix =>
      simp only at hr
      refine Run.reg fun K hK => ?_
      simp
      refine hK _ _ _ ?_; clear hK K
      refine Run.cond (b := false) (by simp) ?_
      simp only [Bool.false_eq_true, if_false]
      refine Run.draw [0, 0, 0, 0, 0, 0, 0, 1, 1, 2] [0, 0, 0, 0, 0, 0, 0, 0, 1, 0] [0, 1, 0, 0, 0, 24, 0, 127, 255, 511] [3, 4, 5, 0, 1, 2, 6, 7, 8, 9] (by kernel_rfl) (by kernel_rfl) ?_
      refine DR.go fun K hK => ?_
      simp
      refine hK _ _ _ _ ?_; clear hK K
      refine DR.call rfl rfl rfl (by simp) rfl (c4 _ (hh.app (by simp))) ?_
      refine DR.go fun K hK => ?_
      simp
      refine hK _ _ _ _ ?_; clear hK K
      change Run _ _ _ _ _ _ _ _
      refine Run.ret ?_
      exact Fin.ret' (h0 := h) (by simp) rfl hh rfl (by simp; rfl) rfl (Weak.refl _) (by simp) ⟨by rw [hr]; simp [optC, optL, Cn.av, Cn.cells], rfl⟩

structure An where
  nm : List UInt8
  pr : Int
  ps : List Tm
  ix : List Tm
  st : Tm
  cs : List Cn
def An.cells (a : An) : List PV := sP a.nm :: iP a.pr :: .sl 5 (tmPs a.ps) :: .sl 5 (tmPs a.ix) :: (a.st.cells ++ [.sl 4 (cnPs a.cs)])
def An.av (a : An) : AV := .agg (a.cells.map .p)
set_option maxRecDepth 8000 in
set_option maxHeartbeats 16000000 in
theorem refCtor_any (h : Heap) (hh : WF h) (a : An) (c : Ct) (hp : a.ps.length ≤ 1048576) (hi : a.ix.length ≤ 1048576) (h8 : a.pr ≤ 8) (hs : c.ty.size ≤ 1048576) (hl : c.ty.lvs) :
    ACalls Try.prog 190 [a.av, c.av] h fun o h' => o = .ret (.tup [(optC (ctorZ (ownT a.nm a.pr) a.ps a.ix.length c.nm c.ty)).av, bA (ctorZ (ownT a.nm a.pr) a.ps a.ix.length c.nm c.ty).isSome]) ∧ h' = h := by
  obtain ⟨anm, pr, ps, ax, ⟨t1, t2, t3, t4, t5⟩, acs⟩ := a
  obtain ⟨nm, ty⟩ := c
  simp only at hs hl hp hi h8 ⊢
  have c0 := fun (g : Heap) (hw : WF g) => own220_any g hw anm pr h8
  have c1 := fun (g : Heap) (hw : WF g) => all70_any g hw ty hs
  have hao := all_ok ty hl hs
  obtain ⟨r, hr⟩ : ∃ r, r = ctorZ (ownT anm pr) ps ax.length nm ty := ⟨_, rfl⟩
  rw [← hr]
  unfold ctorZ at hr
  generalize resAll ty = q at c1 hao hr
  obtain ⟨bs, bd⟩ := q
  simp only at c1 hao hr
  generalize ownT anm pr = own at c0 hr
  have c2 := fun (g : Heap) (hw : WF g) => sameL_any g hw (bs.take ps.length) ps (by simp; omega) (fun u hu => by
    have := hao.1 u (List.mem_of_mem_take hu); exact ⟨this.1, by omega⟩)
  have hres := fun (t : Tm) (dp : Int) (hs : t.size ≤ 1048576) (hl : t.lvs) (hd : dp ≤ 1099511627776) (g : Heap) (hw : WF g) => refResult_any g hw own t ps.length ax.length dp hp hi hs hl hd
  have c3 := hres bd (bs.drop ps.length).length hao.2.2.1 hao.2.1 (by simp; omega)
  have hfok : ∀ u ∈ bs.drop ps.length, u.lvs ∧ u.size ≤ 1048576 := fun u hu => hao.1 u (List.mem_of_mem_drop hu)
  generalize sameL (bs.take ps.length) ps = b at c2 hr
  obtain ⟨RO, hRO⟩ : ∃ f, f = resultZ own ps.length ax.length := ⟨_, rfl⟩
  obtain ⟨RZ, hRZ⟩ : ∃ f, f = fun l => recZ own ps.length ax.length l 0 := ⟨_, rfl⟩
  have hRl : ∀ l, (RZ l).length ≤ l.length := fun l => by rw [hRZ]; exact recZ_len _ _ _ _ _
  have hRs : ∀ l a, RZ (l ++ [a]) = RZ l ++ recOne own ps.length ax.length l.length a := fun l a => by rw [hRZ]; simp [recZ_snoc]
  have hR0 : RZ [] = [] := by rw [hRZ]; rfl
  rw [show ∀ l, recZ own ps.length ax.length l 0 = RZ l from fun l => by rw [hRZ]] at hr
  unfold recOne at hRs
  rw [← hRO] at c3 hr hRs hres
  have hbl := hao.2.2.2
  clear hao hRO hRZ
  obtain ⟨fs, hfs⟩ : ∃ fs, fs = bs.drop ps.length := ⟨_, rfl⟩
  have hfl : fs.length = bs.length - ps.length := by rw [hfs]; simp
  rw [← hfs] at hr c3 hfok
  generalize RO bd fs.length = o at c3 hr
  obtain ⟨k, i, n, ls, ks⟩ := own
  obtain ⟨k1, i1, n1, l1, s1⟩ := ty
  obtain ⟨k2, i2, n2, l2, s2⟩ := bd
  simp only [An.av, An.cells, Ct.av, Ct.cells, Tm.av, cells_mk, List.map, List.cons_append, List.nil_append] at c0 c1 c2 c3 hres ⊢
  refine ACalls.of_run Try.func190 rfl ?_
  simp only [Try.ntmps190, List.length_cons, List.length_nil]
  refine Run.reg fun K hK => ?_
  simp
  refine hK _ _ _ ?_; clear hK K
  refine Run.reg fun K hK => ?_
  simp
  refine hK _ _ _ ?_; clear hK K
  refine Run.call rfl (by first | rfl | simp) (by simp) rfl (c0 _ (hh.app (by simp))) ?_ ?_
  rotate_left
  · rintro v h' ⟨hv, _⟩; cases hv
  rintro v h' ⟨hv, rfl⟩
  simp only [AOut.ret.injEq] at hv
  subst hv
  refine Run.ops fun K hK => ?_
  simp
  refine hK _ _ _ ?_; clear hK K
  refine Run.reg fun K hK => ?_
  simp
  refine hK _ _ _ ?_; clear hK K
  refine Run.call rfl (by first | rfl | simp) (by simp) rfl (c1 _ (hh.app (by simp))) ?_ ?_
  rotate_left
  · rintro v h' ⟨hv, _⟩; cases hv
  rintro v h' ⟨hv, rfl⟩
  simp only [AOut.ret.injEq] at hv
  subst hv
  refine Run.ops fun K hK => ?_
  simp
  refine hK _ _ _ ?_; clear hK K
  refine Run.draw [0, 0, 0, 0, 0, 0, 0, 0] [0, 0, 0, 0, 0, 0, 0, 0] [0, 1, 3, 0, 8, 24, 7, 127] [0, 1, 2, 3, 4, 5, 6, 7] (by kernel_rfl) (by kernel_rfl) ?_
  refine DR.go fun K hK => ?_
  simp
  refine hK _ _ _ _ ?_; clear hK K
  change Run _ _ _ _ _ _ _ _
  by_cases e1 : bs.length < ps.length
  · rw [if_neg (by omega)] at hr
    have e1' : (bs.length : Int) < ps.length := by omega
    refine Run.draw [0, 0, 0, 0, 0, 0, 0, 0, 0, 0, 0, 1, 1] [0, 0, 0, 0, 0, 0, 0, 0, 0, 0, 0, 0, 0] [0, 1, 0, 7, 15, 31, 31, 127, 31, 287, 1023, 2047, 4095] [0, 1, 2, 3, 4, 5, 6, 7, 8, 9, 10, 11, 12] (by kernel_rfl) (by kernel_rfl) ?_
    refine DR.go fun K hK => ?_
    simp [e1']
    refine hK _ _ _ _ ?_; clear hK K
    change Run _ _ _ _ _ _ _ _
    refine Run.cond (b := true) (by simp) ?_
    simp only [if_true]
    refine Run.reg fun K hK => ?_
    simp
    refine hK _ _ _ ?_; clear hK K
    refine Run.ret ?_
    exact Fin.ret' (h0 := h) (xs := [.agg [.p (sP []), .p (.prim (.slice none 0 0)), .p (.prim (.slice none 0 0)), .p (.prim (.slice none 0 0))], bA false]) (by simp) rfl hh rfl (by simp) rfl (Weak.tup (WeakL.cons cn_weak0 (WeakL.refl _))) (by simp [Cn.av, zCn, Cn.cells]) ⟨by rw [hr]; rfl, rfl⟩
  have e1' : ¬ (bs.length : Int) < ps.length := by omega
  have e2 : ps.length ≤ bs.length := by omega
  have e2' : (ps.length : Int) ≤ bs.length := by omega
  cases b with
  | false =>
    rw [if_neg (by simp)] at hr
    refine Run.draw [0, 0, 0, 0, 0, 0, 0, 0, 0, 0, 0, 1, 1] [0, 0, 0, 0, 0, 0, 0, 0, 0, 0, 0, 0, 0] [0, 1, 0, 7, 15, 31, 31, 127, 31, 287, 1023, 2047, 4095] [0, 1, 2, 3, 4, 5, 6, 7, 8, 9, 10, 11, 12] (by kernel_rfl) (by kernel_rfl) ?_
    refine DR.go fun K hK => ?_
    simp [e1', e2']
    refine hK _ _ _ _ ?_; clear hK K
    refine DR.call (args := [.p (.sl 5 (tmPs (bs.take ps.length))), .p (.sl 5 (tmPs ps))]) rfl rfl rfl (by simp) rfl (c2 _ (hh.app (by simp))) ?_
    refine DR.go fun K hK => ?_
    simp
    refine hK _ _ _ _ ?_; clear hK K
    change Run _ _ _ _ _ _ _ _
    refine Run.cond (b := true) (by simp) ?_
    simp only [if_true]
    refine Run.reg fun K hK => ?_
    simp
    refine hK _ _ _ ?_; clear hK K
    refine Run.ret ?_
    exact Fin.ret' (h0 := h) (xs := [.agg [.p (sP []), .p (.prim (.slice none 0 0)), .p (.prim (.slice none 0 0)), .p (.prim (.slice none 0 0))], bA false]) (by simp) rfl hh rfl (by simp) rfl (Weak.tup (WeakL.cons cn_weak0 (WeakL.refl _))) (by simp [Cn.av, zCn, Cn.cells]) ⟨by rw [hr]; rfl, rfl⟩
  | true =>
    rw [if_pos ⟨e2, rfl⟩] at hr
    refine Run.draw [0, 0, 0, 0, 0, 0, 0, 0, 0, 0, 0, 1, 1] [0, 0, 0, 0, 0, 0, 0, 0, 0, 0, 0, 0, 0] [0, 1, 0, 7, 15, 31, 31, 127, 31, 287, 1023, 2047, 4095] [0, 1, 2, 3, 4, 5, 6, 7, 8, 9, 10, 11, 12] (by kernel_rfl) (by kernel_rfl) ?_
    refine DR.go fun K hK => ?_
    simp [e1', e2']
    refine hK _ _ _ _ ?_; clear hK K
    refine DR.call (args := [.p (.sl 5 (tmPs (bs.take ps.length))), .p (.sl 5 (tmPs ps))]) rfl rfl rfl (by simp) rfl (c2 _ (hh.app (by simp))) ?_
    refine DR.go fun K hK => ?_
    simp
    refine hK _ _ _ _ ?_; clear hK K
    change Run _ _ _ _ _ _ _ _
    refine Run.cond (b := false) (by simp) ?_
    simp only [Bool.false_eq_true, if_false]
    refine Run.draw [0, 0, 0, 0, 0, 0, 0, 1] [0, 0, 0, 0, 0, 0, 0, 1] [0, 1, 0, 0, 12, 31, 0, 127] [6, 0, 1, 2, 3, 4, 5, 7] (by kernel_rfl) (by kernel_rfl) ?_
    refine DR.go fun K hK => ?_
    simp [e2']
    refine hK _ _ _ _ ?_; clear hK K
    change Run _ _ _ _ _ _ _ _
    rw [← hfs]
    refine Run.reg fun K hK => ?_
    simp
    refine hK _ _ _ ?_; clear hK K
    refine Run.call rfl (by first | rfl | simp) (by simp) rfl (c3 _ (hh.app (by simp))) ?_ ?_
    rotate_left
    · rintro v h' ⟨hv, _⟩; cases hv
    rintro v h' ⟨hv, rfl⟩
    simp only [AOut.ret.injEq] at hv
    subst hv
    refine Run.ops fun K hK => ?_
    simp
    refine hK _ _ _ ?_; clear hK K
    cases o with
    | none =>
      simp only at hr
      refine Run.reg fun K hK => ?_
      simp
      refine hK _ _ _ ?_; clear hK K
      refine Run.cond (b := true) (by simp) ?_
      simp only [if_true]
      refine Run.reg fun K hK => ?_
      simp
      refine hK _ _ _ ?_; clear hK K
      refine Run.ret ?_
      exact Fin.ret' (h0 := h) (xs := [.agg [.p (sP []), .p (.prim (.slice none 0 0)), .p (.prim (.slice none 0 0)), .p (.prim (.slice none 0 0))], bA false]) (by simp) rfl hh rfl (by simp) rfl (Weak.tup (WeakL.cons cn_weak0 (WeakL.refl _))) (by simp [Cn.av, zCn, Cn.cells]) ⟨by rw [hr]; rfl, rfl⟩
    | some ix =>
      simp only at hr
      refine Run.reg fun K hK => ?_
      simp
      refine hK _ _ _ ?_; clear hK K
      refine Run.cond (b := false) (by simp) ?_
      simp only [Bool.false_eq_true, if_false]
      refine Run.reg fun K hK => ?_
      simp
      refine hK _ _ _ ?_; clear hK K
      simp only [optL, Option.getD_some]
      refine Run.reg fun K hK => ?_
      simp
      refine hK _ _ _ ?_; clear hK K
      refine Run.tokAt (h.length + 5) 2 3 (by simp; rfl) (by simp) ?_
      simp
      refine Run.loopS [2, 4, 6, 9, 10, 11] (fun j : Nat => j ≤ fs.length) (fun j => fs.length - j) (fun j => [(14, iA j)])
        (fun j => h ++ [some (.cells [.p (sP anm), .p (iP pr), .p (.sl 5 (tmPs ps)), .p (.sl 5 (tmPs ax)), .p (iP t1), .p (iP t2), .p (sP t3), .p (.sl 2 (lvPs t4)), .p (.sl 5 (tmPs t5)), .p (.sl 4 (cnPs acs))]), some (.cells [.p (sP nm), .p (iP k1), .p (iP i1), .p (sP n1), .p (.sl 2 (lvPs l1)), .p (.sl 5 (tmPs s1))]), some (.cells [.p (sP []), .p (.prim (.slice none 0 0)), .p (.prim (.slice none 0 0)), .p (.prim (.slice none 0 0))]), some (.cells [.p (iP k), .p (iP i), .p (sP n), .p (.sl 2 (lvPs ls)), .p (.sl 5 (tmPs ks))]), some (.cells [.p (iP k2), .p (iP i2), .p (sP n2), .p (.sl 2 (lvPs l2)), .p (.sl 5 (tmPs s2))]), some (.cells [.p (sP nm), .p (.sl 5 (tmPs fs)), .own (h.length + 6) 3 (rcPs (RZ (fs.take j))), .p (.sl 5 (tmPs ix))]), some (.tok (RZ (fs.take j)).length 3)]) 0 (by simp) ?_ (by simp [hR0, rcPs]) ?_
      · simp
        repeat' (first | exact WeakL.nil | apply WeakL.cons)
        all_goals first | exact Weak.junk _ | exact Weak.refl _ | exact Weak.nil _ | exact Weak.own _ _ _ | exact Weak.int (by omega)
      intro j hj IH
      simp
      refine Run.reg fun K hK => ?_
      simp
      refine hK _ _ _ ?_; clear hK K
      by_cases hjl : j < fs.length
      · have hg : fs[j]? = some fs[j] := List.getElem?_eq_getElem hjl
        have htk : fs.take (j + 1) = fs.take j ++ [fs[j]] := List.take_succ_eq_append_getElem hjl
        have hu := hfok _ (List.getElem_mem hjl)
        have hsn := hRs (fs.take j) fs[j]
        rw [← htk, List.length_take, Nat.min_eq_left hj] at hsn
        have hlr := hRl (fs.take j)
        rw [List.length_take, Nat.min_eq_left hj] at hlr
        generalize fs[j] = u at hg hu hsn
        have d1 := fun (g : Heap) (hw : WF g) => all70_any g hw u hu.2
        have hao := all_ok u hu.1 hu.2
        generalize resAll u = q at d1 hao hsn
        obtain ⟨b1, bd⟩ := q
        simp only at hao hsn d1
        have d2 := hres bd ((j : Int) + b1.length) hao.2.2.1 hao.2.1 (by omega)
        generalize RO bd ((j : Int) + b1.length) = o at d2 hsn
        obtain ⟨v1, v2, v3, v4, v5⟩ := u
        obtain ⟨w1, w2, w3, w4, w5⟩ := bd
        simp only [Tm.av, cells_mk, List.map] at d1 d2
        generalize RZ (fs.take j) = r0 at hsn hlr
        refine Run.cond (b := true) (by simp [hjl]) ?_
        simp only [if_true]
        refine Run.reg fun K hK => ?_
        simp [hg]
        refine hK _ _ _ ?_; clear hK K
        refine Run.call rfl (by first | rfl | simp) (by simp) rfl (d1 _ (hh.app (by simp))) ?_ ?_
        rotate_left
        · rintro v h' ⟨hv, _⟩; cases hv
        rintro v h' ⟨hv, rfl⟩
        simp only [AOut.ret.injEq] at hv
        subst hv
        refine Run.ops fun K hK => ?_
        simp
        refine hK _ _ _ ?_; clear hK K
        refine Run.reg fun K hK => ?_
        simp
        refine hK _ _ _ ?_; clear hK K
        refine Run.call rfl (by first | rfl | simp) (by simp) rfl (d2 _ (hh.app (by simp))) ?_ ?_
        rotate_left
        · rintro v h' ⟨hv, _⟩; cases hv
        rintro v h' ⟨hv, rfl⟩
        simp only [AOut.ret.injEq] at hv
        subst hv
        refine Run.ops fun K hK => ?_
        simp
        refine hK _ _ _ ?_; clear hK K
        refine Run.reg fun K hK => ?_
        simp
        refine hK _ _ _ ?_; clear hK K
        cases o with
        | none =>
          simp only [List.append_nil] at hsn
          refine Run.cond (b := false) (by simp) ?_
          simp only [Bool.false_eq_true, if_false]
          refine Run.reg fun K hK => ?_
          simp
          refine hK _ _ _ ?_; clear hK K
          refine Run.keep [2, 4, 6, 9, 10, 11, 14] ?_
          simp
          refine Run.cutAt 7 hh rfl (by omega) (by simp) (by simp) (by simp) rfl ?_
          refine IH (j + 1) _ _ (by omega) (by omega) ?_ (by rw [hsn]; simp)
          simp
          repeat' (first | exact WeakL.nil | apply WeakL.cons)
          all_goals first | exact Weak.junk _ | exact Weak.refl _ | exact Weak.nil _ | exact Weak.own _ _ _ | exact Weak.int (by omega)
        | some ix =>
          simp only at hsn
          have hb1 : (r0.length + 1) * 48 ≤ 140737488355328 := by omega
          have hb2 : r0.length + 1 ≤ 9223372036854775807 := by omega
          have hb3 : (r0.length + 1) * 56 ≤ 140737488355328 := by omega
          refine Run.cond (b := true) (by simp) ?_
          simp only [if_true]
          refine Run.reg fun K hK => ?_
          simp [hb2, hb3]
          refine hK _ _ _ ?_; clear hK K
          refine Run.reg fun K hK => ?_
          simp
          refine hK _ _ _ ?_; clear hK K
          refine Run.keep [2, 4, 6, 9, 10, 11, 14] ?_
          simp
          refine Run.cutAt 7 hh rfl (by omega) (by simp) (by simp) (by simp) rfl ?_
          refine IH (j + 1) _ _ (by omega) (by omega) ?_ (by rw [hsn]; simp [rcPs, Rc.cells, optL])
          simp
          repeat' (first | exact WeakL.nil | apply WeakL.cons)
          all_goals first | exact Weak.junk _ | exact Weak.refl _ | exact Weak.nil _ | exact Weak.own _ _ _ | exact Weak.int (by omega)
      · have hje : j = fs.length := by omega
        subst hje
        rw [List.take_length]
        refine Run.cond (b := false) (by simp) ?_
        simp only [Bool.false_eq_true, if_false]
        refine Run.exit rfl ?_
        refine Run.reg fun K hK => ?_
        simp
        refine hK _ _ _ ?_; clear hK K
        refine Run.ret ?_
        refine Fin.ret' (h0 := h) (xs := [.agg [.p (sP nm), .p (.sl 5 (tmPs fs)), .own (h.length + 6) 3 (rcPs (RZ fs)), .p (.sl 5 (tmPs ix))], bA true]) (by simp) rfl hh rfl (by simp) rfl (y := .tup [(optC r).av, bA r.isSome]) ?_ (by simp [Cn.av, Cn.cells]) ⟨rfl, rfl⟩
        rw [hr]
        simp only [optC, Option.getD_some, Option.isSome_some, Cn.av, Cn.cells, List.map]
        refine Weak.tup (WeakL.cons (Weak.agg ?_) (WeakL.refl _))
        repeat' (first | exact WeakL.nil | apply WeakL.cons)
        all_goals first | exact Weak.junk _ | exact Weak.refl _ | exact Weak.nil _ | exact Weak.own _ _ _ | exact Weak.int (by omega)

end Go.Proofs.Ytppgpabjcenjdaa
