/-
  family: recursive, ctor.
-/
import Derived.Test.YtppgpabjcenjdaaCX18
import Derived.Test.YtppgpabjcenjdaaCFX

namespace Go.Proofs.Ytppgpabjcenjdaa

open Go Go.AI

structure Rc where
  i : Nat
  bs : List Tm
  ix : List Tm
def Rc.cells (r : Rc) : List PV := [iP r.i, .sl 5 (tmPs r.bs), .sl 5 (tmPs r.ix)]
def rcPs (l : List Rc) : List (List PV) := l.map Rc.cells
@[simp] theorem rcPs_length (l : List Rc) : (rcPs l).length = l.length := by simp [rcPs]
@[simp] theorem rcPs_get (l : List Rc) (i : Nat) : (rcPs l)[i]? = (l[i]?).map Rc.cells := by simp [rcPs]

structure Cn where
  nm : List UInt8
  fs : List Tm
  rc : List Rc
  ix : List Tm
def Cn.cells (c : Cn) : List PV := [sP c.nm, .sl 5 (tmPs c.fs), .sl 3 (rcPs c.rc), .sl 5 (tmPs c.ix)]
def cnPs (l : List Cn) : List (List PV) := l.map Cn.cells
@[simp] theorem cnPs_length (l : List Cn) : (cnPs l).length = l.length := by simp [cnPs]
@[simp] theorem cnPs_get (l : List Cn) (i : Nat) : (cnPs l)[i]? = (l[i]?).map Cn.cells := by simp [cnPs]
def recOne (own : Tm) (np ni : Nat) (i : Nat) (a : Tm) : List Rc := match resultZ own np ni (resAll a).2 ((i : Int) + (resAll a).1.length) with
  | some ix => [⟨i, (resAll a).1, ix⟩]
  | none => []
def recZ (own : Tm) (np ni : Nat) : List Tm → Nat → List Rc
  | [], _ => []
  | a :: l, i => recOne own np ni i a ++ recZ own np ni l (i + 1)
theorem recZ_snoc (own : Tm) (np ni : Nat) : ∀ (l : List Tm) (i : Nat) (a : Tm), recZ own np ni (l ++ [a]) i = recZ own np ni l i ++ recOne own np ni (i + l.length) a
  | [], i, a => by simp [recZ]
  | x :: l, i, a => by simp only [List.cons_append, recZ, recZ_snoc own np ni l (i + 1) a]; simp [Nat.add_assoc, Nat.add_comm 1]
theorem recZ_len (own : Tm) (np ni : Nat) : ∀ (l : List Tm) (i : Nat), (recZ own np ni l i).length ≤ l.length
  | [], i => by simp [recZ]
  | x :: l, i => by
    have := recZ_len own np ni l (i + 1)
    have h2 : (recOne own np ni i x).length ≤ 1 := by unfold recOne; split <;> simp
    simp only [recZ, List.length_append, List.length_cons]; omega
def ctorZ (own : Tm) (ps : List Tm) (ni : Nat) (nm : List UInt8) (ty : Tm) : Option Cn :=
  if ps.length ≤ (resAll ty).1.length ∧ sameL ((resAll ty).1.take ps.length) ps = true then
    match resultZ own ps.length ni (resAll ty).2 ((resAll ty).1.drop ps.length).length with
    | some ix => some ⟨nm, (resAll ty).1.drop ps.length, recZ own ps.length ni ((resAll ty).1.drop ps.length) 0, ix⟩
    | none => none
  else none
theorem all_ok (t : Tm) (hl : t.lvs) (hs : t.size ≤ 1048576) : (∀ u ∈ (resAll t).1, u.lvs ∧ u.size ≤ 1048576) ∧ (resAll t).2.lvs ∧ (resAll t).2.size ≤ 1048576 ∧ (resAll t).1.length ≤ t.size := by
  have := allF_ok 6 1048576 t.size [] t (by simp) hl hs
  simpa [resAll] using this
set_option maxRecDepth 8000 in
set_option maxHeartbeats 8000000 in
theorem recursive_any (h : Heap) (hh : WF h) (own : Tm) (ps : List Tm) (ni : Nat) (fs : List Tm) (hp : ps.length ≤ 1048576) (hi : ni ≤ 1048576) (hf : fs.length ≤ 1048576) (hok : ∀ u ∈ fs, u.lvs ∧ u.size ≤ 1048576) :
    ACalls Try.prog 216 [shA own ps ni, .p (.sl 5 (tmPs fs))] h fun o h' => o = .ret (.p (.sl 3 (rcPs (recZ own ps.length ni fs 0)))) ∧ h' = h := by
  have hres := fun (t : Tm) (dp : Int) (hs : t.size ≤ 1048576) (hl : t.lvs) (hd : dp ≤ 1099511627776) (g : Heap) (hw : WF g) => result_any g hw own ps ni t dp hp hi hs hl hd
  obtain ⟨RZ, hRZ⟩ : ∃ f, f = fun l => recZ own ps.length ni l 0 := ⟨_, rfl⟩
  have hRl : ∀ l, (RZ l).length ≤ l.length := fun l => by rw [hRZ]; exact recZ_len _ _ _ _ _
  have hRs : ∀ l a, RZ (l ++ [a]) = RZ l ++ recOne own ps.length ni l.length a := fun l a => by rw [hRZ]; simp [recZ_snoc]
  have hR0 : RZ [] = [] := by rw [hRZ]; rfl
  rw [show recZ own ps.length ni fs 0 = RZ fs by rw [hRZ]]
  unfold recOne at hRs
  obtain ⟨np, hnp⟩ : ∃ np, np = ps.length := ⟨_, rfl⟩
  rw [← hnp] at hres hRs
  obtain ⟨RO, hRO⟩ : ∃ f, f = resultZ own np ni := ⟨_, rfl⟩
  rw [← hRO] at hres hRs
  obtain ⟨k, i, n, ls, ks⟩ := own
  simp only [shA, Tm.av, cells_mk, List.map, List.cons_append, List.nil_append] at hres ⊢
  clear hRO hRZ
  refine ACalls.of_run Try.func216 rfl ?_
  simp only [Try.ntmps216, List.length_cons, List.length_nil]
  refine Run.reg fun K hK => ?_
  simp
  refine hK _ _ _ ?_; clear hK K
  refine Run.scope ?_
  refine Run.reg fun K hK => ?_
  simp
  refine hK _ _ _ ?_; clear hK K
  refine Run.label ?_
  refine Run.tok 5 3 (by simp) ?_
  simp
  refine Run.reg fun K hK => ?_
  simp
  refine hK _ _ _ ?_; clear hK K
  refine Run.loopS [2, 12, 13] (fun j : Nat => j ≤ fs.length) (fun j => fs.length - j) (fun j => [(5, .own (h.length + 1) 3 (rcPs (RZ (fs.take j)))), (14, iA j)])
      (fun j => h ++ [some (.cells [.p (iP k), .p (iP i), .p (sP n), .p (.sl 2 (lvPs ls)), .p (.sl 5 (tmPs ks)), .p (.sl 5 (tmPs ps)), iA ni]), some (.tok (RZ (fs.take j)).length 3)]) 0 (by simp) ?_ (by simp [hR0]) ?_
  · simp [hR0, rcPs]
    repeat' (first | exact WeakL.nil | apply WeakL.cons)
    all_goals first | exact Weak.junk _ | exact Weak.refl _ | exact Weak.nil _ | exact Weak.own _ _ _ | exact Weak.int (by omega)
  intro j hj IH
  simp
  refine Run.reg fun K hK => ?_
  simp
  refine hK _ _ _ ?_; clear hK K
  by_cases hjl : j < fs.length
  · have hg : fs[j]? = some fs[j] := List.getElem?_eq_getElem hjl
    have htk : fs.take (j + 1) = fs.take j ++ [fs[j]] := List.take_succ_eq_append_getElem hjl
    have hu := hok _ (List.getElem_mem hjl)
    have hsn := hRs (fs.take j) fs[j]
    rw [← htk, List.length_take, Nat.min_eq_left hj] at hsn
    have hlr := hRl (fs.take j)
    rw [List.length_take, Nat.min_eq_left hj] at hlr
    generalize fs[j] = u at hg hu hsn
    have c1 := fun (g : Heap) (hw : WF g) => all69_any g hw u hu.2
    have hao := all_ok u hu.1 hu.2
    generalize resAll u = q at c1 hao hsn
    obtain ⟨bs, bd⟩ := q
    simp only at hao hsn c1
    have c2 := hres bd ((j : Int) + bs.length) hao.2.2.1 hao.2.1 (by omega)
    generalize RO bd ((j : Int) + bs.length) = o at c2 hsn
    have hwj : IntKind.i64.wrap ((j : Int) + bs.length) = (j : Int) + bs.length := wrap_id (by omega) (by omega)
    obtain ⟨k1, i1, n1, l1, s1⟩ := u
    obtain ⟨k2, i2, n2, l2, s2⟩ := bd
    simp only [Tm.av, cells_mk, List.map] at c1 c2
    generalize RZ (fs.take j) = r0 at hsn hlr
    refine Run.cond (b := true) (by simp [hjl]) ?_
    simp only [if_true]
    refine Run.reg fun K hK => ?_
    simp [hg]
    refine hK _ _ _ ?_; clear hK K
    refine Run.regPre 1 fun K hK => ?_
    simp only [List.take_succ_cons, List.take_zero]
    simp
    refine hK _ _ _ ?_; clear hK K
    simp only [List.nil_append, List.drop_succ_cons, List.drop_zero]
    refine Run.call rfl (by first | rfl | simp) (by simp) rfl (c1 _ (hh.app (by simp))) ?_ ?_
    rotate_left
    · rintro v h' ⟨hv, _⟩; cases hv
    rintro v h' ⟨hv, rfl⟩
    simp only [AOut.ret.injEq] at hv
    subst hv
    refine Run.ops fun K hK => ?_
    simp
    refine hK _ _ _ ?_; clear hK K
    refine Run.regPre 6 fun K hK => ?_
    simp only [List.take_succ_cons, List.take_zero]
    simp
    refine hK _ _ _ ?_; clear hK K
    simp only [List.nil_append, List.drop_succ_cons, List.drop_zero]
    refine Run.call rfl (by first | rfl | simp) (by simp) rfl (c2 _ (hh.app (by simp))) ?_ ?_
    rotate_left
    · rintro v h' ⟨hv, _⟩; cases hv
    rintro v h' ⟨hv, rfl⟩
    simp only [AOut.ret.injEq] at hv
    subst hv
    refine Run.ops fun K hK => ?_
    simp
    refine hK _ _ _ ?_; clear hK K
    refine Run.reg fun K hK => ?_
    simp
    refine hK _ _ _ ?_; clear hK K
    cases o with
    | none =>
      simp only [List.append_nil] at hsn
      refine Run.cond (b := true) (by simp) ?_
      simp only [if_true]
      refine Run.exit rfl ?_
      refine Run.reg fun K hK => ?_
      simp
      refine hK _ _ _ ?_; clear hK K
      refine Run.keep [2, 5, 12, 13, 14] ?_
      simp
      refine Run.cutAt 2 hh rfl (by omega) (by simp) (by simp) (by simp) rfl ?_
      refine IH (j + 1) _ _ (by omega) (by omega) ?_ (by rw [hsn]; simp)
      rw [hsn]
      simp
      repeat' (first | exact WeakL.nil | apply WeakL.cons)
      all_goals first | exact Weak.junk _ | exact Weak.refl _ | exact Weak.nil _ | exact Weak.own _ _ _ | exact Weak.int (by omega)
    | some ix =>
      simp only at hsn
      have hb1 : (r0.length + 1) * 48 ≤ 140737488355328 := by omega
      have hb2 : r0.length + 1 ≤ 9223372036854775807 := by omega
      have hb3 : (r0.length + 1) * 56 ≤ 140737488355328 := by omega
      refine Run.cond (b := false) (by simp) ?_
      simp only [Bool.false_eq_true, if_false]
      refine Run.reg fun K hK => ?_
      simp [hb2, hb3]
      refine hK _ _ _ ?_; clear hK K
      refine Run.reg fun K hK => ?_
      simp
      refine hK _ _ _ ?_; clear hK K
      refine Run.keep [2, 5, 12, 13, 14] ?_
      simp
      refine Run.cutAt 2 hh rfl (by omega) (by simp) (by simp) (by simp) rfl ?_
      refine IH (j + 1) _ _ (by omega) (by omega) ?_ (by rw [hsn]; simp)
      rw [hsn]
      simp [rcPs, Rc.cells]
      repeat' (first | exact WeakL.nil | apply WeakL.cons)
      all_goals first | exact Weak.junk _ | exact Weak.refl _ | exact Weak.nil _ | exact Weak.own _ _ _ | exact Weak.int (by omega)
  · have hje : j = fs.length := by omega
    subst hje
    rw [List.take_length]
    refine Run.cond (b := false) (by simp) ?_
    simp only [Bool.false_eq_true, if_false]
    refine Run.exit rfl ?_
    refine Run.reg fun K hK => ?_
    simp
    refine hK _ _ _ ?_; clear hK K
    refine Run.ret ?_
    exact Fin.ret' (h0 := h) (xs := [.own (h.length + 1) 3 (rcPs (RZ fs))]) (by simp) rfl hh rfl (by simp) rfl (Weak.own _ _ _) (by simp) ⟨rfl, rfl⟩

end Go.Proofs.Ytppgpabjcenjdaa
