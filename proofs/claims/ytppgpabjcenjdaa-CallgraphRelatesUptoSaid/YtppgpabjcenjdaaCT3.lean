/-
  telescope: Open.
-/
import Derived.Test.YtppgpabjcenjdaaCG1
import Derived.Test.YtppgpabjcenjdaaCFF
import Derived.Test.YtppgpabjcenjdaaCS0

namespace Go.Proofs.Ytppgpabjcenjdaa

open Go Go.AI
theorem tmPs_len5 (l : List Tm) : ∀ e ∈ tmPs l, e.length = 5 := by
  intro e he
  rw [tmPs_eq] at he; obtain ⟨t, _, rfl⟩ := List.mem_map.1 he; simp
abbrev row (l : List Tm) (m : Nat) : Option AO := some (.cells (buf 5 (tmPs l) m))
theorem row_get {l : List Tm} {m k : Nat} (hk : k < l.length) : ((buf 5 (tmPs l) m).drop (k * 5)).take 5 = (l[k]).cells.map .p := by
  rw [buf_get (tmPs_len5 l) (by simpa using hk)]; simp [tmPs_eq]
theorem row_set {l : List Tm} {m k : Nat} (t : Tm) (hk : k < l.length) : patch (buf 5 (tmPs l) m) (k * 5) (t.cells.map .p) = buf 5 (tmPs (l.set k t)) m := by
  rw [buf_set (tmPs_len5 l) (by simpa using hk) (by simp)]; simp [tmPs_eq, List.map_set]
theorem row_len (l : List Tm) (m : Nat) : (buf 5 (tmPs l) m).length = (l.length + m) * 5 := by rw [buf_len (tmPs_len5 l)]; simp
theorem row_under (n : Nat) (l : List Tm) (m : Nat) : AO.under n (row l m) = true := buf_under n 5 (tmPs l) m
def Turned (ts l : List Tm) (i : Nat) : Prop := l.length = ts.length ∧ ∀ k, k < ts.length → l[k]? = if k < i ∨ ts.length ≤ k + i then ts[ts.length - 1 - k]? else ts[k]?
theorem turned_zero (ts : List Tm) : Turned ts ts 0 := ⟨rfl, fun k hk => by rw [if_neg (by omega)]⟩
theorem turned_done {ts l : List Tm} {i : Nat} (h : Turned ts l i) (hi : ts.length ≤ 2 * i + 1) : l = ts.reverse := by
  apply List.ext_getElem?
  intro k
  rcases Nat.lt_or_ge k ts.length with hk | hk
  · rw [h.2 k hk, List.getElem?_reverse hk]
    by_cases hc : k < i ∨ ts.length ≤ k + i
    · rw [if_pos hc]
    · rw [if_neg hc]
      congr 1; omega
  · rw [List.getElem?_eq_none (by rw [h.1]; exact hk), List.getElem?_eq_none (by simpa using hk)]
theorem turned_step {ts l : List Tm} {i : Nat} (h : Turned ts l i) (hi : 2 * i + 1 < ts.length) (x y : Tm) (hx : l[i]? = some x) (hy : l[ts.length - 1 - i]? = some y) : Turned ts ((l.set i y).set (ts.length - 1 - i) x) (i + 1) := by
  refine ⟨by simp [h.1], fun k hk => ?_⟩
  have h1 := h.2 i (by omega)
  have h2 := h.2 (ts.length - 1 - i) (by omega)
  rw [if_neg (by omega)] at h1 h2
  rw [hx] at h1
  rw [hy] at h2
  rw [List.getElem?_set, List.getElem?_set]
  by_cases e1 : ts.length - 1 - i = k
  · rw [if_pos e1, if_pos (by simp [h.1]; omega), if_pos (by omega)]
    rw [show ts.length - 1 - k = i by omega]; exact h1
  · rw [if_neg e1]
    by_cases e2 : i = k
    · rw [if_pos e2, if_pos (by rw [h.1]; omega), if_pos (by omega), ← e2]; exact h2
    · rw [if_neg e2, h.2 k hk]
      by_cases hc : k < i ∨ ts.length ≤ k + i
      · rw [if_pos hc, if_pos (by omega)]
      · rw [if_neg hc, if_neg (by omega)]
set_option maxRecDepth 8000 in
set_option maxHeartbeats 8000000 in
theorem reverse_any (h : Heap) (hh : WF h) (ts : List Tm) (id cap m : Nat) (hl : ts.length ≤ 1048576) (hid : h[id]? = some (row ts m)) :
    ACalls Try.prog 133 [.sm id 0 ts.length cap 5] h fun o h' => o = .ret (.tup []) ∧ h' = h.set id (row ts.reverse m) := by
  obtain ⟨g1, g2, g3, g4, g5, hlt⟩ := idf hid
  refine ACalls.of_run Try.func133 rfl ?_
  simp only [Try.ntmps133, List.length_cons, List.length_nil]
  refine Run.reg fun K hK => ?_
  simp
  refine hK _ _ _ ?_; clear hK K
  refine Run.loopS (ι := Nat × List Tm) [0] (fun p => 2 * p.1 ≤ ts.length + 1 ∧ Turned ts p.2 p.1) (fun p => ts.length - p.1) (fun p => [(2, iA p.1), (3, iA ((ts.length : Int) - 1 - p.1))]) (fun p => h.set id (row p.2 m)) (0, ts) ⟨by simp, turned_zero ts⟩ ?_ (by simp [set_same hid]) ?_
  · simp
    repeat' (first | exact WeakL.nil | apply WeakL.cons)
    all_goals first | exact Weak.junk _ | exact Weak.refl _ | exact Weak.nil _ | exact Weak.own _ _ _ | exact Weak.int (by omega)
  rintro ⟨i, l⟩ ⟨hi, ht⟩ IH
  simp only at hi ht
  simp
  have hll := ht.1
  by_cases hc : 2 * i + 1 < ts.length
  · obtain ⟨j, hj⟩ : ∃ j : Nat, j = ts.length - 1 - i := ⟨_, rfl⟩
    have hje : (ts.length : Int) - 1 - i = (j : Int) := by omega
    rw [hje]
    have hc2 : i < j := by omega
    have hil : i < l.length := by omega
    have hjl : j < l.length := by omega
    obtain ⟨x, hx⟩ : ∃ x, l[i] = x := ⟨_, rfl⟩
    obtain ⟨y, hy⟩ : ∃ y, l[j] = y := ⟨_, rfl⟩
    have hstep := turned_step ht hc x y (by rw [List.getElem?_eq_getElem hil, hx]) (by rw [← hj, List.getElem?_eq_getElem hjl, hy])
    rw [← hj] at hstep
    have gx : ((buf 5 (tmPs l) m).drop (i * 5)).take 5 = x.cells.map .p := by rw [row_get hil, hx]
    have gy : ((buf 5 (tmPs l) m).drop (j * 5)).take 5 = y.cells.map .p := by rw [row_get hjl, hy]
    have p1 : patch (buf 5 (tmPs l) m) (i * 5) (y.cells.map .p) = buf 5 (tmPs (l.set i y)) m := row_set y hil
    have p2 : patch (buf 5 (tmPs (l.set i y)) m) (j * 5) (x.cells.map .p) = buf 5 (tmPs ((l.set i y).set j x)) m := row_set x (by simpa using hjl)
    have l1 : i * 5 + 5 ≤ (buf 5 (tmPs l) m).length := by rw [row_len]; omega
    have l2 : j * 5 + 5 ≤ (buf 5 (tmPs l) m).length := by rw [row_len]; omega
    have l3 : j * 5 + 5 ≤ (buf 5 (tmPs (l.set i y)) m).length := by rw [row_len]; simp; omega
    have hi2 : i < ts.length := by omega
    have hj2 : j < ts.length := by omega
    refine Run.reg fun K hK => ?_
    simp
    refine hK _ _ _ ?_; clear hK K
    refine Run.cond (b := true) (by simp [hc2]) ?_
    simp only [if_true]
    refine Run.draw [0, 0, 0, 0, 0, 0, 0, 0, 0, 0, 0, 0, 0, 0, 1, 1] [0, 0, 0, 0, 0, 0, 0, 0, 0, 0, 0, 0, 0, 0, 0, 1] [0, 0, 0, 0, 0, 0, 48, 112, 0, 0, 768, 1792, 4083, 8179, 16383, 32767] [0, 1, 4, 5, 6, 7, 8, 9, 10, 11, 12, 13, 2, 3, 14, 15] (by kernel_rfl) (by kernel_rfl) ?_
    refine DR.go fun K hK => ?_
    simp [hi2, hj2, l1, l2, l3, gx, gy, p1, p2, g3]
    refine hK _ _ _ _ ?_; clear hK K
    change Run _ _ _ _ _ _ _ _
    refine Run.reg fun K hK => ?_
    simp
    refine hK _ _ _ ?_; clear hK K
    refine IH (i + 1, (l.set i y).set j x) _ _ ⟨by simp only; omega, hstep⟩ (by simp only; omega) ?_ ?_
    · simp
      repeat' (first | exact WeakL.nil | apply WeakL.cons)
      all_goals first | exact Weak.junk _ | exact Weak.refl _ | exact Weak.int (by omega)
    · simp
  · have hc2 : ¬ (i : Int) < (ts.length : Int) - 1 - i := by omega
    have hd := turned_done ht (by omega)
    subst hd
    refine Run.reg fun K hK => ?_
    simp
    refine hK _ _ _ ?_; clear hK K
    refine Run.cond (b := false) (by simp [hc2]) ?_
    simp only [Bool.false_eq_true, if_false]
    refine Run.exit rfl ?_
    refine Run.nil ?_
    exact Fin.ret' (h0 := h.set id (row ts.reverse m)) (by simp) (by simp) (hh.set (row_under _ _ _)) (List.append_nil _).symm rfl rfl (Weak.refl _) rfl ⟨rfl, rfl⟩
set_option maxRecDepth 8000 in
theorem reverse_nil (h : Heap) (hh : WF h) : ACalls Try.prog 133 [.p (.sl 5 [])] h fun o h' => o = .ret (.tup []) ∧ h' = h := by
  refine ACalls.of_run Try.func133 rfl ?_
  simp only [Try.ntmps133, List.length_cons, List.length_nil]
  refine Run.reg fun K hK => ?_
  simp
  refine hK _ _ _ ?_; clear hK K
  refine Run.loopS [] (fun _ : Unit => True) (fun _ => 0) (fun _ => [(2, iA 0), (3, iA (-1))]) (fun _ => h) () trivial ?_ rfl ?_
  · simp
    repeat' (first | exact WeakL.nil | apply WeakL.cons)
    all_goals first | exact Weak.junk _ | exact Weak.refl _ | exact Weak.nil _ | exact Weak.own _ _ _ | exact Weak.int (by omega)
  rintro _ _ IH
  simp
  refine Run.reg fun K hK => ?_
  simp
  refine hK _ _ _ ?_; clear hK K
  refine Run.cond (b := false) (by simp) ?_
  simp only [Bool.false_eq_true, if_false]
  refine Run.exit rfl ?_
  refine Run.nil ?_
  exact Fin.ret' (by simp) rfl hh (List.append_nil _).symm rfl rfl (Weak.refl _) rfl ⟨rfl, rfl⟩

end Go.Proofs.Ytppgpabjcenjdaa

namespace Go.Proofs.Ytppgpabjcenjdaa

open Go Go.AI
def conT (n : List UInt8) : Tm := .mk 3 0 n [] []
def sameL (xs ys : List Tm) : Bool := !((xs.length : Int) != ys.length) && allTo (tmsAt xs ys) xs.length
theorem sameL_refl (l : List Tm) : sameL l l = true := by
  simp only [sameL, bne_self_eq_false, Bool.not_false, Bool.true_and]
  rw [allTo_iff]
  intro j hj
  simp [tmsAt, hj, sameT_refl]
set_option maxRecDepth 8000 in
set_option maxHeartbeats 4000000 in
theorem sameL_any (h : Heap) (hh : WF h) (xs ys : List Tm) (hb : xs.length ≤ 1099511627776) (hx : ∀ u ∈ xs, u.lvs ∧ u.size ≤ 1099511627776) :
    ACalls Try.prog 52 [.p (.sl 5 (tmPs xs)), .p (.sl 5 (tmPs ys))] h fun o h' => o = .ret (bA (sameL xs ys)) ∧ h' = h := by
  refine ACalls.of_run Try.func52 rfl ?_
  simp only [Try.ntmps52, List.length_cons, List.length_nil]
  refine Run.reg fun K hK => ?_
  simp
  refine hK _ _ _ ?_; clear hK K
  refine Run.reg fun K hK => ?_
  simp
  refine hK _ _ _ ?_; clear hK K
  by_cases hl : xs.length = ys.length
  · have h0 : ((xs.length : Int) != ys.length) = false := by simp [hl]
    refine Run.cond (b := false) (by simp [hl]) ?_
    simp only [Bool.false_eq_true, if_false]
    refine Run.reg fun K hK => ?_
    simp
    refine hK _ _ _ ?_; clear hK K
    refine Run.loopS [0, 1] (fun j : Nat => j ≤ xs.length ∧ allTo (tmsAt xs ys) j = true) (fun j => xs.length - j) (fun j => [(5, iA j)]) (fun _ => _) 0 (by simp [allTo]) ?_ rfl ?_
    · simp
      repeat' (first | exact WeakL.nil | apply WeakL.cons)
      all_goals first | exact Weak.junk _ | exact Weak.refl _ | exact Weak.nil _ | exact Weak.own _ _ _ | exact Weak.int (by omega)
    · rintro j ⟨hj, hall⟩ IH
      simp
      refine Run.reg fun K hK => ?_
      simp
      refine hK _ _ _ ?_; clear hK K
      by_cases hjl : j < xs.length
      · have hg : xs[j]? = some xs[j] := List.getElem?_eq_getElem hjl
        have hg' : ys[j]? = some ys[j] := List.getElem?_eq_getElem (by omega)
        have hm := hx _ (List.getElem_mem hjl)
        generalize xs[j] = u at hg hm
        generalize ys[j]'(by omega) = v at hg'
        have hs := fun (g : Heap) (hg : WF g) => same_any u.size u v g (Nat.le_refl _) hm.2 hm.1 hg
        refine Run.cond (b := true) (by simp [hjl]) ?_
        simp only [if_true]
        refine Run.draw [0, 0, 0, 0, 0, 0, 0, 0, 0, 1] [0, 0, 0, 0, 0, 0, 0, 0, 0, 0] [0, 0, 3, 7, 0, 0, 48, 112, 255, 511] [0, 1, 2, 3, 4, 5, 6, 7, 8, 9] (by kernel_rfl) (by kernel_rfl) ?_
        refine DR.go fun K hK => ?_
        simp [hg, hg']
        refine hK _ _ _ _ ?_; clear hK K
        refine DR.call (args := [u.av, v.av]) rfl rfl rfl (by simp) rfl (hs _ hh) ?_
        refine DR.go fun K hK => ?_
        simp
        refine hK _ _ _ _ ?_; clear hK K
        change Run _ _ _ _ _ _ _ _
        refine Run.condB rfl (fun h1 => ?_) (fun h1 => ?_)
        · repeat (first
            | refine Run.seq ?_ | refine Run.block ?_ | refine Run.skip ?_ | refine Run.inBlock ?_ | refine Run.opsNil ?_
            | (refine Run.reg fun K hK => ?_; simp; (try (simp (disch := omega) only [wrap_id])); refine hK _ _ _ ?_; clear hK K)
            | (refine Run.cond (b := true) rfl ?_; simp only [if_true])
            | (refine Run.cond (b := false) rfl ?_; simp only [Bool.false_eq_true, if_false])
            | refine Run.exit rfl ?_ | refine Run.ret ?_)
          have h2 : sameT u v = false := by simpa using h1
          have := allTo_false (p := tmsAt xs ys) hjl (by simp only [tmsAt, hg, hg', h2])
          exact Fin.ret' (by simp) rfl hh (List.append_nil _).symm rfl rfl (Weak.refl _) rfl ⟨by simp only [sameL, this]; simp, rfl⟩
        · skip
          refine Run.reg fun K hK => ?_
          simp
          refine hK _ _ _ ?_; clear hK K
          have h2 : sameT u v = true := by simpa using h1
          refine IH (j + 1) _ _ ⟨by omega, by rw [allTo_succ, hall]; simp only [tmsAt, hg, hg', h2]; rfl⟩ (by omega) ?_ rfl
          simp
          repeat' (first | exact WeakL.nil | apply WeakL.cons)
          all_goals first | exact Weak.junk _ | exact Weak.refl _ | exact Weak.nil _ | exact Weak.own _ _ _ | exact Weak.int (by omega)
      · have hje : j = xs.length := by omega
        subst hje
        refine Run.cond (b := false) (by simp) ?_
        simp only [Bool.false_eq_true, if_false]
        refine Run.exit rfl ?_
        repeat (first
          | refine Run.seq ?_ | refine Run.block ?_ | refine Run.skip ?_ | refine Run.inBlock ?_ | refine Run.opsNil ?_
          | (refine Run.reg fun K hK => ?_; simp; (try (simp (disch := omega) only [wrap_id])); refine hK _ _ _ ?_; clear hK K)
          | (refine Run.cond (b := true) rfl ?_; simp only [if_true])
          | (refine Run.cond (b := false) rfl ?_; simp only [Bool.false_eq_true, if_false])
          | refine Run.exit rfl ?_ | refine Run.ret ?_)
        exact Fin.ret' (by simp) rfl hh (List.append_nil _).symm rfl rfl (Weak.refl _) rfl ⟨by simp only [sameL, h0, hall]; simp, rfl⟩
  · have h0 : ((xs.length : Int) != ys.length) = true := by simp; omega
    have hl' : ¬ (xs.length : Int) = ys.length := by omega
    refine Run.cond (b := true) (by simp [hl']) ?_
    simp only [if_true]
    repeat (first
      | refine Run.seq ?_ | refine Run.block ?_ | refine Run.skip ?_ | refine Run.inBlock ?_ | refine Run.opsNil ?_
      | (refine Run.reg fun K hK => ?_; simp; (try (simp (disch := omega) only [wrap_id])); refine hK _ _ _ ?_; clear hK K)
      | (refine Run.cond (b := true) rfl ?_; simp only [if_true])
      | (refine Run.cond (b := false) rfl ?_; simp only [Bool.false_eq_true, if_false])
      | refine Run.exit rfl ?_ | refine Run.ret ?_)
    exact Fin.ret' (by simp) rfl hh (List.append_nil _).symm rfl rfl (Weak.refl _) rfl ⟨by simp [sameL, h0], rfl⟩
def resLook (ctx : List Tm) (i : Int) : Tm × Int :=
  if i < 0 ∨ (ctx.length : Int) ≤ i then (zT, 24) else match ctx[((ctx.length : Int) - 1 - i).toNat]? with
    | some t => resRefShift (i + 1) 0 t
    | none => (zT, 24)

end Go.Proofs.Ytppgpabjcenjdaa

namespace Go.Proofs.Ytppgpabjcenjdaa

open Go Go.AI
def isB (k : Int) : Tm → Option (Tm × Tm)
  | .mk k' _ _ _ [a, b] => if k' = k then some (a, b) else none
  | _ => none
def openA : Nat → List Tm → Tm → List Tm × Tm × Int
  | 0, acc, t => (acc, t, 0)
  | n + 1, acc, t => match isB 6 t with
    | some (a, b) => openA n (acc ++ [a]) b
    | none => ([], zT, 13)
def resOpen (t : Tm) (n : Int) : List Tm × Tm × Int := if n < 0 then ([], zT, 2) else openA n.toNat [] t

end Go.Proofs.Ytppgpabjcenjdaa
