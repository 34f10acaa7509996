import Derived.Test.YtcfcolkbeelegaaGreatVT6
import Derived.Test.YtcfcolkbeelegaaGreatVX0
import Derived.Test.YtcfcolkbeelegaaGreatVFE
set_option maxRecDepth 8000
set_option maxHeartbeats 8000000

namespace Go.Proofs.YtcfcolkbeelegaaGreat

open Go Go.AI
def arrowT (a b : Tm) : Tm := .mk 6 0 [] [] [a, (resRefShift 1 0 b).1]
theorem arrow66_any (h : Heap) (hh : WF h) (a b : Tm) (hok : b.ok 65536) (hsz : b.size ≤ 1048576) : ACalls Tryz.prog 122 [a.av, b.av] h fun o h' => o = .ret (arrowT a b).av ∧ h' = h := by
 have hs := fun (g : Heap) (hg : WF g) => refShift_any g hg b 1 0 (by omega) (by omega) (by omega) (ok_idx b 65536 hok (by omega))
 unfold arrowT
 generalize resRefShift 1 0 b = r at hs ⊢
 obtain ⟨⟨r0, r1, r2, r3, r4⟩, e⟩ := r
 obtain ⟨i0, i1, i2, i3, i4⟩ := a
 obtain ⟨j0, j1, j2, j3, j4⟩ := b
 refine ACalls.of_run Tryz.func122 rfl ?_
 simp only [Tryz.ntmps122, List.length_cons, List.length_nil, Tm.av, cells_mk, List.map]
 refine nv ?_
 refine Run.reg fun K J => ?_
 simp
 refine J _ _ _ (nv ?_); clear J
 refine Run.reg fun K J => ?_
 simp
 refine J _ _ _ ?_; clear J
 refine rl (args := [(Tm.mk j0 j1 j2 j3 j4).av, iA 1, iA 0]) rfl (by first | rfl | simp) (by simp) rfl (hs _ (hh.app (by simp))) ?_
 refine Run.ops fun K J => ?_
 simp
 refine J _ _ _ (nv ?_); clear J
 refine Run.reg fun K J => ?_
 simp
 refine J _ _ _ (nv ?_); clear J
 refine Run.ret ?_
 refine Fin.ret' (h0 := h) (by simp) rfl hh rfl (by simp; rfl) rfl ?_ (by simp) ⟨rfl, rfl⟩
 simp only [cells_mk, List.map, tmPs, lvPs]
 refine Weak.agg ?_
 repeat' first | exact wn | apply wc
 all_goals first | exact Weak.refl _ | exact Weak.nil _
def allF (k : Int) : Nat → List Tm → Tm → List Tm × Tm
 | 0, acc, t => (acc, t)
 | n + 1, acc, t => match isB k t with
  | some (a, b) => allF k n (acc ++ [a]) b
  | none => (acc, t)
def resAll (t : Tm) : List Tm × Tm := allF 6 t.size [] t
theorem all69_any (h : Heap) (hh : WF h) (t : Tm) (hsz : t.size ≤ 1048576) :
  ACalls Tryz.prog 172 [t.av] h fun o h' => o = .ret (.tup [.p (.sl 5 (tmPs (resAll t).1)), (resAll t).2.av]) ∧ h' = h := by
 obtain ⟨r, hr⟩ : ∃ r, r = resAll t := ⟨_, rfl⟩
 rw [← hr]
 unfold resAll at hr
 obtain ⟨tc, htc⟩ : ∃ tc, tc = t.cells.map AV.p := ⟨_, rfl⟩
 simp only [Tm.av]
 rw [← htc]
 have htl : tc.length = 5 := by rw [htc]; simp
 refine ACalls.of_run Tryz.func172 rfl ?_
 simp only [Tryz.ntmps172, List.length_cons, List.length_nil]
 refine nv ?_
 refine Run.reg fun K J => ?_
 simp
 refine J _ _ _ (nv ?_); clear J
 refine Run.reg fun K J => ?_
 simp
 refine J _ _ _ (nv ?_); clear J
 refine Run.tok 4 5 (by simp) ?_
 simp
 rw [htc]
 refine Run.loopS (ι := Nat × List Tm × Tm) [1, 3] (fun p => p.2.1.length + p.2.2.size ≤ t.size ∧ p.2.2.size ≤ p.1 ∧ r = allF 6 p.1 p.2.1 p.2.2) (fun p => p.2.2.size) (fun p => [(4, .own (h.length + 2) 5 (tmPs p.2.1))])
  (fun p => h ++ [some (.cells (p.2.2.cells.map .p)), some (.cells zTm), some (.tok p.2.1.length 5)]) (t.size, [], t) ⟨by simp, by simp, hr⟩ ?_ (by simp) ?_
 ·simp [tmPs]
  repeat' first | exact wn | apply wc | exact wj _ | exact wr _ | exact wz _ | exact wo _ _ _ | exact wi (by omega)
 rintro ⟨N, acc, cur⟩ ⟨hs, hle, hra⟩ IH
 simp only at hs hle hra
 simp
 obtain ⟨m, rfl⟩ : ∃ m, N = m + 1 := ⟨N - 1, by have := cur.size_pos; omega⟩
 simp only [allF] at hra
 obtain ⟨k, i, nm, ls, ks⟩ := cur
 by_cases hk : k = 6
 ·subst hk
  by_cases hks : ks.length = 2
  ·obtain ⟨a, b, rfl⟩ : ∃ a b, ks = [a, b] := by
    match ks, hks with
    | [a, b], _ => exact ⟨a, b, rfl⟩
   simp only [isB, if_true] at hra
   simp only [Tm.size, Tm.sizes] at hs hle
   have hb1 : (acc.length + 1) * 80 ≤ 140737488355328 := by have := t.size_pos; omega
   have hb2 : acc.length + 1 ≤ 9223372036854775807 := by omega
   refine nv ?_
   refine Run.reg fun K J => ?_
   simp
   refine J _ _ _ (nv ?_); clear J
   refine ct (by simp) (nv ?_)
   refine Run.reg fun K J => ?_
   simp [tmPs, hb1, hb2]
   refine J _ _ _ (nv ?_); clear J
   refine Run.reg fun K J => ?_
   simp
   refine J _ _ _ (nv ?_); clear J
   refine IH (m, acc ++ [a], b) _ _ ⟨by simp only [List.length_append, List.length_singleton]; have := a.size_pos; omega, by simp only; have := a.size_pos; omega, hra⟩ (by simp only [Tm.size, Tm.sizes]; have := a.size_pos; omega) ?_ ?_
   ·simp [tmPs_snoc]
    repeat' first | exact wn | apply wc | exact wj _ | exact wr _ | exact wz _ | exact wo _ _ _ | exact wi (by omega)
   ·simp
  ·have hk2 : ((ks.length : Int) == 2) = false := by simp; omega
   have hib : isB 6 (Tm.mk 6 i nm ls ks) = none := by
    match ks, hks with
    | [], _ => rfl
    | [_], _ => rfl
    | _ :: _ :: _ :: _, _ => rfl
   rw [hib] at hra
   simp only at hra
   subst hra
   refine nv ?_
   refine Run.reg fun K J => ?_
   simp [hk2]
   refine J _ _ _ (nv ?_); clear J
   refine cf (by simp) ?_
   refine Run.exit rfl ?_
   refine nv ?_
   refine Run.draw [0, 0, 0, 0] [0, 0, 0, 0] [0, 0, 1, 7] [0, 1, 2, 3] (by kernel_rfl) (by kernel_rfl) ?_
   refine DR.go fun K J => ?_
   simp
   refine J _ _ _ _ ?_; clear J
   change Run _ _ _ _ _ _ _ _
   refine Run.ret ?_
   refine Fin.ret' (h0 := h) (xs := [.own (h.length + 2) 5 (tmPs acc), (Tm.mk 6 i nm ls ks).av]) (by simp) rfl hh rfl (by simp) rfl (Weak.tup (WeakL.cons (Weak.own _ _ _) (WeakL.refl _))) (by simp) ⟨rfl, rfl⟩
 ·have hkb : (k == 6) = false := by simpa using hk
  have hib : isB 6 (Tm.mk k i nm ls ks) = none := by
   match ks with
   | [] => rfl
   | [_] => rfl
   | [_, _] => simp [isB, hk]
   | _ :: _ :: _ :: _ => rfl
  rw [hib] at hra
  simp only at hra
  subst hra
  refine nv ?_
  refine Run.reg fun K J => ?_
  simp [hkb]
  refine J _ _ _ (nv ?_); clear J
  refine cf (by simp) ?_
  refine Run.exit rfl ?_
  refine nv ?_
  refine Run.draw [0, 0, 0, 0] [0, 0, 0, 0] [0, 0, 1, 7] [0, 1, 2, 3] (by kernel_rfl) (by kernel_rfl) ?_
  refine DR.go fun K J => ?_
  simp
  refine J _ _ _ _ ?_; clear J
  change Run _ _ _ _ _ _ _ _
  refine Run.ret ?_
  refine Fin.ret' (h0 := h) (xs := [.own (h.length + 2) 5 (tmPs acc), (Tm.mk k i nm ls ks).av]) (by simp) rfl hh rfl (by simp) rfl (Weak.tup (WeakL.cons (Weak.own _ _ _) (WeakL.refl _))) (by simp) ⟨rfl, rfl⟩
theorem all70_any (h : Heap) (hh : WF h) (t : Tm) (hsz : t.size ≤ 1048576) :
  ACalls Tryz.prog 135 [t.av] h fun o h' => o = .ret (.tup [.p (.sl 5 (tmPs (resAll t).1)), (resAll t).2.av]) ∧ h' = h := by
 obtain ⟨r, hr⟩ : ∃ r, r = resAll t := ⟨_, rfl⟩
 rw [← hr]
 unfold resAll at hr
 obtain ⟨tc, htc⟩ : ∃ tc, tc = t.cells.map AV.p := ⟨_, rfl⟩
 simp only [Tm.av]
 rw [← htc]
 have htl : tc.length = 5 := by rw [htc]; simp
 refine ACalls.of_run Tryz.func135 rfl ?_
 simp only [Tryz.ntmps135, List.length_cons, List.length_nil]
 refine nv ?_
 refine Run.reg fun K J => ?_
 simp
 refine J _ _ _ (nv ?_); clear J
 refine Run.reg fun K J => ?_
 simp
 refine J _ _ _ (nv ?_); clear J
 refine Run.tok 4 5 (by simp) ?_
 simp
 rw [htc]
 refine Run.loopS (ι := Nat × List Tm × Tm) [1, 3] (fun p => p.2.1.length + p.2.2.size ≤ t.size ∧ p.2.2.size ≤ p.1 ∧ r = allF 6 p.1 p.2.1 p.2.2) (fun p => p.2.2.size) (fun p => [(4, .own (h.length + 2) 5 (tmPs p.2.1))])
  (fun p => h ++ [some (.cells (p.2.2.cells.map .p)), some (.cells zTm), some (.tok p.2.1.length 5)]) (t.size, [], t) ⟨by simp, by simp, hr⟩ ?_ (by simp) ?_
 ·simp [tmPs]
  repeat' first | exact wn | apply wc | exact wj _ | exact wr _ | exact wz _ | exact wo _ _ _ | exact wi (by omega)
 rintro ⟨N, acc, cur⟩ ⟨hs, hle, hra⟩ IH
 simp only at hs hle hra
 simp
 obtain ⟨m, rfl⟩ : ∃ m, N = m + 1 := ⟨N - 1, by have := cur.size_pos; omega⟩
 simp only [allF] at hra
 obtain ⟨k, i, nm, ls, ks⟩ := cur
 by_cases hk : k = 6
 ·subst hk
  by_cases hks : ks.length = 2
  ·obtain ⟨a, b, rfl⟩ : ∃ a b, ks = [a, b] := by
    match ks, hks with
    | [a, b], _ => exact ⟨a, b, rfl⟩
   simp only [isB, if_true] at hra
   simp only [Tm.size, Tm.sizes] at hs hle
   have hb1 : (acc.length + 1) * 80 ≤ 140737488355328 := by have := t.size_pos; omega
   have hb2 : acc.length + 1 ≤ 9223372036854775807 := by omega
   refine nv ?_
   refine Run.reg fun K J => ?_
   simp
   refine J _ _ _ (nv ?_); clear J
   refine ct (by simp) (nv ?_)
   refine Run.reg fun K J => ?_
   simp [tmPs, hb1, hb2]
   refine J _ _ _ (nv ?_); clear J
   refine Run.reg fun K J => ?_
   simp
   refine J _ _ _ (nv ?_); clear J
   refine IH (m, acc ++ [a], b) _ _ ⟨by simp only [List.length_append, List.length_singleton]; have := a.size_pos; omega, by simp only; have := a.size_pos; omega, hra⟩ (by simp only [Tm.size, Tm.sizes]; have := a.size_pos; omega) ?_ ?_
   ·simp [tmPs_snoc]
    repeat' first | exact wn | apply wc | exact wj _ | exact wr _ | exact wz _ | exact wo _ _ _ | exact wi (by omega)
   ·simp
  ·have hk2 : ((ks.length : Int) == 2) = false := by simp; omega
   have hib : isB 6 (Tm.mk 6 i nm ls ks) = none := by
    match ks, hks with
    | [], _ => rfl
    | [_], _ => rfl
    | _ :: _ :: _ :: _, _ => rfl
   rw [hib] at hra
   simp only at hra
   subst hra
   refine nv ?_
   refine Run.reg fun K J => ?_
   simp [hk2]
   refine J _ _ _ (nv ?_); clear J
   refine cf (by simp) ?_
   refine Run.exit rfl ?_
   refine nv ?_
   refine Run.draw [0, 0, 0, 0] [0, 0, 0, 0] [0, 0, 1, 7] [0, 1, 2, 3] (by kernel_rfl) (by kernel_rfl) ?_
   refine DR.go fun K J => ?_
   simp
   refine J _ _ _ _ ?_; clear J
   change Run _ _ _ _ _ _ _ _
   refine Run.ret ?_
   refine Fin.ret' (h0 := h) (xs := [.own (h.length + 2) 5 (tmPs acc), (Tm.mk 6 i nm ls ks).av]) (by simp) rfl hh rfl (by simp) rfl (Weak.tup (WeakL.cons (Weak.own _ _ _) (WeakL.refl _))) (by simp) ⟨rfl, rfl⟩
 ·have hkb : (k == 6) = false := by simpa using hk
  have hib : isB 6 (Tm.mk k i nm ls ks) = none := by
   match ks with
   | [] => rfl
   | [_] => rfl
   | [_, _] => simp [isB, hk]
   | _ :: _ :: _ :: _ => rfl
  rw [hib] at hra
  simp only at hra
  subst hra
  refine nv ?_
  refine Run.reg fun K J => ?_
  simp [hkb]
  refine J _ _ _ (nv ?_); clear J
  refine cf (by simp) ?_
  refine Run.exit rfl ?_
  refine nv ?_
  refine Run.draw [0, 0, 0, 0] [0, 0, 0, 0] [0, 0, 1, 7] [0, 1, 2, 3] (by kernel_rfl) (by kernel_rfl) ?_
  refine DR.go fun K J => ?_
  simp
  refine J _ _ _ _ ?_; clear J
  change Run _ _ _ _ _ _ _ _
  refine Run.ret ?_
  refine Fin.ret' (h0 := h) (xs := [.own (h.length + 2) 5 (tmPs acc), (Tm.mk k i nm ls ks).av]) (by simp) rfl hh rfl (by simp) rfl (Weak.tup (WeakL.cons (Weak.own _ _ _) (WeakL.refl _))) (by simp) ⟨rfl, rfl⟩

end Go.Proofs.YtcfcolkbeelegaaGreat

namespace Go.AI

open Go

section

variable {P : Program} {E : Env} {w : World} {h : Heap}
theorem buildSlice_run {t : TypeId} {len : Nat} {parts : List (Nat × AV)} {vals : Array (Nat × Value)} {sz : Nat} {es : List (List PV)}
  (h1 : parts.map (·.1) = vals.toList.map (·.1)) (h2 : RepL E w (parts.map (·.2)) (vals.toList.map (·.2)))
  (hb : abuildS P t len parts = some (.p (.sl sz es))) : ∃ vs T, (∀ e ∈ es, e.length = sz) ∧ RepL E w (es.flatten.map .p) vs ∧ (Instr.buildSlice t len vals).run P w = .ok (.slice (some ⟨w.heap.size, 0, none⟩) es.length es.length) (w.alloc (.cells (List.toArray vs) T (0, 0))) := by
 unfold abuildS at hb
 split at hb
 ·rename_i e hel
  split at hb
  ·rename_i sz' z hsz hz
   split at hb
   ·rename_i hcond
    obtain ⟨hlim, hpos⟩ := hcond
    simp only [Option.map_eq_some_iff, AV.p.injEq, PV.sl.injEq] at hb
    obtain ⟨out, ho, rfl, rfl⟩ := hb
    obtain ⟨zv, hzr, hzc⟩ := run_zeroT (w := w) hz
    obtain ⟨i, _, hi, _, _, hzl, hprim⟩ := zeroT_parts hz
    have hzs : z.length = sz' := by unfold szT at hsz; rw [hi] at hsz; simp at hsz; omega
    have hu0 : ∀ e ∈ List.replicate len (z.map PV.prim), e.length = sz' := by
     intro e he; rw [(List.mem_replicate.1 he).2]; simp [hzs]
    have h30 : RepL E w ((List.replicate len (z.map PV.prim)).flatten.map .p) (List.replicate len z).flatten := by
     rw [prims_flat]
     refine prims_rep ?_
     intro v hv
     obtain ⟨l, hl, hv⟩ := List.mem_flatten.1 hv
     rw [(List.mem_replicate.1 hl).2] at hv
     exact hprim v hv
    obtain ⟨vo, e1, e2, e3, e4⟩ := fillS_sound (E := E) (w := w) sz' parts vals.toList _ _ out h1 h2 hu0 h30 ho
    simp only [List.length_replicate] at e4
    subst e4
    refine ⟨vo, e, e3, e2, ?_⟩
    have hinit : (Array.range (out.length * sz')).map (fun i => (List.toArray z)[i % (List.toArray z).size]!) = List.toArray (List.replicate out.length z).flatten := by
     have := flat_replicate (List.toArray z) out.length
     simp only [List.size_toArray, hzs] at this ⊢
     exact this
    unfold Instr.buildSlice
    simp only [Sem.run_bind, run_elT hel, Result.andThen_ok, run_szT hsz]
    rw [if_neg (by omega)]
    by_cases hz0 : out.length * sz' = 0
    ·have hl0 : out.length = 0 := by
      rcases Nat.mul_eq_zero.1 hz0 with h | h
      ·exact h
      ·omega
     have e1' : Instr.fill (fun i => some (i * sz', sz')) #[] vals.toList = some (List.toArray vo) := by
      rw [hl0] at e1; simpa using e1
     have er : Array.range 0 = #[] := rfl
     simp only [hl0, Nat.zero_mul, if_true]
     simp [e1', newRow, er]
    ·simp only [if_neg hz0, Sem.run_bind, hzr, Result.andThen_ok, Sem.run_pure, hzc]
     rw [hinit, e1]
     simp [newRow]
   ·cases hb
  ·cases hb
 ·cases hb

end

section

variable {P : Program} {rd : Option Nat} {nb : Nat} {k : List It} {T : List AV} {h : Heap} {D : List AD} {Q : AX → List AV → Heap → List AD → Prop} {all : Array Oper} {o : Oper} {rest : List Oper}
theorem Run.buildV {t : TypeId} {len sz : Nat} {parts : Array (Nat × Operand)} {es : List (List PV)} (ho : o.op = .buildSlice t len parts) (hw : awanted all T o = some true)
  (hb : abuildS P t len (parts.toList.map fun p => (p.1, aev T p.2)) = some (.p (.sl sz es))) (hpos : 0 < es.length)
  (r : Run P rd nb (.ops all rest :: k) (tput T o.dst (.vec h.length es.length)) (h ++ [some (.vec sz es)]) D Q) : Run P rd nb (.ops all (o :: rest) :: k) T h D Q := by
 refine Run.opR (R := fun x h' => x = .vec h.length es.length ∧ h' = h ++ [some (.vec sz es)]) hw (fun c hc => by rw [hc] at ho; cases ho) ?_ (by rintro x h' ⟨rfl, rfl⟩; exact r)
 intro E w a st
 obtain ⟨p1, p2⟩ := pairs_rep st parts
 obtain ⟨vs, T0, hes, hrep, hrun⟩ := buildSlice_run (P := P) p1 p2 hb
 obtain ⟨t1, t2, t3⟩ := st.rel.newTk st.fresh (tk := .vec sz []) (sz := sz) rfl
 have hl := hrep.length
 rw [List.length_map, flat_length hes] at hl
 have hid : Heap.at (h ++ [some (.vec sz [])]) h.length = some (.vec sz []) := by simp
 obtain ⟨g1, g2⟩ := t1.growG (w' := w.alloc (.cells (List.toArray vs) T0 (0, 0))) (b := w.heap.size) (c' := es.length) (vs := vs) (n := 0) (m := es.length) (k := 0) (k' := 0) (o' := .vec sz es) (cs' := es.flatten.map .p)
  hid rfl (by simp [AO.tk]) (Nat.le_refl _) (.inl hpos) (.inr (Nat.le_refl _)) ⟨T0, alloc_new _⟩ hl (by omega) (fun b' _ hb' => alloc_old _ hb') (fun off ho => by have := t1.lt _ _ ho; omega) (by rw [alloc_size]; omega) ⟨rfl, rfl⟩
  (fun E' hx' _ => by
   rw [List.take_of_length_le (by rw [List.length_map, flat_length hes]; omega)]
   exact hrep.ext (t2.ext.trans hx'))
 have hset : (h ++ [some (AO.vec sz [])]).set h.length (some (.vec sz es)) = h ++ [some (.vec sz es)] := by simp
 rw [hset] at g1 g2
 refine ⟨_, _, _, _, .slice (some ⟨w.heap.size, 0, none⟩) es.length es.length, ⟨rfl, rfl⟩, ?_, g1, ?_, ?_, t2.trans g2⟩
 ·simp [execOp, ho, hrun]
 ·have := vec_fresh (h := h ++ [some (AO.vec sz [])]) (o := some (AO.vec sz es)) (b := w.heap.size) (c := es.length) (n := 0 + es.length) (id := h.length) (R := fun b' off => E.ro b' off ∨ (b' = w.heap.size ∧ off < 0 * sz)) (by simpa using t3) (by simp)
  rw [hset] at this
  exact this
 ·simp only [Rep]
  exact ⟨⟨some w.heap.size, es.length, es.length⟩, by simp, by simp, _, es.length, by simp, fun _ => ⟨rfl, rfl⟩⟩

end

end Go.AI

namespace Go.Proofs.YtcfcolkbeelegaaGreat

open Go Go.AI
theorem high_any (h : Heap) (hh : WF h) (t : Tm) (hg : t.good) : ACalls Tryz.prog 66 [t.av] h fun o h' => o = .ret (bA (checkZ 60000 8 65536 65536 t != 0)) ∧ h' = h := by
 have hc := fun (g : Heap) (hw : WF g) => check_any g hw t 60000 8 65536 65536 (by have := hg.1; omega) hg.2.1
 generalize checkZ 60000 8 65536 65536 t = e at hc ⊢
 obtain ⟨k, i, n, ls, ks⟩ := t
 simp only [Tm.av, cells_mk, List.map] at hc ⊢
 refine ACalls.of_run Tryz.func66 rfl ?_
 simp only [Tryz.ntmps66, List.length_cons, List.length_nil]
 refine nv ?_
 refine Run.reg fun K J => ?_
 simp
 refine J _ _ _ (nv ?_); clear J
 refine Run.reg fun K J => ?_
 simp
 refine J _ _ _ ?_; clear J
 refine rl rfl (by first | rfl | simp) (by simp) rfl (hc _ (hh.app (by simp))) ?_
 refine Run.ops fun K J => ?_
 simp
 refine J _ _ _ (nv ?_); clear J
 refine Run.ret ?_
 exact Fin.ret' (h0 := h) (by simp) rfl hh rfl (by simp; rfl) rfl (Weak.refl _) (by simp) ⟨rfl, rfl⟩
def RetB (P : Bool → Prop) (o : AOut) : Prop := ∃ b, o = .ret (bA b) ∧ P b
def RetI (P : Int → Prop) (o : AOut) : Prop := ∃ e, o = .ret (iA e) ∧ P e
theorem small_any (h : Heap) (hh : WF h) (t : Tm) (hg : t.good) : ACalls Tryz.prog 201 [t.av] h fun o h' => RetB (fun _ => True) o ∧ h' = h := by
 have h1 := fun (g : Heap) (hw : WF g) => size_any t.size t g (Nat.le_refl _) (by have := hg.1; omega) hw
 have h2 := fun (g : Heap) (hw : WF g) => depth_any t.size t g (Nat.le_refl _) (by have := hg.1; omega) hw
 generalize t.size = s at h1
 generalize t.depth = d at h2
 obtain ⟨k, i, n, ls, ks⟩ := t
 simp only [Tm.av, cells_mk, List.map] at h1 h2 ⊢
 refine ACalls.of_run Tryz.func201 rfl ?_
 simp only [Tryz.ntmps201, List.length_cons, List.length_nil]
 refine nv ?_
 refine Run.reg fun K J => ?_
 simp
 refine J _ _ _ (nv ?_); clear J
 refine Run.reg fun K J => ?_
 simp
 refine J _ _ _ ?_; clear J
 refine rl rfl (by first | rfl | simp) (by simp) rfl (h1 _ (hh.app (by simp))) ?_
 by_cases c1 : (s : Int) ≤ 400
 ·refine Run.ops fun K J => ?_
  simp [c1]
  refine J _ _ _ ?_; clear J
  refine rl rfl (by first | rfl | simp) (by simp) rfl (h2 _ (hh.app (by simp))) ?_
  refine Run.ops fun K J => ?_
  simp
  refine J _ _ _ (nv ?_); clear J
  refine Run.ret ?_
  exact Fin.ret' (h0 := h) (by simp) rfl hh rfl (by simp; rfl) rfl (Weak.refl _) (by simp) ⟨⟨_, rfl, trivial⟩, rfl⟩
 ·refine Run.ops fun K J => ?_
  simp [c1]
  refine J _ _ _ (nv ?_); clear J
  refine Run.ret ?_
  exact Fin.ret' (h0 := h) (by simp) rfl hh rfl (by simp; rfl) rfl (Weak.refl _) (by simp) ⟨⟨_, rfl, trivial⟩, rfl⟩
theorem zero_any (h : Heap) (hh : WF h) (t : Tm) (hg : t.good) : ACalls Tryz.prog 227 [t.av] h fun o h' => o = .ret (bA (sameT t zT)) ∧ h' = h := by
 have hc := fun (g : Heap) (hw : WF g) => same_any t.size t zT g (Nat.le_refl _) (by have := hg.1; omega) hg.2.2 hw
 generalize sameT t zT = b at hc ⊢
 obtain ⟨k, i, n, ls, ks⟩ := t
 simp only [Tm.av, cells_mk, List.map] at hc ⊢
 refine ACalls.of_run Tryz.func227 rfl ?_
 simp only [Tryz.ntmps227, List.length_cons, List.length_nil]
 refine nv ?_
 refine Run.reg fun K J => ?_
 simp
 refine J _ _ _ (nv ?_); clear J
 refine Run.reg fun K J => ?_
 simp
 refine J _ _ _ ?_; clear J
 refine rl rfl (by first | rfl | simp) (by simp) rfl (ACalls.weak (WeakL.cons (Weak.refl _) (WeakL.cons Weak.zT WeakL.nil)) (hc _ (hh.app (by simp)))) ?_
 refine Run.ops fun K J => ?_
 simp
 refine J _ _ _ (nv ?_); clear J
 refine Run.ret ?_
 exact Fin.ret' (h0 := h) (by simp) rfl hh rfl (by simp; rfl) rfl (Weak.refl _) (by simp) ⟨rfl, rfl⟩
def strPs (l : List (List UInt8)) : List (List PV) := l.map fun s => [sP s]
@[simp] theorem strPs_length (l : List (List UInt8)) : (strPs l).length = l.length := by simp [strPs]
@[simp] theorem strPs_get (l : List (List UInt8)) (i : Nat) : (strPs l)[i]? = (l[i]?).map fun s => [sP s] := by simp [strPs]
theorem has_any (h : Heap) (hh : WF h) (l : List (List UInt8)) (s : List UInt8) (hl : l.length ≤ 1099511627776) : ACalls Tryz.prog 217 [.p (.sl 1 (strPs l)), .p (sP s)] h fun o h' => o = .ret (bA (decide (s ∈ l))) ∧ h' = h := by
 refine ACalls.of_run Tryz.func217 rfl ?_
 simp only [Tryz.ntmps217, List.length_cons, List.length_nil]
 refine nv ?_
 refine Run.reg fun K J => ?_
 simp
 refine J _ _ _ (nv ?_); clear J
 refine Run.reg fun K J => ?_
 simp
 refine J _ _ _ (nv ?_); clear J
 refine Run.loopS [0, 1] (fun j : Nat => j ≤ l.length ∧ s ∉ l.take j) (fun j => l.length - j) (fun j => [(5, iA j)]) (fun _ => _) 0 (by simp) ?_ rfl ?_
 ·simp
  repeat' first | exact wn | apply wc | exact wj _ | exact wr _ | exact wz _ | exact wo _ _ _ | exact wi (by omega)
 rintro j ⟨hj, hall⟩ IH
 simp
 refine nv ?_
 refine Run.reg fun K J => ?_
 simp
 refine J _ _ _ (nv ?_); clear J
 by_cases hjl : j < l.length
 ·have hg : l[j]? = some l[j] := List.getElem?_eq_getElem hjl
  have htk : l.take (j + 1) = l.take j ++ [l[j]] := List.take_succ_eq_append_getElem hjl
  have hmem : l[j] ∈ l := List.getElem_mem hjl
  generalize l[j] = x at hg htk hmem
  refine ct (by simp [hjl]) (nv ?_)
  refine Run.reg fun K J => ?_
  simp [hg]
  refine J _ _ _ (nv ?_); clear J
  by_cases hx : x = s
  ·skip
   refine ct (by simp [hx]) (nv ?_)
   repeat (first | refine nw ?_ | (refine Run.reg fun K J => ?_; simp; (try (simp (disch := omega) only [wrap_id])); refine J _ _ _ ?_; clear J) | refine ct rfl ?_ | refine cf rfl ?_ | refine Run.exit rfl ?_ | refine Run.ret ?_)
   exact Fin.ret' (by simp) rfl hh (List.append_nil _).symm rfl rfl (Weak.refl _) rfl ⟨by simp [hx ▸ hmem], rfl⟩
  ·skip
   refine cf (by simp [hx]) (nv ?_)
   refine Run.reg fun K J => ?_
   simp
   try (simp (disch := omega) only [wrap_id])
   refine J _ _ _ (nv ?_); clear J
   refine IH (j + 1) _ _ ⟨by omega, by rw [htk]; simp [hall]; exact fun e => hx e.symm⟩ (by omega) ?_ rfl
   simp
   repeat' first | exact wn | apply wc | exact wj _ | exact wr _ | exact wz _ | exact wo _ _ _ | exact wi (by omega)
 ·have hje : j = l.length := by omega
  subst hje
  rw [List.take_length] at hall
  refine cf (by simp) ?_
  refine Run.exit rfl ?_
  refine nv ?_
  repeat (first | refine nw ?_ | (refine Run.reg fun K J => ?_; simp; (try (simp (disch := omega) only [wrap_id])); refine J _ _ _ ?_; clear J) | refine ct rfl ?_ | refine cf rfl ?_ | refine Run.exit rfl ?_ | refine Run.ret ?_)
  exact Fin.ret' (by simp) rfl hh (List.append_nil _).symm rfl rfl (Weak.refl _) rfl ⟨by simp [hall], rfl⟩
def leadN : Tm → Nat
 | .mk k _ _ _ [_, b] => if k = 6 then leadN b + 1 else 0
 | _ => 0
theorem leadN_le : ∀ (N : Nat) (t : Tm), t.size ≤ N → leadN t ≤ t.size
 | 0, t, h => by have := t.size_pos; omega
 | N + 1, .mk k i n ls ks, h => by
  match ks with
  | [] => simp [leadN]
  | [a] => simp [leadN]
  | [a, b] =>
   simp only [leadN, Tm.size, Tm.sizes] at h ⊢
   split
   ·have := leadN_le N b (by omega); omega
   ·omega
  | a :: b :: c :: r => simp [leadN]
theorem leading_any (h : Heap) (hh : WF h) (t : Tm) (hs : t.size ≤ 1048576) : ACalls Tryz.prog 256 [t.av] h fun o h' => o = .ret (iA (leadN t)) ∧ h' = h := by
 have hle := leadN_le t.size t (Nat.le_refl _)
 obtain ⟨T, hT⟩ : ∃ T, T = leadN t := ⟨_, rfl⟩
 rw [← hT] at hle ⊢
 obtain ⟨k, i, n, ls, ks⟩ := t
 simp only [Tm.av, cells_mk, List.map] at hle ⊢
 refine ACalls.of_run Tryz.func256 rfl ?_
 simp only [Tryz.ntmps256, List.length_cons, List.length_nil]
 refine nv ?_
 refine Run.reg fun K J => ?_
 simp
 refine J _ _ _ (nv ?_); clear J
 refine Run.reg fun K J => ?_
 simp
 refine J _ _ _ (nv ?_); clear J
 refine Run.loopS (ι := Tm × Nat) [1] (fun p => leadN p.1 + p.2 = T ∧ p.1.size ≤ 1048576) (fun p => p.1.size) (fun p => [(3, iA p.2)]) (fun p => h ++ [some (.cells (p.1.cells.map .p))]) (.mk k i n ls ks, 0) ⟨by simp [hT], hs⟩ ?_ (by simp) ?_
 ·simp
  repeat' first | exact wn | apply wc | exact wj _ | exact wr _ | exact wz _ | exact wo _ _ _ | exact wi (by omega)
 rintro ⟨u, m⟩ ⟨hu, hus⟩ IH
 obtain ⟨k, i, n, ls, ks⟩ := u
 simp only at hu hus
 have hks := length_le_sizes ks
 simp only [Tm.size] at hus
 simp
 refine nv ?_
 refine Run.regJ [1, 3] 12 (k == 6 && (ks.length : Int) == 2) (fun K J => ?_) ?_
 ·simp
  repeat' (first | apply And.intro | intro _)
  all_goals
   refine J _ ?_
   simp
   repeat' first | exact wn | apply wc
   all_goals first | exact Weak.junk _ | (refine Weak.bool ?_; clear J; rw [Bool.eq_iff_iff]; simp; done) | (refine Weak.bool ?_; clear J; rw [Bool.eq_iff_iff]; simp; omega) | (refine Weak.bool ?_; clear J; simp_all; done) | (refine Weak.bool ?_; clear J; simp [*]; done) | (refine Weak.bool ?_; clear J; rw [Bool.eq_iff_iff]; simp [*]; omega) | exact Weak.refl _
 simp only [setMany, keepT, keepT.go, List.contains_cons, List.set_cons_succ, List.set_cons_zero]
 simp
 refine Run.condB rfl (fun h1 => ?_) (fun h1 => ?_)
 ·have h1' : k = 6 ∧ ks.length = 2 := by simp at h1; omega
  obtain ⟨rfl, h2⟩ := h1'
  obtain ⟨a, b, hab⟩ : ∃ a b, ks = [a, b] := by match ks, h2 with | [a, b], _ => exact ⟨a, b, rfl⟩
  have hg : ks[1]? = some b := by rw [hab]; rfl
  have hlt : b.size < (Tm.mk 6 i n ls ks).size := by rw [hab]; simp [Tm.size, Tm.sizes]; omega
  rw [hab] at hu hus
  simp only [leadN, if_true] at hu
  simp only [Tm.sizes] at hus
  have hml : leadN b + (m + 1) = T := by omega
  have hbs : b.size ≤ 1048576 := by omega
  clear hu hus hab hks
  have hm : m ≤ 1048576 := by omega
  refine nv ?_
  refine Run.reg fun K J => ?_
  simp
  try (simp (disch := omega) only [wrap_id])
  refine J _ _ _ (nv ?_); clear J
  obtain ⟨k', i', n', ls', ks'⟩ := b
  refine Run.reg fun K J => ?_
  simp [hg]
  refine J _ _ _ (nv ?_); clear J
  refine IH (.mk k' i' n' ls' ks', m + 1) _ _ ⟨hml, hbs⟩ hlt ?_ (by simp)
  simp
  repeat' first | exact wn | apply wc | exact wj _ | exact wr _ | exact wz _ | exact wo _ _ _ | exact wi (by omega)
 ·have : leadN (.mk k i n ls ks) = 0 := by
   match ks, h1 with
   | [], _ => simp [leadN]
   | [a], _ => simp [leadN]
   | [a, b], h1 => simp at h1; simp [leadN, h1]
   | a :: b :: c :: r, _ => simp [leadN]
  rw [this] at hu
  refine Run.exit rfl ?_
  refine nv ?_
  repeat (first | refine nw ?_ | (refine Run.reg fun K J => ?_; simp; (try (simp (disch := omega) only [wrap_id])); refine J _ _ _ ?_; clear J) | refine ct rfl ?_ | refine cf rfl ?_ | refine Run.exit rfl ?_ | refine Run.ret ?_)
  exact Fin.ret' (h0 := h) (by simp) rfl hh rfl rfl rfl (Weak.refl _) rfl ⟨by rw [← hu]; simp, rfl⟩

end Go.Proofs.YtcfcolkbeelegaaGreat
