import Derived.Test.YtfajdeofhioakaaGreatAYC
import Derived.Test.YtfajdeofhioakaaGreatAD
import Derived.Test.YtfajdeofhioakaaGreatAYB
import Derived.Test.YtfajdeofhioakaaGreatAT2
set_option maxRecDepth 8000
set_option maxHeartbeats 8000000

namespace Go.Proofs.YtfajdeofhioakaaGreat

open Go Go.AI
theorem _root_.Go.AI.Weak.tr {x y z : AV} (a : Weak x y) (b : Weak y z) : Weak x z := fun E w v h => b E w v (a E w v h)
def shR : Int → List Tm → List Tm
 | _, [] => []
 | n, t :: ts => (resRefShift n 0 t).1 :: shR (n - 1) ts
theorem shR_length (n : Int) (ts : List Tm) : (shR n ts).length = ts.length := by
 induction ts generalizing n with
 | nil => rfl
 | cons t ts ih => simp [shR, ih]
theorem shR_get (n : Int) (ts : List Tm) (j : Nat) : (shR n ts)[j]? = (ts[j]?).map fun t => (resRefShift (n - j) 0 t).1 := by
 induction ts generalizing n j with
 | nil => rfl
 | cons t ts ih =>
  cases j with
  | zero => simp [shR]
  | succ j =>
   rw [shR, List.getElem?_cons_succ, List.getElem?_cons_succ, ih, show n - 1 - (j : Int) = n - ((j + 1 : Nat) : Int) by omega]
def srP (t : Tm) (n : Int) : Pb × Int :=
 if (resOpen t n).2.2 ≠ 0 then (zPb, (resOpen t n).2.2) else (⟨shR n (resOpen t n).1, List.replicate n.toNat false, List.replicate n.toNat zT, (resOpen t n).2.1⟩, 0)
theorem fRow_succ (j : Nat) : fRow (j + 1) = fRow j ++ [[bP false]] := List.replicate_succ'
theorem zRow_succ (j : Nat) : zRow (j + 1) = zRow j ++ [[iP 0, iP 0, sP [], .prim (.slice none 0 0), .prim (.slice none 0 0)]] := List.replicate_succ'
theorem zRow_length (j : Nat) : (zRow j).length = j := by simp [zRow]
theorem fRow_length (j : Nat) : (fRow j).length = j := by simp [fRow]
theorem rstart11_any (h : Heap) (hh : WF h) (t : Tm) (n : Int) (hsz : t.size ≤ 1048576) (hn2 : n ≤ 9223372036854775807) (hl : (resOpen t n).1.length ≤ 100000)
  (hlen : (resOpen t n).2.2 = 0 → ((resOpen t n).1.length : Int) = n) (hok : ∀ u ∈ (resOpen t n).1, u.size ≤ 1048576 ∧ u.idx) :
  ACalls Tryz.prog 11 [t.av, iA n] h fun o h' => o = .ret (.tup [(srP t n).1.av, iA (srP t n).2]) ∧ h' = h := by
 have c1 := fun (g : Heap) (hw : WF g) => open68_any g hw t n hsz hn2
 obtain ⟨r, hr⟩ : ∃ r, srP t n = r := ⟨_, rfl⟩
 rw [hr]
 unfold srP at hr
 generalize resOpen t n = q at c1 hl hlen hok hr
 obtain ⟨tel, ed, e⟩ := q
 simp only at c1 hl hlen hok hr
 obtain ⟨k, i, nm, ls, ks⟩ := t
 obtain ⟨d0, d1, d2, d3, d4⟩ := ed
 simp only [Tm.av, cells_mk, List.map] at c1 ⊢
 by_cases he : e = 0
 rotate_left
 ·rw [if_pos he] at hr
  subst hr
  have heb : (e != (0 : Int)) = true := by simpa using he
  refine ACalls.of_run Tryz.func11 rfl ?_
  simp only [Tryz.ntmps11, List.length_cons, List.length_nil]
  refine nv ?_
  refine Run.reg fun K J => ?_
  simp
  try (simp (disch := omega) only [wrap_id])
  refine J _ _ _ (nv ?_); clear J
  refine Run.reg fun K J => ?_
  simp
  try (simp (disch := omega) only [wrap_id])
  refine J _ _ _ (nv ?_); clear J
  refine rl rfl (by first | rfl | simp) (by simp) rfl (c1 _ (hh.app (by simp))) ?_
  refine Run.ops fun K J => ?_
  simp
  try (simp (disch := omega) only [wrap_id])
  refine J _ _ _ (nv ?_); clear J
  refine Run.reg fun K J => ?_
  simp [heb]
  try (simp (disch := omega) only [wrap_id])
  refine J _ _ _ (nv ?_); clear J
  refine ct (by simp) (nv ?_)
  refine Run.reg fun K J => ?_
  simp
  try (simp (disch := omega) only [wrap_id])
  refine J _ _ _ (nv ?_); clear J
  refine Run.ret ?_
  exact Fin.ret' (h0 := h) (xs := [.agg zPbC, iA e]) (by simp) rfl hh rfl (by simp) rfl (Weak.tup (WeakL.cons zPb_weak (WeakL.refl _))) (by simp [zT]) ⟨rfl, rfl⟩
 subst he
 rw [if_neg (by simp)] at hr
 have hlen := hlen rfl
 obtain ⟨N, rfl⟩ : ∃ N : Nat, n = N := ⟨tel.length, hlen.symm⟩
 have hNl : tel.length = N := by omega
 have hRl : (shR N tel).length = N := by rw [shR_length, hNl]
 refine ACalls.of_run Tryz.func11 rfl ?_
 simp only [Tryz.ntmps11, List.length_cons, List.length_nil]
 refine nv ?_
 refine Run.reg fun K J => ?_
 simp
 try (simp (disch := omega) only [wrap_id])
 refine J _ _ _ (nv ?_); clear J
 refine Run.reg fun K J => ?_
 simp
 try (simp (disch := omega) only [wrap_id])
 refine J _ _ _ (nv ?_); clear J
 refine rl rfl (by first | rfl | simp) (by simp) rfl (c1 _ (hh.app (by simp))) ?_
 refine Run.ops fun K J => ?_
 simp
 try (simp (disch := omega) only [wrap_id])
 refine J _ _ _ (nv ?_); clear J
 refine Run.reg fun K J => ?_
 simp
 try (simp (disch := omega) only [wrap_id])
 refine J _ _ _ (nv ?_); clear J
 refine cf (by simp) (nv ?_)
 refine Run.reg fun K J => ?_
 simp
 try (simp (disch := omega) only [wrap_id])
 refine J _ _ _ (nv ?_); clear J
 refine Run.reg fun K J => ?_
 simp
 try (simp (disch := omega) only [wrap_id])
 refine J _ _ _ (nv ?_); clear J
 refine Run.tokAt (h.length + 3) 0 5 (by simp; rfl) (by simp) ?_
 simp
 refine Run.tokAt (h.length + 3) 1 1 (by simp; rfl) (by simp) ?_
 simp
 refine Run.tokAt (h.length + 3) 2 5 (by simp; rfl) (by simp) ?_
 simp
 refine Run.loopS [1, 4, 5, 6, 9] (fun j : Nat => j ≤ N) (fun j => N - j) (fun j => [(10, iA j)])
  (fun j => h ++ [some (.cells [iA k, iA i, .p (sP nm), .p (.sl 2 (lvPs ls)), .p (.sl 5 (tmPs ks))]), some (.cells zPbC), some (.cells [iA d0, iA d1, .p (sP d2), .p (.sl 2 (lvPs d3)), .p (.sl 5 (tmPs d4))]),
   some (.cells [.own (h.length + 4) 5 (tmPs ((shR N tel).take j)), .own (h.length + 5) 1 (fRow j), .own (h.length + 6) 5 (zRow j), iA d0, iA d1, .p (sP d2), .p (.sl 2 (lvPs d3)), .p (.sl 5 (tmPs d4))]),
   some (.tok j 5), some (.tok j 1), some (.tok j 5)]) 0 (by simp) ?_ (by simp [fRow, zRow, tmPs]) ?_
 ·simp
  repeat' first | exact wn | apply wc | exact wj _ | exact wr _ | exact wz _ | exact wo _ _ _ | exact wi (by omega)
 intro j hj IH
 simp
 refine nv ?_
 refine Run.reg fun K J => ?_
 simp
 try (simp (disch := omega) only [wrap_id])
 refine J _ _ _ (nv ?_); clear J
 by_cases hjl : j < N
 ·have hjt : j < tel.length := by omega
  have hg : tel[j]? = some tel[j] := List.getElem?_eq_getElem hjt
  have hxl : j < (shR N tel).length := by omega
  have hgx : (shR N tel)[j]? = some (shR N tel)[j] := List.getElem?_eq_getElem hxl
  have htk : (shR N tel).take (j + 1) = (shR N tel).take j ++ [(shR N tel)[j]] := List.take_succ_eq_append_getElem hxl
  have hin := hok _ (List.getElem_mem hjt)
  have hw : IntKind.i64.wrap ((N : Int) - j) = N - j := wrap_id (by omega) (by omega)
  have c2 := fun (g : Heap) (hw : WF g) => refShift_any g hw tel[j] (N - j) 0 (by omega) (by omega) hin.1 hin.2
  have hgx2 := shR_get N tel j
  rw [hgx, hg] at hgx2
  simp only [Option.map_some, Option.some.injEq] at hgx2
  rw [hgx2] at htk
  generalize resRefShift (N - j) 0 tel[j] = q at c2 htk
  obtain ⟨⟨x0, x1, x2, x3, x4⟩, e⟩ := q
  have hlen2 : ((shR N tel).take j).length = j := by simp; omega
  generalize tel[j] = u at hg c2
  obtain ⟨t0, t1, t2, t3, t4⟩ := u
  simp only [Tm.av, cells_mk, List.map] at c2
  have hb1 : (j + 1) * 80 ≤ 140737488355328 := by omega
  have hb2 : j + 1 ≤ 9223372036854775807 := by omega
  have hb3 : j + 1 ≤ 140737488355328 := by omega
  refine nv ?_
  refine ct (by simp [hjl]) (nv ?_)
  refine Run.reg fun K J => ?_
  simp [hg, hw]
  try (simp (disch := omega) only [wrap_id])
  refine J _ _ _ (nv ?_); clear J
  refine rl rfl (by first | rfl | simp) (by simp) rfl (c2 _ (hh.app (by simp))) ?_
  refine Run.ops fun K J => ?_
  simp
  try (simp (disch := omega) only [wrap_id])
  refine J _ _ _ (nv ?_); clear J
  refine Run.reg fun K J => ?_
  simp [hb1, hb2, hlen2]
  try (simp (disch := omega) only [wrap_id])
  refine J _ _ _ (nv ?_); clear J
  refine Run.reg fun K J => ?_
  simp [hb2, hb3, fRow_length]
  try (simp (disch := omega) only [wrap_id])
  refine J _ _ _ (nv ?_); clear J
  refine Run.reg fun K J => ?_
  simp [hb1, hb2, zRow_length]
  try (simp (disch := omega) only [wrap_id])
  refine J _ _ _ (nv ?_); clear J
  refine Run.reg fun K J => ?_
  simp
  try (simp (disch := omega) only [wrap_id])
  refine J _ _ _ (nv ?_); clear J
  refine Run.keep [1, 4, 5, 6, 9, 10] ?_
  simp only [keepT, keepT.go, List.contains_cons]
  simp
  refine Run.cutAt 7 hh rfl (by omega) (by simp) (by simp) (by simp) rfl ?_
  simp
  refine IH (j + 1) _ _ (by omega) (by omega) ?_ ?_
  ·simp
   repeat' first | exact wn | apply wc | exact wj _ | exact wr _ | exact wz _ | exact wo _ _ _ | exact wi (by omega)
  ·rw [htk, tmPs_snoc, fRow_succ, zRow_succ]
   simp
 ·have hje : j = N := by omega
  subst hje
  rw [List.take_of_length_le (by omega)]
  refine nv ?_
  refine cf (by simp) (nv ?_)
  refine Run.exit rfl ?_
  refine nv ?_
  refine Run.reg fun K J => ?_
  simp
  try (simp (disch := omega) only [wrap_id])
  refine J _ _ _ (nv ?_); clear J
  refine Run.ret ?_
  refine Fin.ret' (h0 := h) (by simp) rfl hh rfl (by simp; rfl) rfl (y := .tup [r.1.av, iA r.2]) ?_ (by simp) ⟨rfl, rfl⟩
  subst hr
  refine Weak.tup (WeakL.cons (Weak.agg ?_) (WeakL.refl _))
  simp only [Int.toNat_natCast, fRow_eq]
  exact WeakL.cons (Weak.own _ _ _) (WeakL.cons (Weak.own _ _ _) (WeakL.cons (Weak.tr (Weak.own _ _ _) (WeakP.sl (zRow_weak j)).av) (WeakL.refl _)))


open Go Go.AI

structure Pb.fine (p : Pb) : Prop where
 ty : p.ty.length ≤ 1048576 ∧ ∀ t ∈ p.ty, t.lvs ∧ t.size ≤ 1099511627776
 va : p.va.length ≤ 1048576 ∧ ∀ t ∈ p.va, t.lvs ∧ t.size ≤ 1099511627776
 tg : p.tg.lvs ∧ p.tg.size ≤ 1099511627776
 kn : p.kn.length ≤ 1048576
theorem samePb_any (p : Pb) (hp : p.fine) (h : Heap) (hh : WF h) : ACalls Tryz.prog 12 [p.av, p.av] h fun o h' => o = .ret (bA true) ∧ h' = h := by
 obtain ⟨⟨p1, p2⟩, ⟨p3, p4⟩, ⟨p5, p6⟩, p7⟩ := hp
 have c1 := fun (g : Heap) (hw : WF g) => sameLS p.ty (by omega) p2 g hw
 have c2 := fun (g : Heap) (hw : WF g) => sameLS p.va (by omega) p4 g hw
 have c3 := fun (g : Heap) (hw : WF g) => sameS p.tg p5 p6 g hw
 obtain ⟨ty, kn, va, ⟨d0, d1, d2, d3, d4⟩⟩ := p
 simp only [Tm.av, cells_mk, List.map] at c1 c2 c3 p7 ⊢
 have hkl : (boPs kn).length = kn.length := by simp
 refine ACalls.of_run Tryz.func12 rfl ?_
 simp only [Tryz.ntmps12, List.length_cons, List.length_nil]
 refine nv ?_
 refine Run.reg fun K J => ?_
 simp
 try (simp (disch := omega) only [wrap_id])
 refine J _ _ _ (nv ?_); clear J
 refine Run.reg fun K J => ?_
 simp
 try (simp (disch := omega) only [wrap_id])
 refine J _ _ _ (nv ?_); clear J
 refine rl rfl (by first | rfl | simp) (by simp) rfl (c1 _ (hh.app (by simp))) ?_
 refine Run.ops fun K J => ?_
 simp
 try (simp (disch := omega) only [wrap_id])
 refine J _ _ _ (nv ?_); clear J
 refine rl rfl (by first | rfl | simp) (by simp) rfl (c2 _ (hh.app (by simp))) ?_
 refine Run.ops fun K J => ?_
 simp
 try (simp (disch := omega) only [wrap_id])
 refine J _ _ _ (nv ?_); clear J
 refine rl rfl (by first | rfl | simp) (by simp) rfl (c3 _ (hh.app (by simp))) ?_
 refine Run.ops fun K J => ?_
 simp
 try (simp (disch := omega) only [wrap_id])
 refine J _ _ _ (nv ?_); clear J
 refine cf (by simp) (nv ?_)
 refine Run.reg fun K J => ?_
 simp
 try (simp (disch := omega) only [wrap_id])
 refine J _ _ _ (nv ?_); clear J
 refine Run.loopS [2, 3] (fun j : Nat => j ≤ kn.length) (fun j => kn.length - j) (fun j => [(5, iA j)])
  (fun _ => h ++ [some (.cells [.p (.sl 5 (tmPs ty)), .p (.sl 1 (boPs kn)), .p (.sl 5 (tmPs va)), iA d0, iA d1, .p (sP d2), .p (.sl 2 (lvPs d3)), .p (.sl 5 (tmPs d4))]), some (.cells [.p (.sl 5 (tmPs ty)), .p (.sl 1 (boPs kn)), .p (.sl 5 (tmPs va)), iA d0, iA d1, .p (sP d2), .p (.sl 2 (lvPs d3)), .p (.sl 5 (tmPs d4))])]) 0 (by simp) ?_ rfl ?_
 ·simp
  repeat' first | exact wn | apply wc | exact wj _ | exact wr _ | exact wz _ | exact wo _ _ _ | exact wi (by omega)
 intro j hj IH
 simp
 refine nv ?_
 refine Run.reg fun K J => ?_
 simp [hkl]
 try (simp (disch := omega) only [wrap_id])
 refine J _ _ _ (nv ?_); clear J
 by_cases hjl : j < kn.length
 ·have hg : kn[j]? = some kn[j] := List.getElem?_eq_getElem hjl
  generalize kn[j] = b at hg
  refine nv ?_
  refine ct (by simp [hjl]) (nv ?_)
  refine Run.draw [0, 0, 0, 0, 0, 0, 0, 0, 0, 0, 0] [0, 0, 0, 0, 0, 0, 0, 0, 0, 0, 0] [0, 1, 0, 7, 15, 0, 32, 0, 224, 480, 1023] [0, 1, 2, 3, 4, 5, 6, 7, 8, 9, 10] (by kernel_rfl) (by kernel_rfl) ?_
  refine DR.go fun K J => ?_
  simp [hkl, hjl]
  try (simp (disch := omega) only [wrap_id])
  refine J _ _ _ _ ?_; clear J
  change Run _ _ _ _ _ _ _ _
  refine nv ?_
  refine cf (by simp) (nv ?_)
  refine Run.reg fun K J => ?_
  simp
  try (simp (disch := omega) only [wrap_id])
  refine J _ _ _ (nv ?_); clear J
  refine IH (j + 1) _ _ (by omega) (by omega) ?_ rfl
  simp
  repeat' first | exact wn | apply wc | exact wj _ | exact wr _ | exact wz _ | exact wo _ _ _ | exact wi (by omega)
 ·have hje : j = kn.length := by omega
  subst hje
  refine nv ?_
  refine cf (by simp) (nv ?_)
  refine Run.exit rfl ?_
  refine nv ?_
  refine Run.reg fun K J => ?_
  simp
  try (simp (disch := omega) only [wrap_id])
  refine J _ _ _ (nv ?_); clear J
  refine Run.ret ?_
  exact Fin.ret' (h0 := h) (by simp) rfl hh rfl (by simp; rfl) rfl (Weak.refl _) (by simp) ⟨rfl, rfl⟩

end Go.Proofs.YtfajdeofhioakaaGreat
