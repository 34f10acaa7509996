import Derived.Test.YtfajdeofhioakaaGreatAU1
import Derived.Test.YtfajdeofhioakaaGreatAA
import Derived.Test.YtfajdeofhioakaaGreatProg
import Derived.KernelRfl
import Derived.Shelf.SlIterI.Sorted
import Derived.Shelf.Lays
import Derived.Test.YtfajdeofhioakaaGreatAFL
import Derived.Test.YtfajdeofhioakaaGreatAG1
import Derived.Test.YtfajdeofhioakaaGreatAC
import Derived.Test.YtfajdeofhioakaaGreatAEVa
import Derived.Test.YtfajdeofhioakaaGreatAFX
import Derived.Test.YtfajdeofhioakaaGreatAFF
import Derived.Test.YtfajdeofhioakaaGreatAFH
import Derived.Test.YtfajdeofhioakaaGreatAD
import Derived.Test.YtfajdeofhioakaaGreatAFQ
set_option maxRecDepth 8000
set_option maxHeartbeats 4000000

namespace Go.Proofs.YtfajdeofhioakaaGreat

open Go Go.AI
theorem few5_ok {vars : Int} {t : Tm} (hv : 0 ≤ vars) (hl : t.lvs) (h : few5 vars t = true) : t.ok vars ∧ t.size ≤ 120 ∧ t.depth ≤ 100 := by
 simp only [few5, Bool.and_eq_true, decide_eq_true_eq, beq_iff_eq, checkZ] at h
 rw [if_neg (by omega : ¬ vars < 0)] at h
 obtain ⟨⟨h1, h2⟩, h3⟩ := h
 by_cases hc : chk vars 8 100 100 0 t = 0
 ·exact ⟨by simpa using chk_ok vars 8 100 100 t 0 hl hc, by omega, by omega⟩
 ·rw [if_pos hc] at h3; exact absurd h3 hc
theorem lvs_zT : zT.lvs ∧ zT.size ≤ 1 := by simp [zT, Tm.lvs, Tm.lvss, Tm.size, Tm.sizes]
theorem isB_some {k : Int} {t a b : Tm} (h : isB k t = some (a, b)) (hl : t.lvs) : a.lvs ∧ b.lvs ∧ a.size + b.size + 1 ≤ t.size := by
 obtain ⟨k', i, n, ls, ks⟩ := t
 match ks, h with
 | [x, y], h =>
  simp only [isB] at h
  split at h
  ·injection h with h; injection h with h1 h2
   subst h1; subst h2
   simp only [Tm.lvs, Tm.lvss, Tm.size, Tm.sizes] at hl ⊢
   exact ⟨hl.2.2.1, hl.2.2.2.1, by omega⟩
  ·cases h
theorem openA_ok (M : Nat) (hM : 1 ≤ M) : ∀ (n : Nat) (acc : List Tm) (t : Tm), (∀ u ∈ acc, u.lvs ∧ u.size ≤ M) → t.lvs → t.size ≤ M → (∀ u ∈ (openA n acc t).1, u.lvs ∧ u.size ≤ M) ∧ (openA n acc t).2.1.lvs ∧ (openA n acc t).2.1.size ≤ M ∧ (openA n acc t).1.length ≤ acc.length + t.size
 | 0, acc, t, ha, hl, hs => ⟨ha, hl, hs, by simp only [openA]; omega⟩
 | n + 1, acc, t, ha, hl, hs => by
  simp only [openA]
  cases hb : isB 6 t with
  | none => exact ⟨by simp, lvs_zT.1, by have := lvs_zT.2; simp only; omega, by simp⟩
  | some p =>
   obtain ⟨a, b⟩ := p
   have h := isB_some hb hl
   simp only
   have ih := openA_ok M hM n (acc ++ [a]) b (fun u hu => by
    rcases List.mem_append.1 hu with hu | hu
    ·exact ha u hu
    ·simp at hu; subst hu; exact ⟨h.1, by omega⟩) h.2.1 (by omega)
   refine ⟨ih.1, ih.2.1, ih.2.2.1, ?_⟩
   have := ih.2.2.2
   simp only [List.length_append, List.length_singleton] at this
   omega
theorem resOpen_ok (t : Tm) (n : Int) (hl : t.lvs) : (∀ u ∈ (resOpen t n).1, u.lvs ∧ u.size ≤ t.size) ∧ (resOpen t n).2.1.lvs ∧ (resOpen t n).2.1.size ≤ t.size ∧ (resOpen t n).1.length ≤ t.size := by
 have := t.size_pos
 unfold resOpen
 by_cases h : n < 0
 ·rw [if_pos h]; exact ⟨by simp, lvs_zT.1, by have := lvs_zT.2; simp only; omega, by simp⟩
 ·rw [if_neg h]
  have := openA_ok t.size (by omega) n.toNat [] t (by simp) hl (Nat.le_refl _)
  simpa using this
theorem sameS (t : Tm) (hl : t.lvs) (hs : t.size ≤ 1099511627776) (g : Heap) (hg : WF g) : ACalls Tryz.prog 20 [t.av, t.av] g fun o h' => o = .ret (bA true) ∧ h' = g := by
 have := same_any t.size t t g (Nat.le_refl _) hs hl hg
 rwa [sameT_refl] at this
theorem sameLS (l : List Tm) (hl : l.length ≤ 1099511627776) (hx : ∀ t ∈ l, t.lvs ∧ t.size ≤ 1099511627776) (g : Heap) (hg : WF g) : ACalls Tryz.prog 19 [.p (.sl 5 (tmPs l)), .p (.sl 5 (tmPs l))] g fun o h' => o = .ret (bA true) ∧ h' = g := by
 have := sameL_any g hg l l hl hx
 rwa [sameL_refl] at this


open Go Go.AI
def omax : Option Int → Option Int → Option Int
 | none, b => b
 | a, none => a
 | some x, some y => some (max x y)
@[simp] theorem omax_none_left (a : Option Int) : omax none a = a := rfl
@[simp] theorem omax_none_right (a : Option Int) : omax a none = a := by cases a <;> rfl
@[simp] theorem omax_some (x y : Int) : omax (some x) (some y) = some (max x y) := rfl
def mergeL : List (Int × Int) → List (Int × Int) → List (Int × Int)
 | [], b => b
 | a, [] => a
 | (i, p) :: a, (k, q) :: b => if i < k then (i, p) :: mergeL a ((k, q) :: b) else if k < i then (k, q) :: mergeL ((i, p) :: a) b else (i, max p q) :: mergeL a b
termination_by a b => a.length + b.length
@[simp] theorem mergeL_nil_right (a : List (Int × Int)) : mergeL a [] = a := by cases a <;> simp [mergeL]
@[simp] theorem mergeL_nil_left (a : List (Int × Int)) : mergeL [] a = a := by cases a <;> simp [mergeL]


open Go Go.AI
theorem im165 : intMap Tryz.prog 329 = true := by kernel_rfl

attribute [simp] alookup amapUpd kvOf_ikv im165


open Go Go.AI
theorem ints_get' (l : List Int) (j : Nat) : (ints l)[j]? = (l[j]?).map fun z => [iP z] := by simp [ints]

attribute [simp] ints_length ints_get'


open Go Go.AI

structure Ct where
 nm : List UInt8
 ty : Tm

mutual
inductive Tr where
 | mk (k : Int) (b : Tm) (v : Int) (bs : List Br)
inductive Br where
 | mk (c : List UInt8) (a : Bool) (t : Tr)
end

structure Fu where
 nm : List UInt8
 ty : Tm
 ar : Int
 tr : Tr

structure Dc where
 k : Int
 nm : List UInt8
 ps : Int
 ty : Tm
 va : Tm
 fx : Int
 cs : List Ct
 rp : Int
 rt : Tm
 rr : List Tm
 fs : List Fu
def Ct.cells (c : Ct) : List PV := sP c.nm :: c.ty.cells
abbrev bP (b : Bool) : PV := .prim (.bool b)


open Go Go.AI
def strPs (l : List (List UInt8)) : List (List PV) := l.map fun s => [sP s]
@[simp] theorem strPs_length (l : List (List UInt8)) : (strPs l).length = l.length := by simp [strPs]
@[simp] theorem strPs_get (l : List (List UInt8)) (i : Nat) : (strPs l)[i]? = (l[i]?).map fun s => [sP s] := by simp [strPs]

end Go.Proofs.YtfajdeofhioakaaGreat

namespace Go.AI

open Go
@[simp] theorem str_append (a b : List UInt8) : (ByteArray.mk a.toArray ++ ByteArray.mk b.toArray) = ByteArray.mk (a ++ b).toArray := by
 apply ByteArray.ext
 simp
@[simp] theorem str_size (a : List UInt8) : (ByteArray.mk a.toArray).size = a.length := by simp [ByteArray.size]

end Go.AI

namespace Go.Proofs.YtfajdeofhioakaaGreat

open Go Go.AI
@[simp] theorem ctCells_get (l : List Ct) (j : Nat) : (l.map Ct.cells)[j]? = (l[j]?).map Ct.cells := by simp


open Go Go.AI

structure Pb where
 ty : List Tm
 kn : List Bool
 va : List Tm
 tg : Tm
abbrev boPs (l : List Bool) : List (List PV) := l.map fun b => [bP b]
abbrev Pb.cells (p : Pb) : List AV := .p (.sl 5 (tmPs p.ty)) :: .p (.sl 1 (boPs p.kn)) :: .p (.sl 5 (tmPs p.va)) :: p.tg.cells.map .p
abbrev Pb.av (p : Pb) : AV := .agg p.cells
abbrev zPb : Pb := ⟨[], [], [], zT⟩
theorem must45_ok (h : Heap) (hh : WF h) (t : Tm) : ACalls Tryz.prog 45 [t.av, iA 0] h fun o h' => o = .ret t.av ∧ h' = h := by
 obtain ⟨k, i, n, ls, ks⟩ := t
 simp only [Tm.av, cells_mk, List.map]
 refine ACalls.of_run Tryz.func45 rfl ?_
 simp only [Tryz.ntmps45, List.length_cons, List.length_nil]
 refine nv ?_
 refine Run.reg fun K J => ?_
 simp
 try (simp (disch := omega) only [wrap_id])
 refine J _ _ _ (nv ?_); clear J
 refine Run.reg fun K J => ?_
 simp
 try (simp (disch := omega) only [wrap_id])
 refine J _ _ _ (nv ?_); clear J
 refine cf (by simp) (nv ?_)
 refine Run.reg fun K J => ?_
 simp
 try (simp (disch := omega) only [wrap_id])
 refine J _ _ _ (nv ?_); clear J
 refine Run.ret ?_
 exact Fin.ret' (h0 := h) (by simp) rfl hh rfl (by simp; rfl) rfl (Weak.refl _) (by simp) ⟨rfl, rfl⟩
theorem guardDef_ok (h : Heap) (hh : WF h) (p : Nat) : ADef Tryz.prog 92 [.ptr p 0] none h h := by
 refine ADef.of_run Tryz.func92 rfl rfl rfl fun K J => ?_
 simp only [Tryz.ntmps92, List.length_cons, List.length_nil]
 simp [recA]
 refine J _ _ ?_; clear J
 have hu : Tryz.prog.underlying 20 = some (.interface #[]) := by kernel_rfl
 refine nv ?_
 refine Run.reg fun K J => ?_
 simp [hu]
 try (simp (disch := omega) only [wrap_id])
 refine J _ _ _ (nv ?_); clear J
 refine cf (by simp) (nv ?_)
 refine Run.nil ?_
 exact Fin.ret' (by simp) rfl hh (List.append_nil _).symm rfl rfl (Weak.refl _) rfl ⟨⟨_, rfl⟩, rfl⟩
theorem guarded41_ok (i : FuncId) (hi : enterable Tryz.prog i = true) (cap : List AV) (H G : Heap) (hGw : WF G) (hGl : G.length = H.length) (_hH : WF H)
  (_hcap : ∀ x ∈ cap, x.under H.length = true)
  (c1 : ACalls Tryz.prog i cap (H ++ [some (.cells [iA 0])]) fun o h' => o = .ret (.tup []) ∧ h' = G ++ [some (.cells [iA 0])]) :
  ACalls Tryz.prog 41 [.fn (.func i) [] cap] H fun o h' => o = .ret (iA 0) ∧ h' = G := by
 refine ACalls.of_runD Tryz.func41 rfl ?_
 simp only [Tryz.ntmps41, List.length_cons, List.length_nil]
 refine nv ?_
 refine Run.reg fun K J => ?_
 simp
 try (simp (disch := omega) only [wrap_id])
 refine J _ _ _ (nv ?_); clear J
 refine Run.regPre 1 fun K J => ?_
 simp only [List.take_succ_cons, List.take_zero]
 simp
 try (simp (disch := omega) only [wrap_id])
 refine J _ _ _ ?_; clear J
 simp only [List.nil_append, List.drop_succ_cons, List.drop_zero]
 refine Run.defer (i := 92) (first := []) (cap := [.ptr H.length 0]) rfl rfl rfl (by simp) ?_
 refine Run.ops fun K J => ?_
 simp
 try (simp (disch := omega) only [wrap_id])
 refine J _ _ _ (nv ?_); clear J
 refine Run.reg fun K J => ?_
 simp
 try (simp (disch := omega) only [wrap_id])
 refine J _ _ _ (nv ?_); clear J
 refine Run.call (args := cap) rfl rfl (by simp) hi c1 ?_ ?_
 rotate_left
 ·rintro v h' ⟨hv, _⟩; cases hv
 rintro v h' ⟨hv, rfl⟩
 simp only [AOut.ret.injEq] at hv
 subst hv
 have g1 : ∀ (l : Heap), (G ++ l)[H.length]? = l[0]? := fun l => by rw [List.getElem?_append_right (by omega), hGl, Nat.sub_self]
 have g2 : ∀ (l : Heap) o, (G ++ l).set H.length o = G ++ l.set 0 o := fun l o => by rw [List.set_append_right _ _ (by omega), hGl, Nat.sub_self]
 refine Run.ops fun K J => ?_
 simp
 try (simp (disch := omega) only [wrap_id])
 refine J _ _ _ (nv ?_); clear J
 refine Run.reg fun K J => ?_
 simp [g2, hGl]
 try (simp (disch := omega) only [wrap_id])
 refine J _ _ _ (nv ?_); clear J
 refine Run.ret ?_
 simp only [FinD]
 refine ⟨by simp, rfl, _, guardDef_ok _ (hGw.app (by simp [hGl])) H.length, ?_⟩
 exact Fin.ret' (h0 := G) (by simp) hGl hGw rfl (by simp [hGl]; rfl) rfl (Weak.refl _) (by simp) ⟨rfl, rfl⟩


open Go Go.AI
theorem each43_any (i : FuncId) (hi : enterable Tryz.prog i = true) (cap : List AV) (ts xs : List Tm) (hx : xs.length = ts.length) (hl : ts.length ≤ 1048576) (n : Nat) (Hs : Nat → Heap) (hHl : ∀ j, (Hs j).length = n) (hHw : ∀ j, WF (Hs j))
  (hcap : AV.underL n cap = true)
  (c : ∀ (j : Nat) (t x : Tm), ts[j]? = some t → xs[j]? = some x → ∀ L, WF (Hs j ++ L) → ACalls Tryz.prog i (t.av :: cap) (Hs j ++ L) fun o h' => o = .ret x.av ∧ h' = Hs (j + 1) ++ L) :
  ACalls Tryz.prog 43 [.p (.sl 5 (tmPs ts)), .fn (.func i) [] cap] (Hs 0) fun o h' => o = .ret (.p (.sl 5 (tmPs xs))) ∧ h' = Hs ts.length := by
 have g1 : ∀ j (l : Heap), (Hs j ++ l)[n]? = l[0]? := fun j l => by rw [List.getElem?_append_right (by rw [hHl]; omega), hHl, Nat.sub_self]
 have g2 : ∀ j (l : Heap) o, (Hs j ++ l).set n o = Hs j ++ l.set 0 o := fun j l o => by rw [List.set_append_right _ _ (by rw [hHl]; omega), hHl, Nat.sub_self]
 have g3 : ∀ j (l : Heap), (Hs j ++ l)[n + 1]? = l[1]? := fun j l => by rw [List.getElem?_append_right (by rw [hHl]; omega), hHl]; congr 1; omega
 have g4 : ∀ j (l : Heap) o, (Hs j ++ l).set (n + 1) o = Hs j ++ l.set 1 o := fun j l o => by rw [List.set_append_right _ _ (by rw [hHl]; omega), hHl]; congr 2; omega
 have hcap1 : AV.underL (n + 1) cap = true := AV.underL_mono (by omega) hcap
 refine ACalls.of_run Tryz.func43 rfl ?_
 simp only [Tryz.ntmps43, List.length_cons, List.length_nil]
 refine nv ?_
 rw [hHl]
 refine nv ?_
 refine Run.reg fun K J => ?_
 simp
 try (simp (disch := omega) only [wrap_id])
 refine J _ _ _ (nv ?_); clear J
 refine Run.reg fun K J => ?_
 simp
 try (simp (disch := omega) only [wrap_id])
 refine J _ _ _ (nv ?_); clear J
 refine Run.tok 5 5 (by simp) ?_
 simp [hHl]
 refine nv ?_
 refine Run.reg fun K J => ?_
 simp
 try (simp (disch := omega) only [wrap_id])
 refine J _ _ _ (nv ?_); clear J
 refine Run.loopS [0, 1, 8, 9] (fun j : Nat => j ≤ ts.length) (fun j => ts.length - j) (fun j => [(5, .own n 5 (tmPs (xs.take j))), (10, iA j)]) (fun j => Hs j ++ [some (.tok j 5)]) 0 (by simp) ?_ (by simp) ?_
 ·simp [tmPs]
  repeat' first | exact wn | apply wc | exact wj _ | exact wr _ | exact wz _ | exact wo _ _ _ | exact wi (by omega)
 intro j hj IH
 simp
 refine nv ?_
 refine Run.reg fun K J => ?_
 simp
 try (simp (disch := omega) only [wrap_id])
 refine J _ _ _ (nv ?_); clear J
 by_cases hjl : j < ts.length
 ·have hg : ts[j]? = some ts[j] := List.getElem?_eq_getElem hjl
  have hxl : j < xs.length := by omega
  have hgx : xs[j]? = some xs[j] := List.getElem?_eq_getElem hxl
  have htk : xs.take (j + 1) = xs.take j ++ [xs[j]] := List.take_succ_eq_append_getElem hxl
  have c1 := c j _ _ hg hgx
  have hlen : (xs.take j).length = j := by simp; omega
  generalize ts[j] = t at hg c1
  generalize xs[j] = x at hgx htk c1
  obtain ⟨t0, t1, t2, t3, t4⟩ := t
  obtain ⟨x0, x1, x2, x3, x4⟩ := x
  simp only [Tm.av, cells_mk, List.map] at c1
  have hb1 : (j + 1) * 80 ≤ 140737488355328 := by omega
  have hb2 : j + 1 ≤ 9223372036854775807 := by omega
  refine nv ?_
  refine ct (by simp [hjl]) (nv ?_)
  refine Run.reg fun K J => ?_
  simp [hg, hHl, g4]
  try (simp (disch := omega) only [wrap_id])
  refine J _ _ _ (nv ?_); clear J
  refine Run.reg fun K J => ?_
  simp [g3]
  try (simp (disch := omega) only [wrap_id])
  refine J _ _ _ (nv ?_); clear J
  refine Run.call (args := [_] ++ cap) rfl rfl (by simp) hi (c1 _ ((hHw j).app (by simp [hHl]))) ?_ ?_
  rotate_left
  ·rintro v h' ⟨hv, _⟩; cases hv
  rintro v h' ⟨hv, rfl⟩
  simp only [AOut.ret.injEq] at hv
  subst hv
  refine Run.ops fun K J => ?_
  simp [g1, g2, hb1, hb2, hlen]
  try (simp (disch := omega) only [wrap_id])
  refine J _ _ _ (nv ?_); clear J
  refine Run.reg fun K J => ?_
  simp
  try (simp (disch := omega) only [wrap_id])
  refine J _ _ _ (nv ?_); clear J
  refine Run.keep [0, 1, 5, 8, 9, 10] ?_
  simp only [keepT, keepT.go, List.contains_cons]
  simp
  refine Run.cutAt (h0 := Hs (j + 1)) 1 (hHw (j + 1)) rfl (by rw [hHl]; omega) (by simp) (by simp [hHl, hcap1]) (by simp [hHl]) rfl ?_
  simp
  refine IH (j + 1) _ _ (by omega) (by omega) ?_ ?_
  ·rw [htk, tmPs_snoc]
   simp
   repeat' first | exact wn | apply wc | exact wj _ | exact wr _ | exact wz _ | exact wo _ _ _ | exact wi (by omega)
  ·simp
 ·have hje : j = ts.length := by omega
  subst hje
  rw [List.take_of_length_le (by omega)]
  refine nv ?_
  refine cf (by simp) (nv ?_)
  refine Run.exit rfl ?_
  refine nv ?_
  refine Run.reg fun K J => ?_
  simp
  try (simp (disch := omega) only [wrap_id])
  refine J _ _ _ (nv ?_); clear J
  refine Run.ret ?_
  exact Fin.ret' (h0 := Hs ts.length) (xs := [.own n 5 (tmPs xs)]) (by simp) (hHl _) (hHw _) rfl (by simp) rfl (Weak.own _ _ _) (by simp) ⟨rfl, rfl⟩

end Go.Proofs.YtfajdeofhioakaaGreat
