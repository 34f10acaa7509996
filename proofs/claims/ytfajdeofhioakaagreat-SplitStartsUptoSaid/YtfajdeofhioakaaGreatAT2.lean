import Derived.Test.YtfajdeofhioakaaGreatAG1
import Derived.Test.YtfajdeofhioakaaGreatAP1
import Derived.Test.YtfajdeofhioakaaGreatAC
import Derived.Test.YtfajdeofhioakaaGreatAD
import Derived.Test.YtfajdeofhioakaaGreatAFF
set_option maxRecDepth 8000
set_option maxHeartbeats 4000000

namespace Go.Proofs.YtfajdeofhioakaaGreat

open Go Go.AI
def intPs (l : List Int) : List (List PV) := l.map fun x => [iP x]
@[simp] theorem intPs_length (l : List Int) : (intPs l).length = l.length := by simp [intPs]
@[simp] theorem intPs_get (l : List Int) (i : Nat) : (intPs l)[i]? = (l[i]?).map fun x => [iP x] := by simp [intPs]



open Go Go.AI
theorem resRefShift_ok (by_ fr : Int) (t : Tm) (h : t.ok 65536) : (resRefShift by_ fr t).1.ok 65536 ∧ (resRefShift by_ fr t).1.size ≤ t.size := by
 have e : resRefShift by_ fr t = if fr < 0 ∨ by_ < -65536 ∨ 65536 < by_ then (zT, 2) else if shiftBad by_ (capD fr) 0 t = true then (zT, 24) else (shiftT by_ (capD fr) 0 t, 0) := rfl
 have hp := t.size_pos
 have hz : zT.ok 65536 ∧ zT.size ≤ t.size := ⟨zT_ok _ (by omega), by simpa [zT, Tm.size, Tm.sizes] using hp⟩
 rw [e]
 by_cases h1 : fr < 0 ∨ by_ < -65536 ∨ 65536 < by_
 ·rw [if_pos h1]; exact hz
 ·rw [if_neg h1]
  by_cases h2 : shiftBad by_ (capD fr) 0 t = true
  ·rw [if_pos h2]; exact hz
  ·rw [if_neg h2]
   exact ⟨shiftT_ok by_ (capD fr) (by unfold capD; split <;> omega) t 0 65536 65536 h (by omega) (by omega) (by omega) (by simpa using h2), by simp only; rw [shiftT_size by_ (capD fr) t 0 65536 h]; exact Nat.le_refl _⟩


open Go Go.AI
abbrev row (l : List Tm) (m : Nat) : Option AO := some (.cells (buf 5 (tmPs l) m))


open Go Go.AI
def conT (n : List UInt8) : Tm := .mk 3 0 n [] []
def sameL (xs ys : List Tm) : Bool := !((xs.length : Int) != ys.length) && allTo (tmsAt xs ys) xs.length
theorem sameL_refl (l : List Tm) : sameL l l = true := by
 simp only [sameL, bne_self_eq_false, Bool.not_false, Bool.true_and]
 rw [allTo_iff]
 intro j hj
 simp [tmsAt, hj, sameT_refl]
theorem sameL_any (h : Heap) (hh : WF h) (xs ys : List Tm) (hb : xs.length ≤ 1099511627776) (hx : ∀ u ∈ xs, u.lvs ∧ u.size ≤ 1099511627776) :
  ACalls Tryz.prog 19 [.p (.sl 5 (tmPs xs)), .p (.sl 5 (tmPs ys))] h fun o h' => o = .ret (bA (sameL xs ys)) ∧ h' = h := by
 refine ACalls.of_run Tryz.func19 rfl ?_
 simp only [Tryz.ntmps19, List.length_cons, List.length_nil]
 refine nv ?_
 refine Run.reg fun K J => ?_
 simp
 try (simp (disch := omega) only [wrap_id])
 refine J _ _ _ (nv ?_); clear J
 refine Run.reg fun K J => ?_
 simp
 try (simp (disch := omega) only [wrap_id])
 refine J _ _ _ (nv ?_); clear J
 by_cases hl : xs.length = ys.length
 ·have h0 : ((xs.length : Int) != ys.length) = false := by simp [hl]
  refine nv ?_
  refine cf (by simp [hl]) (nv ?_)
  refine Run.reg fun K J => ?_
  simp
  try (simp (disch := omega) only [wrap_id])
  refine J _ _ _ (nv ?_); clear J
  refine Run.loopS [0, 1] (fun j : Nat => j ≤ xs.length ∧ allTo (tmsAt xs ys) j = true) (fun j => xs.length - j) (fun j => [(5, iA j)]) (fun _ => _) 0 (by simp [allTo]) ?_ rfl ?_
  ·simp
   repeat' first | exact wn | apply wc | exact wj _ | exact wr _ | exact wz _ | exact wo _ _ _ | exact wi (by omega)
  ·rintro j ⟨hj, hall⟩ IH
   simp
   refine nv ?_
   refine Run.reg fun K J => ?_
   simp
   try (simp (disch := omega) only [wrap_id])
   refine J _ _ _ (nv ?_); clear J
   by_cases hjl : j < xs.length
   ·have hg : xs[j]? = some xs[j] := List.getElem?_eq_getElem hjl
    have hg' : ys[j]? = some ys[j] := List.getElem?_eq_getElem (by omega)
    have hm := hx _ (List.getElem_mem hjl)
    generalize xs[j] = u at hg hm
    generalize ys[j]'(by omega) = v at hg'
    have hs := fun (g : Heap) (hg : WF g) => same_any u.size u v g (Nat.le_refl _) hm.2 hm.1 hg
    refine nv ?_
    refine ct (by simp [hjl]) (nv ?_)
    refine Run.draw [0, 0, 0, 0, 0, 0, 0, 0, 0, 1] [0, 0, 0, 0, 0, 0, 0, 0, 0, 0] [0, 0, 3, 7, 0, 0, 48, 112, 255, 511] [0, 1, 2, 3, 4, 5, 6, 7, 8, 9] (by kernel_rfl) (by kernel_rfl) ?_
    refine DR.go fun K J => ?_
    simp [hg, hg']
    try (simp (disch := omega) only [wrap_id])
    refine J _ _ _ _ ?_; clear J
    refine DR.call (args := [u.av, v.av]) rfl rfl rfl (by simp) rfl (hs _ hh) ?_
    refine DR.go fun K J => ?_
    simp
    try (simp (disch := omega) only [wrap_id])
    refine J _ _ _ _ ?_; clear J
    change Run _ _ _ _ _ _ _ _
    refine nv ?_
    refine Run.condB rfl (fun h1 => ?_) (fun h1 => ?_)
    ·repeat (first | refine nw ?_ | (refine Run.reg fun K J => ?_; simp; (try (simp (disch := omega) only [wrap_id])); refine J _ _ _ ?_; clear J) | refine ct rfl ?_ | refine cf rfl ?_ | refine Run.exit rfl ?_ | refine Run.ret ?_)
     have h2 : sameT u v = false := by simpa using h1
     have := allTo_false (p := tmsAt xs ys) hjl (by simp only [tmsAt, hg, hg', h2])
     exact Fin.ret' (by simp) rfl hh (List.append_nil _).symm rfl rfl (Weak.refl _) rfl ⟨by simp only [sameL, this]; simp, rfl⟩
    ·refine nv ?_
     refine Run.reg fun K J => ?_
     simp
     try (simp (disch := omega) only [wrap_id])
     refine J _ _ _ (nv ?_); clear J
     have h2 : sameT u v = true := by simpa using h1
     refine IH (j + 1) _ _ ⟨by omega, by rw [allTo_succ, hall]; simp only [tmsAt, hg, hg', h2]; rfl⟩ (by omega) ?_ rfl
     simp
     repeat' first | exact wn | apply wc | exact wj _ | exact wr _ | exact wz _ | exact wo _ _ _ | exact wi (by omega)
   ·have hje : j = xs.length := by omega
    subst hje
    refine nv ?_
    refine cf (by simp) (nv ?_)
    refine Run.exit rfl ?_
    refine nv ?_
    repeat (first | refine nw ?_ | (refine Run.reg fun K J => ?_; simp; (try (simp (disch := omega) only [wrap_id])); refine J _ _ _ ?_; clear J) | refine ct rfl ?_ | refine cf rfl ?_ | refine Run.exit rfl ?_ | refine Run.ret ?_)
    exact Fin.ret' (by simp) rfl hh (List.append_nil _).symm rfl rfl (Weak.refl _) rfl ⟨by simp only [sameL, h0, hall]; simp, rfl⟩
 ·have h0 : ((xs.length : Int) != ys.length) = true := by simp; omega
  have hl' : ¬ (xs.length : Int) = ys.length := by omega
  refine nv ?_
  refine ct (by simp [hl']) (nv ?_)
  repeat (first | refine nw ?_ | (refine Run.reg fun K J => ?_; simp; (try (simp (disch := omega) only [wrap_id])); refine J _ _ _ ?_; clear J) | refine ct rfl ?_ | refine cf rfl ?_ | refine Run.exit rfl ?_ | refine Run.ret ?_)
  exact Fin.ret' (by simp) rfl hh (List.append_nil _).symm rfl rfl (Weak.refl _) rfl ⟨by simp [sameL, h0], rfl⟩
def few5 (vars : Int) (t : Tm) : Bool := decide ((t.size : Int) ≤ 120) && decide ((t.depth : Int) ≤ 100) && checkZ vars 8 100 100 t == 0
theorem few5_any (h : Heap) (hh : WF h) (t : Tm) (vars : Int) (hsz : t.size ≤ 1099511627776) (hf : t.fit) : ACalls Tryz.prog 8 [t.av, iA vars] h fun o h' => o = .ret (bA (few5 vars t)) ∧ h' = h := by
 have h1 := fun (g : Heap) (hg : WF g) => size_any t.size t g (Nat.le_refl _) hsz hg
 have h2 := fun (g : Heap) (hg : WF g) => depth_any t.size t g (Nat.le_refl _) hsz hg
 have h3 := fun (g : Heap) (hg : WF g) => check_any g hg t vars 8 100 100 hsz hf
 obtain ⟨r, hr⟩ : ∃ r, r = few5 vars t := ⟨_, rfl⟩
 rw [← hr]
 unfold few5 at hr
 generalize checkZ vars 8 100 100 t = c at h3 hr
 generalize t.depth = dp at h2 hr
 generalize t.size = sz at h1 hr
 obtain ⟨k, i, n, ls, ks⟩ := t
 by_cases c1 : (sz : Int) ≤ 120
 ·by_cases c2 : (dp : Int) ≤ 100
  ·refine ACalls.of_run Tryz.func8 rfl ?_
   simp only [Tryz.ntmps8, List.length_cons, List.length_nil, Tm.av, cells_mk, List.map]
   refine nv ?_
   refine Run.reg fun K J => ?_
   simp
   try (simp (disch := omega) only [wrap_id])
   refine J _ _ _ (nv ?_); clear J
   refine Run.reg fun K J => ?_
   simp
   try (simp (disch := omega) only [wrap_id])
   refine J _ _ _ (nv ?_); clear J
   refine rl (args := [(Tm.mk k i n ls ks).av]) rfl (by first | rfl | simp) (by simp) rfl (h1 _ (hh.app (by simp))) ?_
   refine Run.ops fun K J => ?_
   simp [c1]
   try (simp (disch := omega) only [wrap_id])
   refine J _ _ _ (nv ?_); clear J
   refine rl (args := [(Tm.mk k i n ls ks).av]) rfl (by first | rfl | simp) (by simp) rfl (h2 _ (hh.app (by simp))) ?_
   refine Run.ops fun K J => ?_
   simp [c2]
   try (simp (disch := omega) only [wrap_id])
   refine J _ _ _ (nv ?_); clear J
   refine rl (args := [(Tm.mk k i n ls ks).av, iA vars, iA 8, iA 100, iA 100]) rfl (by first | rfl | simp) (by simp) rfl (h3 _ (hh.app (by simp))) ?_
   refine Run.ops fun K J => ?_
   simp
   try (simp (disch := omega) only [wrap_id])
   refine J _ _ _ (nv ?_); clear J
   refine Run.ret ?_
   refine Fin.ret' (h0 := h) (by simp) rfl hh rfl (by simp; rfl) rfl (Weak.refl _) (by simp) ⟨by rw [hr]; simp [c1, c2], rfl⟩
  ·refine ACalls.of_run Tryz.func8 rfl ?_
   simp only [Tryz.ntmps8, List.length_cons, List.length_nil, Tm.av, cells_mk, List.map]
   refine nv ?_
   refine Run.reg fun K J => ?_
   simp
   try (simp (disch := omega) only [wrap_id])
   refine J _ _ _ (nv ?_); clear J
   refine Run.reg fun K J => ?_
   simp
   try (simp (disch := omega) only [wrap_id])
   refine J _ _ _ (nv ?_); clear J
   refine rl (args := [(Tm.mk k i n ls ks).av]) rfl (by first | rfl | simp) (by simp) rfl (h1 _ (hh.app (by simp))) ?_
   refine Run.ops fun K J => ?_
   simp [c1]
   try (simp (disch := omega) only [wrap_id])
   refine J _ _ _ (nv ?_); clear J
   refine rl (args := [(Tm.mk k i n ls ks).av]) rfl (by first | rfl | simp) (by simp) rfl (h2 _ (hh.app (by simp))) ?_
   refine Run.ops fun K J => ?_
   simp [c2]
   try (simp (disch := omega) only [wrap_id])
   refine J _ _ _ (nv ?_); clear J
   refine Run.ret ?_
   refine Fin.ret' (h0 := h) (by simp) rfl hh rfl (by simp; rfl) rfl (Weak.refl _) (by simp) ⟨by rw [hr]; simp [c1, c2], rfl⟩
 ·refine ACalls.of_run Tryz.func8 rfl ?_
  simp only [Tryz.ntmps8, List.length_cons, List.length_nil, Tm.av, cells_mk, List.map]
  refine nv ?_
  refine Run.reg fun K J => ?_
  simp
  try (simp (disch := omega) only [wrap_id])
  refine J _ _ _ (nv ?_); clear J
  refine Run.reg fun K J => ?_
  simp
  try (simp (disch := omega) only [wrap_id])
  refine J _ _ _ (nv ?_); clear J
  refine rl (args := [(Tm.mk k i n ls ks).av]) rfl (by first | rfl | simp) (by simp) rfl (h1 _ (hh.app (by simp))) ?_
  refine Run.ops fun K J => ?_
  simp [c1]
  try (simp (disch := omega) only [wrap_id])
  refine J _ _ _ (nv ?_); clear J
  refine Run.ret ?_
  refine Fin.ret' (h0 := h) (by simp) rfl hh rfl (by simp; rfl) rfl (Weak.refl _) (by simp) ⟨by rw [hr]; simp [c1], rfl⟩
def resLook (ctx : List Tm) (i : Int) : Tm × Int :=
 if i < 0 ∨ (ctx.length : Int) ≤ i then (zT, 24) else match ctx[((ctx.length : Int) - 1 - i).toNat]? with
  | some t => resRefShift (i + 1) 0 t
  | none => (zT, 24)

end Go.Proofs.YtfajdeofhioakaaGreat
