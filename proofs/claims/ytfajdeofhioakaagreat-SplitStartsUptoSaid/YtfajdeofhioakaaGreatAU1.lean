import Derived.Test.YtfajdeofhioakaaGreatAT2
import Derived.Test.YtfajdeofhioakaaGreatAG1
import Derived.Test.YtfajdeofhioakaaGreatAC
import Derived.Test.YtfajdeofhioakaaGreatAFG
set_option maxRecDepth 8000
set_option maxHeartbeats 8000000

namespace Go.Proofs.YtfajdeofhioakaaGreat

open Go Go.AI
def isB (k : Int) : Tm → Option (Tm × Tm)
 | .mk k' _ _ _ [a, b] => if k' = k then some (a, b) else none
 | _ => none
def openA : Nat → List Tm → Tm → List Tm × Tm × Int
 | 0, acc, t => (acc, t, 0)
 | n + 1, acc, t => match isB 6 t with
  | some (a, b) => openA n (acc ++ [a]) b
  | none => ([], zT, 13)
def resOpen (t : Tm) (n : Int) : List Tm × Tm × Int := if n < 0 then ([], zT, 2) else openA n.toNat [] t
theorem open67_any (h : Heap) (hh : WF h) (t : Tm) (n : Int) (hsz : t.size ≤ 1048576) (hn : n ≤ 9223372036854775807) :
  ACalls Tryz.prog 40 [t.av, iA n] h fun o h' => o = .ret (.tup [.p (.sl 5 (tmPs (resOpen t n).1)), (resOpen t n).2.1.av, iA (resOpen t n).2.2]) ∧ h' = h := by
 obtain ⟨r, hr⟩ : ∃ r, r = resOpen t n := ⟨_, rfl⟩
 rw [← hr]
 unfold resOpen at hr
 by_cases c0 : n < 0
 ·rw [if_pos c0] at hr
  subst hr
  obtain ⟨k, i, nm, ls, ks⟩ := t
  refine ACalls.of_run Tryz.func40 rfl ?_
  simp only [Tryz.ntmps40, List.length_cons, List.length_nil, Tm.av, cells_mk, List.map]
  refine nv ?_
  refine Run.reg fun K J => ?_
  simp
  try (simp (disch := omega) only [wrap_id])
  refine J _ _ _ (nv ?_); clear J
  refine Run.reg fun K J => ?_
  simp
  try (simp (disch := omega) only [wrap_id])
  refine J _ _ _ (nv ?_); clear J
  refine ct (by simp [c0]) (nv ?_)
  refine Run.reg fun K J => ?_
  simp
  try (simp (disch := omega) only [wrap_id])
  refine J _ _ _ (nv ?_); clear J
  refine Run.ret ?_
  refine Fin.ret' (h0 := h) (xs := [.p (.prim (.slice none 0 0)), .agg zTm, iA 2]) (by simp) rfl hh rfl (by simp) rfl (Weak.tup (WeakL.cons (Weak.nil 5) (WeakL.cons Weak.zT (WeakL.refl _)))) (by simp) ⟨rfl, rfl⟩
 rw [if_neg c0] at hr
 obtain ⟨N, hN⟩ : ∃ N : Nat, n = N := ⟨n.toNat, by omega⟩
 subst hN
 rw [Int.toNat_natCast] at hr
 obtain ⟨tc, htc⟩ : ∃ tc, tc = t.cells.map AV.p := ⟨_, rfl⟩
 simp only [Tm.av]
 rw [← htc]
 have htl : tc.length = 5 := by rw [htc]; simp
 have htu : ∀ n, AV.underL n tc = true := fun n => by rw [htc]; exact underL_p _ _
 refine ACalls.of_run Tryz.func40 rfl ?_
 simp only [Tryz.ntmps40, List.length_cons, List.length_nil]
 refine nv ?_
 refine Run.reg fun K J => ?_
 simp
 try (simp (disch := omega) only [wrap_id])
 refine J _ _ _ (nv ?_); clear J
 refine Run.reg fun K J => ?_
 simp
 try (simp (disch := omega) only [wrap_id])
 refine J _ _ _ (nv ?_); clear J
 refine cf (by simp) (nv ?_)
 refine Run.reg fun K J => ?_
 simp
 try (simp (disch := omega) only [wrap_id])
 refine J _ _ _ (nv ?_); clear J
 refine Run.tok 7 5 (by simp) ?_
 simp
 rw [htc]
 refine Run.loopS (ι := List Tm × Tm) [1, 2, 5] (fun p => p.1.length + p.2.size ≤ t.size ∧ p.1.length ≤ N ∧ r = openA (N - p.1.length) p.1 p.2) (fun p => p.2.size) (fun p => [(7, .own (h.length + 2) 5 (tmPs p.1))])
  (fun p => h ++ [some (.cells (p.2.cells.map .p)), some (.cells zTm), some (.tok p.1.length 5)]) ([], t) ⟨by simp, by simp, by simpa using hr⟩ ?_ (by simp) ?_
 ·simp [tmPs]
  repeat' first | exact wn | apply wc | exact wj _ | exact wr _ | exact wz _ | exact wo _ _ _ | exact wi (by omega)
 rintro ⟨acc, cur⟩ ⟨hs, hle, hra⟩ IH
 simp only at hs hle hra
 simp
 by_cases hlt : acc.length < N
 ·refine nv ?_
  refine Run.reg fun K J => ?_
  simp [hlt]
  try (simp (disch := omega) only [wrap_id])
  refine J _ _ _ (nv ?_); clear J
  refine ct (by simp) (nv ?_)
  obtain ⟨m, hm⟩ : ∃ m, N - acc.length = m + 1 := ⟨N - acc.length - 1, by omega⟩
  rw [hm] at hra
  simp only [openA] at hra
  obtain ⟨k, i, nm, ls, ks⟩ := cur
  by_cases hk : k = 6
  ·subst hk
   by_cases hks : ks.length = 2
   ·obtain ⟨a, b, rfl⟩ : ∃ a b, ks = [a, b] := by
     match ks, hks with
     | [a, b], _ => exact ⟨a, b, rfl⟩
    simp only [isB, if_true] at hra
    simp only [Tm.size, Tm.sizes] at hs
    have hb1 : (acc.length + 1) * 80 ≤ 140737488355328 := by have := t.size_pos; omega
    have hb2 : acc.length + 1 ≤ 9223372036854775807 := by omega
    refine nv ?_
    refine Run.reg fun K J => ?_
    simp
    try (simp (disch := omega) only [wrap_id])
    refine J _ _ _ (nv ?_); clear J
    refine cf (by simp) (nv ?_)
    refine Run.reg fun K J => ?_
    simp [tmPs, hb1, hb2]
    try (simp (disch := omega) only [wrap_id])
    refine J _ _ _ (nv ?_); clear J
    refine Run.reg fun K J => ?_
    simp
    try (simp (disch := omega) only [wrap_id])
    refine J _ _ _ (nv ?_); clear J
    refine IH (acc ++ [a], b) _ _ ⟨by simp only [List.length_append, List.length_singleton]; have := a.size_pos; omega, by simp; omega, ?_⟩ (by simp only [Tm.size, Tm.sizes]; have := a.size_pos; omega) ?_ ?_
    ·rw [hra]
     congr 1
     simp; omega
    ·simp [tmPs_snoc]
     repeat' first | exact wn | apply wc | exact wj _ | exact wr _ | exact wz _ | exact wo _ _ _ | exact wi (by omega)
    ·simp
   ·have hk2 : ((ks.length : Int) != 2) = true := by simp; omega
    have hib : isB 6 (Tm.mk 6 i nm ls ks) = none := by
     match ks, hks with
     | [], _ => rfl
     | [_], _ => rfl
     | _ :: _ :: _ :: _, _ => rfl
    rw [hib] at hra
    simp only at hra
    subst hra
    refine nv ?_
    refine Run.reg fun K J => ?_
    simp [hk2]
    try (simp (disch := omega) only [wrap_id])
    refine J _ _ _ (nv ?_); clear J
    refine ct (by simp) (nv ?_)
    refine Run.reg fun K J => ?_
    simp
    try (simp (disch := omega) only [wrap_id])
    refine J _ _ _ (nv ?_); clear J
    refine Run.ret ?_
    refine Fin.ret' (h0 := h) (xs := [.p (.prim (.slice none 0 0)), .agg zTm, iA 13]) (by simp) rfl hh rfl (by simp) rfl (Weak.tup (WeakL.cons (Weak.nil 5) (WeakL.cons Weak.zT (WeakL.refl _)))) (by simp) ⟨rfl, rfl⟩
  ·have hkb : (k != 6) = true := by simpa using hk
   have hib : isB 6 (Tm.mk k i nm ls ks) = none := by
    match ks with
    | [] => rfl
    | [_] => rfl
    | [_, _] => simp [isB, hk]
    | _ :: _ :: _ :: _ => rfl
   rw [hib] at hra
   simp only at hra
   subst hra
   refine nv ?_
   refine Run.reg fun K J => ?_
   simp [hkb]
   try (simp (disch := omega) only [wrap_id])
   refine J _ _ _ (nv ?_); clear J
   refine ct (by simp) (nv ?_)
   refine Run.reg fun K J => ?_
   simp
   try (simp (disch := omega) only [wrap_id])
   refine J _ _ _ (nv ?_); clear J
   refine Run.ret ?_
   refine Fin.ret' (h0 := h) (xs := [.p (.prim (.slice none 0 0)), .agg zTm, iA 13]) (by simp) rfl hh rfl (by simp) rfl (Weak.tup (WeakL.cons (Weak.nil 5) (WeakL.cons Weak.zT (WeakL.refl _)))) (by simp) ⟨rfl, rfl⟩
 ·have he : N - acc.length = 0 := by omega
  rw [he] at hra
  simp only [openA] at hra
  subst hra
  obtain ⟨k, i, nm, ls, ks⟩ := cur
  refine nv ?_
  refine Run.reg fun K J => ?_
  simp [hlt]
  try (simp (disch := omega) only [wrap_id])
  refine J _ _ _ (nv ?_); clear J
  refine cf (by simp) (nv ?_)
  refine Run.exit rfl ?_
  refine nv ?_
  refine Run.draw [0, 0, 0, 0, 1] [0, 0, 0, 0, 0] [0, 0, 1, 7, 15] [0, 1, 2, 3, 4] (by kernel_rfl) (by kernel_rfl) ?_
  refine DR.go fun K J => ?_
  simp
  try (simp (disch := omega) only [wrap_id])
  refine J _ _ _ _ ?_; clear J
  change Run _ _ _ _ _ _ _ _
  refine nv ?_
  refine Run.ret ?_
  refine Fin.ret' (h0 := h) (xs := [.own (h.length + 2) 5 (tmPs acc), (Tm.mk k i nm ls ks).av, iA 0]) (by simp) rfl hh rfl (by simp) rfl (Weak.tup (WeakL.cons (Weak.own _ _ _) (WeakL.refl _))) (by simp) ⟨rfl, rfl⟩
theorem open68_any (h : Heap) (hh : WF h) (t : Tm) (n : Int) (hsz : t.size ≤ 1048576) (hn : n ≤ 9223372036854775807) :
  ACalls Tryz.prog 47 [t.av, iA n] h fun o h' => o = .ret (.tup [.p (.sl 5 (tmPs (resOpen t n).1)), (resOpen t n).2.1.av, iA (resOpen t n).2.2]) ∧ h' = h := by
 obtain ⟨r, hr⟩ : ∃ r, r = resOpen t n := ⟨_, rfl⟩
 rw [← hr]
 unfold resOpen at hr
 by_cases c0 : n < 0
 ·rw [if_pos c0] at hr
  subst hr
  obtain ⟨k, i, nm, ls, ks⟩ := t
  refine ACalls.of_run Tryz.func47 rfl ?_
  simp only [Tryz.ntmps47, List.length_cons, List.length_nil, Tm.av, cells_mk, List.map]
  refine nv ?_
  refine Run.reg fun K J => ?_
  simp
  try (simp (disch := omega) only [wrap_id])
  refine J _ _ _ (nv ?_); clear J
  refine Run.reg fun K J => ?_
  simp
  try (simp (disch := omega) only [wrap_id])
  refine J _ _ _ (nv ?_); clear J
  refine ct (by simp [c0]) (nv ?_)
  refine Run.reg fun K J => ?_
  simp
  try (simp (disch := omega) only [wrap_id])
  refine J _ _ _ (nv ?_); clear J
  refine Run.ret ?_
  refine Fin.ret' (h0 := h) (xs := [.p (.prim (.slice none 0 0)), .agg zTm, iA 2]) (by simp) rfl hh rfl (by simp) rfl (Weak.tup (WeakL.cons (Weak.nil 5) (WeakL.cons Weak.zT (WeakL.refl _)))) (by simp) ⟨rfl, rfl⟩
 rw [if_neg c0] at hr
 obtain ⟨N, hN⟩ : ∃ N : Nat, n = N := ⟨n.toNat, by omega⟩
 subst hN
 rw [Int.toNat_natCast] at hr
 obtain ⟨tc, htc⟩ : ∃ tc, tc = t.cells.map AV.p := ⟨_, rfl⟩
 simp only [Tm.av]
 rw [← htc]
 have htl : tc.length = 5 := by rw [htc]; simp
 have htu : ∀ n, AV.underL n tc = true := fun n => by rw [htc]; exact underL_p _ _
 refine ACalls.of_run Tryz.func47 rfl ?_
 simp only [Tryz.ntmps47, List.length_cons, List.length_nil]
 refine nv ?_
 refine Run.reg fun K J => ?_
 simp
 try (simp (disch := omega) only [wrap_id])
 refine J _ _ _ (nv ?_); clear J
 refine Run.reg fun K J => ?_
 simp
 try (simp (disch := omega) only [wrap_id])
 refine J _ _ _ (nv ?_); clear J
 refine cf (by simp) (nv ?_)
 refine Run.reg fun K J => ?_
 simp
 try (simp (disch := omega) only [wrap_id])
 refine J _ _ _ (nv ?_); clear J
 refine Run.reg fun K J => ?_
 simp
 try (simp (disch := omega) only [wrap_id])
 refine J _ _ _ (nv ?_); clear J
 refine Run.tok 7 5 (by simp) ?_
 simp
 rw [htc]
 refine Run.loopS (ι := List Tm × Tm) [1, 2, 5] (fun p => p.1.length + p.2.size ≤ t.size ∧ p.1.length ≤ N ∧ r = openA (N - p.1.length) p.1 p.2) (fun p => p.2.size) (fun p => [(7, .own (h.length + 2) 5 (tmPs p.1)), (8, iA p.1.length)])
  (fun p => h ++ [some (.cells (p.2.cells.map .p)), some (.cells zTm), some (.tok p.1.length 5)]) ([], t) ⟨by simp, by simp, by simpa using hr⟩ ?_ (by simp) ?_
 ·simp [tmPs]
  repeat' first | exact wn | apply wc | exact wj _ | exact wr _ | exact wz _ | exact wo _ _ _ | exact wi (by omega)
 rintro ⟨acc, cur⟩ ⟨hs, hle, hra⟩ IH
 simp only at hs hle hra
 simp
 by_cases hlt : acc.length < N
 ·refine nv ?_
  refine Run.reg fun K J => ?_
  simp [hlt]
  try (simp (disch := omega) only [wrap_id])
  refine J _ _ _ (nv ?_); clear J
  refine ct (by simp) (nv ?_)
  obtain ⟨m, hm⟩ : ∃ m, N - acc.length = m + 1 := ⟨N - acc.length - 1, by omega⟩
  rw [hm] at hra
  simp only [openA] at hra
  obtain ⟨k, i, nm, ls, ks⟩ := cur
  by_cases hk : k = 6
  ·subst hk
   by_cases hks : ks.length = 2
   ·obtain ⟨a, b, rfl⟩ : ∃ a b, ks = [a, b] := by
     match ks, hks with
     | [a, b], _ => exact ⟨a, b, rfl⟩
    simp only [isB, if_true] at hra
    simp only [Tm.size, Tm.sizes] at hs
    have hb1 : (acc.length + 1) * 80 ≤ 140737488355328 := by have := t.size_pos; omega
    have hb2 : acc.length + 1 ≤ 9223372036854775807 := by omega
    refine nv ?_
    refine Run.reg fun K J => ?_
    simp
    try (simp (disch := omega) only [wrap_id])
    refine J _ _ _ (nv ?_); clear J
    refine cf (by simp) (nv ?_)
    refine Run.reg fun K J => ?_
    simp [tmPs, hb1, hb2]
    try (simp (disch := omega) only [wrap_id])
    refine J _ _ _ (nv ?_); clear J
    refine Run.reg fun K J => ?_
    simp
    try (simp (disch := omega) only [wrap_id])
    refine J _ _ _ (nv ?_); clear J
    have hw : IntKind.i64.wrap ((acc.length : Int) + 1) = (acc.length : Int) + 1 := wrap_id (by omega) (by omega)
    refine nv ?_
    refine Run.reg fun K J => ?_
    simp [hw]
    try (simp (disch := omega) only [wrap_id])
    refine J _ _ _ (nv ?_); clear J
    refine IH (acc ++ [a], b) _ _ ⟨by simp only [List.length_append, List.length_singleton]; have := a.size_pos; omega, by simp; omega, ?_⟩ (by simp only [Tm.size, Tm.sizes]; have := a.size_pos; omega) ?_ ?_
    ·rw [hra]
     congr 1
     simp; omega
    ·simp [tmPs_snoc]
     repeat' first | exact wn | apply wc | exact wj _ | exact wr _ | exact wz _ | exact wo _ _ _ | exact wi (by omega)
    ·simp
   ·have hk2 : ((ks.length : Int) != 2) = true := by simp; omega
    have hib : isB 6 (Tm.mk 6 i nm ls ks) = none := by
     match ks, hks with
     | [], _ => rfl
     | [_], _ => rfl
     | _ :: _ :: _ :: _, _ => rfl
    rw [hib] at hra
    simp only at hra
    subst hra
    refine nv ?_
    refine Run.reg fun K J => ?_
    simp [hk2]
    try (simp (disch := omega) only [wrap_id])
    refine J _ _ _ (nv ?_); clear J
    refine ct (by simp) (nv ?_)
    refine Run.reg fun K J => ?_
    simp
    try (simp (disch := omega) only [wrap_id])
    refine J _ _ _ (nv ?_); clear J
    refine Run.ret ?_
    refine Fin.ret' (h0 := h) (xs := [.p (.prim (.slice none 0 0)), .agg zTm, iA 13]) (by simp) rfl hh rfl (by simp) rfl (Weak.tup (WeakL.cons (Weak.nil 5) (WeakL.cons Weak.zT (WeakL.refl _)))) (by simp) ⟨rfl, rfl⟩
  ·have hkb : (k != 6) = true := by simpa using hk
   have hib : isB 6 (Tm.mk k i nm ls ks) = none := by
    match ks with
    | [] => rfl
    | [_] => rfl
    | [_, _] => simp [isB, hk]
    | _ :: _ :: _ :: _ => rfl
   rw [hib] at hra
   simp only at hra
   subst hra
   refine nv ?_
   refine Run.reg fun K J => ?_
   simp [hkb]
   try (simp (disch := omega) only [wrap_id])
   refine J _ _ _ (nv ?_); clear J
   refine ct (by simp) (nv ?_)
   refine Run.reg fun K J => ?_
   simp
   try (simp (disch := omega) only [wrap_id])
   refine J _ _ _ (nv ?_); clear J
   refine Run.ret ?_
   refine Fin.ret' (h0 := h) (xs := [.p (.prim (.slice none 0 0)), .agg zTm, iA 13]) (by simp) rfl hh rfl (by simp) rfl (Weak.tup (WeakL.cons (Weak.nil 5) (WeakL.cons Weak.zT (WeakL.refl _)))) (by simp) ⟨rfl, rfl⟩
 ·have he : N - acc.length = 0 := by omega
  rw [he] at hra
  simp only [openA] at hra
  subst hra
  obtain ⟨k, i, nm, ls, ks⟩ := cur
  refine nv ?_
  refine Run.reg fun K J => ?_
  simp [hlt]
  try (simp (disch := omega) only [wrap_id])
  refine J _ _ _ (nv ?_); clear J
  refine cf (by simp) (nv ?_)
  refine Run.exit rfl ?_
  refine nv ?_
  refine Run.draw [0, 0, 0, 0, 1] [0, 0, 0, 0, 0] [0, 0, 1, 7, 15] [0, 1, 2, 3, 4] (by kernel_rfl) (by kernel_rfl) ?_
  refine DR.go fun K J => ?_
  simp
  try (simp (disch := omega) only [wrap_id])
  refine J _ _ _ _ ?_; clear J
  change Run _ _ _ _ _ _ _ _
  refine nv ?_
  refine Run.ret ?_
  refine Fin.ret' (h0 := h) (xs := [.own (h.length + 2) 5 (tmPs acc), (Tm.mk k i nm ls ks).av, iA 0]) (by simp) rfl hh rfl (by simp) rfl (Weak.tup (WeakL.cons (Weak.own _ _ _) (WeakL.refl _))) (by simp) ⟨rfl, rfl⟩


open Go Go.AI
abbrev vc (x : Int) : List PV := [iP 0, iP x, sP [], .prim (.slice none 0 0), .prim (.slice none 0 0)]
def varZ (n fr : Int) : List Int := if n < 1 ∨ 4096 < n ∨ fr < 0 then [] else (List.range n.toNat).map fun j : Nat => fr + n - 1 - j
def varL (n fr : Int) : List Tm := (varZ n fr).map vr


open Go Go.AI
def resInst (ctx : List Tm) (t : Tm) (args : List Tm) : Tm × Int := if args.length ≠ ctx.length then (zT, 6) else resRefUnder t args.reverse 0


open Go Go.AI
def bindT (k : Int) (ctx : List Tm) (t : Tm) : Tm := ctx.foldr (fun a t => .mk k 0 [] [] [a, t]) t

end Go.Proofs.YtfajdeofhioakaaGreat

namespace Go.Proofs.YtfajdeofhioakaaGreat.aw05

open Go Go.AI
def nat : Tm := conT [78, 97, 116]
def kv : Tm := conT [86, 101, 99]
def ke : Tm := conT [69, 113]
def z : Tm := conT [122, 101, 114, 111]
def s : Tm := conT [115, 111, 109, 101]
def vec : Tm := appT kv (vr 0)
def eq : Tm := appT (appT ke (vr 1)) (vr 0)
def ps : Tm := bindT 6 [nat, vec] eq
def lk : Tm := appT kv (vr 2)
def it : Tm := appT (appT ke z) s
theorem r1 : resOpen ps 2 = ([nat, vec], eq, 0) := by kernel_rfl
theorem r2 : resOpen ps 3 = ([], zT, 13) := by kernel_rfl
theorem r3 : resLook [nat, vec, nat] 1 = (lk, 0) := by kernel_rfl
theorem r4 : resInst [nat, vec] eq [z, s] = (it, 0) := by kernel_rfl
theorem r5 : varL 3 1 = [vr 3, vr 2, vr 1] := by kernel_rfl
theorem o1 : nat.ok 65536 ∧ nat.size ≤ 1048576 := by simp [nat, conT, Tm.ok, Tm.oks, Tm.okN, Tm.size, Tm.sizes]
theorem o2 : vec.ok 65536 ∧ vec.size ≤ 1048576 := by simp [vec, kv, appT, conT, vr, Tm.ok, Tm.oks, Tm.okN, Tm.size, Tm.sizes, belowZ]
theorem o3 : eq.ok 65536 ∧ eq.size ≤ 4096 := by simp [eq, ke, appT, conT, vr, Tm.ok, Tm.oks, Tm.okN, Tm.size, Tm.sizes, belowZ]
theorem o4 : z.ok 65536 ∧ z.size ≤ 4096 := by simp [z, conT, Tm.ok, Tm.oks, Tm.okN, Tm.size, Tm.sizes]
theorem o5 : s.ok 65536 ∧ s.size ≤ 4096 := by simp [s, conT, Tm.ok, Tm.oks, Tm.okN, Tm.size, Tm.sizes]
theorem sm (t : Tm) (ht : t.ok 65536 ∧ t.size ≤ 4096) (g : Heap) (hg : WF g) : ACalls Tryz.prog 20 [t.av, t.av] g fun o h' => o = .ret (bA true) ∧ h' = g := by
 have := same_any t.size t t g (Nat.le_refl _) (by have := ht.2; omega) (ok_lvs _ _ ht.1) hg
 rwa [sameT_refl] at this
theorem sl (l : List Tm) (hl : l.length ≤ 100) (hx : ∀ t ∈ l, t.ok 65536 ∧ t.size ≤ 1048576) (g : Heap) (hg : WF g) : ACalls Tryz.prog 19 [.p (.sl 5 (tmPs l)), .p (.sl 5 (tmPs l))] g fun o h' => o = .ret (bA true) ∧ h' = g := by
 have := sameL_any g hg l l (by omega) (fun u hu => ⟨ok_lvs _ _ (hx u hu).1, by have := (hx u hu).2; omega⟩)
 rwa [sameL_refl] at this

end Go.Proofs.YtfajdeofhioakaaGreat.aw05
