/-
  telescope: Pis, Lams, Arrow, All.
-/
import Derived.Test.YtcfcolkbeelegaaGreatMX0
import Derived.Test.YtcfcolkbeelegaaGreatMG1
import Derived.Test.YtcfcolkbeelegaaGreatMFV
import Derived.Test.YtcfcolkbeelegaaGreatME11
import Derived.Test.YtcfcolkbeelegaaGreatMFF

namespace Go.Proofs.YtcfcolkbeelegaaGreat

open Go Go.AI
def lowAt (c : Int) (vs : List (Int × Int)) (j : Nat) : Bool := match vs[j]? with | some v => !decide (c ≤ v.2) | none => true
def coverB (c : Int) (vs : List (Int × Int)) : Bool := !allTo (lowAt c vs) vs.length

end Go.Proofs.YtcfcolkbeelegaaGreat

namespace Go.Proofs.YtcfcolkbeelegaaGreat

open Go Go.AI

mutual
def Tm.nm : Tm → Prop
 | .mk _ _ n _ ks => n.length ≤ 1099511627776 ∧ Tm.nms ks
def Tm.nms : List Tm → Prop
 | [] => True
 | t :: ts => t.nm ∧ Tm.nms ts
end

end Go.Proofs.YtcfcolkbeelegaaGreat

namespace Go.Proofs.YtcfcolkbeelegaaGreat

open Go Go.AI

mutual
def rsub (vs : List Tm) (e n d : Int) : Tm → Tm × Int × Int
 | .mk k i nm ls ks =>
  if 4096 < n then (.mk k i nm ls ks, e, n)
  else if k = 0 then
   (if d ≤ i then
    (match vs[(i - d).toNat]? with
     | some x => (shiftT d 0 0 x, errIf (shiftBad d 0 0 x) e, n + x.size)
     | none => (vr (i - vs.length), errIf (decide (65535 < i - vs.length)) e, n + 1))
   else (.mk k i nm ls ks, e, n + 1))
  else (.mk k i nm ls (rsubL vs e (n + 1) d k 0 ks).1, (rsubL vs e (n + 1) d k 0 ks).2.1, (rsubL vs e (n + 1) d k 0 ks).2.2)
def rsubL (vs : List Tm) (e n d k : Int) (idx : Nat) : List Tm → List Tm × Int × Int
 | [] => ([], e, n)
 | t :: ts =>
  ((rsub vs e n (d + belowZ k idx) t).1 :: (rsubL vs (rsub vs e n (d + belowZ k idx) t).2.1 (rsub vs e n (d + belowZ k idx) t).2.2 d k (idx + 1) ts).1,
   (rsubL vs (rsub vs e n (d + belowZ k idx) t).2.1 (rsub vs e n (d + belowZ k idx) t).2.2 d k (idx + 1) ts).2.1,
   (rsubL vs (rsub vs e n (d + belowZ k idx) t).2.1 (rsub vs e n (d + belowZ k idx) t).2.2 d k (idx + 1) ts).2.2)
end
def capD (dp : Int) : Int := if 65536 < dp then 65536 else dp
def resRefUnder (t : Tm) (vs : List Tm) (dp : Int) : Tm × Int :=
 if dp < 0 then (zT, 2)
 else if 4096 < (rsub vs 0 0 (capD dp) t).2.2 then (zT, 5)
 else if (rsub vs 0 0 (capD dp) t).2.1 ≠ 0 then (zT, (rsub vs 0 0 (capD dp) t).2.1)
 else if 200 < ((rsub vs 0 0 (capD dp) t).1.depth : Int) then (zT, 7) else ((rsub vs 0 0 (capD dp) t).1, 0)

/- What comes out is small and in order. -/

end Go.Proofs.YtcfcolkbeelegaaGreat

namespace Go.Proofs.YtcfcolkbeelegaaGreat

open Go Go.AI
def intPs (l : List Int) : List (List PV) := l.map fun x => [iP x]
@[simp] theorem intPs_length (l : List Int) : (intPs l).length = l.length := by simp [intPs]
@[simp] theorem intPs_get (l : List Int) (i : Nat) : (intPs l)[i]? = (l[i]?).map fun x => [iP x] := by simp [intPs]
def repRen (to : List Int) (s : Int) (t : Tm) (d : Int) : BO Tm :=
 if t.index - d < 0 then .ok t.bare s
 else match to[(t.index - d).toNat]? with
  | none => .bad 24 s
  | some x => if x < 0 ∨ 65535 - d < x then .bad 24 s else .ok (vr (x + d)) s

/- The program's. -/

end Go.Proofs.YtcfcolkbeelegaaGreat

namespace Go.Proofs.YtcfcolkbeelegaaGreat

open Go Go.AI
def ins1 (n : Int) : List Int → List Int
 | [] => [n]
 | x :: l => if n < x then n :: x :: l else x :: ins1 n l
theorem asc_ext : ∀ {l m : List Int}, l.Pairwise (· < ·) → m.Pairwise (· < ·) → (∀ x, x ∈ l ↔ x ∈ m) → l = m
 | [], [], _, _, _ => rfl
 | [], y :: m, _, _, h => by have := (h y).2 (by simp); cases this
 | x :: l, [], _, _, h => by have := (h x).1 (by simp); cases this
 | x :: l, y :: m, hl, hm, h => by
  have hl' := List.pairwise_cons.1 hl
  have hm' := List.pairwise_cons.1 hm
  have e : x = y := by
   rcases List.mem_cons.1 ((h x).1 (by simp)) with e | e
   ·exact e
   ·rcases List.mem_cons.1 ((h y).2 (by simp)) with e' | e'
    ·exact e'.symm
    ·have := hm'.1 x e; have := hl'.1 y e'; omega
  subst e
  congr 1
  refine asc_ext hl'.2 hm'.2 fun z => ⟨fun hz => ?_, fun hz => ?_⟩
  ·rcases List.mem_cons.1 ((h z).1 (by simp [hz])) with e | e
   ·have := hl'.1 z hz; omega
   ·exact e
  ·rcases List.mem_cons.1 ((h z).2 (by simp [hz])) with e | e
   ·have := hm'.1 z hz; omega
   ·exact e

end Go.Proofs.YtcfcolkbeelegaaGreat

namespace Go.AI

open Go
theorem Run.weakAt {P : Program} {rd : Option Nat} {nb : Nat} {k : List It} {T : List AV} {h : Heap} {D : List AD} {Q : AX → List AV → Heap → List AD → Prop} (slot : Nat) (y : AV) (hw : Weak (tget T slot) y) (r : Run P rd nb k (T.set slot y) h D Q) : Run P rd nb k T h D Q := by
 refine Run.weak ?_ r
 intro E w vs hT
 have hv := hT.get slot
 rw [← tget_eq] at hv
 have hset := hT.set (hw E w _ hv) slot
 have hsame : vs.set slot (vs.getD slot undef) = vs := by
  apply List.ext_getElem?
  intro j
  rw [List.getElem?_set]
  split
  ·rename_i e; subst e
   rcases Nat.lt_or_ge slot vs.length with l | l
   ·simp [l]
   ·have l' : ¬ slot < vs.length := by omega
    simp [l']
  ·rfl
 rwa [hsame] at hset

end Go.AI

namespace Go.Proofs.YtcfcolkbeelegaaGreat.aw03

open Go Go.AI
def lt : List Tm := [.mk 3 0 [78, 97, 116] [] [], .mk 4 0 [] [] [vr 0, vr 1]]
def ls : List Lv := [⟨0, [(1, 0)]⟩]
def t3 : Tm := .mk 3 0 [78, 97, 116] [] [vr 0]
def t4 : Tm := .mk 0 7 [120] [] []

end Go.Proofs.YtcfcolkbeelegaaGreat.aw03

namespace Go.Proofs.YtcfcolkbeelegaaGreat

open Go Go.AI
theorem tmPs_len5 (l : List Tm) : ∀ e ∈ tmPs l, e.length = 5 := by
 intro e he
 rw [tmPs_eq] at he; obtain ⟨t, _, rfl⟩ := List.mem_map.1 he; simp
abbrev row (l : List Tm) (m : Nat) : Option AO := some (.cells (buf 5 (tmPs l) m))
theorem row_get {l : List Tm} {m k : Nat} (hk : k < l.length) : ((buf 5 (tmPs l) m).drop (k * 5)).take 5 = (l[k]).cells.map .p := by
 rw [buf_get (tmPs_len5 l) (by simpa using hk)]; simp [tmPs_eq]
theorem row_set {l : List Tm} {m k : Nat} (t : Tm) (hk : k < l.length) : patch (buf 5 (tmPs l) m) (k * 5) (t.cells.map .p) = buf 5 (tmPs (l.set k t)) m := by
 rw [buf_set (tmPs_len5 l) (by simpa using hk) (by simp)]; simp [tmPs_eq, List.map_set]
theorem row_len (l : List Tm) (m : Nat) : (buf 5 (tmPs l) m).length = (l.length + m) * 5 := by rw [buf_len (tmPs_len5 l)]; simp
theorem row_under (n : Nat) (l : List Tm) (m : Nat) : AO.under n (row l m) = true := buf_under n 5 (tmPs l) m
def Turned (ts l : List Tm) (i : Nat) : Prop := l.length = ts.length ∧ ∀ k, k < ts.length → l[k]? = if k < i ∨ ts.length ≤ k + i then ts[ts.length - 1 - k]? else ts[k]?
theorem turned_zero (ts : List Tm) : Turned ts ts 0 := ⟨rfl, fun k hk => by rw [if_neg (by omega)]⟩
theorem turned_done {ts l : List Tm} {i : Nat} (h : Turned ts l i) (hi : ts.length ≤ 2 * i + 1) : l = ts.reverse := by
 apply List.ext_getElem?
 intro k
 rcases Nat.lt_or_ge k ts.length with hk | hk
 ·rw [h.2 k hk, List.getElem?_reverse hk]
  by_cases hc : k < i ∨ ts.length ≤ k + i
  ·rw [if_pos hc]
  ·rw [if_neg hc]
   congr 1; omega
 ·rw [List.getElem?_eq_none (by rw [h.1]; exact hk), List.getElem?_eq_none (by simpa using hk)]
theorem turned_step {ts l : List Tm} {i : Nat} (h : Turned ts l i) (hi : 2 * i + 1 < ts.length) (x y : Tm) (hx : l[i]? = some x) (hy : l[ts.length - 1 - i]? = some y) : Turned ts ((l.set i y).set (ts.length - 1 - i) x) (i + 1) := by
 refine ⟨by simp [h.1], fun k hk => ?_⟩
 have h1 := h.2 i (by omega)
 have h2 := h.2 (ts.length - 1 - i) (by omega)
 rw [if_neg (by omega)] at h1 h2
 rw [hx] at h1
 rw [hy] at h2
 rw [List.getElem?_set, List.getElem?_set]
 by_cases e1 : ts.length - 1 - i = k
 ·rw [if_pos e1, if_pos (by simp [h.1]; omega), if_pos (by omega)]
  rw [show ts.length - 1 - k = i by omega]; exact h1
 ·rw [if_neg e1]
  by_cases e2 : i = k
  ·rw [if_pos e2, if_pos (by rw [h.1]; omega), if_pos (by omega), ← e2]; exact h2
  ·rw [if_neg e2, h.2 k hk]
   by_cases hc : k < i ∨ ts.length ≤ k + i
   ·rw [if_pos hc, if_pos (by omega)]
   ·rw [if_neg hc, if_neg (by omega)]
set_option maxRecDepth 8000 in
set_option maxHeartbeats 8000000 in
theorem reverse_any (h : Heap) (hh : WF h) (ts : List Tm) (id cap m : Nat) (hl : ts.length ≤ 1048576) (hid : h[id]? = some (row ts m)) :
  ACalls Tryz.prog 212 [.sm id 0 ts.length cap 5] h fun o h' => o = .ret (.tup []) ∧ h' = h.set id (row ts.reverse m) := by
 obtain ⟨g1, g2, g3, g4, g5, hlt⟩ := idf hid
 refine ACalls.of_run Tryz.func212 rfl ?_
 simp only [Tryz.ntmps212, List.length_cons, List.length_nil]
 refine nv ?_
 refine Run.reg fun K hK => ?_
 simp
 try (simp (disch := omega) only [wrap_id])
 refine hK _ _ _ (nv ?_); clear hK K
 refine Run.loopS (ι := Nat × List Tm) [0] (fun p => 2 * p.1 ≤ ts.length + 1 ∧ Turned ts p.2 p.1) (fun p => ts.length - p.1) (fun p => [(2, iA p.1), (3, iA ((ts.length : Int) - 1 - p.1))]) (fun p => h.set id (row p.2 m)) (0, ts) ⟨by simp, turned_zero ts⟩ ?_ (by simp [set_same hid]) ?_
 ·simp
  repeat' (first | exact WeakL.nil | apply WeakL.cons)
  all_goals first | exact Weak.junk _ | exact Weak.refl _ | exact Weak.nil _ | exact Weak.own _ _ _ | exact Weak.int (by omega)
 rintro ⟨i, l⟩ ⟨hi, ht⟩ IH
 simp only at hi ht
 simp
 have hll := ht.1
 by_cases hc : 2 * i + 1 < ts.length
 ·obtain ⟨j, hj⟩ : ∃ j : Nat, j = ts.length - 1 - i := ⟨_, rfl⟩
  have hje : (ts.length : Int) - 1 - i = (j : Int) := by omega
  rw [hje]
  have hc2 : i < j := by omega
  have hil : i < l.length := by omega
  have hjl : j < l.length := by omega
  obtain ⟨x, hx⟩ : ∃ x, l[i] = x := ⟨_, rfl⟩
  obtain ⟨y, hy⟩ : ∃ y, l[j] = y := ⟨_, rfl⟩
  have hstep := turned_step ht hc x y (by rw [List.getElem?_eq_getElem hil, hx]) (by rw [← hj, List.getElem?_eq_getElem hjl, hy])
  rw [← hj] at hstep
  have gx : ((buf 5 (tmPs l) m).drop (i * 5)).take 5 = x.cells.map .p := by rw [row_get hil, hx]
  have gy : ((buf 5 (tmPs l) m).drop (j * 5)).take 5 = y.cells.map .p := by rw [row_get hjl, hy]
  have p1 : patch (buf 5 (tmPs l) m) (i * 5) (y.cells.map .p) = buf 5 (tmPs (l.set i y)) m := row_set y hil
  have p2 : patch (buf 5 (tmPs (l.set i y)) m) (j * 5) (x.cells.map .p) = buf 5 (tmPs ((l.set i y).set j x)) m := row_set x (by simpa using hjl)
  have l1 : i * 5 + 5 ≤ (buf 5 (tmPs l) m).length := by rw [row_len]; omega
  have l2 : j * 5 + 5 ≤ (buf 5 (tmPs l) m).length := by rw [row_len]; omega
  have l3 : j * 5 + 5 ≤ (buf 5 (tmPs (l.set i y)) m).length := by rw [row_len]; simp; omega
  have hi2 : i < ts.length := by omega
  have hj2 : j < ts.length := by omega
  refine nv ?_
  refine Run.reg fun K hK => ?_
  simp
  try (simp (disch := omega) only [wrap_id])
  refine hK _ _ _ (nv ?_); clear hK K
  refine ct (by simp [hc2]) (nv ?_)
  refine Run.draw [0, 0, 0, 0, 0, 0, 0, 0, 0, 0, 0, 0, 0, 0, 1, 1] [0, 0, 0, 0, 0, 0, 0, 0, 0, 0, 0, 0, 0, 0, 0, 1] [0, 0, 0, 0, 0, 0, 48, 112, 0, 0, 768, 1792, 4083, 8179, 16383, 32767] [0, 1, 4, 5, 6, 7, 8, 9, 10, 11, 12, 13, 2, 3, 14, 15] (by kernel_rfl) (by kernel_rfl) ?_
  refine DR.go fun K hK => ?_
  simp [hi2, hj2, l1, l2, l3, gx, gy, p1, p2, g3]
  try (simp (disch := omega) only [wrap_id])
  refine hK _ _ _ _ ?_; clear hK K
  change Run _ _ _ _ _ _ _ _
  refine nv ?_
  refine Run.reg fun K hK => ?_
  simp
  try (simp (disch := omega) only [wrap_id])
  refine hK _ _ _ (nv ?_); clear hK K
  refine IH (i + 1, (l.set i y).set j x) _ _ ⟨by simp only; omega, hstep⟩ (by simp only; omega) ?_ ?_
  ·simp
   repeat' (first | exact WeakL.nil | apply WeakL.cons)
   all_goals first | exact Weak.junk _ | exact Weak.refl _ | exact Weak.int (by omega)
  ·simp
 ·have hc2 : ¬ (i : Int) < (ts.length : Int) - 1 - i := by omega
  have hd := turned_done ht (by omega)
  subst hd
  refine nv ?_
  refine Run.reg fun K hK => ?_
  simp
  try (simp (disch := omega) only [wrap_id])
  refine hK _ _ _ (nv ?_); clear hK K
  refine cf (by simp [hc2]) (nv ?_)
  refine Run.exit rfl ?_
  refine nv ?_
  refine Run.nil ?_
  exact Fin.ret' (h0 := h.set id (row ts.reverse m)) (by simp) (by simp) (hh.set (row_under _ _ _)) (List.append_nil _).symm rfl rfl (Weak.refl _) rfl ⟨rfl, rfl⟩
set_option maxRecDepth 8000 in
theorem reverse_nil (h : Heap) (hh : WF h) : ACalls Tryz.prog 212 [.p (.sl 5 [])] h fun o h' => o = .ret (.tup []) ∧ h' = h := by
 refine ACalls.of_run Tryz.func212 rfl ?_
 simp only [Tryz.ntmps212, List.length_cons, List.length_nil]
 refine nv ?_
 refine Run.reg fun K hK => ?_
 simp
 try (simp (disch := omega) only [wrap_id])
 refine hK _ _ _ (nv ?_); clear hK K
 refine Run.loopS [] (fun _ : Unit => True) (fun _ => 0) (fun _ => [(2, iA 0), (3, iA (-1))]) (fun _ => h) () trivial ?_ rfl ?_
 ·simp
  repeat' (first | exact WeakL.nil | apply WeakL.cons)
  all_goals first | exact Weak.junk _ | exact Weak.refl _ | exact Weak.nil _ | exact Weak.own _ _ _ | exact Weak.int (by omega)
 rintro _ _ IH
 simp
 refine nv ?_
 refine Run.reg fun K hK => ?_
 simp
 try (simp (disch := omega) only [wrap_id])
 refine hK _ _ _ (nv ?_); clear hK K
 refine cf (by simp) (nv ?_)
 refine Run.exit rfl ?_
 refine nv ?_
 refine Run.nil ?_
 exact Fin.ret' (by simp) rfl hh (List.append_nil _).symm rfl rfl (Weak.refl _) rfl ⟨rfl, rfl⟩

end Go.Proofs.YtcfcolkbeelegaaGreat

namespace Go.Proofs.YtcfcolkbeelegaaGreat

open Go Go.AI
def conT (n : List UInt8) : Tm := .mk 3 0 n [] []
def sameL (xs ys : List Tm) : Bool := !((xs.length : Int) != ys.length) && allTo (tmsAt xs ys) xs.length
def resLook (ctx : List Tm) (i : Int) : Tm × Int :=
 if i < 0 ∨ (ctx.length : Int) ≤ i then (zT, 24) else match ctx[((ctx.length : Int) - 1 - i).toNat]? with
  | some t => resRefShift (i + 1) 0 t
  | none => (zT, 24)

end Go.Proofs.YtcfcolkbeelegaaGreat

namespace Go.Proofs.YtcfcolkbeelegaaGreat

open Go Go.AI
def isB (k : Int) : Tm → Option (Tm × Tm)
 | .mk k' _ _ _ [a, b] => if k' = k then some (a, b) else none
 | _ => none
def openA : Nat → List Tm → Tm → List Tm × Tm × Int
 | 0, acc, t => (acc, t, 0)
 | n + 1, acc, t => match isB 6 t with
  | some (a, b) => openA n (acc ++ [a]) b
  | none => ([], zT, 13)
def resOpen (t : Tm) (n : Int) : List Tm × Tm × Int := if n < 0 then ([], zT, 2) else openA n.toNat [] t

end Go.Proofs.YtcfcolkbeelegaaGreat

namespace Go.Proofs.YtcfcolkbeelegaaGreat

open Go Go.AI
abbrev vc (x : Int) : List PV := [iP 0, iP x, sP [], .prim (.slice none 0 0), .prim (.slice none 0 0)]
def varZ (n fr : Int) : List Int := if n < 1 ∨ 4096 < n ∨ fr < 0 then [] else (List.range n.toNat).map fun j : Nat => fr + n - 1 - j
def varL (n fr : Int) : List Tm := (varZ n fr).map vr

end Go.Proofs.YtcfcolkbeelegaaGreat

namespace Go.Proofs.YtcfcolkbeelegaaGreat

open Go Go.AI
def resInst (ctx : List Tm) (t : Tm) (args : List Tm) : Tm × Int := if args.length ≠ ctx.length then (zT, 6) else resRefUnder t args.reverse 0

end Go.Proofs.YtcfcolkbeelegaaGreat

namespace Go.Proofs.YtcfcolkbeelegaaGreat

open Go Go.AI
def bindT (k : Int) (ctx : List Tm) (t : Tm) : Tm := ctx.foldr (fun a t => .mk k 0 [] [] [a, t]) t

end Go.Proofs.YtcfcolkbeelegaaGreat

namespace Go.Proofs.YtcfcolkbeelegaaGreat

open Go Go.AI
def arrowT (a b : Tm) : Tm := .mk 6 0 [] [] [a, (resRefShift 1 0 b).1]
set_option maxRecDepth 8000 in
set_option maxHeartbeats 4000000 in
theorem arrow66_any (h : Heap) (hh : WF h) (a b : Tm) (hok : b.ok 65536) (hsz : b.size ≤ 1048576) : ACalls Tryz.prog 122 [a.av, b.av] h fun o h' => o = .ret (arrowT a b).av ∧ h' = h := by
 have hs := fun (g : Heap) (hg : WF g) => refShift_any g hg b 1 0 (by omega) (by omega) (by omega) (ok_idx b 65536 hok (by omega))
 unfold arrowT
 generalize resRefShift 1 0 b = r at hs ⊢
 obtain ⟨⟨r0, r1, r2, r3, r4⟩, e⟩ := r
 obtain ⟨i0, i1, i2, i3, i4⟩ := a
 obtain ⟨j0, j1, j2, j3, j4⟩ := b
 refine ACalls.of_run Tryz.func122 rfl ?_
 simp only [Tryz.ntmps122, List.length_cons, List.length_nil, Tm.av, cells_mk, List.map]
 refine nv ?_
 refine Run.reg fun K hK => ?_
 simp
 try (simp (disch := omega) only [wrap_id])
 refine hK _ _ _ (nv ?_); clear hK K
 refine Run.reg fun K hK => ?_
 simp
 try (simp (disch := omega) only [wrap_id])
 refine hK _ _ _ (nv ?_); clear hK K
 refine rc (args := [(Tm.mk j0 j1 j2 j3 j4).av, iA 1, iA 0]) rfl (by first | rfl | simp) (by simp) rfl (hs _ (hh.app (by simp))) ?_
 refine Run.ops fun K hK => ?_
 simp
 try (simp (disch := omega) only [wrap_id])
 refine hK _ _ _ (nv ?_); clear hK K
 refine Run.reg fun K hK => ?_
 simp
 try (simp (disch := omega) only [wrap_id])
 refine hK _ _ _ (nv ?_); clear hK K
 refine Run.ret ?_
 refine Fin.ret' (h0 := h) (by simp) rfl hh rfl (by simp; rfl) rfl ?_ (by simp) ⟨rfl, rfl⟩
 simp only [cells_mk, List.map, tmPs, lvPs]
 refine Weak.agg ?_
 repeat' (first | exact WeakL.nil | apply WeakL.cons)
 all_goals first | exact Weak.refl _ | exact Weak.nil _
def allF (k : Int) : Nat → List Tm → Tm → List Tm × Tm
 | 0, acc, t => (acc, t)
 | n + 1, acc, t => match isB k t with
  | some (a, b) => allF k n (acc ++ [a]) b
  | none => (acc, t)
def resAll (t : Tm) : List Tm × Tm := allF 6 t.size [] t
set_option maxRecDepth 8000 in
set_option maxHeartbeats 8000000 in
theorem all69_any (h : Heap) (hh : WF h) (t : Tm) (hsz : t.size ≤ 1048576) :
  ACalls Tryz.prog 172 [t.av] h fun o h' => o = .ret (.tup [.p (.sl 5 (tmPs (resAll t).1)), (resAll t).2.av]) ∧ h' = h := by
 obtain ⟨r, hr⟩ : ∃ r, r = resAll t := ⟨_, rfl⟩
 rw [← hr]
 unfold resAll at hr
 obtain ⟨tc, htc⟩ : ∃ tc, tc = t.cells.map AV.p := ⟨_, rfl⟩
 simp only [Tm.av]
 rw [← htc]
 have htl : tc.length = 5 := by rw [htc]; simp
 refine ACalls.of_run Tryz.func172 rfl ?_
 simp only [Tryz.ntmps172, List.length_cons, List.length_nil]
 refine nv ?_
 refine Run.reg fun K hK => ?_
 simp
 try (simp (disch := omega) only [wrap_id])
 refine hK _ _ _ (nv ?_); clear hK K
 refine Run.reg fun K hK => ?_
 simp
 try (simp (disch := omega) only [wrap_id])
 refine hK _ _ _ (nv ?_); clear hK K
 refine Run.tok 4 5 (by simp) ?_
 simp
 rw [htc]
 refine Run.loopS (ι := Nat × List Tm × Tm) [1, 3] (fun p => p.2.1.length + p.2.2.size ≤ t.size ∧ p.2.2.size ≤ p.1 ∧ r = allF 6 p.1 p.2.1 p.2.2) (fun p => p.2.2.size) (fun p => [(4, .own (h.length + 2) 5 (tmPs p.2.1))])
  (fun p => h ++ [some (.cells (p.2.2.cells.map .p)), some (.cells zTm), some (.tok p.2.1.length 5)]) (t.size, [], t) ⟨by simp, by simp, hr⟩ ?_ (by simp) ?_
 ·simp [tmPs]
  repeat' (first | exact WeakL.nil | apply WeakL.cons)
  all_goals first | exact Weak.junk _ | exact Weak.refl _ | exact Weak.nil _ | exact Weak.own _ _ _ | exact Weak.int (by omega)
 rintro ⟨N, acc, cur⟩ ⟨hs, hle, hra⟩ IH
 simp only at hs hle hra
 simp
 obtain ⟨m, rfl⟩ : ∃ m, N = m + 1 := ⟨N - 1, by have := cur.size_pos; omega⟩
 simp only [allF] at hra
 obtain ⟨k, i, nm, ls, ks⟩ := cur
 by_cases hk : k = 6
 ·subst hk
  by_cases hks : ks.length = 2
  ·obtain ⟨a, b, rfl⟩ : ∃ a b, ks = [a, b] := by
    match ks, hks with
    | [a, b], _ => exact ⟨a, b, rfl⟩
   simp only [isB, if_true] at hra
   simp only [Tm.size, Tm.sizes] at hs hle
   have hb1 : (acc.length + 1) * 80 ≤ 140737488355328 := by have := t.size_pos; omega
   have hb2 : acc.length + 1 ≤ 9223372036854775807 := by omega
   refine nv ?_
   refine Run.reg fun K hK => ?_
   simp
   try (simp (disch := omega) only [wrap_id])
   refine hK _ _ _ (nv ?_); clear hK K
   refine ct (by simp) (nv ?_)
   refine Run.reg fun K hK => ?_
   simp [tmPs, hb1, hb2]
   try (simp (disch := omega) only [wrap_id])
   refine hK _ _ _ (nv ?_); clear hK K
   refine Run.reg fun K hK => ?_
   simp
   try (simp (disch := omega) only [wrap_id])
   refine hK _ _ _ (nv ?_); clear hK K
   refine IH (m, acc ++ [a], b) _ _ ⟨by simp only [List.length_append, List.length_singleton]; have := a.size_pos; omega, by simp only; have := a.size_pos; omega, hra⟩ (by simp only [Tm.size, Tm.sizes]; have := a.size_pos; omega) ?_ ?_
   ·simp [tmPs_snoc]
    repeat' (first | exact WeakL.nil | apply WeakL.cons)
    all_goals first | exact Weak.junk _ | exact Weak.refl _ | exact Weak.nil _ | exact Weak.own _ _ _ | exact Weak.int (by omega)
   ·simp
  ·have hk2 : ((ks.length : Int) == 2) = false := by simp; omega
   have hib : isB 6 (Tm.mk 6 i nm ls ks) = none := by
    match ks, hks with
    | [], _ => rfl
    | [_], _ => rfl
    | _ :: _ :: _ :: _, _ => rfl
   rw [hib] at hra
   simp only at hra
   subst hra
   refine nv ?_
   refine Run.reg fun K hK => ?_
   simp [hk2]
   try (simp (disch := omega) only [wrap_id])
   refine hK _ _ _ (nv ?_); clear hK K
   refine cf (by simp) (nv ?_)
   refine Run.exit rfl ?_
   refine nv ?_
   refine Run.draw [0, 0, 0, 0] [0, 0, 0, 0] [0, 0, 1, 7] [0, 1, 2, 3] (by kernel_rfl) (by kernel_rfl) ?_
   refine DR.go fun K hK => ?_
   simp
   try (simp (disch := omega) only [wrap_id])
   refine hK _ _ _ _ ?_; clear hK K
   change Run _ _ _ _ _ _ _ _
   refine nv ?_
   refine Run.ret ?_
   refine Fin.ret' (h0 := h) (xs := [.own (h.length + 2) 5 (tmPs acc), (Tm.mk 6 i nm ls ks).av]) (by simp) rfl hh rfl (by simp) rfl (Weak.tup (WeakL.cons (Weak.own _ _ _) (WeakL.refl _))) (by simp) ⟨rfl, rfl⟩
 ·have hkb : (k == 6) = false := by simpa using hk
  have hib : isB 6 (Tm.mk k i nm ls ks) = none := by
   match ks with
   | [] => rfl
   | [_] => rfl
   | [_, _] => simp [isB, hk]
   | _ :: _ :: _ :: _ => rfl
  rw [hib] at hra
  simp only at hra
  subst hra
  refine nv ?_
  refine Run.reg fun K hK => ?_
  simp [hkb]
  try (simp (disch := omega) only [wrap_id])
  refine hK _ _ _ (nv ?_); clear hK K
  refine cf (by simp) (nv ?_)
  refine Run.exit rfl ?_
  refine nv ?_
  refine Run.draw [0, 0, 0, 0] [0, 0, 0, 0] [0, 0, 1, 7] [0, 1, 2, 3] (by kernel_rfl) (by kernel_rfl) ?_
  refine DR.go fun K hK => ?_
  simp
  try (simp (disch := omega) only [wrap_id])
  refine hK _ _ _ _ ?_; clear hK K
  change Run _ _ _ _ _ _ _ _
  refine nv ?_
  refine Run.ret ?_
  refine Fin.ret' (h0 := h) (xs := [.own (h.length + 2) 5 (tmPs acc), (Tm.mk k i nm ls ks).av]) (by simp) rfl hh rfl (by simp) rfl (Weak.tup (WeakL.cons (Weak.own _ _ _) (WeakL.refl _))) (by simp) ⟨rfl, rfl⟩
set_option maxRecDepth 8000 in
set_option maxHeartbeats 8000000 in
theorem all70_any (h : Heap) (hh : WF h) (t : Tm) (hsz : t.size ≤ 1048576) :
  ACalls Tryz.prog 135 [t.av] h fun o h' => o = .ret (.tup [.p (.sl 5 (tmPs (resAll t).1)), (resAll t).2.av]) ∧ h' = h := by
 obtain ⟨r, hr⟩ : ∃ r, r = resAll t := ⟨_, rfl⟩
 rw [← hr]
 unfold resAll at hr
 obtain ⟨tc, htc⟩ : ∃ tc, tc = t.cells.map AV.p := ⟨_, rfl⟩
 simp only [Tm.av]
 rw [← htc]
 have htl : tc.length = 5 := by rw [htc]; simp
 refine ACalls.of_run Tryz.func135 rfl ?_
 simp only [Tryz.ntmps135, List.length_cons, List.length_nil]
 refine nv ?_
 refine Run.reg fun K hK => ?_
 simp
 try (simp (disch := omega) only [wrap_id])
 refine hK _ _ _ (nv ?_); clear hK K
 refine Run.reg fun K hK => ?_
 simp
 try (simp (disch := omega) only [wrap_id])
 refine hK _ _ _ (nv ?_); clear hK K
 refine Run.tok 4 5 (by simp) ?_
 simp
 rw [htc]
 refine Run.loopS (ι := Nat × List Tm × Tm) [1, 3] (fun p => p.2.1.length + p.2.2.size ≤ t.size ∧ p.2.2.size ≤ p.1 ∧ r = allF 6 p.1 p.2.1 p.2.2) (fun p => p.2.2.size) (fun p => [(4, .own (h.length + 2) 5 (tmPs p.2.1))])
  (fun p => h ++ [some (.cells (p.2.2.cells.map .p)), some (.cells zTm), some (.tok p.2.1.length 5)]) (t.size, [], t) ⟨by simp, by simp, hr⟩ ?_ (by simp) ?_
 ·simp [tmPs]
  repeat' (first | exact WeakL.nil | apply WeakL.cons)
  all_goals first | exact Weak.junk _ | exact Weak.refl _ | exact Weak.nil _ | exact Weak.own _ _ _ | exact Weak.int (by omega)
 rintro ⟨N, acc, cur⟩ ⟨hs, hle, hra⟩ IH
 simp only at hs hle hra
 simp
 obtain ⟨m, rfl⟩ : ∃ m, N = m + 1 := ⟨N - 1, by have := cur.size_pos; omega⟩
 simp only [allF] at hra
 obtain ⟨k, i, nm, ls, ks⟩ := cur
 by_cases hk : k = 6
 ·subst hk
  by_cases hks : ks.length = 2
  ·obtain ⟨a, b, rfl⟩ : ∃ a b, ks = [a, b] := by
    match ks, hks with
    | [a, b], _ => exact ⟨a, b, rfl⟩
   simp only [isB, if_true] at hra
   simp only [Tm.size, Tm.sizes] at hs hle
   have hb1 : (acc.length + 1) * 80 ≤ 140737488355328 := by have := t.size_pos; omega
   have hb2 : acc.length + 1 ≤ 9223372036854775807 := by omega
   refine nv ?_
   refine Run.reg fun K hK => ?_
   simp
   try (simp (disch := omega) only [wrap_id])
   refine hK _ _ _ (nv ?_); clear hK K
   refine ct (by simp) (nv ?_)
   refine Run.reg fun K hK => ?_
   simp [tmPs, hb1, hb2]
   try (simp (disch := omega) only [wrap_id])
   refine hK _ _ _ (nv ?_); clear hK K
   refine Run.reg fun K hK => ?_
   simp
   try (simp (disch := omega) only [wrap_id])
   refine hK _ _ _ (nv ?_); clear hK K
   refine IH (m, acc ++ [a], b) _ _ ⟨by simp only [List.length_append, List.length_singleton]; have := a.size_pos; omega, by simp only; have := a.size_pos; omega, hra⟩ (by simp only [Tm.size, Tm.sizes]; have := a.size_pos; omega) ?_ ?_
   ·simp [tmPs_snoc]
    repeat' (first | exact WeakL.nil | apply WeakL.cons)
    all_goals first | exact Weak.junk _ | exact Weak.refl _ | exact Weak.nil _ | exact Weak.own _ _ _ | exact Weak.int (by omega)
   ·simp
  ·have hk2 : ((ks.length : Int) == 2) = false := by simp; omega
   have hib : isB 6 (Tm.mk 6 i nm ls ks) = none := by
    match ks, hks with
    | [], _ => rfl
    | [_], _ => rfl
    | _ :: _ :: _ :: _, _ => rfl
   rw [hib] at hra
   simp only at hra
   subst hra
   refine nv ?_
   refine Run.reg fun K hK => ?_
   simp [hk2]
   try (simp (disch := omega) only [wrap_id])
   refine hK _ _ _ (nv ?_); clear hK K
   refine cf (by simp) (nv ?_)
   refine Run.exit rfl ?_
   refine nv ?_
   refine Run.draw [0, 0, 0, 0] [0, 0, 0, 0] [0, 0, 1, 7] [0, 1, 2, 3] (by kernel_rfl) (by kernel_rfl) ?_
   refine DR.go fun K hK => ?_
   simp
   try (simp (disch := omega) only [wrap_id])
   refine hK _ _ _ _ ?_; clear hK K
   change Run _ _ _ _ _ _ _ _
   refine nv ?_
   refine Run.ret ?_
   refine Fin.ret' (h0 := h) (xs := [.own (h.length + 2) 5 (tmPs acc), (Tm.mk 6 i nm ls ks).av]) (by simp) rfl hh rfl (by simp) rfl (Weak.tup (WeakL.cons (Weak.own _ _ _) (WeakL.refl _))) (by simp) ⟨rfl, rfl⟩
 ·have hkb : (k == 6) = false := by simpa using hk
  have hib : isB 6 (Tm.mk k i nm ls ks) = none := by
   match ks with
   | [] => rfl
   | [_] => rfl
   | [_, _] => simp [isB, hk]
   | _ :: _ :: _ :: _ => rfl
  rw [hib] at hra
  simp only at hra
  subst hra
  refine nv ?_
  refine Run.reg fun K hK => ?_
  simp [hkb]
  try (simp (disch := omega) only [wrap_id])
  refine hK _ _ _ (nv ?_); clear hK K
  refine cf (by simp) (nv ?_)
  refine Run.exit rfl ?_
  refine nv ?_
  refine Run.draw [0, 0, 0, 0] [0, 0, 0, 0] [0, 0, 1, 7] [0, 1, 2, 3] (by kernel_rfl) (by kernel_rfl) ?_
  refine DR.go fun K hK => ?_
  simp
  try (simp (disch := omega) only [wrap_id])
  refine hK _ _ _ _ ?_; clear hK K
  change Run _ _ _ _ _ _ _ _
  refine nv ?_
  refine Run.ret ?_
  refine Fin.ret' (h0 := h) (xs := [.own (h.length + 2) 5 (tmPs acc), (Tm.mk k i nm ls ks).av]) (by simp) rfl hh rfl (by simp) rfl (Weak.tup (WeakL.cons (Weak.own _ _ _) (WeakL.refl _))) (by simp) ⟨rfl, rfl⟩

end Go.Proofs.YtcfcolkbeelegaaGreat
