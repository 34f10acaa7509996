import Derived.Test.YtcfcolkbeelegaaGreatVPK
import Derived.Test.YtcfcolkbeelegaaGreatVFU
import Derived.Test.YtcfcolkbeelegaaGreatVFS
import Derived.Test.YtcfcolkbeelegaaGreatVX23
import Derived.Test.YtcfcolkbeelegaaGreatVX8
import Derived.Test.YtcfcolkbeelegaaGreatVPD
import Derived.Test.YtcfcolkbeelegaaGreatProg
import Derived.Shelf.Lays
import Derived.Shelf.Strings.BuilderX
import Derived.KernelRfl
import Derived.Shelf.SlIterI.Sorted
import Derived.Shelf.Strings.OnBuilder
import Derived.Lib.Join
set_option maxRecDepth 8000
set_option maxHeartbeats 8000000

namespace Go.Proofs.YtcfcolkbeelegaaGreat

open Go Go.AI
def clBad (env : List Dc) (n : Nat) (c : Cl) : Bool := decide (c.ps.length ≠ n) || (chkPs env c.ps != 0)
def clOk (env : List Dc) (n : Nat) (cls : List Cl) (j : Nat) : Bool := match cls[j]? with | some c => !clBad env n c | none => true
def coversB (env : List Dc) (cls : List Cl) (v : List Pt) : Bool :=
 if (decide (chkPs env v ≠ 0) || hasKs 3 v) = true then false else if allTo (clOk env v.length cls) cls.length = false then false else covF env cls (openC cls v + 1) v
theorem clOk_at {env : List Dc} {n : Nat} {cls : List Cl} {j : Nat} {c : Cl} (h : cls[j]? = some c) : clOk env n cls j = !clBad env n c := by unfold clOk; rw [h]

structure PSmall (cls : List Cl) (v : List Pt) : Prop where
 cl : cls.length ≤ 1048576
 cs : ∀ c ∈ cls, Pt.sizes c.ps ≤ 1048576
 vs : Pt.sizes v ≤ 1048576
theorem psz_len : ∀ l : List Pt, l.length ≤ Pt.sizes l
 | [] => by simp
 | p :: l => by have := psz_len l; have := p.size_pos; simp only [Pt.sizes, List.length_cons]; omega
theorem cov76_any (env : List Dc) (hg : Env.good env) (hn : Env.short env) (v : List Pt) (_hv : v.length ≤ 1048576) (c : Cl) (hc : Pt.sizes c.ps ≤ 1048576) (h : Heap) (hh : WF h) (p q : Nat) (hp : h[p]? = some (some (.cells [.p (.sl 3 (ptPs v))]))) (hq : h[q]? = some (some (.cells [envA env]))) :
  ACalls Tryz.prog 76 [c.av, .ptr p 0, .ptr q 0] h fun o h' => o = .ret (bA (clBad env v.length c)) ∧ h' = h := by
 have hpl := (List.getElem?_eq_some_iff.1 hp).1
 have hql := (List.getElem?_eq_some_iff.1 hq).1
 have hp' : ∀ l : List (Option AO), (h ++ l)[p]? = some (some (.cells [.p (.sl 3 (ptPs v))])) := fun l => by rw [List.getElem?_append_left hpl]; exact hp
 have hq' : ∀ l : List (Option AO), (h ++ l)[q]? = some (some (.cells [envA env])) := fun l => by rw [List.getElem?_append_left hql]; exact hq
 have c1 := fun (g : Heap) (hw : WF g) => pcheck_any env hg hn _ c.ps (Nat.le_refl _) hc g hw
 have hcl := psz_len c.ps
 obtain ⟨ps, ⟨k, i, nm, ls, ks⟩⟩ := c
 simp only at c1 hc hcl
 obtain ⟨e, he⟩ : ∃ e, chkPs env ps = e := ⟨_, rfl⟩
 rw [he] at c1
 simp only [Cl.av, Cl.cells, cells_mk, List.map]
 refine ACalls.of_run Tryz.func76 rfl ?_
 simp only [Tryz.ntmps76, List.length_cons, List.length_nil]
 refine nv ?_
 refine Run.reg fun K J => ?_
 simp
 refine J _ _ _ (nv ?_); clear J
 by_cases h1 : ps.length = v.length
 ·have hr : clBad env v.length ⟨ps, .mk k i nm ls ks⟩ = (e != 0) := by simp [clBad, h1, he]
  rw [hr]
  refine Run.reg fun K J => ?_
  simp [hp', hq', h1]
  refine J _ _ _ ?_; clear J
  refine rl rfl (by first | rfl | simp) (by simp) rfl (c1 _ (hh.app (by simp))) ?_
  refine Run.ops fun K J => ?_
  simp
  refine J _ _ _ (nv ?_); clear J
  refine Run.ret ?_
  exact Fin.ret' (h0 := h) (by simp) rfl hh rfl (by simp; rfl) rfl (Weak.refl _) (by simp) ⟨rfl, rfl⟩
 ·have hr : clBad env v.length ⟨ps, .mk k i nm ls ks⟩ = true := by simp [clBad, h1]
  rw [hr]
  have h1b : ((ps.length : Int) != (v.length : Int)) = true := by simp; omega
  refine Run.reg fun K J => ?_
  simp [hp', h1b]
  refine J _ _ _ (nv ?_); clear J
  refine Run.ret ?_
  exact Fin.ret' (h0 := h) (by simp) rfl hh rfl (by simp; rfl) rfl (Weak.refl _) (by simp) ⟨by simp, rfl⟩
def anyBad (env : List Dc) (n : Nat) (cls : List Cl) : Bool := !allTo (clOk env n cls) cls.length
theorem ix129_any (env : List Dc) (hg : Env.good env) (hn : Env.short env) (v : List Pt) (cls : List Cl) (hs : PSmall cls v) (h : Heap) (hh : WF h) (p q : Nat) (hp : h[p]? = some (some (.cells [.p (.sl 3 (ptPs v))]))) (hq : h[q]? = some (some (.cells [envA env]))) :
  ACalls Tryz.prog 129 [.p (.sl 6 (clPs cls)), .fn (.func 76) [] [.ptr p 0, .ptr q 0]] h fun o h' => ∃ r : Int, o = .ret (iA r) ∧ h' = h ∧ decide (0 ≤ r) = anyBad env v.length cls := by
 have hcl := hs.cl
 have hvl := psz_len v
 have hvs := hs.vs
 refine ACalls.of_run Tryz.func129 rfl ?_
 simp only [Tryz.ntmps129, List.length_cons, List.length_nil]
 refine nv ?_
 refine Run.reg fun K J => ?_
 simp
 refine J _ _ _ (nv ?_); clear J
 refine Run.reg fun K J => ?_
 simp
 refine J _ _ _ (nv ?_); clear J
 refine Run.loopS [0, 1, 6, 7] (fun j : Nat => j ≤ cls.length ∧ allTo (clOk env v.length cls) j = true) (fun j => cls.length - j) (fun j => [(8, iA j)]) (fun _ => _) 0 (by simp [allTo]) ?_ rfl ?_
 ·simp
  repeat' first | exact wn | apply wc | exact wj _ | exact wr _ | exact wz _ | exact wo _ _ _ | exact wi (by omega)
 ·rintro j ⟨hj, hall⟩ IH
  simp
  refine nv ?_
  refine Run.reg fun K J => ?_
  simp
  refine J _ _ _ (nv ?_); clear J
  by_cases hjl : j < cls.length
  ·have hgj : cls[j]? = some cls[j] := List.getElem?_eq_getElem hjl
   have hmem := List.getElem_mem hjl
   generalize cls[j] = c at hgj hmem
   have c1 := cov76_any env hg hn v (by omega) c (hs.cs c hmem) h hh p q hp hq
   have hok := clOk_at (env := env) (n := v.length) hgj
   obtain ⟨b, hb⟩ : ∃ b, clBad env v.length c = b := ⟨_, rfl⟩
   rw [hb] at c1 hok
   obtain ⟨ps, ⟨k, i, nm, ls, ks⟩⟩ := c
   simp only [Cl.av, Cl.cells, cells_mk, List.map] at c1
   refine ct (by simp [hjl]) (nv ?_)
   refine Run.reg fun K J => ?_
   simp
   refine J _ _ _ (nv ?_); clear J
   refine Run.reg fun K J => ?_
   simp [hgj, Cl.cells]
   refine J _ _ _ ?_; clear J
   refine Run.call rfl (by first | rfl | simp) (by simp) rfl (c1) ?_ ?_
   rotate_left
   ·rintro v h' ⟨hv, _⟩; cases hv
   rintro v h' ⟨hv, rfl⟩
   simp only [AOut.ret.injEq] at hv
   subst hv
   refine Run.ops fun K J => ?_
   simp
   refine J _ _ _ (nv ?_); clear J
   cases b with
   | true =>
    refine ct (by simp) (nv ?_)
    repeat (first | refine nw ?_ | (refine Run.reg fun K J => ?_; simp; (try (simp (disch := omega) only [wrap_id])); refine J _ _ _ ?_; clear J) | refine ct rfl ?_ | refine cf rfl ?_ | refine Run.exit rfl ?_ | refine Run.ret ?_)
    have := allTo_false hjl hok
    exact Fin.ret' (by simp) rfl hh (List.append_nil _).symm rfl rfl (Weak.refl _) rfl ⟨j, rfl, rfl, by simp [anyBad, this]⟩
   | false =>
    refine cf (by simp) (nv ?_)
    refine Run.reg fun K J => ?_
    simp
    try (simp (disch := omega) only [wrap_id])
    refine J _ _ _ (nv ?_); clear J
    refine IH (j + 1) _ _ ⟨by omega, by rw [allTo_succ, hall, hok]; rfl⟩ (by omega) ?_ rfl
    simp
    repeat' first | exact wn | apply wc | exact wj _ | exact wr _ | exact wz _ | exact wo _ _ _ | exact wi (by omega)
  ·have hje : j = cls.length := by omega
   subst hje
   refine cf (by simp) ?_
   refine Run.exit rfl ?_
   refine nv ?_
   repeat (first | refine nw ?_ | (refine Run.reg fun K J => ?_; simp; (try (simp (disch := omega) only [wrap_id])); refine J _ _ _ ?_; clear J) | refine ct rfl ?_ | refine cf rfl ?_ | refine Run.exit rfl ?_ | refine Run.ret ?_)
   exact Fin.ret' (by simp) rfl hh (List.append_nil _).symm rfl rfl (Weak.refl _) rfl ⟨-1, rfl, rfl, by simp [anyBad, hall]⟩
theorem cf75_any (env : List Dc) (hg : Env.good env) (hn : Env.short env) (v : List Pt) (cls : List Cl) (hs : PSmall cls v) (h : Heap) (hh : WF h) (p q : Nat) (hp : h[p]? = some (some (.cells [.p (.sl 3 (ptPs v))]))) (hq : h[q]? = some (some (.cells [envA env]))) :
  ACalls Tryz.prog 75 [.p (.sl 6 (clPs cls)), .fn (.func 76) [] [.ptr p 0, .ptr q 0]] h fun o h' => o = .ret (bA (anyBad env v.length cls)) ∧ h' = h := by
 refine ACalls.of_run Tryz.func75 rfl ?_
 simp only [Tryz.ntmps75, List.length_cons, List.length_nil]
 refine nv ?_
 refine Run.reg fun K J => ?_
 simp
 refine J _ _ _ (nv ?_); clear J
 refine Run.reg fun K J => ?_
 simp
 refine J _ _ _ ?_; clear J
 refine Run.call rfl rfl (by simp) rfl (ix129_any env hg hn v cls hs h hh p q hp hq) ?_ ?_
 ·rintro v h' ⟨r, hv, rfl, hr⟩
  simp only [AOut.ret.injEq] at hv
  subst hv
  refine Run.ops fun K J => ?_
  simp
  refine J _ _ _ (nv ?_); clear J
  refine Run.ret ?_
  exact Fin.ret' (by simp) rfl hh (List.append_nil _).symm rfl rfl (Weak.of_eq (by simp [← hr])) rfl ⟨rfl, rfl⟩
 ·rintro v h' ⟨r, hv, _⟩; cases hv
theorem CovOk.of {env : List Dc} {cls : List Cl} {v : List Pt} (hs : PSmall cls v) (h1 : chkPs env v = 0) (h2 : allTo (clOk env v.length cls) cls.length = true) : CovOk env cls v := by
 refine ⟨hs.cl, fun c hc => ?_, Nat.le_trans (psz_len v) hs.vs, h1⟩
 obtain ⟨j, hj, rfl⟩ := List.mem_iff_getElem.1 hc
 have := allTo_at h2 hj
 rw [clOk_at (List.getElem?_eq_getElem hj)] at this
 simp [clBad] at this
 exact ⟨this.2, hs.cs _ hc, this.1⟩
theorem covers_any (env : List Dc) (hf : EnvFine env) (hg : Env.good env) (cls : List Cl) (v : List Pt) (hs : PSmall cls v) (h : Heap) (hh : WF h) :
  ACalls Tryz.prog 26 [envA env, .p (.sl 6 (clPs cls)), .p (.sl 3 (ptPs v))] h fun o h' => o = .ret (bA (coversB env cls v)) ∧ h' = h := by
 have c1 := fun (g : Heap) (hw : WF g) => pcheck_any env hg hf.1 _ v (Nat.le_refl _) hs.vs g hw
 have c2 := fun (g : Heap) (hw : WF g) => pcontains_any 3 _ v (Nat.le_refl _) hs.vs g hw
 have c3 := cf75_any env hg hf.1 v cls hs (h ++ [some (.cells [envA env]), some (.cells [.p (.sl 3 (ptPs v))])]) (hh.app (by simp)) (h.length + 1) h.length (by simp) (by simp)
 have c4 := fun h1 h2 (g : Heap) (hw : WF g) => pcovered_any env hf hg cls (openC cls v + 1) v (CovOk.of hs h1 h2) (Nat.lt_succ_self _) g hw
 obtain ⟨r, hr⟩ : ∃ r, coversB env cls v = r := ⟨_, rfl⟩
 rw [hr]
 unfold coversB at hr
 generalize chkPs env v = e at c1 c4 hr
 generalize hasKs 3 v = b1 at c2 hr
 unfold anyBad at c3
 generalize allTo (clOk env v.length cls) cls.length = b2 at c3 c4 hr
 generalize covF env cls (openC cls v + 1) v = b3 at c4 hr
 refine ACalls.of_run Tryz.func26 rfl ?_
 simp only [Tryz.ntmps26, List.length_cons, List.length_nil]
 refine nv ?_
 refine Run.reg fun K J => ?_
 simp
 refine J _ _ _ (nv ?_); clear J
 refine Run.reg fun K J => ?_
 simp
 refine J _ _ _ ?_; clear J
 refine rl rfl (by first | rfl | simp) (by simp) rfl (c1 _ (hh.app (by simp))) ?_
 by_cases h1 : e = 0
 ·subst h1
  refine Run.ops fun K J => ?_
  simp
  refine J _ _ _ ?_; clear J
  refine rl rfl (by first | rfl | simp) (by simp) rfl (c2 _ (hh.app (by simp))) ?_
  refine Run.ops fun K J => ?_
  simp
  refine J _ _ _ (nv ?_); clear J
  cases b1 with
  | true =>
   simp at hr
   rw [hr]
   refine ct (by simp) (nv ?_)
   refine Run.reg fun K J => ?_
   simp
   refine J _ _ _ (nv ?_); clear J
   refine Run.ret ?_
   exact Fin.ret' (h0 := h) (by simp) rfl hh rfl (by simp; rfl) rfl (Weak.refl _) (by simp) ⟨by simp, rfl⟩
  | false =>
   refine cf (by simp) (nv ?_)
   refine Run.reg fun K J => ?_
   simp
   refine J _ _ _ ?_; clear J
   refine Run.call rfl (by first | rfl | simp) (by simp) rfl (c3) ?_ ?_
   rotate_left
   ·rintro v h' ⟨hv, _⟩; cases hv
   rintro v h' ⟨hv, rfl⟩
   simp only [AOut.ret.injEq] at hv
   subst hv
   refine Run.ops fun K J => ?_
   simp
   refine J _ _ _ (nv ?_); clear J
   cases b2 with
   | false =>
    simp at hr
    rw [hr]
    refine Run.reg fun K J => ?_
    simp
    refine J _ _ _ (nv ?_); clear J
    refine Run.ret ?_
    exact Fin.ret' (h0 := h) (by simp) rfl hh rfl (by simp; rfl) rfl (Weak.refl _) (by simp) ⟨by simp, rfl⟩
   | true =>
    simp at hr
    subst hr
    refine Run.reg fun K J => ?_
    simp
    refine J _ _ _ ?_; clear J
    refine rl rfl (by first | rfl | simp) (by simp) rfl (c4 rfl rfl _ (hh.app (by simp))) ?_
    refine Run.ops fun K J => ?_
    simp
    refine J _ _ _ (nv ?_); clear J
    refine Run.ret ?_
    exact Fin.ret' (h0 := h) (by simp) rfl hh rfl (by simp; rfl) rfl (Weak.refl _) (by simp) ⟨by simp, rfl⟩
 ·simp [h1] at hr
  rw [hr]
  have h1b : (e != (0 : Int)) = true := by simpa using h1
  refine Run.ops fun K J => ?_
  simp [h1b]
  refine J _ _ _ (nv ?_); clear J
  refine ct (by simp) (nv ?_)
  refine Run.reg fun K J => ?_
  simp
  refine J _ _ _ (nv ?_); clear J
  refine Run.ret ?_
  exact Fin.ret' (h0 := h) (by simp) rfl hh rfl (by simp; rfl) rfl (Weak.refl _) (by simp) ⟨by simp, rfl⟩


open Go Go.AI

open Rows (uptoBulk uptoBulkAll)

open Go.ChangeShapes Go.WideShapes Go.ChangeAt Go.RowKit

section

variable {H : Type} {enc : TypeId × Value → H} {W : World} {sp : Nat → Bool} {held : Bool}
theorem cells53 : Tryz.prog.cellsOf 53 = 6 := by kernel_rfl
theorem cells74 : Tryz.prog.cellsOf 74 = 3 := by kernel_rfl
def GPt (p : Pt) (d : DataW H) : Prop := uptoBulk d ≤ 1048576 → p.size ≤ uptoBulk d
theorem GL_pts : ∀ {ts : List Pt} {ds : List (DataW H)}, GL GPt ts ds → uptoBulkAll ds ≤ 1048576 → Pt.sizes ts ≤ uptoBulkAll ds
 | [], [], _, _ => by simp [Pt.sizes]
 | t :: ts, d :: ds, h, hb => by
  simp only [uptoBulkAll] at hb
  have h1 := h.1 (by omega)
  have h2 := GL_pts h.2 (by omega)
  simp only [Pt.sizes, uptoBulkAll]
  omega
 | [], _ :: _, h, _ => h.elim
 | _ :: _, [], h, _ => h.elim
theorem ptPs_eq' (l : List Pt) : ptPs l = l.map Pt.cells := by
 induction l with
 | nil => rfl
 | cons p l ih => simp only [ptPs, ih, List.map_cons]
theorem open_pt (N : Nat) : ∀ (n : Nat) (cs : List Value) (x : DataW H × List MemPlace), n ≤ N → DataW.trod enc Tryz.prog W 0 sp held n 74 cs = some x →
  ∃ p : Pt, RepL (roAll W) W (p.cells.map .p) cs ∧ GPt p x.1 := by
 induction N with
 | zero => intro n cs x hn h; obtain rfl : n = 0 := by omega
           simp [DataW.trod] at h
 | succ N ih =>
 intro n cs x hn h
 obtain ⟨xs, m, rfl, rfl, hl, hlen, hf⟩ := DataW.trod_struct Tryz.underlying74 h
 rw [cells74] at hl
 obtain ⟨c0, c1, c2, rfl⟩ : ∃ a b c, cs = [a, b, c] := by match cs, hl with | [a, b, c], _ => exact ⟨a, b, c, rfl⟩
 obtain ⟨x0, x1, x2, rfl⟩ : ∃ a b c, xs = [a, b, c] := by match xs, hlen with | [a, b, c], _ => exact ⟨a, b, c, rfl⟩
 have h0 := hf 0 _ rfl
 have h1 := hf 1 _ rfl
 have h2 := hf 2 _ rfl
 simp only [List.getElem?_cons_zero, List.getElem?_cons_succ] at h0 h1 h2
 obtain ⟨k, e0, r0, _, _⟩ := open_i h0
 obtain ⟨s, v, e1, r1⟩ := open_s h1
 obtain ⟨ps, w, e2, r2, hG2⟩ := open_slice (α := Pt) Tryz.underlying50 cells74 (by decide) Pt.cells GPt (fun p => by cases p; rfl) (fun m' hm cs y hy => ih m' cs y (by omega) hy) h2
 injection e0 with e0; injection e1 with e1; injection e2 with e2
 subst e0; subst e1; subst e2
 refine ⟨.mk k s ps, ?_, fun hb => ?_⟩
 ·simp only [pcells_mk, ptPs_eq', List.map_cons, List.map_nil, RepL, Rep]
  exact ⟨_, _, rfl, r0, _, _, rfl, r1, _, _, rfl, r2, rfl⟩
 ·simp only [List.map_cons, List.map_nil, uptoBulk, uptoBulkAll] at hb ⊢
  simp only [Pt.size]
  rcases hG2 with ⟨rfl, _⟩ | ⟨elems, rest, he, hG⟩
  ·simp [Pt.sizes]
  ·rw [he] at hb ⊢
   simp only [uptoBulk] at hb ⊢
   have := GL_pts hG (by omega)
   omega
def GCl (c : Cl) (d : DataW H) : Prop := uptoBulk d ≤ 1048576 → Pt.sizes c.ps ≤ uptoBulk d ∧ c.b.good
theorem open_cl {n : Nat} {cs : List Value} {x : DataW H × List MemPlace} (h : DataW.trod enc Tryz.prog W 0 sp held n 53 cs = some x) : ∃ c : Cl, RepL (roAll W) W (c.cells.map .p) cs ∧ GCl c x.1 := by
 obtain ⟨xs, m, rfl, rfl, hl, hlen, hf⟩ := DataW.trod_struct Tryz.underlying53 h
 rw [cells53] at hl
 obtain ⟨c0, c1, c2, c3, c4, c5, rfl⟩ : ∃ a b c d e f, cs = [a, b, c, d, e, f] := by match cs, hl with | [a, b, c, d, e, f], _ => exact ⟨a, b, c, d, e, f, rfl⟩
 obtain ⟨x0, x1, rfl⟩ : ∃ a b, xs = [a, b] := by match xs, hlen with | [a, b], _ => exact ⟨a, b, rfl⟩
 have h0 := hf 0 _ rfl
 have h1 := hf 1 _ rfl
 simp only [List.getElem?_cons_zero, List.getElem?_cons_succ] at h0 h1
 obtain ⟨ps, w, e0, r0, hG0⟩ := open_slice (α := Pt) Tryz.underlying50 cells74 (by decide) Pt.cells GPt (fun p => by cases p; rfl) (fun m' _ cs y hy => open_pt m' m' cs y (Nat.le_refl _) hy) h0
 obtain ⟨t, r1, g1⟩ := open_t h1
 injection e0 with e0; subst e0
 refine ⟨⟨ps, t⟩, ?_, fun hb => ?_⟩
 ·simp only [Cl.cells, ptPs_eq', List.map_cons, RepL, Rep]
  exact ⟨_, _, rfl, r0, r1⟩
 ·simp only [List.map_cons, List.map_nil, uptoBulk, uptoBulkAll] at hb ⊢
  refine ⟨?_, g1 (by omega)⟩
  rcases hG0 with ⟨rfl, _⟩ | ⟨elems, rest, he, hG⟩
  ·simp [Pt.sizes]
  ·rw [he] at hb ⊢
   simp only [uptoBulk] at hb ⊢
   have := GL_pts hG (by omega)
   omega

end
theorem arg_cls {H : Type} {enc : TypeId × Value → H} {W : World} {v : Value} {d : DataW H} {p : List MemPlace} {base : Nat}
  (hv : Value.okWide Tryz.prog W .any base 37 v) (h : DataW.Trod enc Tryz.prog W 0 (fun _ => true) true 37 v d p) : ∃ cls : List Cl, Rep (roAll W) W (.p (.sl 6 (clPs cls))) v ∧ (uptoBulk d ≤ 1048576 → cls.length ≤ 1048576 ∧ ∀ c ∈ cls, Pt.sizes c.ps ≤ 1048576 ∧ c.b.good) := by
 obtain ⟨a, len, cap, rfl⟩ := okWide_slice Tryz.underlying37 hv
 obtain ⟨n, hn⟩ := h
 obtain ⟨xs, v', e, r, hG⟩ := open_slice (α := Cl) Tryz.underlying37 cells53 (by decide) Cl.cells GCl (fun c => by obtain ⟨_, ⟨_, _, _, _, _⟩⟩ := c; rfl) (fun m' _ cs y hy => open_cl hy) hn
 simp [Value.cells] at e
 subst e
 refine ⟨xs, by simp only [Rep]; exact r, fun hb => ?_⟩
 exact slice_all (Q := fun c : Cl => Pt.sizes c.ps ≤ 1048576 ∧ c.b.good) (fun x d hg hb => by have := hg hb; exact ⟨by omega, this.2⟩) hG hb


open Go.Shelf Go.Proofs
def lays156_ren : Go.Shelf.Ren := ⟨fun | 156 => 87 | 165 => 138 | 166 => 139 | 169 => 140 | 240 => 181 | 241 => 182 | 276 => 220 | 277 => 221 | n => n, fun | 31 => 146 | 9 => 9 | 3 => 3 | 4 => 4 | 0 => 0 | 20 => 20 | 72 => 201 | 76 => 204 | 70 => 198 | 37 => 199 | 75 => 203 | 127 => 246 | 164 => 283 | 5 => 5 | 80 => 206 | n => n, fun | n => n⟩
theorem lays156 : Go.Proofs.Lays.n156 Tryz.prog lays156_ren := {
 mixed := by kernel_rfl
 f156 := Tryz.func87.trans (congrArg some (by kernel_rfl))
 f165 := Tryz.func138.trans (congrArg some (by kernel_rfl))
 f166 := Tryz.func139.trans (congrArg some (by kernel_rfl))
 f169 := Tryz.func140.trans (congrArg some (by kernel_rfl))
 f240 := Tryz.func181.trans (congrArg some (by kernel_rfl))
 f241 := Tryz.func182.trans (congrArg some (by kernel_rfl))
 f276 := Tryz.func220.trans (congrArg some (by kernel_rfl))
 f277 := Tryz.func221.trans (congrArg some (by kernel_rfl))
 t0 := Tryz.underlying0
 a0 := Tryz.isAgg0
 z0 := Tryz.sizeOf0
 v0 := Tryz.zeroValue0
 t3 := Tryz.underlying3
 a3 := Tryz.isAgg3
 z3 := Tryz.sizeOf3
 v3 := Tryz.zeroValue3
 t4 := Tryz.underlying4
 a4 := Tryz.isAgg4
 z4 := Tryz.sizeOf4
 v4 := Tryz.zeroValue4
 t9 := Tryz.underlying9
 a9 := Tryz.isAgg9
 z9 := Tryz.sizeOf9
 v9 := Tryz.zeroValue9
 t20 := Tryz.underlying20
 a20 := Tryz.isAgg20
 z20 := Tryz.sizeOf20
 v20 := Tryz.zeroValue20
 t31 := Tryz.underlying146
 a31 := Tryz.isAgg146
 z31 := Tryz.sizeOf146
 v31 := Tryz.zeroValue146
 t37 := Tryz.underlying199
 a37 := Tryz.isAgg199
 z37 := Tryz.sizeOf199
 v37 := Tryz.zeroValue199
 t70 := Tryz.underlying198
 a70 := Tryz.isAgg198
 z70 := Tryz.sizeOf198
 v70 := Tryz.zeroValue198
 t72 := Tryz.underlying201
 a72 := Tryz.isAgg201
 z72 := Tryz.sizeOf201
 v72 := Tryz.zeroValue201
 t75 := Tryz.underlying203
 a75 := Tryz.isAgg203
 z75 := Tryz.sizeOf203
 v75 := Tryz.zeroValue203
 t76 := Tryz.underlying204
 a76 := Tryz.isAgg204
 z76 := Tryz.sizeOf204
 v76 := Tryz.zeroValue204
 t127 := Tryz.underlying246
 a127 := Tryz.isAgg246
 z127 := Tryz.sizeOf246
 v127 := Tryz.zeroValue246
 t164 := Tryz.underlying283
 a164 := Tryz.isAgg283
 z164 := Tryz.sizeOf283
 v164 := Tryz.zeroValue283
}
theorem lays156X : Go.Proofs.Builder.Extra Tryz.prog lays156_ren := { sizeBuilder := by kernel_rfl, liesBuilder := by kernel_rfl, t5 := Tryz.underlying5, a5 := Tryz.isAgg5, z5 := Tryz.sizeOf5, v5 := Tryz.zeroValue5, infoByte := by kernel_rfl, cellsByte := by kernel_rfl, sizeByte := by kernel_rfl, neB5 := by decide }

end Go.Proofs.YtcfcolkbeelegaaGreat

namespace Go.AI

open Go Go.Shelf Go.Sort Go.Proofs Go.MapKept Go.Maps Go.WideElems
theorem Rel.below {E : Env} {h : Nat → Option AO} {w w' : World} (r : Rel E h w) (hb : RowKit.Below w.heap.size w w') :
  Rel { E with ro := fun b off => E.ro b off ∨ (w.heap.size ≤ b ∧ b < w'.heap.size) } h w' ∧
  Fr E h w { E with ro := fun b off => E.ro b off ∨ (w.heap.size ≤ b ∧ b < w'.heap.size) } h w' := by
 have hx : Ext E w { E with ro := fun b off => E.ro b off ∨ (w.heap.size ≤ b ∧ b < w'.heap.size) } w' :=
  ⟨fun _ _ h => .inl h, fun b off hb' => cell_of_heap (hb.block b (r.lt b off hb')) off, fun _ _ h => h, fun _ L h => ⟨L, h, Nat.le_refl _, fun _ => rfl⟩⟩
 refine ⟨⟨fun id o hc hn => ?_, fun id o n sz m cs hc hk => ?_, r.inj, fun id o b off hc hn hg => ?_, fun id o n sz k cs b c m off hc hk hg hl => ?_, ?_⟩, ⟨fun b hb' _ => hb.block b hb', hx, ?_, hb.size, fun b hb' => .inl hb', hb.os, hb.output⟩⟩
 ·obtain ⟨b, hg, ho⟩ := r.objsO id o hc hn
  exact ⟨b, hg, ho.move hx (hb.block b ho.lt)⟩
 ·obtain ⟨blk, cap, ht, h1, h2, h3⟩ := r.toks id o n sz m cs hc hk
  refine ⟨blk, cap, ht, h1, h2, fun b hb' => ?_⟩
  obtain ⟨us, hr, hl, hp⟩ := h3 b hb'
  exact ⟨us, hr.same (hb.block b hr.lt), hl, hp.ext hx⟩
 ·rintro (h1 | h1)
  ·exact r.sepO id o b off hc hn hg h1
  ·have := r.owns_lt (.inl ⟨o, hc, hn, hg⟩); omega
 ·rintro (h1 | h1)
  ·exact r.sepT id o n sz k cs b c m off hc hk hg hl h1
  ·have := r.owns_lt (.inr ⟨o, _, c, m, hc, hk, hg⟩); omega
 ·rintro b off (h1 | h1)
  ·have := r.lt b off h1; have := hb.size; omega
  ·omega
 ·rintro b off (h1 | h1)
  ·exact .inl h1
  ·exact .inr (.inr h1.1)


open Go Go.Shelf Go.Proofs
def strsE (l : List (List UInt8)) : List (List PV) := l.map fun s => [.prim (.string ⟨s.toArray⟩)]
theorem repEs_strs {E w b} : ∀ {l : List (List UInt8)} {off : Nat}, RepEs E w b 1 off (strsE l) → ∀ (j : Nat) (x : ByteArray), (l.map fun s => (⟨s.toArray⟩ : ByteArray))[j]? = some x → w.cell? ⟨b, off + j, none⟩ = some (.string x)
 | [], _, _, j, x, hj => by simp at hj
 | z :: l, off, r, j, x, hj => by
  simp only [strsE, List.map_cons, RepEs, RepAt, RepP] at r
  obtain ⟨_, ⟨v, _, hv, ⟨rfl, _⟩, _⟩, r⟩ := r
  cases j with
  | zero => simp at hj; subst hj; simpa using hv
  | succ j =>
   have := repEs_strs (l := l) r j x (by simpa using hj)
   rw [show off + (j + 1) = off + 1 + j by omega]
   exact this
theorem join_calls {P : Program} {ρ : Ren} (L : Lays.n156 P ρ) (X : Builder.Extra P ρ) {h : Heap} (xs : List (List UInt8)) (sep : List UInt8) (hN : xs.length ≤ 140737488355328) (hlen : (Lib.join xs sep).length ≤ 140737488355328) :
  ACalls P (ρ.f 156) [.p (.sl 1 (strsE xs)), .p (.prim (.string ⟨sep.toArray⟩))] h fun out h' => out = .ret (.p (.prim (.string ⟨(Lib.join xs sep).toArray⟩))) ∧ h' = h := by
 intro E w vs hrel hfresh hargs
 simp only [RepL, Rep, RepP] at hargs
 obtain ⟨v, us, rfl, ⟨a, cap, rfl, hcap, hr⟩, v2, us2, rfl, ⟨rfl, _⟩, rfl⟩ := hargs
 have hl : (strsE xs).length = xs.length := by simp [strsE]
 have hmap : ((xs.map fun s => (⟨s.toArray⟩ : ByteArray)).map (·.data.toList)) = xs := by simp [List.map_map, Function.comp_def]
 rcases hr with h0 | ⟨b, off, rfl, hr⟩
 ·have : xs = [] := by simpa [strsE] using h0
  subst this
  refine Calls.mono (Any.strings_Join_none L X a cap ⟨sep.toArray⟩ w) ?_
  rintro e w' ⟨rfl, rfl⟩
  exact ⟨_, _, E, ⟨rfl, rfl⟩, hrel, hfresh, ⟨_, rfl, by simp [Rep, RepP, isPrim, Lib.join_nil]⟩, Fr.refl _ _ _⟩
 ·by_cases hx : xs = []
  ·subst hx
   refine Calls.mono (Any.strings_Join_none L X _ cap ⟨sep.toArray⟩ w) ?_
   rintro e w' ⟨rfl, rfl⟩
   exact ⟨_, _, E, ⟨rfl, rfl⟩, hrel, hfresh, ⟨_, rfl, by simp [Rep, RepP, isPrim, Lib.join_nil]⟩, Fr.refl _ _ _⟩
  ·have hb : b < w.heap.size := by
    obtain ⟨x, r, rfl⟩ := List.exists_cons_of_ne_nil hx
    simp only [strsE, List.map_cons, RepEs, RepAt] at hr
    obtain ⟨_, ⟨_, hro, _⟩, _⟩ := hr
    exact hrel.lt b off hro
   have hc := Any.strings_Join L X b off cap (xs.map fun s => ⟨s.toArray⟩) ⟨sep.toArray⟩ w (repEs_strs hr) hb (by simpa using hN) (by simpa [strsE] using hcap) (by rw [hmap]; exact hlen)
   rw [hmap] at hc
   have e1 : (xs.map fun s => (⟨s.toArray⟩ : ByteArray)).length = (strsE xs).length := by simp [strsE]
   rw [e1] at hc
   refine Calls.mono hc ?_
   rintro e w' ⟨rfl, hB⟩
   obtain ⟨r2, f2⟩ := hrel.below hB
   refine ⟨_, _, _, ⟨rfl, rfl⟩, r2, ?_, ⟨_, rfl, by simp [Rep, RepP, isPrim]⟩, f2⟩
   exact fun i hi => hfresh i hi

end Go.AI
