import Derived.Test.YtcfcolkbeelegaaGreatQX23
import Derived.Test.YtcfcolkbeelegaaGreatQE11
set_option maxRecDepth 8000
set_option maxHeartbeats 16000000

namespace Go.Proofs.YtcfcolkbeelegaaGreat

open Go Go.AI

inductive Pt where
 | mk (k : Int) (n : List UInt8) (qs : List Pt)

mutual
def Pt.cells : Pt → List PV
 | .mk k n qs => [iP k, sP n, .sl 3 (ptPs qs)]
def ptPs : List Pt → List (List PV)
 | [] => []
 | p :: ps => p.cells :: ptPs ps
end
theorem ptPs_eq : ∀ l : List Pt, ptPs l = l.map Pt.cells
 | [] => by simp [ptPs]
 | p :: l => by simp [ptPs, ptPs_eq l]
theorem pcells_mk (k : Int) (n : List UInt8) (qs : List Pt) : (Pt.mk k n qs).cells = [iP k, sP n, .sl 3 (ptPs qs)] := by simp only [Pt.cells]
@[simp] theorem pcells_len (p : Pt) : p.cells.length = 3 := by cases p; simp [pcells_mk]
@[simp] theorem ptPs_length (l : List Pt) : (ptPs l).length = l.length := by simp [ptPs_eq]
@[simp] theorem ptPs_get (l : List Pt) (j : Nat) : (ptPs l)[j]? = (l[j]?).map Pt.cells := by simp [ptPs_eq]
abbrev Pt.av (p : Pt) : AV := .agg (p.cells.map .p)
@[simp] theorem take_pcells (p : Pt) : (p.cells.map AV.p).take 3 = p.cells.map .p := List.take_of_length_le (by simp)
@[simp] def Pt.kind : Pt → Int | .mk k _ _ => k
@[simp] def Pt.name : Pt → List UInt8 | .mk _ n _ => n
@[simp] def Pt.args : Pt → List Pt | .mk _ _ qs => qs
theorem ptPs_len3 (l : List Pt) : ∀ e ∈ ptPs l, e.length = 3 := by
 intro e he; rw [ptPs_eq] at he; obtain ⟨p, _, rfl⟩ := List.mem_map.1 he; simp

mutual
def Pt.size : Pt → Nat
 | .mk _ _ qs => 1 + Pt.sizes qs
def Pt.sizes : List Pt → Nat
 | [] => 0
 | p :: ps => p.size + Pt.sizes ps
end
theorem Pt.size_pos (p : Pt) : 0 < p.size := by cases p; simp only [Pt.size]; omega
theorem Pt.size_at {l : List Pt} {p : Pt} (h : p ∈ l) : p.size ≤ Pt.sizes l := by
 induction l with
 | nil => cases h
 | cons x l ih =>
  simp only [Pt.sizes]
  rcases List.mem_cons.1 h with rfl | h
  ·omega
  ·have := ih h; omega
theorem Pt.length_le (l : List Pt) : l.length ≤ Pt.sizes l := by
 induction l with
 | nil => simp [Pt.sizes]
 | cons x l ih => have := x.size_pos; simp only [Pt.sizes, List.length_cons]; omega

mutual
def Pt.fit : Pt → Prop
 | .mk _ n qs => n.length ≤ 1048576 ∧ Pt.fits qs
def Pt.fits : List Pt → Prop
 | [] => True
 | p :: ps => p.fit ∧ Pt.fits ps
end
theorem Pt.fits_at {l : List Pt} (h : Pt.fits l) : ∀ p ∈ l, p.fit := by
 induction l with
 | nil => intro p hp; cases hp
 | cons x l ih =>
  intro p hp
  rcases List.mem_cons.1 hp with rfl | hp
  ·exact h.1
  ·exact ih h.2 p hp

structure Cl where
 ps : List Pt
 b : Tm
def Cl.cells (c : Cl) : List PV := .sl 3 (ptPs c.ps) :: c.b.cells
abbrev Cl.av (c : Cl) : AV := .agg (c.cells.map .p)
abbrev clPs (l : List Cl) : List (List PV) := l.map Cl.cells
@[simp] theorem cl_len (c : Cl) : c.cells.length = 6 := by simp [Cl.cells]
@[simp] theorem take_clcells (c : Cl) : (c.cells.map AV.p).take 6 = c.cells.map .p := List.take_of_length_le (by simp)
def fieldsZ (env : List Dc) (s : List UInt8) : Dc × Int × Bool :=
 if (famZ env s).2.2 = true ∧ 0 ≤ (famZ env s).2.1 then ((famZ env s).1, fldZ (famZ env s).1 (famZ env s).2.1.toNat, true) else (zDc, 0, false)
theorem famZ_ok {env : List Dc} (s : List UInt8) : famZ env s = (zDc, 0, false) ∨ ∃ d a, famZ env s = (d, a, true) ∧ d ∈ env ∧ (a < 0 ∨ ∃ j : Nat, a = j ∧ j < d.cs.length) := by
 unfold famZ
 cases hz : findZ s env 0 with
 | none => exact .inl rfl
 | some e =>
  obtain ⟨j, d, h1, h2, h3, h4, h5⟩ := findZ_ok s env 0 e hz
  have hm := List.mem_of_getElem? h2
  simp only [Nat.zero_add] at h1
  have ha : (env[e.at_.toNat]?).getD zDc = d := by rw [h1, Int.toNat_natCast, h2]; rfl
  simp only [ha]
  by_cases e3 : e.k = 3
  ·rw [if_pos e3]; exact .inr ⟨d, -1, rfl, hm, .inl (by omega)⟩
  rw [if_neg e3]
  by_cases e4 : e.k = 4
  ·rw [if_pos e4]; exact .inr ⟨d, e.it, rfl, hm, .inr ⟨e.it.toNat, by omega, by have := h4 e4; omega⟩⟩
  rw [if_neg e4]
  by_cases e5 : e.k = 5
  ·rw [if_pos e5]; exact .inr ⟨d, -2, rfl, hm, .inl (by omega)⟩
  rw [if_neg e5]
  exact .inl rfl
theorem dc_one (d : Dc) : (d.cells.map AV.p).all oneA = true := by rw [List.all_map]; exact List.all_eq_true.2 fun _ _ => rfl
theorem dc_split (d : Dc) : ∃ a0 a1 a2 a3 a4 a5 a6 a7 a8 a9 a10 a11 a12 b0 b1 b2 b3 b4 b5 b6 b7, d.cells = [a0, a1, a2, a3, a4, a5, a6, a7, a8, a9, a10, a11, a12, iP d.fx, .sl 6 (d.cs.map Ct.cells), b0, b1, b2, b3, b4, b5, b6, b7] := by
 obtain ⟨k, nm, ps, ⟨k1, i1, n1, l1, s1⟩, ⟨k2, i2, n2, l2, s2⟩, fx, cs, rp, ⟨k3, i3, n3, l3, s3⟩, rr, fs⟩ := d
 simp only [Dc.cells, cells_mk, List.cons_append, List.nil_append]
 exact ⟨_, _, _, _, _, _, _, _, _, _, _, _, _, _, _, _, _, _, _, _, _, rfl⟩
abbrev zDcA : List AV := [iA 0, .p (sP []), iA 0, iA 0, iA 0, .p (sP []), .p (.prim (.slice none 0 0)), .p (.prim (.slice none 0 0)), iA 0, iA 0, .p (sP []), .p (.prim (.slice none 0 0)), .p (.prim (.slice none 0 0)), iA 0, .p (.prim (.slice none 0 0)), iA 0, iA 0, iA 0, .p (sP []), .p (.prim (.slice none 0 0)), .p (.prim (.slice none 0 0)), .p (.prim (.slice none 0 0)), .p (.prim (.slice none 0 0))]
theorem pfields_any (h : Heap) (hh : WF h) (env : List Dc) (s : List UInt8) (hg : Env.good env) (hn : Env.short env) : ACalls Tryz.prog 123 [envA env, .p (sP s)] h fun o h' => o = .ret (.tup [(fieldsZ env s).1.av, iA (fieldsZ env s).2.1, bA (fieldsZ env s).2.2]) ∧ h' = h := by
 have c1 := fun (g : Heap) (hw : WF g) => family_any g hw env s hg hn
 obtain ⟨r, hr⟩ : ∃ r, r = fieldsZ env s := ⟨_, rfl⟩
 rw [← hr]
 unfold fieldsZ at hr
 rcases famZ_ok (env := env) s with e | ⟨d, a, e, hm, hj⟩
 ·rw [e] at hr c1
  simp at hr
  subst hr
  simp only [zDc, Dc.av, Dc.cells, zT, cells_mk, List.map, lvPs, tmPs, List.cons_append, List.nil_append] at c1
  refine ACalls.of_run Tryz.func123 rfl ?_
  simp only [Tryz.ntmps123, List.length_cons, List.length_nil]
  refine nv ?_
  refine Run.reg fun K J => ?_
  simp
  refine J _ _ _ (nv ?_); clear J
  refine Run.reg fun K J => ?_
  simp
  refine J _ _ _ ?_; clear J
  refine rl rfl (by first | rfl | simp) (by simp) rfl (c1 _ (hh.app (by simp))) ?_
  refine Run.ops fun K J => ?_
  simp
  refine J _ _ _ (nv ?_); clear J
  refine Run.reg fun K J => ?_
  simp
  refine J _ _ _ (nv ?_); clear J
  refine ct (by simp) (nv ?_)
  refine Run.reg fun K J => ?_
  simp
  refine J _ _ _ (nv ?_); clear J
  refine Run.ret ?_
  exact Fin.ret' (h0 := h) (xs := [.agg zDcA, iA 0, bA false]) (by simp) rfl hh rfl (by simp) rfl (y := .tup [zDc.av, iA 0, bA false]) (Weak.tup (WeakL.cons dc_weak0 (WeakL.refl _))) (by simp [zDc, Dc.av, Dc.cells, zT]) ⟨rfl, rfl⟩
 ·have hdl := dc_cells_len d
  obtain ⟨a0, a1, a2, a3, a4, a5, a6, a7, a8, a9, a10, a11, a12, b0, b1, b2, b3, b4, b5, b6, b7, hsp⟩ := dc_split d
  rw [e] at hr c1
  simp only [Dc.av, hsp, List.map] at c1
  rcases hj with ha | ⟨j, rfl, hj⟩
  ·have ha' : ¬ 0 ≤ a := by omega
   simp only [ha', and_false, if_false] at hr
   subst hr
   refine ACalls.of_run Tryz.func123 rfl ?_
   simp only [Tryz.ntmps123, List.length_cons, List.length_nil]
   refine nv ?_
   refine Run.reg fun K J => ?_
   simp
   refine J _ _ _ (nv ?_); clear J
   refine Run.reg fun K J => ?_
   simp
   refine J _ _ _ ?_; clear J
   refine rl rfl (by first | rfl | simp) (by simp) rfl (c1 _ (hh.app (by simp))) ?_
   refine Run.ops fun K J => ?_
   simp
   refine J _ _ _ (nv ?_); clear J
   refine Run.reg fun K J => ?_
   simp [ha]
   refine J _ _ _ (nv ?_); clear J
   refine ct (by simp) (nv ?_)
   refine Run.reg fun K J => ?_
   simp
   refine J _ _ _ (nv ?_); clear J
   refine Run.ret ?_
   exact Fin.ret' (h0 := h) (xs := [.agg zDcA, iA 0, bA false]) (by simp) rfl hh rfl (by simp) rfl (y := .tup [zDc.av, iA 0, bA false]) (Weak.tup (WeakL.cons dc_weak0 (WeakL.refl _))) (by simp [zDc, Dc.av, Dc.cells, zT]) ⟨rfl, rfl⟩
  ·have hgj : d.cs[j]? = some d.cs[j] := List.getElem?_eq_getElem hj
   have hgd := (hg.2 d hm).cs _ (List.getElem_mem hj)
   have c2 := fun (g : Heap) (hw : WF g) => all69_any g hw d.cs[j].ty hgd.1
   have hz : fldZ d j = fldC d.fx d.cs[j].ty := by unfold fldZ; rw [hgj]
   simp only [Int.toNat_natCast, hz, fldC, show (0 : Int) ≤ j by omega, and_self, if_true] at hr
   generalize d.cs[j] = c at hgj c2 hr
   generalize resAll c.ty = q at c2 hr
   obtain ⟨qs, ⟨u1, u2, u3, u4, u5⟩⟩ := q
   obtain ⟨x, ⟨k4, i4, n4, l4, s4⟩⟩ := c
   simp only [Tm.av, cells_mk, List.map] at c2
   have hcz : ¬ (j : Int) < 0 := by omega
   refine ACalls.of_run Tryz.func123 rfl ?_
   simp only [Tryz.ntmps123, List.length_cons, List.length_nil]
   refine nv ?_
   refine Run.reg fun K J => ?_
   simp
   refine J _ _ _ (nv ?_); clear J
   refine Run.reg fun K J => ?_
   simp
   refine J _ _ _ ?_; clear J
   refine rl rfl (by first | rfl | simp) (by simp) rfl (c1 _ (hh.app (by simp))) ?_
   refine Run.ops fun K J => ?_
   simp
   refine J _ _ _ (nv ?_); clear J
   refine Run.reg fun K J => ?_
   simp
   refine J _ _ _ (nv ?_); clear J
   refine cf (by simp) (nv ?_)
   refine Run.reg fun K J => ?_
   simp [hgj, Ct.cells]
   refine J _ _ _ ?_; clear J
   refine rl rfl (by first | rfl | simp) (by simp) rfl (c2 _ (hh.app (by simp))) ?_
   refine Run.ops fun K J => ?_
   simp
   refine J _ _ _ (nv ?_); clear J
   refine Run.draw [0, 0, 0, 0, 0, 0, 0, 0, 1, 1] [0, 0, 0, 0, 0, 0, 0, 0, 0, 0] [0, 0, 2, 0, 8, 30, 62, 1, 255, 511] [0, 7, 1, 2, 3, 4, 5, 6, 8, 9] (by kernel_rfl) (by kernel_rfl) ?_
   refine DR.go fun K J => ?_
   simp
   refine J _ _ _ _ ?_; clear J
   change Run _ _ _ _ _ _ _ _
   refine Run.ret ?_
   exact Fin.ret' (h0 := h) (by simp) rfl hh rfl (by simp; rfl) rfl (Weak.refl _) (by simp) ⟨by rw [hr]; simp only [Dc.av, hsp]; rfl, rfl⟩


open Go Go.AI

mutual
def chkP (env : List Dc) : Pt → Int
 | .mk k n qs => if k = 0 ∨ k = 2 ∨ k = 3 then (if n = [] ∧ qs = [] then 0 else 3)
  else if k = 1 then (if (fieldsZ env n).2.2 = false then 9 else if (qs.length : Int) = (fieldsZ env n).2.1 then chkPs env qs else 6)
  else 3
def chkPs (env : List Dc) : List Pt → Int
 | [] => 0
 | p :: ps => if chkP env p = 0 then chkPs env ps else chkP env p
end
theorem chkPs_at (env : List Dc) : ∀ (ls : List Pt) (j : Nat) (l : Pt), chkPs env (ls.take j) = 0 → ls[j]? = some l → chkP env l ≠ 0 → chkPs env ls = chkP env l
 | [], j, l, _, h, _ => by simp at h
 | x :: ls, 0, l, _, h, he => by
  simp at h; subst h
  simp only [chkPs, if_neg he]
 | x :: ls, j + 1, l, h0, h, he => by
  simp only [List.take_succ_cons, chkPs] at h0
  by_cases c : chkP env x = 0
  ·rw [if_pos c] at h0
   simp only [chkPs, if_pos c]
   exact chkPs_at env ls j l h0 (by simpa using h) he
  ·rw [if_neg c] at h0; exact absurd h0 c
theorem chkPs_snoc (env : List Dc) : ∀ (ls : List Pt) (j : Nat) (l : Pt), chkPs env (ls.take j) = 0 → ls[j]? = some l → chkP env l = 0 → chkPs env (ls.take (j + 1)) = 0
 | [], j, l, _, h, _ => by simp at h
 | x :: ls, 0, l, _, h, he => by
  simp at h; subst h
  simp [chkPs, he]
 | x :: ls, j + 1, l, h0, h, he => by
  simp only [List.take_succ_cons, chkPs] at h0 ⊢
  by_cases c : chkP env x = 0
  ·rw [if_pos c] at h0 ⊢
   exact chkPs_snoc env ls j l h0 (by simpa using h) he
  ·rw [if_neg c] at h0; exact absurd h0 c


open Go Go.AI
theorem pcheck_any (env : List Dc) (hg : Env.good env) (hn : Env.short env) (N : Nat) : ∀ (l : List Pt), Pt.sizes l ≤ N → Pt.sizes l ≤ 1048576 → ∀ h, WF h → ACalls Tryz.prog 70 [envA env, .p (.sl 3 (ptPs l))] h fun o h' => o = .ret (iA (chkPs env l)) ∧ h' = h := by
 induction N with
 | zero =>
  intro l hN hB h hh
  have hl : l = [] := by
   cases l with
   | nil => rfl
   | cons p l => have := p.size_pos; simp only [Pt.sizes] at hN; omega
  subst hl
  refine ACalls.of_run Tryz.func70 rfl ?_
  simp only [Tryz.ntmps70, List.length_cons, List.length_nil]
  refine nv ?_
  refine Run.reg fun K J => ?_
  simp
  refine J _ _ _ (nv ?_); clear J
  refine Run.reg fun K J => ?_
  simp
  refine J _ _ _ (nv ?_); clear J
  refine Run.loop ?_
  refine nv ?_
  refine Run.reg fun K J => ?_
  simp
  refine J _ _ _ (nv ?_); clear J
  refine cf (by simp) ?_
  refine Run.exit rfl ?_
  refine nv ?_
  refine Run.reg fun K J => ?_
  simp
  refine J _ _ _ (nv ?_); clear J
  refine Run.ret ?_
  exact Fin.ret' (by simp) rfl hh (List.append_nil _).symm rfl rfl (Weak.refl _) rfl ⟨rfl, rfl⟩
 | succ N ih =>
 intro l hN hB h hh
 have hll := Pt.length_le l
 refine ACalls.of_run Tryz.func70 rfl ?_
 simp only [Tryz.ntmps70, List.length_cons, List.length_nil]
 refine nv ?_
 refine Run.reg fun K J => ?_
 simp
 refine J _ _ _ (nv ?_); clear J
 refine Run.reg fun K J => ?_
 simp
 refine J _ _ _ (nv ?_); clear J
 refine Run.loopS [0, 11, 12] (fun j : Nat => j ≤ l.length ∧ chkPs env (l.take j) = 0) (fun j => l.length - j) (fun j => [(13, iA j)]) (fun _ => h) 0 (by simp [chkPs]) ?_ rfl ?_
 ·simp
  repeat' first | exact wn | apply wc | exact wj _ | exact wr _ | exact wz _ | exact wo _ _ _ | exact wi (by omega)
 rintro j ⟨hj, hall⟩ IH
 simp
 refine nv ?_
 refine Run.reg fun K J => ?_
 simp
 refine J _ _ _ (nv ?_); clear J
 by_cases hjl : j < l.length
 ·have hgj : l[j]? = some l[j] := List.getElem?_eq_getElem hjl
  have hsz := Pt.size_at (List.getElem_mem hjl)
  have ha := chkPs_at env l j _ hall hgj
  have hs := chkPs_snoc env l j _ hall hgj
  generalize l[j] = p at hgj hsz ha hs
  obtain ⟨k, n, qs⟩ := p
  simp only [Pt.size] at hsz
  have c1 := fun (g : Heap) (hw : WF g) => pfields_any g hw env n hg hn
  have c2 := fun (g : Heap) (hw : WF g) => ih qs (by omega) (by omega) g hw
  obtain ⟨e, he⟩ : ∃ e, chkP env (.mk k n qs) = e := ⟨_, rfl⟩
  rw [he] at ha hs
  simp only [chkP] at he
  generalize chkPs env qs = e2 at c2 he
  generalize fieldsZ env n = fz at c1 he
  obtain ⟨d, m, ok⟩ := fz
  simp only at c1 he
  obtain ⟨dc, hdc⟩ : ∃ dc, dc = d.cells.map AV.p := ⟨_, rfl⟩
  have hdl' : dc.length = 23 := by rw [hdc]; simp [dc_cells_len d]
  have htd : List.take 23 dc = dc := List.take_of_length_le (by omega)
  have hone : dc.all oneA = true := by rw [hdc]; exact dc_one d
  have hpa : ∀ l : List AV, l.length = 23 → patch l 0 dc = dc := fun l hl' => by
   have := patch_full dc l [] (by rw [hl', hdl'])
   simpa only [List.append_nil] using this
  have hdu : ∀ n, AV.underL n dc = true := fun n => by rw [hdc]; simp
  simp only [Dc.av, ← hdc] at c1
  refine ct (by simp [hjl]) (nv ?_)
  refine Run.reg fun K J => ?_
  simp [hgj, pcells_mk]
  refine J _ _ _ (nv ?_); clear J
  refine Run.reg fun K J => ?_
  simp
  refine J _ _ _ (nv ?_); clear J
  refine Run.reg fun K J => ?_
  simp
  refine J _ _ _ ?_; clear J
  repeat (first | refine Run.skip ?_ | refine Run.opsNil ?_ | refine Run.inBlock ?_)
  refine Run.joinH [0, 6, 11, 12, 13, 18] [(19, bA (decide (k = 0 ∨ k = 2 ∨ k = 3)))] (h ++ [some (.cells [iA k, .p (sP n), .p (.sl 3 (ptPs qs))])]) (fun hJ => ?_) ?_
  ·by_cases k0 : k = 0
   ·subst k0
    refine ct (by simp) ?_
    refine Run.skip ?_
    refine hJ _ ?_
    simp
    repeat' first | exact wn | apply wc | exact wj _ | exact wr _ | exact wz _ | exact wo _ _ _ | exact wi (by omega)
   ·refine cf (by simp [k0]) ?_
    refine nv ?_
    refine Run.reg fun K J => ?_
    simp
    refine J _ _ _ ?_; clear J
    repeat (first | refine Run.skip ?_ | refine Run.opsNil ?_ | refine Run.inBlock ?_)
    by_cases k2 : k = 2
    ·subst k2
     refine ct (by simp) ?_
     repeat (first | refine Run.skip ?_ | refine Run.opsNil ?_ | refine Run.inBlock ?_)
     refine hJ _ ?_
     simp
     repeat' first | exact wn | apply wc | exact wj _ | exact wr _ | exact wz _ | exact wo _ _ _ | exact wi (by omega)
    ·have k2' : (k == 2) = false := by simp [k2]
     refine cf (by simp [k2']) ?_
     repeat (first | refine Run.skip ?_ | refine Run.opsNil ?_ | refine Run.inBlock ?_)
     refine Run.reg fun K J => ?_
     simp
     refine J _ _ _ ?_; clear J
     repeat (first | refine Run.skip ?_ | refine Run.opsNil ?_ | refine Run.inBlock ?_)
     refine hJ _ ?_
     simp [k0, k2]
     repeat' first | exact wn | apply wc
     all_goals first | exact Weak.junk _ | exact Weak.refl _ | exact Weak.of_eq (by simp)
  simp only [setMany, keepT, keepT.go, List.contains_cons, List.set_cons_succ, List.set_cons_zero]
  simp
  by_cases hk : k = 0 ∨ k = 2 ∨ k = 3
  ·rw [if_pos hk] at he
   have hkt : (k = 0 ∨ k = 2 ∨ k = 3) = True := eq_true hk
   by_cases hn0 : n = []
   ·by_cases hq0 : qs = []
    ·rw [if_pos ⟨hn0, hq0⟩] at he
     subst hn0 hq0
     refine ct (by simp [hkt]) (nv ?_)
     refine Run.reg fun K J => ?_
     simp
     refine J _ _ _ (nv ?_); clear J
     refine cf (by simp) (nv ?_)
     refine Run.keep [0, 11, 12, 13] ?_
     simp only [keepT, keepT.go, List.contains_cons]
     simp
     refine Run.cutAt 0 hh rfl (by omega) (by simp) (by simp) (by simp) rfl ?_
     simp
     refine Run.reg fun K J => ?_
     simp
     try (simp (disch := omega) only [wrap_id])
     refine J _ _ _ (nv ?_); clear J
     refine IH (j + 1) _ _ ⟨by omega, hs he.symm⟩ (by omega) ?_ (by simp)
     simp
     repeat' first | exact wn | apply wc | exact wj _ | exact wr _ | exact wz _ | exact wo _ _ _ | exact wi (by omega)
    ·rw [if_neg fun x => hq0 x.2] at he
     subst hn0
     subst he
     have hq1 : 0 < qs.length := List.length_pos_iff.2 hq0
     refine ct (by simp [hkt]) (nv ?_)
     refine Run.reg fun K J => ?_
     simp [hq1]
     refine J _ _ _ (nv ?_); clear J
     refine ct (by simp) (nv ?_)
     refine Run.reg fun K J => ?_
     simp
     refine J _ _ _ (nv ?_); clear J
     refine Run.ret ?_
     exact Fin.ret' (h0 := h) (by simp) rfl hh rfl (by simp; rfl) rfl (Weak.refl _) (by simp) ⟨by rw [ha (by decide)]; rfl, rfl⟩
   ·rw [if_neg fun x => hn0 x.1] at he
    subst he
    have hne : n.isEmpty = false := by cases n <;> simp_all
    refine ct (by simp [hkt]) (nv ?_)
    refine Run.reg fun K J => ?_
    simp [hne]
    refine J _ _ _ (nv ?_); clear J
    refine ct (by simp) (nv ?_)
    refine Run.reg fun K J => ?_
    simp
    refine J _ _ _ (nv ?_); clear J
    refine Run.ret ?_
    exact Fin.ret' (h0 := h) (by simp) rfl hh rfl (by simp; rfl) rfl (Weak.refl _) (by simp) ⟨by rw [ha (by decide)]; rfl, rfl⟩
  ·rw [if_neg hk] at he
   refine cf (by simp; omega) (nv ?_)
   refine Run.reg fun K J => ?_
   simp
   refine J _ _ _ (nv ?_); clear J
   by_cases k1 : k = 1
   ·rw [if_pos k1] at he
    subst k1
    refine ct (by simp) (nv ?_)
    refine Run.reg fun K J => ?_
    simp
    refine J _ _ _ ?_; clear J
    refine rl rfl (by first | rfl | simp) (by simp) rfl (c1 _ (hh.app (by simp))) ?_
    refine Run.ops fun K J => ?_
    simp [hdl', hone, hpa]
    refine J _ _ _ (nv ?_); clear J
    refine Run.reg fun K J => ?_
    simp
    refine J _ _ _ (nv ?_); clear J
    cases ok with
    | false =>
     rw [if_pos rfl] at he
     subst he
     refine ct (by simp) (nv ?_)
     refine Run.reg fun K J => ?_
     simp
     refine J _ _ _ (nv ?_); clear J
     refine Run.ret ?_
     exact Fin.ret' (h0 := h) (by simp) rfl hh rfl (by simp; rfl) rfl (Weak.refl _) (by simp) ⟨by rw [ha (by decide)]; rfl, rfl⟩
    | true =>
     rw [if_neg (by simp)] at he
     refine cf (by simp) (nv ?_)
     by_cases hm : (qs.length : Int) = m
     ·rw [if_pos hm] at he
      have hm' : ((qs.length : Int) != m) = false := by simp [hm]
      refine Run.reg fun K J => ?_
      simp
      refine J _ _ _ (nv ?_); clear J
      refine cf (by simp [hm']) (nv ?_)
      refine Run.reg fun K J => ?_
      simp
      refine J _ _ _ ?_; clear J
      refine rl rfl (by first | rfl | simp) (by simp) rfl (c2 _ (hh.app (by simp [hdu]))) ?_
      refine Run.ops fun K J => ?_
      simp
      refine J _ _ _ (nv ?_); clear J
      refine Run.reg fun K J => ?_
      simp
      refine J _ _ _ (nv ?_); clear J
      by_cases h0 : e2 = 0
      ·skip
       refine cf (by simp [h0]) (nv ?_)
       refine Run.keep [0, 11, 12, 13] ?_
       simp only [keepT, keepT.go, List.contains_cons]
       simp
       refine Run.cutAt 0 hh rfl (by omega) (by simp) (by simp) (by simp) rfl ?_
       simp
       refine Run.reg fun K J => ?_
       simp
       try (simp (disch := omega) only [wrap_id])
       refine J _ _ _ (nv ?_); clear J
       refine IH (j + 1) _ _ ⟨by omega, hs (he.symm.trans h0)⟩ (by omega) ?_ (by simp)
       simp
       repeat' first | exact wn | apply wc | exact wj _ | exact wr _ | exact wz _ | exact wo _ _ _ | exact wi (by omega)
      ·subst he
       refine ct (by simp [h0]) (nv ?_)
       refine Run.reg fun K J => ?_
       simp
       refine J _ _ _ (nv ?_); clear J
       refine Run.ret ?_
       exact Fin.ret' (h0 := h) (by simp) rfl hh rfl (by simp; rfl) rfl (Weak.refl _) (by simp) ⟨by rw [ha h0]; rfl, rfl⟩
     ·rw [if_neg hm] at he
      subst he
      have hm' : ((qs.length : Int) != m) = true := by simp [hm]
      refine Run.reg fun K J => ?_
      simp
      refine J _ _ _ (nv ?_); clear J
      refine ct (by simp [hm']) (nv ?_)
      refine Run.reg fun K J => ?_
      simp
      refine J _ _ _ (nv ?_); clear J
      refine Run.ret ?_
      exact Fin.ret' (h0 := h) (by simp) rfl hh rfl (by simp; rfl) rfl (Weak.refl _) (by simp) ⟨by rw [ha (by decide)]; rfl, rfl⟩
   ·rw [if_neg k1] at he
    subst he
    have k1' : (k == 1) = false := by simp [k1]
    refine cf (by simp [k1']) (nv ?_)
    refine Run.reg fun K J => ?_
    simp
    refine J _ _ _ (nv ?_); clear J
    refine Run.ret ?_
    exact Fin.ret' (h0 := h) (by simp) rfl hh rfl (by simp; rfl) rfl (Weak.refl _) (by simp) ⟨by rw [ha (by decide)]; rfl, rfl⟩
 ·have hje : j = l.length := by omega
  subst hje
  rw [List.take_length] at hall
  rw [hall]
  refine cf (by simp) ?_
  refine Run.exit rfl ?_
  refine nv ?_
  refine Run.reg fun K J => ?_
  simp
  refine J _ _ _ (nv ?_); clear J
  refine Run.ret ?_
  exact Fin.ret' (by simp) rfl hh (List.append_nil _).symm rfl rfl (Weak.refl _) rfl ⟨rfl, rfl⟩

end Go.Proofs.YtcfcolkbeelegaaGreat
