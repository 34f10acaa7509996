import Derived.Test.YtcfcolkbeelegaaGreatVX23
set_option maxRecDepth 8000
set_option maxHeartbeats 8000000

namespace Go.Proofs.YtcfcolkbeelegaaGreat

open Go Go.AI

inductive Pt where
 | mk (k : Int) (n : List UInt8) (qs : List Pt)

mutual
def Pt.cells : Pt → List PV
 | .mk k n qs => [iP k, sP n, .sl 3 (ptPs qs)]
def ptPs : List Pt → List (List PV)
 | [] => []
 | p :: ps => p.cells :: ptPs ps
end
theorem ptPs_eq : ∀ l : List Pt, ptPs l = l.map Pt.cells
 | [] => by simp [ptPs]
 | p :: l => by simp [ptPs, ptPs_eq l]
theorem pcells_mk (k : Int) (n : List UInt8) (qs : List Pt) : (Pt.mk k n qs).cells = [iP k, sP n, .sl 3 (ptPs qs)] := by simp only [Pt.cells]
@[simp] theorem pcells_len (p : Pt) : p.cells.length = 3 := by cases p; simp [pcells_mk]
@[simp] theorem ptPs_length (l : List Pt) : (ptPs l).length = l.length := by simp [ptPs_eq]
@[simp] theorem ptPs_get (l : List Pt) (j : Nat) : (ptPs l)[j]? = (l[j]?).map Pt.cells := by simp [ptPs_eq]
abbrev Pt.av (p : Pt) : AV := .agg (p.cells.map .p)
@[simp] theorem take_pcells (p : Pt) : (p.cells.map AV.p).take 3 = p.cells.map .p := List.take_of_length_le (by simp)
@[simp] def Pt.kind : Pt → Int | .mk k _ _ => k
@[simp] def Pt.name : Pt → List UInt8 | .mk _ n _ => n
@[simp] def Pt.args : Pt → List Pt | .mk _ _ qs => qs
theorem ptPs_len3 (l : List Pt) : ∀ e ∈ ptPs l, e.length = 3 := by
 intro e he; rw [ptPs_eq] at he; obtain ⟨p, _, rfl⟩ := List.mem_map.1 he; simp
theorem ptPs_snoc (l : List Pt) (p : Pt) : ptPs (l ++ [p]) = ptPs l ++ [p.cells] := by simp [ptPs_eq]

mutual
def Pt.size : Pt → Nat
 | .mk _ _ qs => 1 + Pt.sizes qs
def Pt.sizes : List Pt → Nat
 | [] => 0
 | p :: ps => p.size + Pt.sizes ps
end
theorem Pt.size_pos (p : Pt) : 0 < p.size := by cases p; simp only [Pt.size]; omega
theorem Pt.size_at {l : List Pt} {p : Pt} (h : p ∈ l) : p.size ≤ Pt.sizes l := by
 induction l with
 | nil => cases h
 | cons x l ih =>
  simp only [Pt.sizes]
  rcases List.mem_cons.1 h with rfl | h
  ·omega
  ·have := ih h; omega
theorem Pt.length_le (l : List Pt) : l.length ≤ Pt.sizes l := by
 induction l with
 | nil => simp [Pt.sizes]
 | cons x l ih => have := x.size_pos; simp only [Pt.sizes, List.length_cons]; omega

structure Cl where
 ps : List Pt
 b : Tm
def Cl.cells (c : Cl) : List PV := .sl 3 (ptPs c.ps) :: c.b.cells
abbrev Cl.av (c : Cl) : AV := .agg (c.cells.map .p)
abbrev clPs (l : List Cl) : List (List PV) := l.map Cl.cells
@[simp] theorem cl_len (c : Cl) : c.cells.length = 6 := by simp [Cl.cells]
@[simp] theorem take_clcells (c : Cl) : (c.cells.map AV.p).take 6 = c.cells.map .p := List.take_of_length_le (by simp)
def fieldsZ (env : List Dc) (s : List UInt8) : Dc × Int × Bool :=
 if (famZ env s).2.2 = true ∧ 0 ≤ (famZ env s).2.1 then ((famZ env s).1, fldZ (famZ env s).1 (famZ env s).2.1.toNat, true) else (zDc, 0, false)
theorem famZ_ok {env : List Dc} (s : List UInt8) : famZ env s = (zDc, 0, false) ∨ ∃ d a, famZ env s = (d, a, true) ∧ d ∈ env ∧ (a < 0 ∨ ∃ j : Nat, a = j ∧ j < d.cs.length) := by
 unfold famZ
 cases hz : findZ s env 0 with
 | none => exact .inl rfl
 | some e =>
  obtain ⟨j, d, h1, h2, h3, h4, h5⟩ := findZ_ok s env 0 e hz
  have hm := List.mem_of_getElem? h2
  simp only [Nat.zero_add] at h1
  have ha : (env[e.at_.toNat]?).getD zDc = d := by rw [h1, Int.toNat_natCast, h2]; rfl
  simp only [ha]
  by_cases e3 : e.k = 3
  ·rw [if_pos e3]; exact .inr ⟨d, -1, rfl, hm, .inl (by omega)⟩
  rw [if_neg e3]
  by_cases e4 : e.k = 4
  ·rw [if_pos e4]; exact .inr ⟨d, e.it, rfl, hm, .inr ⟨e.it.toNat, by omega, by have := h4 e4; omega⟩⟩
  rw [if_neg e4]
  by_cases e5 : e.k = 5
  ·rw [if_pos e5]; exact .inr ⟨d, -2, rfl, hm, .inl (by omega)⟩
  rw [if_neg e5]
  exact .inl rfl
theorem dc_one (d : Dc) : (d.cells.map AV.p).all oneA = true := by rw [List.all_map]; exact List.all_eq_true.2 fun _ _ => rfl
theorem dc_split (d : Dc) : ∃ a0 a1 a2 a3 a4 a5 a6 a7 a8 a9 a10 a11 a12 b0 b1 b2 b3 b4 b5 b6 b7, d.cells = [a0, a1, a2, a3, a4, a5, a6, a7, a8, a9, a10, a11, a12, iP d.fx, .sl 6 (d.cs.map Ct.cells), b0, b1, b2, b3, b4, b5, b6, b7] := by
 obtain ⟨k, nm, ps, ⟨k1, i1, n1, l1, s1⟩, ⟨k2, i2, n2, l2, s2⟩, fx, cs, rp, ⟨k3, i3, n3, l3, s3⟩, rr, fs⟩ := d
 simp only [Dc.cells, cells_mk, List.cons_append, List.nil_append]
 exact ⟨_, _, _, _, _, _, _, _, _, _, _, _, _, _, _, _, _, _, _, _, _, rfl⟩
abbrev zDcA : List AV := [iA 0, .p (sP []), iA 0, iA 0, iA 0, .p (sP []), .p (.prim (.slice none 0 0)), .p (.prim (.slice none 0 0)), iA 0, iA 0, .p (sP []), .p (.prim (.slice none 0 0)), .p (.prim (.slice none 0 0)), iA 0, .p (.prim (.slice none 0 0)), iA 0, iA 0, iA 0, .p (sP []), .p (.prim (.slice none 0 0)), .p (.prim (.slice none 0 0)), .p (.prim (.slice none 0 0)), .p (.prim (.slice none 0 0))]
theorem pfields_any (h : Heap) (hh : WF h) (env : List Dc) (s : List UInt8) (hg : Env.good env) (hn : Env.short env) : ACalls Tryz.prog 123 [envA env, .p (sP s)] h fun o h' => o = .ret (.tup [(fieldsZ env s).1.av, iA (fieldsZ env s).2.1, bA (fieldsZ env s).2.2]) ∧ h' = h := by
 have c1 := fun (g : Heap) (hw : WF g) => family_any g hw env s hg hn
 obtain ⟨r, hr⟩ : ∃ r, r = fieldsZ env s := ⟨_, rfl⟩
 rw [← hr]
 unfold fieldsZ at hr
 rcases famZ_ok (env := env) s with e | ⟨d, a, e, hm, hj⟩
 ·rw [e] at hr c1
  simp at hr
  subst hr
  simp only [zDc, Dc.av, Dc.cells, zT, cells_mk, List.map, lvPs, tmPs, List.cons_append, List.nil_append] at c1
  refine ACalls.of_run Tryz.func123 rfl ?_
  simp only [Tryz.ntmps123, List.length_cons, List.length_nil]
  refine nv ?_
  refine Run.reg fun K J => ?_
  simp
  refine J _ _ _ (nv ?_); clear J
  refine Run.reg fun K J => ?_
  simp
  refine J _ _ _ ?_; clear J
  refine rl rfl (by first | rfl | simp) (by simp) rfl (c1 _ (hh.app (by simp))) ?_
  refine Run.ops fun K J => ?_
  simp
  refine J _ _ _ (nv ?_); clear J
  refine Run.reg fun K J => ?_
  simp
  refine J _ _ _ (nv ?_); clear J
  refine ct (by simp) (nv ?_)
  refine Run.reg fun K J => ?_
  simp
  refine J _ _ _ (nv ?_); clear J
  refine Run.ret ?_
  exact Fin.ret' (h0 := h) (xs := [.agg zDcA, iA 0, bA false]) (by simp) rfl hh rfl (by simp) rfl (y := .tup [zDc.av, iA 0, bA false]) (Weak.tup (WeakL.cons dc_weak0 (WeakL.refl _))) (by simp [zDc, Dc.av, Dc.cells, zT]) ⟨rfl, rfl⟩
 ·have hdl := dc_cells_len d
  obtain ⟨a0, a1, a2, a3, a4, a5, a6, a7, a8, a9, a10, a11, a12, b0, b1, b2, b3, b4, b5, b6, b7, hsp⟩ := dc_split d
  rw [e] at hr c1
  simp only [Dc.av, hsp, List.map] at c1
  rcases hj with ha | ⟨j, rfl, hj⟩
  ·have ha' : ¬ 0 ≤ a := by omega
   simp only [ha', and_false, if_false] at hr
   subst hr
   refine ACalls.of_run Tryz.func123 rfl ?_
   simp only [Tryz.ntmps123, List.length_cons, List.length_nil]
   refine nv ?_
   refine Run.reg fun K J => ?_
   simp
   refine J _ _ _ (nv ?_); clear J
   refine Run.reg fun K J => ?_
   simp
   refine J _ _ _ ?_; clear J
   refine rl rfl (by first | rfl | simp) (by simp) rfl (c1 _ (hh.app (by simp))) ?_
   refine Run.ops fun K J => ?_
   simp
   refine J _ _ _ (nv ?_); clear J
   refine Run.reg fun K J => ?_
   simp [ha]
   refine J _ _ _ (nv ?_); clear J
   refine ct (by simp) (nv ?_)
   refine Run.reg fun K J => ?_
   simp
   refine J _ _ _ (nv ?_); clear J
   refine Run.ret ?_
   exact Fin.ret' (h0 := h) (xs := [.agg zDcA, iA 0, bA false]) (by simp) rfl hh rfl (by simp) rfl (y := .tup [zDc.av, iA 0, bA false]) (Weak.tup (WeakL.cons dc_weak0 (WeakL.refl _))) (by simp [zDc, Dc.av, Dc.cells, zT]) ⟨rfl, rfl⟩
  ·have hgj : d.cs[j]? = some d.cs[j] := List.getElem?_eq_getElem hj
   have hgd := (hg.2 d hm).cs _ (List.getElem_mem hj)
   have c2 := fun (g : Heap) (hw : WF g) => all69_any g hw d.cs[j].ty hgd.1
   have hz : fldZ d j = fldC d.fx d.cs[j].ty := by unfold fldZ; rw [hgj]
   simp only [Int.toNat_natCast, hz, fldC, show (0 : Int) ≤ j by omega, and_self, if_true] at hr
   generalize d.cs[j] = c at hgj c2 hr
   generalize resAll c.ty = q at c2 hr
   obtain ⟨qs, ⟨u1, u2, u3, u4, u5⟩⟩ := q
   obtain ⟨x, ⟨k4, i4, n4, l4, s4⟩⟩ := c
   simp only [Tm.av, cells_mk, List.map] at c2
   have hcz : ¬ (j : Int) < 0 := by omega
   refine ACalls.of_run Tryz.func123 rfl ?_
   simp only [Tryz.ntmps123, List.length_cons, List.length_nil]
   refine nv ?_
   refine Run.reg fun K J => ?_
   simp
   refine J _ _ _ (nv ?_); clear J
   refine Run.reg fun K J => ?_
   simp
   refine J _ _ _ ?_; clear J
   refine rl rfl (by first | rfl | simp) (by simp) rfl (c1 _ (hh.app (by simp))) ?_
   refine Run.ops fun K J => ?_
   simp
   refine J _ _ _ (nv ?_); clear J
   refine Run.reg fun K J => ?_
   simp
   refine J _ _ _ (nv ?_); clear J
   refine cf (by simp) (nv ?_)
   refine Run.reg fun K J => ?_
   simp [hgj, Ct.cells]
   refine J _ _ _ ?_; clear J
   refine rl rfl (by first | rfl | simp) (by simp) rfl (c2 _ (hh.app (by simp))) ?_
   refine Run.ops fun K J => ?_
   simp
   refine J _ _ _ (nv ?_); clear J
   refine Run.draw [0, 0, 0, 0, 0, 0, 0, 0, 1, 1] [0, 0, 0, 0, 0, 0, 0, 0, 0, 0] [0, 0, 2, 0, 8, 30, 62, 1, 255, 511] [0, 7, 1, 2, 3, 4, 5, 6, 8, 9] (by kernel_rfl) (by kernel_rfl) ?_
   refine DR.go fun K J => ?_
   simp
   refine J _ _ _ _ ?_; clear J
   change Run _ _ _ _ _ _ _ _
   refine Run.ret ?_
   exact Fin.ret' (h0 := h) (by simp) rfl hh rfl (by simp; rfl) rfl (Weak.refl _) (by simp) ⟨by rw [hr]; simp only [Dc.av, hsp]; rfl, rfl⟩


open Go Go.AI
theorem rfields_any (h : Heap) (hh : WF h) (env : List Dc) (s : List UInt8) (hg : Env.good env) (hn : Env.short env) : ACalls Tryz.prog 175 [envA env, .p (sP s)] h fun o h' => o = .ret (.tup [iA (fieldsZ env s).2.1, bA (fieldsZ env s).2.2]) ∧ h' = h := by
 have c1 := fun (g : Heap) (hw : WF g) => refFamily_any g hw env s hg hn
 obtain ⟨r, hr⟩ : ∃ r, r = (fieldsZ env s).2 := ⟨_, rfl⟩
 rw [← hr]
 unfold fieldsZ at hr
 rcases famZ_ok (env := env) s with e | ⟨d, a, e, hm, hj⟩
 ·rw [e] at hr c1
  simp at hr
  subst hr
  simp only [zDc, Dc.av, Dc.cells, zT, cells_mk, List.map, lvPs, tmPs, List.cons_append, List.nil_append] at c1
  refine ACalls.of_run Tryz.func175 rfl ?_
  simp only [Tryz.ntmps175, List.length_cons, List.length_nil]
  refine nv ?_
  refine Run.reg fun K J => ?_
  simp
  refine J _ _ _ (nv ?_); clear J
  refine Run.reg fun K J => ?_
  simp
  refine J _ _ _ ?_; clear J
  refine Run.call rfl (by first | rfl | simp) (by simp) rfl (c1 _ hh) ?_ ?_
  rotate_left
  ·rintro v h' ⟨hv, _⟩; cases hv
  rintro v h' ⟨hv, rfl⟩
  simp only [AOut.ret.injEq] at hv
  subst hv
  refine Run.ops fun K J => ?_
  simp
  refine J _ _ _ (nv ?_); clear J
  refine Run.reg fun K J => ?_
  simp
  refine J _ _ _ (nv ?_); clear J
  refine ct (by simp) (nv ?_)
  refine Run.reg fun K J => ?_
  simp
  refine J _ _ _ (nv ?_); clear J
  refine Run.ret ?_
  exact Fin.ret' (by simp) rfl hh rfl (by simp; rfl) rfl (Weak.refl _) (by simp) ⟨rfl, rfl⟩
 ·have hdl := dc_cells_len d
  have c2 := fun (j : Nat) (hj : j < d.cs.length) (g : Heap) (hw : WF g) => fields_any g hw d (hg.2 d hm) j hj
  obtain ⟨a0, a1, a2, a3, a4, a5, a6, a7, a8, a9, a10, a11, a12, b0, b1, b2, b3, b4, b5, b6, b7, hsp⟩ := dc_split d
  rw [e] at hr c1
  simp only [Dc.av, hsp, List.map] at c1 c2
  rcases hj with ha | ⟨j, rfl, hj⟩
  ·have ha' : ¬ 0 ≤ a := by omega
   simp only [ha', and_false, if_false] at hr
   subst hr
   refine ACalls.of_run Tryz.func175 rfl ?_
   simp only [Tryz.ntmps175, List.length_cons, List.length_nil]
   refine nv ?_
   refine Run.reg fun K J => ?_
   simp
   refine J _ _ _ (nv ?_); clear J
   refine Run.reg fun K J => ?_
   simp
   refine J _ _ _ ?_; clear J
   refine Run.call rfl (by first | rfl | simp) (by simp) rfl (c1 _ hh) ?_ ?_
   rotate_left
   ·rintro v h' ⟨hv, _⟩; cases hv
   rintro v h' ⟨hv, rfl⟩
   simp only [AOut.ret.injEq] at hv
   subst hv
   refine Run.ops fun K J => ?_
   simp
   refine J _ _ _ (nv ?_); clear J
   refine Run.reg fun K J => ?_
   simp [ha]
   refine J _ _ _ (nv ?_); clear J
   refine ct (by simp) (nv ?_)
   refine Run.reg fun K J => ?_
   simp
   refine J _ _ _ (nv ?_); clear J
   refine Run.ret ?_
   exact Fin.ret' (by simp) rfl hh rfl (by simp; rfl) rfl (Weak.refl _) (by simp) ⟨rfl, rfl⟩
  ·simp only [Int.toNat_natCast, show (0 : Int) ≤ j by omega, and_self, if_true] at hr
   subst hr
   have hcz : ¬ (j : Int) < 0 := by omega
   refine ACalls.of_run Tryz.func175 rfl ?_
   simp only [Tryz.ntmps175, List.length_cons, List.length_nil]
   refine nv ?_
   refine Run.reg fun K J => ?_
   simp
   refine J _ _ _ (nv ?_); clear J
   refine Run.reg fun K J => ?_
   simp
   refine J _ _ _ ?_; clear J
   refine Run.call rfl (by first | rfl | simp) (by simp) rfl (c1 _ hh) ?_ ?_
   rotate_left
   ·rintro v h' ⟨hv, _⟩; cases hv
   rintro v h' ⟨hv, rfl⟩
   simp only [AOut.ret.injEq] at hv
   subst hv
   refine Run.ops fun K J => ?_
   simp
   refine J _ _ _ (nv ?_); clear J
   refine Run.reg fun K J => ?_
   simp
   refine J _ _ _ (nv ?_); clear J
   refine cf (by simp) (nv ?_)
   refine Run.reg fun K J => ?_
   simp
   refine J _ _ _ ?_; clear J
   refine rl rfl (by first | rfl | simp) (by simp) rfl (c2 j hj _ (hh.app (by simp))) ?_
   refine Run.ops fun K J => ?_
   simp
   refine J _ _ _ (nv ?_); clear J
   refine Run.ret ?_
   exact Fin.ret' (by simp) rfl hh rfl (by simp; rfl) rfl (Weak.refl _) (by simp) ⟨rfl, rfl⟩

mutual
def chkP (env : List Dc) : Pt → Int
 | .mk k n qs => if k = 0 ∨ k = 2 ∨ k = 3 then (if n = [] ∧ qs = [] then 0 else 3)
  else if k = 1 then (if (fieldsZ env n).2.2 = false then 9 else if (qs.length : Int) = (fieldsZ env n).2.1 then chkPs env qs else 6)
  else 3
def chkPs (env : List Dc) : List Pt → Int
 | [] => 0
 | p :: ps => if chkP env p = 0 then chkPs env ps else chkP env p
end
theorem chkPs_at (env : List Dc) : ∀ (ls : List Pt) (j : Nat) (l : Pt), chkPs env (ls.take j) = 0 → ls[j]? = some l → chkP env l ≠ 0 → chkPs env ls = chkP env l
 | [], j, l, _, h, _ => by simp at h
 | x :: ls, 0, l, _, h, he => by
  simp at h; subst h
  simp only [chkPs, if_neg he]
 | x :: ls, j + 1, l, h0, h, he => by
  simp only [List.take_succ_cons, chkPs] at h0
  by_cases c : chkP env x = 0
  ·rw [if_pos c] at h0
   simp only [chkPs, if_pos c]
   exact chkPs_at env ls j l h0 (by simpa using h) he
  ·rw [if_neg c] at h0; exact absurd h0 c
theorem chkPs_snoc (env : List Dc) : ∀ (ls : List Pt) (j : Nat) (l : Pt), chkPs env (ls.take j) = 0 → ls[j]? = some l → chkP env l = 0 → chkPs env (ls.take (j + 1)) = 0
 | [], j, l, _, h, _ => by simp at h
 | x :: ls, 0, l, _, h, he => by
  simp at h; subst h
  simp [chkPs, he]
 | x :: ls, j + 1, l, h0, h, he => by
  simp only [List.take_succ_cons, chkPs] at h0 ⊢
  by_cases c : chkP env x = 0
  ·rw [if_pos c] at h0 ⊢
   exact chkPs_snoc env ls j l h0 (by simpa using h) he
  ·rw [if_neg c] at h0; exact absurd h0 c
theorem rcheckAll_any (h : Heap) (hh : WF h) (env : List Dc) (l : List Pt) (hl : l.length ≤ 1048576)
  (hc : ∀ p ∈ l, ∀ g, WF g → ACalls Tryz.prog 125 [envA env, p.av] g fun o h' => o = .ret (iA (chkP env p)) ∧ h' = g) :
  ACalls Tryz.prog 72 [envA env, .p (.sl 3 (ptPs l))] h fun o h' => o = .ret (iA (chkPs env l)) ∧ h' = h := by
 refine ACalls.of_run Tryz.func72 rfl ?_
 simp only [Tryz.ntmps72, List.length_cons, List.length_nil]
 refine nv ?_
 refine Run.reg fun K J => ?_
 simp
 refine J _ _ _ (nv ?_); clear J
 refine Run.reg fun K J => ?_
 simp
 refine J _ _ _ (nv ?_); clear J
 refine Run.loopS [0, 1] (fun j : Nat => j ≤ l.length ∧ chkPs env (l.take j) = 0) (fun j => l.length - j) (fun j => [(5, iA j)]) (fun _ => _) 0 (by simp [chkPs]) ?_ rfl ?_
 ·simp
  repeat' first | exact wn | apply wc | exact wj _ | exact wr _ | exact wz _ | exact wo _ _ _ | exact wi (by omega)
 rintro j ⟨hj, hall⟩ IH
 simp
 refine nv ?_
 refine Run.reg fun K J => ?_
 simp
 refine J _ _ _ (nv ?_); clear J
 by_cases hjl : j < l.length
 ·have hg : l[j]? = some l[j] := List.getElem?_eq_getElem hjl
  have hcj := hc _ (List.getElem_mem hjl)
  have ha := chkPs_at env l j _ hall hg
  have hs := chkPs_snoc env l j _ hall hg
  generalize l[j] = p at hg hcj ha hs
  generalize chkP env p = e at hcj ha hs
  refine ct (by simp [hjl]) (nv ?_)
  refine Run.reg fun K J => ?_
  simp [hg]
  refine J _ _ _ ?_; clear J
  refine Run.call (args := [envA env, p.av]) rfl (by first | rfl | simp) (by simp) rfl (hcj _ hh) ?_ ?_
  rotate_left
  ·rintro v h' ⟨hv, _⟩; cases hv
  rintro v h' ⟨hv, rfl⟩
  simp only [AOut.ret.injEq] at hv
  subst hv
  refine Run.ops fun K J => ?_
  simp
  refine J _ _ _ (nv ?_); clear J
  refine Run.reg fun K J => ?_
  simp
  refine J _ _ _ (nv ?_); clear J
  by_cases he : e = 0
  ·skip
   refine cf (by simp [he]) (nv ?_)
   refine Run.reg fun K J => ?_
   simp
   try (simp (disch := omega) only [wrap_id])
   refine J _ _ _ (nv ?_); clear J
   refine IH (j + 1) _ _ ⟨by omega, hs he⟩ (by omega) ?_ rfl
   simp
   repeat' first | exact wn | apply wc | exact wj _ | exact wr _ | exact wz _ | exact wo _ _ _ | exact wi (by omega)
  ·rw [ha he]
   refine ct (by simp [he]) (nv ?_)
   refine Run.reg fun K J => ?_
   simp
   refine J _ _ _ (nv ?_); clear J
   refine Run.ret ?_
   exact Fin.ret' (by simp) rfl hh (List.append_nil _).symm rfl rfl (Weak.refl _) rfl ⟨rfl, rfl⟩
 ·have hje : j = l.length := by omega
  subst hje
  rw [List.take_length] at hall
  rw [hall]
  refine cf (by simp) ?_
  refine Run.exit rfl ?_
  refine nv ?_
  refine Run.reg fun K J => ?_
  simp
  refine J _ _ _ (nv ?_); clear J
  refine Run.ret ?_
  exact Fin.ret' (by simp) rfl hh (List.append_nil _).symm rfl rfl (Weak.refl _) rfl ⟨rfl, rfl⟩
theorem rcheck_any (env : List Dc) (hg : Env.good env) (hn : Env.short env) (N : Nat) : ∀ (p : Pt), p.size ≤ N → p.size ≤ 1048576 → ∀ h, WF h → ACalls Tryz.prog 125 [envA env, p.av] h fun o h' => o = .ret (iA (chkP env p)) ∧ h' = h := by
 induction N with
 | zero => intro p hp; have := p.size_pos; omega
 | succ N ih =>
 intro p hN hB h hh
 obtain ⟨k, n, qs⟩ := p
 simp only [Pt.size] at hN hB
 have hql := Pt.length_le qs
 have c1 := fun (g : Heap) (hw : WF g) => rfields_any g hw env n hg hn
 have c2 := fun (g : Heap) (hw : WF g) => rcheckAll_any g hw env qs (by omega) fun p hp g hw => ih p (by have := Pt.size_at hp; omega) (by have := Pt.size_at hp; omega) g hw
 obtain ⟨r, hr⟩ : ∃ r, chkP env (.mk k n qs) = r := ⟨_, rfl⟩
 rw [hr]
 simp only [chkP] at hr
 generalize chkPs env qs = e at c2 hr
 generalize (fieldsZ env n).2.1 = m at c1 hr
 generalize (fieldsZ env n).2.2 = ok at c1 hr
 simp only [Pt.av, pcells_mk, List.map]
 have hkc : (k < 0 ∨ 3 < k) ∨ (k = 0 ∨ k = 2 ∨ k = 3) ∨ k = 1 := by omega
 rcases hkc with hk | hk | rfl
 ·have e1 : ¬ (k = 0 ∨ k = 2 ∨ k = 3) := by omega
  rw [if_neg e1, if_neg (by omega)] at hr
  subst hr
  refine ACalls.of_run Tryz.func125 rfl ?_
  simp only [Tryz.ntmps125, List.length_cons, List.length_nil]
  refine nv ?_
  refine Run.reg fun K J => ?_
  simp
  refine J _ _ _ (nv ?_); clear J
  rcases hk with hk | hk
  ·skip
   refine Run.reg fun K J => ?_
   simp [hk]
   refine J _ _ _ (nv ?_); clear J
   refine ct (by simp) (nv ?_)
   refine Run.reg fun K J => ?_
   simp
   refine J _ _ _ (nv ?_); clear J
   refine Run.ret ?_
   exact Fin.ret' (by simp) rfl hh rfl (by simp; rfl) rfl (Weak.refl _) (by simp) ⟨rfl, rfl⟩
  ·have hk0 : ¬ k < 0 := by omega
   refine Run.reg fun K J => ?_
   simp [hk, hk0]
   refine J _ _ _ (nv ?_); clear J
   refine ct (by simp) (nv ?_)
   refine Run.reg fun K J => ?_
   simp
   refine J _ _ _ (nv ?_); clear J
   refine Run.ret ?_
   exact Fin.ret' (by simp) rfl hh rfl (by simp; rfl) rfl (Weak.refl _) (by simp) ⟨rfl, rfl⟩
 ·rw [if_pos hk] at hr
  have hk0 : ¬ k < 0 := by omega
  have hk3 : ¬ 3 < k := by omega
  have hk1 : (k == 1) = false := by simp; omega
  have hk1' : (k != 1) = true := by simp; omega
  refine ACalls.of_run Tryz.func125 rfl ?_
  simp only [Tryz.ntmps125, List.length_cons, List.length_nil]
  refine nv ?_
  refine Run.reg fun K J => ?_
  simp
  refine J _ _ _ (nv ?_); clear J
  by_cases hn0 : n = []
  ·by_cases hq0 : qs = []
   ·rw [if_pos ⟨hn0, hq0⟩] at hr
    subst hr
    subst hn0 hq0
    refine Run.reg fun K J => ?_
    simp [hk0, hk3, hk1']
    refine J _ _ _ (nv ?_); clear J
    refine cf (by simp) (nv ?_)
    refine Run.reg fun K J => ?_
    simp [hk1']
    refine J _ _ _ (nv ?_); clear J
    refine ct (by simp) (nv ?_)
    refine Run.reg fun K J => ?_
    simp
    refine J _ _ _ (nv ?_); clear J
    refine Run.ret ?_
    exact Fin.ret' (by simp) rfl hh rfl (by simp; rfl) rfl (Weak.refl _) (by simp) ⟨rfl, rfl⟩
   ·rw [if_neg fun x => hq0 x.2] at hr
    subst hr
    subst hn0
    have hq1 : 0 < qs.length := List.length_pos_iff.2 hq0
    refine Run.reg fun K J => ?_
    simp [hk0, hk3, hk1', hq1]
    refine J _ _ _ (nv ?_); clear J
    refine ct (by simp) (nv ?_)
    refine Run.reg fun K J => ?_
    simp
    refine J _ _ _ (nv ?_); clear J
    refine Run.ret ?_
    exact Fin.ret' (by simp) rfl hh rfl (by simp; rfl) rfl (Weak.refl _) (by simp) ⟨rfl, rfl⟩
  ·rw [if_neg fun x => hn0 x.1] at hr
   subst hr
   have hne : n.isEmpty = false := by cases n <;> simp_all
   refine Run.reg fun K J => ?_
   simp [hk0, hk3, hk1', hne]
   refine J _ _ _ (nv ?_); clear J
   refine ct (by simp) (nv ?_)
   refine Run.reg fun K J => ?_
   simp
   refine J _ _ _ (nv ?_); clear J
   refine Run.ret ?_
   exact Fin.ret' (by simp) rfl hh rfl (by simp; rfl) rfl (Weak.refl _) (by simp) ⟨rfl, rfl⟩
 ·rw [if_neg (by omega), if_pos rfl] at hr
  refine ACalls.of_run Tryz.func125 rfl ?_
  simp only [Tryz.ntmps125, List.length_cons, List.length_nil]
  refine nv ?_
  refine Run.reg fun K J => ?_
  simp
  refine J _ _ _ (nv ?_); clear J
  refine Run.reg fun K J => ?_
  simp
  refine J _ _ _ (nv ?_); clear J
  refine cf (by simp) (nv ?_)
  refine Run.reg fun K J => ?_
  simp
  refine J _ _ _ (nv ?_); clear J
  refine cf (by simp) (nv ?_)
  refine Run.reg fun K J => ?_
  simp
  refine J _ _ _ ?_; clear J
  refine rl rfl (by first | rfl | simp) (by simp) rfl (c1 _ (hh.app (by simp))) ?_
  refine Run.ops fun K J => ?_
  simp
  refine J _ _ _ (nv ?_); clear J
  refine Run.reg fun K J => ?_
  simp
  refine J _ _ _ (nv ?_); clear J
  cases ok with
  | false =>
   rw [if_pos rfl] at hr
   subst hr
   refine ct (by simp) (nv ?_)
   refine Run.reg fun K J => ?_
   simp
   refine J _ _ _ (nv ?_); clear J
   refine Run.ret ?_
   exact Fin.ret' (by simp) rfl hh rfl (by simp; rfl) rfl (Weak.refl _) (by simp) ⟨rfl, rfl⟩
  | true =>
   rw [if_neg (by simp)] at hr
   refine cf (by simp) (nv ?_)
   by_cases hm : (qs.length : Int) = m
   ·rw [if_pos hm] at hr
    subst hr
    have hm' : ((qs.length : Int) != m) = false := by simp [hm]
    refine Run.reg fun K J => ?_
    simp
    refine J _ _ _ (nv ?_); clear J
    refine cf (by simp [hm']) (nv ?_)
    refine Run.reg fun K J => ?_
    simp
    refine J _ _ _ ?_; clear J
    refine rl rfl (by first | rfl | simp) (by simp) rfl (c2 _ (hh.app (by simp))) ?_
    refine Run.ops fun K J => ?_
    simp
    refine J _ _ _ (nv ?_); clear J
    refine Run.ret ?_
    exact Fin.ret' (by simp) rfl hh rfl (by simp; rfl) rfl (Weak.refl _) (by simp) ⟨rfl, rfl⟩
   ·rw [if_neg hm] at hr
    subst hr
    have hm' : ((qs.length : Int) != m) = true := by simp [hm]
    refine Run.reg fun K J => ?_
    simp
    refine J _ _ _ (nv ?_); clear J
    refine ct (by simp [hm']) (nv ?_)
    refine Run.reg fun K J => ?_
    simp
    refine J _ _ _ (nv ?_); clear J
    refine Run.ret ?_
    exact Fin.ret' (by simp) rfl hh rfl (by simp; rfl) rfl (Weak.refl _) (by simp) ⟨rfl, rfl⟩
theorem rcheckL_any (env : List Dc) (hg : Env.good env) (hn : Env.short env) (l : List Pt) (hB : Pt.sizes l ≤ 1048576) (h : Heap) (hh : WF h) : ACalls Tryz.prog 72 [envA env, .p (.sl 3 (ptPs l))] h fun o h' => o = .ret (iA (chkPs env l)) ∧ h' = h :=
 rcheckAll_any h hh env l (by have := Pt.length_le l; omega) fun p hp g hw => rcheck_any env hg hn p.size p (Nat.le_refl _) (by have := Pt.size_at hp; omega) g hw

end Go.Proofs.YtcfcolkbeelegaaGreat
