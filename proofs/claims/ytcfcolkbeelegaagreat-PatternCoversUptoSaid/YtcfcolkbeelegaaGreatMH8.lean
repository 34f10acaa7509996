/-
  Patterns and clauses among the arguments.
-/
import Derived.Test.YtcfcolkbeelegaaGreatMPL
import Derived.Test.YtcfcolkbeelegaaGreatMPD
import Derived.Test.YtcfcolkbeelegaaGreatMFE

namespace Go.Proofs.YtcfcolkbeelegaaGreat

open Go Go.AI
def clBad (env : List Dc) (n : Nat) (c : Cl) : Bool := decide (c.ps.length ≠ n) || (chkPs env c.ps != 0)
def clOk (env : List Dc) (n : Nat) (cls : List Cl) (j : Nat) : Bool := match cls[j]? with | some c => !clBad env n c | none => true
def coversB (env : List Dc) (cls : List Cl) (v : List Pt) : Bool :=
 if (decide (chkPs env v ≠ 0) || hasKs 3 v) = true then false else if allTo (clOk env v.length cls) cls.length = false then false else covF env cls (openC cls v + 1) v
theorem clOk_at {env : List Dc} {n : Nat} {cls : List Cl} {j : Nat} {c : Cl} (h : cls[j]? = some c) : clOk env n cls j = !clBad env n c := by unfold clOk; rw [h]

structure PSmall (cls : List Cl) (v : List Pt) : Prop where
 cl : cls.length ≤ 1048576
 cs : ∀ c ∈ cls, Pt.sizes c.ps ≤ 1048576
 vs : Pt.sizes v ≤ 1048576
theorem psz_len : ∀ l : List Pt, l.length ≤ Pt.sizes l
 | [] => by simp
 | p :: l => by have := psz_len l; have := p.size_pos; simp only [Pt.sizes, List.length_cons]; omega
set_option maxRecDepth 8000 in
set_option maxHeartbeats 8000000 in
theorem cov76_any (env : List Dc) (hg : Env.good env) (hn : Env.short env) (v : List Pt) (_hv : v.length ≤ 1048576) (c : Cl) (hc : Pt.sizes c.ps ≤ 1048576) (h : Heap) (hh : WF h) (p q : Nat) (hp : h[p]? = some (some (.cells [.p (.sl 3 (ptPs v))]))) (hq : h[q]? = some (some (.cells [envA env]))) :
  ACalls Tryz.prog 76 [c.av, .ptr p 0, .ptr q 0] h fun o h' => o = .ret (bA (clBad env v.length c)) ∧ h' = h := by
 have hpl := (List.getElem?_eq_some_iff.1 hp).1
 have hql := (List.getElem?_eq_some_iff.1 hq).1
 have hp' : ∀ l : List (Option AO), (h ++ l)[p]? = some (some (.cells [.p (.sl 3 (ptPs v))])) := fun l => by rw [List.getElem?_append_left hpl]; exact hp
 have hq' : ∀ l : List (Option AO), (h ++ l)[q]? = some (some (.cells [envA env])) := fun l => by rw [List.getElem?_append_left hql]; exact hq
 have c1 := fun (g : Heap) (hw : WF g) => pcheck_any env hg hn _ c.ps (Nat.le_refl _) hc g hw
 have hcl := psz_len c.ps
 obtain ⟨ps, ⟨k, i, nm, ls, ks⟩⟩ := c
 simp only at c1 hc hcl
 obtain ⟨e, he⟩ : ∃ e, chkPs env ps = e := ⟨_, rfl⟩
 rw [he] at c1
 simp only [Cl.av, Cl.cells, cells_mk, List.map]
 refine ACalls.of_run Tryz.func76 rfl ?_
 simp only [Tryz.ntmps76, List.length_cons, List.length_nil]
 refine nv ?_
 refine Run.reg fun K hK => ?_
 simp
 try (simp (disch := omega) only [wrap_id])
 refine hK _ _ _ (nv ?_); clear hK K
 by_cases h1 : ps.length = v.length
 ·have hr : clBad env v.length ⟨ps, .mk k i nm ls ks⟩ = (e != 0) := by simp [clBad, h1, he]
  rw [hr]
  refine nv ?_
  refine Run.reg fun K hK => ?_
  simp [hp', hq', h1]
  try (simp (disch := omega) only [wrap_id])
  refine hK _ _ _ (nv ?_); clear hK K
  refine rc rfl (by first | rfl | simp) (by simp) rfl (c1 _ (hh.app (by simp))) ?_
  refine Run.ops fun K hK => ?_
  simp
  try (simp (disch := omega) only [wrap_id])
  refine hK _ _ _ (nv ?_); clear hK K
  refine Run.ret ?_
  exact Fin.ret' (h0 := h) (by simp) rfl hh rfl (by simp; rfl) rfl (Weak.refl _) (by simp) ⟨rfl, rfl⟩
 ·have hr : clBad env v.length ⟨ps, .mk k i nm ls ks⟩ = true := by simp [clBad, h1]
  rw [hr]
  have h1b : ((ps.length : Int) != (v.length : Int)) = true := by simp; omega
  refine nv ?_
  refine Run.reg fun K hK => ?_
  simp [hp', h1b]
  try (simp (disch := omega) only [wrap_id])
  refine hK _ _ _ (nv ?_); clear hK K
  refine Run.ret ?_
  exact Fin.ret' (h0 := h) (by simp) rfl hh rfl (by simp; rfl) rfl (Weak.refl _) (by simp) ⟨by simp, rfl⟩
def anyBad (env : List Dc) (n : Nat) (cls : List Cl) : Bool := !allTo (clOk env n cls) cls.length
set_option maxRecDepth 8000 in
set_option maxHeartbeats 8000000 in
theorem ix129_any (env : List Dc) (hg : Env.good env) (hn : Env.short env) (v : List Pt) (cls : List Cl) (hs : PSmall cls v) (h : Heap) (hh : WF h) (p q : Nat) (hp : h[p]? = some (some (.cells [.p (.sl 3 (ptPs v))]))) (hq : h[q]? = some (some (.cells [envA env]))) :
  ACalls Tryz.prog 129 [.p (.sl 6 (clPs cls)), .fn (.func 76) [] [.ptr p 0, .ptr q 0]] h fun o h' => ∃ r : Int, o = .ret (iA r) ∧ h' = h ∧ decide (0 ≤ r) = anyBad env v.length cls := by
 have hcl := hs.cl
 have hvl := psz_len v
 have hvs := hs.vs
 refine ACalls.of_run Tryz.func129 rfl ?_
 simp only [Tryz.ntmps129, List.length_cons, List.length_nil]
 refine nv ?_
 refine Run.reg fun K hK => ?_
 simp
 try (simp (disch := omega) only [wrap_id])
 refine hK _ _ _ (nv ?_); clear hK K
 refine Run.reg fun K hK => ?_
 simp
 try (simp (disch := omega) only [wrap_id])
 refine hK _ _ _ (nv ?_); clear hK K
 refine Run.loopS [0, 1, 6, 7] (fun j : Nat => j ≤ cls.length ∧ allTo (clOk env v.length cls) j = true) (fun j => cls.length - j) (fun j => [(8, iA j)]) (fun _ => _) 0 (by simp [allTo]) ?_ rfl ?_
 ·simp
  repeat' (first | exact WeakL.nil | apply WeakL.cons)
  all_goals first | exact Weak.junk _ | exact Weak.refl _ | exact Weak.nil _ | exact Weak.own _ _ _ | exact Weak.int (by omega)
 ·rintro j ⟨hj, hall⟩ IH
  simp
  refine nv ?_
  refine Run.reg fun K hK => ?_
  simp
  try (simp (disch := omega) only [wrap_id])
  refine hK _ _ _ (nv ?_); clear hK K
  by_cases hjl : j < cls.length
  ·have hgj : cls[j]? = some cls[j] := List.getElem?_eq_getElem hjl
   have hmem := List.getElem_mem hjl
   generalize cls[j] = c at hgj hmem
   have c1 := cov76_any env hg hn v (by omega) c (hs.cs c hmem) h hh p q hp hq
   have hok := clOk_at (env := env) (n := v.length) hgj
   obtain ⟨b, hb⟩ : ∃ b, clBad env v.length c = b := ⟨_, rfl⟩
   rw [hb] at c1 hok
   obtain ⟨ps, ⟨k, i, nm, ls, ks⟩⟩ := c
   simp only [Cl.av, Cl.cells, cells_mk, List.map] at c1
   refine nv ?_
   refine ct (by simp [hjl]) (nv ?_)
   refine Run.reg fun K hK => ?_
   simp
   try (simp (disch := omega) only [wrap_id])
   refine hK _ _ _ (nv ?_); clear hK K
   refine Run.reg fun K hK => ?_
   simp [hgj, Cl.cells]
   try (simp (disch := omega) only [wrap_id])
   refine hK _ _ _ (nv ?_); clear hK K
   refine Run.call rfl (by first | rfl | simp) (by simp) rfl (c1) ?_ ?_
   rotate_left
   ·rintro v h' ⟨hv, _⟩; cases hv
   rintro v h' ⟨hv, rfl⟩
   simp only [AOut.ret.injEq] at hv
   subst hv
   refine Run.ops fun K hK => ?_
   simp
   try (simp (disch := omega) only [wrap_id])
   refine hK _ _ _ (nv ?_); clear hK K
   cases b with
   | true =>
    refine nv ?_
    refine ct (by simp) (nv ?_)
    repeat (first | refine nw ?_ | (refine Run.reg fun K hK => ?_; simp; (try (simp (disch := omega) only [wrap_id])); refine hK _ _ _ ?_; clear hK K) | refine ct rfl ?_ | refine cf rfl ?_ | refine Run.exit rfl ?_ | refine Run.ret ?_)
    have := allTo_false hjl hok
    exact Fin.ret' (by simp) rfl hh (List.append_nil _).symm rfl rfl (Weak.refl _) rfl ⟨j, rfl, rfl, by simp [anyBad, this]⟩
   | false =>
    refine nv ?_
    refine cf (by simp) (nv ?_)
    refine Run.reg fun K hK => ?_
    simp
    try (simp (disch := omega) only [wrap_id])
    refine hK _ _ _ (nv ?_); clear hK K
    refine IH (j + 1) _ _ ⟨by omega, by rw [allTo_succ, hall, hok]; rfl⟩ (by omega) ?_ rfl
    simp
    repeat' (first | exact WeakL.nil | apply WeakL.cons)
    all_goals first | exact Weak.junk _ | exact Weak.refl _ | exact Weak.nil _ | exact Weak.own _ _ _ | exact Weak.int (by omega)
  ·have hje : j = cls.length := by omega
   subst hje
   refine nv ?_
   refine cf (by simp) (nv ?_)
   refine Run.exit rfl ?_
   refine nv ?_
   repeat (first | refine nw ?_ | (refine Run.reg fun K hK => ?_; simp; (try (simp (disch := omega) only [wrap_id])); refine hK _ _ _ ?_; clear hK K) | refine ct rfl ?_ | refine cf rfl ?_ | refine Run.exit rfl ?_ | refine Run.ret ?_)
   exact Fin.ret' (by simp) rfl hh (List.append_nil _).symm rfl rfl (Weak.refl _) rfl ⟨-1, rfl, rfl, by simp [anyBad, hall]⟩
set_option maxRecDepth 8000 in
theorem cf75_any (env : List Dc) (hg : Env.good env) (hn : Env.short env) (v : List Pt) (cls : List Cl) (hs : PSmall cls v) (h : Heap) (hh : WF h) (p q : Nat) (hp : h[p]? = some (some (.cells [.p (.sl 3 (ptPs v))]))) (hq : h[q]? = some (some (.cells [envA env]))) :
  ACalls Tryz.prog 75 [.p (.sl 6 (clPs cls)), .fn (.func 76) [] [.ptr p 0, .ptr q 0]] h fun o h' => o = .ret (bA (anyBad env v.length cls)) ∧ h' = h := by
 refine ACalls.of_run Tryz.func75 rfl ?_
 simp only [Tryz.ntmps75, List.length_cons, List.length_nil]
 refine nv ?_
 refine Run.reg fun K hK => ?_
 simp
 try (simp (disch := omega) only [wrap_id])
 refine hK _ _ _ (nv ?_); clear hK K
 refine Run.reg fun K hK => ?_
 simp
 try (simp (disch := omega) only [wrap_id])
 refine hK _ _ _ (nv ?_); clear hK K
 refine Run.call rfl rfl (by simp) rfl (ix129_any env hg hn v cls hs h hh p q hp hq) ?_ ?_
 ·rintro v h' ⟨r, hv, rfl, hr⟩
  simp only [AOut.ret.injEq] at hv
  subst hv
  refine Run.ops fun K hK => ?_
  simp
  try (simp (disch := omega) only [wrap_id])
  refine hK _ _ _ (nv ?_); clear hK K
  refine Run.ret ?_
  exact Fin.ret' (by simp) rfl hh (List.append_nil _).symm rfl rfl (Weak.of_eq (by simp [← hr])) rfl ⟨rfl, rfl⟩
 ·rintro v h' ⟨r, hv, _⟩; cases hv
theorem CovOk.of {env : List Dc} {cls : List Cl} {v : List Pt} (hs : PSmall cls v) (h1 : chkPs env v = 0) (h2 : allTo (clOk env v.length cls) cls.length = true) : CovOk env cls v := by
 refine ⟨hs.cl, fun c hc => ?_, Nat.le_trans (psz_len v) hs.vs, h1⟩
 obtain ⟨j, hj, rfl⟩ := List.mem_iff_getElem.1 hc
 have := allTo_at h2 hj
 rw [clOk_at (List.getElem?_eq_getElem hj)] at this
 simp [clBad] at this
 exact ⟨this.2, hs.cs _ hc, this.1⟩
set_option maxRecDepth 8000 in
set_option maxHeartbeats 8000000 in
theorem covers_any (env : List Dc) (hf : EnvFine env) (hg : Env.good env) (cls : List Cl) (v : List Pt) (hs : PSmall cls v) (h : Heap) (hh : WF h) :
  ACalls Tryz.prog 26 [envA env, .p (.sl 6 (clPs cls)), .p (.sl 3 (ptPs v))] h fun o h' => o = .ret (bA (coversB env cls v)) ∧ h' = h := by
 have c1 := fun (g : Heap) (hw : WF g) => pcheck_any env hg hf.1 _ v (Nat.le_refl _) hs.vs g hw
 have c2 := fun (g : Heap) (hw : WF g) => pcontains_any 3 _ v (Nat.le_refl _) hs.vs g hw
 have c3 := cf75_any env hg hf.1 v cls hs (h ++ [some (.cells [envA env]), some (.cells [.p (.sl 3 (ptPs v))])]) (hh.app (by simp)) (h.length + 1) h.length (by simp) (by simp)
 have c4 := fun h1 h2 (g : Heap) (hw : WF g) => pcovered_any env hf hg cls (openC cls v + 1) v (CovOk.of hs h1 h2) (Nat.lt_succ_self _) g hw
 obtain ⟨r, hr⟩ : ∃ r, coversB env cls v = r := ⟨_, rfl⟩
 rw [hr]
 unfold coversB at hr
 generalize chkPs env v = e at c1 c4 hr
 generalize hasKs 3 v = b1 at c2 hr
 unfold anyBad at c3
 generalize allTo (clOk env v.length cls) cls.length = b2 at c3 c4 hr
 generalize covF env cls (openC cls v + 1) v = b3 at c4 hr
 refine ACalls.of_run Tryz.func26 rfl ?_
 simp only [Tryz.ntmps26, List.length_cons, List.length_nil]
 refine nv ?_
 refine Run.reg fun K hK => ?_
 simp
 try (simp (disch := omega) only [wrap_id])
 refine hK _ _ _ (nv ?_); clear hK K
 refine Run.reg fun K hK => ?_
 simp
 try (simp (disch := omega) only [wrap_id])
 refine hK _ _ _ (nv ?_); clear hK K
 refine rc rfl (by first | rfl | simp) (by simp) rfl (c1 _ (hh.app (by simp))) ?_
 by_cases h1 : e = 0
 ·subst h1
  refine Run.ops fun K hK => ?_
  simp
  try (simp (disch := omega) only [wrap_id])
  refine hK _ _ _ (nv ?_); clear hK K
  refine rc rfl (by first | rfl | simp) (by simp) rfl (c2 _ (hh.app (by simp))) ?_
  refine Run.ops fun K hK => ?_
  simp
  try (simp (disch := omega) only [wrap_id])
  refine hK _ _ _ (nv ?_); clear hK K
  cases b1 with
  | true =>
   simp at hr
   rw [hr]
   refine nv ?_
   refine ct (by simp) (nv ?_)
   refine Run.reg fun K hK => ?_
   simp
   try (simp (disch := omega) only [wrap_id])
   refine hK _ _ _ (nv ?_); clear hK K
   refine Run.ret ?_
   exact Fin.ret' (h0 := h) (by simp) rfl hh rfl (by simp; rfl) rfl (Weak.refl _) (by simp) ⟨by simp, rfl⟩
  | false =>
   refine nv ?_
   refine cf (by simp) (nv ?_)
   refine Run.reg fun K hK => ?_
   simp
   try (simp (disch := omega) only [wrap_id])
   refine hK _ _ _ (nv ?_); clear hK K
   refine Run.call rfl (by first | rfl | simp) (by simp) rfl (c3) ?_ ?_
   rotate_left
   ·rintro v h' ⟨hv, _⟩; cases hv
   rintro v h' ⟨hv, rfl⟩
   simp only [AOut.ret.injEq] at hv
   subst hv
   refine Run.ops fun K hK => ?_
   simp
   try (simp (disch := omega) only [wrap_id])
   refine hK _ _ _ (nv ?_); clear hK K
   cases b2 with
   | false =>
    simp at hr
    rw [hr]
    refine nv ?_
    refine Run.reg fun K hK => ?_
    simp
    try (simp (disch := omega) only [wrap_id])
    refine hK _ _ _ (nv ?_); clear hK K
    refine Run.ret ?_
    exact Fin.ret' (h0 := h) (by simp) rfl hh rfl (by simp; rfl) rfl (Weak.refl _) (by simp) ⟨by simp, rfl⟩
   | true =>
    simp at hr
    subst hr
    refine nv ?_
    refine Run.reg fun K hK => ?_
    simp
    try (simp (disch := omega) only [wrap_id])
    refine hK _ _ _ (nv ?_); clear hK K
    refine rc rfl (by first | rfl | simp) (by simp) rfl (c4 rfl rfl _ (hh.app (by simp))) ?_
    refine Run.ops fun K hK => ?_
    simp
    try (simp (disch := omega) only [wrap_id])
    refine hK _ _ _ (nv ?_); clear hK K
    refine Run.ret ?_
    exact Fin.ret' (h0 := h) (by simp) rfl hh rfl (by simp; rfl) rfl (Weak.refl _) (by simp) ⟨by simp, rfl⟩
 ·simp [h1] at hr
  rw [hr]
  have h1b : (e != (0 : Int)) = true := by simpa using h1
  refine Run.ops fun K hK => ?_
  simp [h1b]
  try (simp (disch := omega) only [wrap_id])
  refine hK _ _ _ (nv ?_); clear hK K
  refine ct (by simp) (nv ?_)
  refine Run.reg fun K hK => ?_
  simp
  try (simp (disch := omega) only [wrap_id])
  refine hK _ _ _ (nv ?_); clear hK K
  refine Run.ret ?_
  exact Fin.ret' (h0 := h) (by simp) rfl hh rfl (by simp; rfl) rfl (Weak.refl _) (by simp) ⟨by simp, rfl⟩
set_option maxRecDepth 8000 in
set_option maxHeartbeats 8000000 in
theorem rcovers_any (env : List Dc) (hf : EnvFine env) (hg : Env.good env) (cls : List Cl) (v : List Pt) (hs : PSmall cls v) (h : Heap) (hh : WF h) :
  ACalls Tryz.prog 27 [envA env, .p (.sl 6 (clPs cls)), .p (.sl 3 (ptPs v))] h fun o h' => o = .ret (bA (coversB env cls v)) ∧ h' = h := by
 have c1 := fun (g : Heap) (hw : WF g) => rcheckL_any env hg hf.1 v hs.vs g hw
 have c2 := fun (g : Heap) (hw : WF g) => absurd_any _ v (Nat.le_refl _) hs.vs g hw
 have c3 := fun (c : Cl) (hc : c ∈ cls) (g : Heap) (hw : WF g) => rcheckL_any env hg hf.1 c.ps (hs.cs c hc) g hw
 have c4 := fun h1 h2 (g : Heap) (hw : WF g) => rcovered_any env hf hg cls (openC cls v + 1) v (CovOk.of hs h1 h2) (Nat.lt_succ_self _) g hw
 have hcl := hs.cl
 have hvl := psz_len v
 have hvs := hs.vs
 obtain ⟨r, hr⟩ : ∃ r, coversB env cls v = r := ⟨_, rfl⟩
 rw [hr]
 unfold coversB at hr
 generalize chkPs env v = e at c1 c4 hr
 generalize hasKs 3 v = b1 at c2 hr
 generalize covF env cls (openC cls v + 1) v = b3 at c4 hr
 refine ACalls.of_run Tryz.func27 rfl ?_
 simp only [Tryz.ntmps27, List.length_cons, List.length_nil]
 refine nv ?_
 refine Run.reg fun K hK => ?_
 simp
 try (simp (disch := omega) only [wrap_id])
 refine hK _ _ _ (nv ?_); clear hK K
 refine Run.reg fun K hK => ?_
 simp
 try (simp (disch := omega) only [wrap_id])
 refine hK _ _ _ (nv ?_); clear hK K
 refine Run.call rfl (by first | rfl | simp) (by simp) rfl (c1 _ (hh)) ?_ ?_
 rotate_left
 ·rintro v h' ⟨hv, _⟩; cases hv
 rintro v h' ⟨hv, rfl⟩
 simp only [AOut.ret.injEq] at hv
 subst hv
 by_cases h1 : e = 0
 ·subst h1
  refine Run.ops fun K hK => ?_
  simp
  try (simp (disch := omega) only [wrap_id])
  refine hK _ _ _ (nv ?_); clear hK K
  refine Run.call rfl (by first | rfl | simp) (by simp) rfl (c2 _ (hh)) ?_ ?_
  rotate_left
  ·rintro v h' ⟨hv, _⟩; cases hv
  rintro v h' ⟨hv, rfl⟩
  simp only [AOut.ret.injEq] at hv
  subst hv
  refine Run.ops fun K hK => ?_
  simp
  try (simp (disch := omega) only [wrap_id])
  refine hK _ _ _ (nv ?_); clear hK K
  cases b1 with
  | true =>
   simp at hr
   rw [hr]
   refine nv ?_
   refine ct (by simp) (nv ?_)
   refine Run.reg fun K hK => ?_
   simp
   try (simp (disch := omega) only [wrap_id])
   refine hK _ _ _ (nv ?_); clear hK K
   refine Run.ret ?_
   exact Fin.ret' (by simp) rfl hh (List.append_nil _).symm (by simp; rfl) rfl (Weak.refl _) (by simp) ⟨by simp, rfl⟩
  | false =>
   simp at hr
   refine nv ?_
   refine cf (by simp) (nv ?_)
   refine Run.reg fun K hK => ?_
   simp
   try (simp (disch := omega) only [wrap_id])
   refine hK _ _ _ (nv ?_); clear hK K
   refine Run.loopS [0, 1, 2] (fun j : Nat => j ≤ cls.length ∧ allTo (clOk env v.length cls) j = true) (fun j => cls.length - j) (fun j => [(7, iA j)]) (fun _ => _) 0 (by simp [allTo]) ?_ rfl ?_
   ·simp
    repeat' (first | exact WeakL.nil | apply WeakL.cons)
    all_goals first | exact Weak.junk _ | exact Weak.refl _ | exact Weak.nil _ | exact Weak.own _ _ _ | exact Weak.int (by omega)
   rintro j ⟨hj, hall⟩ IH
   simp
   refine nv ?_
   refine Run.reg fun K hK => ?_
   simp
   try (simp (disch := omega) only [wrap_id])
   refine hK _ _ _ (nv ?_); clear hK K
   by_cases hjl : j < cls.length
   ·have hgj : cls[j]? = some cls[j] := List.getElem?_eq_getElem hjl
    have hmem := List.getElem_mem hjl
    generalize cls[j] = c at hgj hmem
    have c5 := c3 c hmem
    have hcsz := hs.cs c hmem
    have hcln := psz_len c.ps
    have hok := clOk_at (env := env) (n := v.length) hgj
    unfold clBad at hok
    generalize chkPs env c.ps = e at c5 hok
    obtain ⟨ps, ⟨k, i, nm, ls, ks⟩⟩ := c
    simp only at c5 hcsz hcln hok
    refine nv ?_
    refine ct (by simp [hjl]) (nv ?_)
    by_cases hle : ps.length = v.length
    ·refine nv ?_
     refine Run.reg fun K hK => ?_
     simp [hgj, Cl.cells, hle]
     try (simp (disch := omega) only [wrap_id])
     refine hK _ _ _ (nv ?_); clear hK K
     refine Run.call rfl (by first | rfl | simp) (by simp) rfl (c5 _ hh) ?_ ?_
     rotate_left
     ·rintro v h' ⟨hv, _⟩; cases hv
     rintro v h' ⟨hv, rfl⟩
     simp only [AOut.ret.injEq] at hv
     subst hv
     by_cases he : e = 0
     ·subst he
      refine Run.ops fun K hK => ?_
      simp
      try (simp (disch := omega) only [wrap_id])
      refine hK _ _ _ (nv ?_); clear hK K
      refine cf (by simp) (nv ?_)
      refine Run.reg fun K hK => ?_
      simp
      try (simp (disch := omega) only [wrap_id])
      refine hK _ _ _ (nv ?_); clear hK K
      refine IH (j + 1) _ _ ⟨by omega, by rw [allTo_succ, hall, hok]; simp [hle]⟩ (by omega) ?_ rfl
      simp
      repeat' (first | exact WeakL.nil | apply WeakL.cons)
      all_goals first | exact Weak.junk _ | exact Weak.refl _ | exact Weak.nil _ | exact Weak.own _ _ _ | exact Weak.int (by omega)
     ·have := allTo_false hjl (p := clOk env v.length cls) (by rw [hok]; simp [he])
      simp [this] at hr
      rw [hr]
      have heb : (e != (0 : Int)) = true := by simpa using he
      refine Run.ops fun K hK => ?_
      simp [heb]
      try (simp (disch := omega) only [wrap_id])
      refine hK _ _ _ (nv ?_); clear hK K
      refine ct (by simp) (nv ?_)
      refine Run.reg fun K hK => ?_
      simp
      try (simp (disch := omega) only [wrap_id])
      refine hK _ _ _ (nv ?_); clear hK K
      refine Run.ret ?_
      exact Fin.ret' (by simp) rfl hh (List.append_nil _).symm (by simp; rfl) rfl (Weak.refl _) (by simp) ⟨by simp, rfl⟩
    ·have hlb : ((ps.length : Int) != (v.length : Int)) = true := by simp; omega
     have := allTo_false hjl (p := clOk env v.length cls) (by rw [hok]; simp [hle])
     simp [this] at hr
     rw [hr]
     refine nv ?_
     refine Run.reg fun K hK => ?_
     simp [hgj, Cl.cells, hlb]
     try (simp (disch := omega) only [wrap_id])
     refine hK _ _ _ (nv ?_); clear hK K
     refine ct (by simp) (nv ?_)
     refine Run.reg fun K hK => ?_
     simp
     try (simp (disch := omega) only [wrap_id])
     refine hK _ _ _ (nv ?_); clear hK K
     refine Run.ret ?_
     exact Fin.ret' (by simp) rfl hh (List.append_nil _).symm (by simp; rfl) rfl (Weak.refl _) (by simp) ⟨by simp, rfl⟩
   ·have hje : j = cls.length := by omega
    subst hje
    rw [hall] at c4 hr
    simp at hr
    subst hr
    refine nv ?_
    refine cf (by simp) (nv ?_)
    refine Run.exit rfl ?_
    refine nv ?_
    refine Run.reg fun K hK => ?_
    simp
    try (simp (disch := omega) only [wrap_id])
    refine hK _ _ _ (nv ?_); clear hK K
    refine Run.call rfl (by first | rfl | simp) (by simp) rfl (c4 rfl rfl _ hh) ?_ ?_
    rotate_left
    ·rintro v h' ⟨hv, _⟩; cases hv
    rintro v h' ⟨hv, rfl⟩
    simp only [AOut.ret.injEq] at hv
    subst hv
    refine Run.ops fun K hK => ?_
    simp
    try (simp (disch := omega) only [wrap_id])
    refine hK _ _ _ (nv ?_); clear hK K
    refine Run.ret ?_
    exact Fin.ret' (by simp) rfl hh (List.append_nil _).symm (by simp; rfl) rfl (Weak.refl _) (by simp) ⟨by simp, rfl⟩
 ·simp [h1] at hr
  rw [hr]
  have h1b : (e != (0 : Int)) = true := by simpa using h1
  refine Run.ops fun K hK => ?_
  simp [h1b]
  try (simp (disch := omega) only [wrap_id])
  refine hK _ _ _ (nv ?_); clear hK K
  refine ct (by simp) (nv ?_)
  refine Run.reg fun K hK => ?_
  simp
  try (simp (disch := omega) only [wrap_id])
  refine hK _ _ _ (nv ?_); clear hK K
  refine Run.ret ?_
  exact Fin.ret' (by simp) rfl hh (List.append_nil _).symm (by simp; rfl) rfl (Weak.refl _) (by simp) ⟨by simp, rfl⟩

end Go.Proofs.YtcfcolkbeelegaaGreat

namespace Go.Proofs.YtcfcolkbeelegaaGreat

open Go Go.AI

open Rows (uptoBulk uptoBulkAll)

open Go.ChangeShapes Go.WideShapes Go.ChangeAt Go.RowKit

section

variable {H : Type} {enc : TypeId × Value → H} {W : World} {sp : Nat → Bool} {held : Bool}
theorem cells53 : Tryz.prog.cellsOf 53 = 6 := by kernel_rfl
theorem cells74 : Tryz.prog.cellsOf 74 = 3 := by kernel_rfl
def GPt (p : Pt) (d : DataW H) : Prop := uptoBulk d ≤ 1048576 → p.size ≤ uptoBulk d
theorem GL_pts : ∀ {ts : List Pt} {ds : List (DataW H)}, GL GPt ts ds → uptoBulkAll ds ≤ 1048576 → Pt.sizes ts ≤ uptoBulkAll ds
 | [], [], _, _ => by simp [Pt.sizes]
 | t :: ts, d :: ds, h, hb => by
  simp only [uptoBulkAll] at hb
  have h1 := h.1 (by omega)
  have h2 := GL_pts h.2 (by omega)
  simp only [Pt.sizes, uptoBulkAll]
  omega
 | [], _ :: _, h, _ => h.elim
 | _ :: _, [], h, _ => h.elim
theorem ptPs_eq' (l : List Pt) : ptPs l = l.map Pt.cells := by
 induction l with
 | nil => rfl
 | cons p l ih => simp only [ptPs, ih, List.map_cons]
set_option maxRecDepth 8000 in
theorem open_pt (N : Nat) : ∀ (n : Nat) (cs : List Value) (x : DataW H × List MemPlace), n ≤ N → DataW.trod enc Tryz.prog W 0 sp held n 74 cs = some x →
  ∃ p : Pt, RepL (roAll W) W (p.cells.map .p) cs ∧ GPt p x.1 := by
 induction N with
 | zero => intro n cs x hn h; obtain rfl : n = 0 := by omega
           simp [DataW.trod] at h
 | succ N ih =>
 intro n cs x hn h
 obtain ⟨xs, m, rfl, rfl, hl, hlen, hf⟩ := DataW.trod_struct Tryz.underlying74 h
 rw [cells74] at hl
 obtain ⟨c0, c1, c2, rfl⟩ : ∃ a b c, cs = [a, b, c] := by match cs, hl with | [a, b, c], _ => exact ⟨a, b, c, rfl⟩
 obtain ⟨x0, x1, x2, rfl⟩ : ∃ a b c, xs = [a, b, c] := by match xs, hlen with | [a, b, c], _ => exact ⟨a, b, c, rfl⟩
 have h0 := hf 0 _ rfl
 have h1 := hf 1 _ rfl
 have h2 := hf 2 _ rfl
 simp only [List.getElem?_cons_zero, List.getElem?_cons_succ] at h0 h1 h2
 obtain ⟨k, e0, r0, _, _⟩ := open_i h0
 obtain ⟨s, v, e1, r1⟩ := open_s h1
 obtain ⟨ps, w, e2, r2, hG2⟩ := open_slice (α := Pt) Tryz.underlying50 cells74 (by decide) Pt.cells GPt (fun p => by cases p; rfl) (fun m' hm cs y hy => ih m' cs y (by omega) hy) h2
 injection e0 with e0; injection e1 with e1; injection e2 with e2
 subst e0; subst e1; subst e2
 refine ⟨.mk k s ps, ?_, fun hb => ?_⟩
 ·simp only [pcells_mk, ptPs_eq', List.map_cons, List.map_nil, RepL, Rep]
  exact ⟨_, _, rfl, r0, _, _, rfl, r1, _, _, rfl, r2, rfl⟩
 ·simp only [List.map_cons, List.map_nil, uptoBulk, uptoBulkAll] at hb ⊢
  simp only [Pt.size]
  rcases hG2 with ⟨rfl, _⟩ | ⟨elems, rest, he, hG⟩
  ·simp [Pt.sizes]
  ·rw [he] at hb ⊢
   simp only [uptoBulk] at hb ⊢
   have := GL_pts hG (by omega)
   omega
def GCl (c : Cl) (d : DataW H) : Prop := uptoBulk d ≤ 1048576 → Pt.sizes c.ps ≤ uptoBulk d ∧ c.b.good
set_option maxRecDepth 8000 in
theorem open_cl {n : Nat} {cs : List Value} {x : DataW H × List MemPlace} (h : DataW.trod enc Tryz.prog W 0 sp held n 53 cs = some x) : ∃ c : Cl, RepL (roAll W) W (c.cells.map .p) cs ∧ GCl c x.1 := by
 obtain ⟨xs, m, rfl, rfl, hl, hlen, hf⟩ := DataW.trod_struct Tryz.underlying53 h
 rw [cells53] at hl
 obtain ⟨c0, c1, c2, c3, c4, c5, rfl⟩ : ∃ a b c d e f, cs = [a, b, c, d, e, f] := by match cs, hl with | [a, b, c, d, e, f], _ => exact ⟨a, b, c, d, e, f, rfl⟩
 obtain ⟨x0, x1, rfl⟩ : ∃ a b, xs = [a, b] := by match xs, hlen with | [a, b], _ => exact ⟨a, b, rfl⟩
 have h0 := hf 0 _ rfl
 have h1 := hf 1 _ rfl
 simp only [List.getElem?_cons_zero, List.getElem?_cons_succ] at h0 h1
 obtain ⟨ps, w, e0, r0, hG0⟩ := open_slice (α := Pt) Tryz.underlying50 cells74 (by decide) Pt.cells GPt (fun p => by cases p; rfl) (fun m' _ cs y hy => open_pt m' m' cs y (Nat.le_refl _) hy) h0
 obtain ⟨t, r1, g1⟩ := open_t h1
 injection e0 with e0; subst e0
 refine ⟨⟨ps, t⟩, ?_, fun hb => ?_⟩
 ·simp only [Cl.cells, ptPs_eq', List.map_cons, RepL, Rep]
  exact ⟨_, _, rfl, r0, r1⟩
 ·simp only [List.map_cons, List.map_nil, uptoBulk, uptoBulkAll] at hb ⊢
  refine ⟨?_, g1 (by omega)⟩
  rcases hG0 with ⟨rfl, _⟩ | ⟨elems, rest, he, hG⟩
  ·simp [Pt.sizes]
  ·rw [he] at hb ⊢
   simp only [uptoBulk] at hb ⊢
   have := GL_pts hG (by omega)
   omega

end
set_option maxRecDepth 8000 in
theorem arg_pats {H : Type} {enc : TypeId × Value → H} {W : World} {v : Value} {d : DataW H} {p : List MemPlace} {base : Nat}
  (hv : Value.okWide Tryz.prog W .any base 50 v) (h : DataW.Trod enc Tryz.prog W 0 (fun _ => true) true 50 v d p) : ∃ ps : List Pt, Rep (roAll W) W (.p (.sl 3 (ptPs ps))) v ∧ (uptoBulk d ≤ 1048576 → Pt.sizes ps ≤ uptoBulk d) := by
 obtain ⟨a, len, cap, rfl⟩ := okWide_slice Tryz.underlying50 hv
 obtain ⟨n, hn⟩ := h
 obtain ⟨xs, v', e, r, hG⟩ := open_slice (α := Pt) Tryz.underlying50 cells74 (by decide) Pt.cells GPt (fun p => by cases p; rfl) (fun m' _ cs y hy => open_pt m' m' cs y (Nat.le_refl _) hy) hn
 simp [Value.cells] at e
 subst e
 refine ⟨xs, by simp only [Rep, ptPs_eq']; exact r, fun hb => ?_⟩
 rcases hG with ⟨rfl, hd⟩ | ⟨elems, rest, he, hG⟩
 ·simp [Pt.sizes]
 ·simp only at he
  subst he
  simp only [uptoBulk] at hb ⊢
  have := GL_pts hG (by omega)
  omega
set_option maxRecDepth 8000 in
theorem arg_cls {H : Type} {enc : TypeId × Value → H} {W : World} {v : Value} {d : DataW H} {p : List MemPlace} {base : Nat}
  (hv : Value.okWide Tryz.prog W .any base 37 v) (h : DataW.Trod enc Tryz.prog W 0 (fun _ => true) true 37 v d p) : ∃ cls : List Cl, Rep (roAll W) W (.p (.sl 6 (clPs cls))) v ∧ (uptoBulk d ≤ 1048576 → cls.length ≤ 1048576 ∧ ∀ c ∈ cls, Pt.sizes c.ps ≤ 1048576 ∧ c.b.good) := by
 obtain ⟨a, len, cap, rfl⟩ := okWide_slice Tryz.underlying37 hv
 obtain ⟨n, hn⟩ := h
 obtain ⟨xs, v', e, r, hG⟩ := open_slice (α := Cl) Tryz.underlying37 cells53 (by decide) Cl.cells GCl (fun c => by obtain ⟨_, ⟨_, _, _, _, _⟩⟩ := c; rfl) (fun m' _ cs y hy => open_cl hy) hn
 simp [Value.cells] at e
 subst e
 refine ⟨xs, by simp only [Rep]; exact r, fun hb => ?_⟩
 exact slice_all (Q := fun c : Cl => Pt.sizes c.ps ≤ 1048576 ∧ c.b.good) (fun x d hg hb => by have := hg hb; exact ⟨by omega, this.2⟩) hG hb

end Go.Proofs.YtcfcolkbeelegaaGreat
