import Derived.Test.YtcfcolkbeelegaaGreatOH8
import Derived.Test.YtcfcolkbeelegaaGreatOT6
import Derived.Test.YtcfcolkbeelegaaGreatOG1
import Derived.Test.YtcfcolkbeelegaaGreatOE11
import Derived.Test.YtcfcolkbeelegaaGreatOQB
set_option maxRecDepth 8000
set_option maxHeartbeats 16000000

namespace Go.Proofs.YtcfcolkbeelegaaGreat

open Go Go.AI
def ckCl (env : List Dc) (c : Cl) (n : Int) : Int :=
 if n < 1 ∨ 16 < n ∨ (c.ps.length : Int) ≠ n then 6
 else if chkPs env c.ps ≠ 0 then chkPs env c.ps
 else if hasKs 3 c.ps = true ∧ sameT c.b zT = false then 3
 else if 200 < (cntPs c.ps : Int) then 6
 else if hasKs 3 c.ps = true then 0
 else checkZ (cntPs c.ps) 8 0 0 c.b
theorem pck41_any (env : List Dc) (hg : Env.good env) (hn : Env.short env) (c : Cl) (hB : Pt.sizes c.ps ≤ 1048576) (hb : c.b.good) (hnm : c.b.nm) (n : Int) (h : Heap) (hh : WF h) :
  ACalls Tryz.prog 41 [envA env, c.av, iA n] h fun o h' => o = .ret (iA (ckCl env c n)) ∧ h' = h := by
 have hl := psz_len c.ps
 have c1 := fun (g : Heap) (hw : WF g) => pcheck_any env hg hn _ c.ps (Nat.le_refl _) hB g hw
 have c2 := fun (g : Heap) (hw : WF g) => pcontains_any 3 _ c.ps (Nat.le_refl _) hB g hw
 have c3 := fun (g : Heap) (hw : WF g) => tsame_any _ c.b zT g (Nat.le_refl _) (by have := hb.1; omega) hb.2.2 hw
 have c4 := fun (g : Heap) (hw : WF g) => pvars_any g hw c hB
 have c5 := fun (g : Heap) (hw : WF g) => tcheck_any g hw c.b (cntPs c.ps) 8 0 0 hb.2.1 hnm (by have := hb.1; omega)
 obtain ⟨r, hr⟩ : ∃ r, ckCl env c n = r := ⟨_, rfl⟩
 rw [hr]
 unfold ckCl at hr
 generalize chkPs env c.ps = e at c1 hr
 generalize hasKs 3 c.ps = b1 at c2 hr
 generalize sameT c.b zT = b2 at c3 hr
 generalize (cntPs c.ps : Int) = m at c4 c5 hr
 generalize checkZ m 8 0 0 c.b = z at c5 hr
 obtain ⟨ps, ⟨k, i, nm, ls, ks⟩⟩ := c
 simp only at hl hr c1 c2
 have hzw : Weak (.agg zTm) zT.av := Weak.zT
 have c3 := fun (g : Heap) (hw : WF g) => ACalls.weak (WeakL.cons (Weak.refl _) (WeakL.cons hzw WeakL.nil)) (c3 g hw)
 simp only [Cl.av, Cl.cells, cells_mk, List.map, Tm.av] at c3 c4 c5 ⊢
 refine ACalls.of_run Tryz.func41 rfl ?_
 simp only [Tryz.ntmps41, List.length_cons, List.length_nil]
 refine nv ?_
 refine Run.reg fun K hK => ?_
 simp
 refine hK _ _ _ (nv ?_); clear hK
 by_cases n1 : n < 1
 ·rw [if_pos (.inl n1)] at hr
  subst hr
  refine Run.reg fun K hK => ?_
  simp [n1]
  refine hK _ _ _ (nv ?_); clear hK
  refine ct (by simp) (nv ?_)
  refine Run.reg fun K hK => ?_
  simp
  refine hK _ _ _ (nv ?_); clear hK
  refine Run.ret ?_
  exact Fin.ret' (h0 := h) (by simp) rfl hh rfl (by simp; rfl) rfl (Weak.refl _) (by simp) ⟨by simp, rfl⟩
 by_cases n2 : 16 < n
 ·rw [if_pos (.inr (.inl n2))] at hr
  subst hr
  refine Run.reg fun K hK => ?_
  simp [n1, n2]
  refine hK _ _ _ (nv ?_); clear hK
  refine ct (by simp) (nv ?_)
  refine Run.reg fun K hK => ?_
  simp
  refine hK _ _ _ (nv ?_); clear hK
  refine Run.ret ?_
  exact Fin.ret' (h0 := h) (by simp) rfl hh rfl (by simp; rfl) rfl (Weak.refl _) (by simp) ⟨by simp, rfl⟩
 by_cases n3 : (ps.length : Int) = n
 rotate_left
 ·rw [if_pos (.inr (.inr n3))] at hr
  subst hr
  have n3b : ((ps.length : Int) != n) = true := by simpa using n3
  refine Run.reg fun K hK => ?_
  simp [n1, n2, n3b]
  refine hK _ _ _ (nv ?_); clear hK
  refine ct (by simp) (nv ?_)
  refine Run.reg fun K hK => ?_
  simp
  refine hK _ _ _ (nv ?_); clear hK
  refine Run.ret ?_
  exact Fin.ret' (h0 := h) (by simp) rfl hh rfl (by simp; rfl) rfl (Weak.refl _) (by simp) ⟨by simp, rfl⟩
 have n3b : ((ps.length : Int) != n) = false := by simpa using n3
 rw [if_neg (by omega)] at hr
 refine Run.reg fun K hK => ?_
 simp [n1, n2, n3b]
 refine hK _ _ _ (nv ?_); clear hK
 refine cf (by simp) (nv ?_)
 refine Run.reg fun K hK => ?_
 simp
 refine hK _ _ _ ?_; clear hK
 refine Go.AI.rc rfl (by first | rfl | simp) (by simp) rfl (c1 _ (hh.app (by simp))) ?_
 refine Run.ops fun K hK => ?_
 simp
 refine hK _ _ _ (nv ?_); clear hK
 refine Run.reg fun K hK => ?_
 simp
 refine hK _ _ _ (nv ?_); clear hK
 by_cases he : e = 0
 rotate_left
 ·rw [if_pos he] at hr
  subst hr
  have heb : (e != (0 : Int)) = true := by simpa using he
  refine ct (by simp [heb]) (nv ?_)
  refine Run.reg fun K hK => ?_
  simp
  refine hK _ _ _ (nv ?_); clear hK
  refine Run.ret ?_
  exact Fin.ret' (h0 := h) (by simp) rfl hh rfl (by simp; rfl) rfl (Weak.refl _) (by simp) ⟨by simp, rfl⟩
 subst he
 rw [if_neg (by simp)] at hr
 refine cf (by simp) (nv ?_)
 refine Run.reg fun K hK => ?_
 simp
 refine hK _ _ _ ?_; clear hK
 refine Go.AI.rc rfl (by first | rfl | simp) (by simp) rfl (c2 _ (hh.app (by simp))) ?_
 refine Run.ops fun K hK => ?_
 simp
 refine hK _ _ _ (nv ?_); clear hK
 cases b1 with
 | true =>
  refine Run.reg fun K hK => ?_
  simp
  refine hK _ _ _ ?_; clear hK
  refine Go.AI.rc rfl (by first | rfl | simp) (by simp) rfl (c3 _ (hh.app (by simp))) ?_
  refine Run.ops fun K hK => ?_
  simp
  refine hK _ _ _ (nv ?_); clear hK
  cases b2 with
  | false =>
   rw [if_pos ⟨rfl, rfl⟩] at hr
   subst hr
   refine ct (by simp) (nv ?_)
   refine Run.reg fun K hK => ?_
   simp
   refine hK _ _ _ (nv ?_); clear hK
   refine Run.ret ?_
   exact Fin.ret' (h0 := h) (by simp) rfl hh rfl (by simp; rfl) rfl (Weak.refl _) (by simp) ⟨by simp, rfl⟩
  | true =>
   refine cf (by simp) (nv ?_)
   refine Run.reg fun K hK => ?_
   simp
   refine hK _ _ _ ?_; clear hK
   refine Go.AI.rc rfl (by first | rfl | simp) (by simp) rfl (c4 _ (hh.app (by simp))) ?_
   refine Run.ops fun K hK => ?_
   simp
   refine hK _ _ _ (nv ?_); clear hK
   refine Run.reg fun K hK => ?_
   simp
   refine hK _ _ _ (nv ?_); clear hK
   by_cases hm : 200 < m
   ·rw [if_neg (by simp), if_pos hm] at hr
    subst hr
    refine ct (by simp [hm]) (nv ?_)
    refine Run.reg fun K hK => ?_
    simp
    refine hK _ _ _ (nv ?_); clear hK
    refine Run.ret ?_
    exact Fin.ret' (h0 := h) (by simp) rfl hh rfl (by simp; rfl) rfl (Weak.refl _) (by simp) ⟨by simp, rfl⟩
   rw [if_neg (by simp), if_neg hm] at hr
   refine cf (by simp [hm]) (nv ?_)
   refine Run.reg fun K hK => ?_
   simp
   refine hK _ _ _ (nv ?_); clear hK
   rw [if_pos rfl] at hr
   subst hr
   refine ct (by simp) (nv ?_)
   refine Run.reg fun K hK => ?_
   simp
   refine hK _ _ _ (nv ?_); clear hK
   refine Run.ret ?_
   exact Fin.ret' (h0 := h) (by simp) rfl hh rfl (by simp; rfl) rfl (Weak.refl _) (by simp) ⟨by simp, rfl⟩
 | false =>
  refine Run.reg fun K hK => ?_
  simp
  refine hK _ _ _ (nv ?_); clear hK
  refine cf (by simp) (nv ?_)
  refine Run.reg fun K hK => ?_
  simp
  refine hK _ _ _ ?_; clear hK
  refine Go.AI.rc rfl (by first | rfl | simp) (by simp) rfl (c4 _ (hh.app (by simp))) ?_
  refine Run.ops fun K hK => ?_
  simp
  refine hK _ _ _ (nv ?_); clear hK
  refine Run.reg fun K hK => ?_
  simp
  refine hK _ _ _ (nv ?_); clear hK
  by_cases hm : 200 < m
  ·rw [if_neg (by simp), if_pos hm] at hr
   subst hr
   refine ct (by simp [hm]) (nv ?_)
   refine Run.reg fun K hK => ?_
   simp
   refine hK _ _ _ (nv ?_); clear hK
   refine Run.ret ?_
   exact Fin.ret' (h0 := h) (by simp) rfl hh rfl (by simp; rfl) rfl (Weak.refl _) (by simp) ⟨by simp, rfl⟩
  rw [if_neg (by simp), if_neg hm] at hr
  refine cf (by simp [hm]) (nv ?_)
  refine Run.reg fun K hK => ?_
  simp
  refine hK _ _ _ (nv ?_); clear hK
  rw [if_neg (by simp)] at hr
  subst hr
  refine cf (by simp) (nv ?_)
  refine Run.reg fun K hK => ?_
  simp
  refine hK _ _ _ ?_; clear hK
  refine Go.AI.rc rfl (by first | rfl | simp) (by simp) rfl (c5 _ (hh.app (by simp))) ?_
  refine Run.ops fun K hK => ?_
  simp
  refine hK _ _ _ (nv ?_); clear hK
  refine Run.ret ?_
  exact Fin.ret' (h0 := h) (by simp) rfl hh rfl (by simp; rfl) rfl (Weak.refl _) (by simp) ⟨by simp, rfl⟩


open Go Go.AI
theorem rck42_any (env : List Dc) (hg : Env.good env) (hn : Env.short env) (c : Cl) (hB : Pt.sizes c.ps ≤ 1048576) (hb : c.b.good) (n : Int) (h : Heap) (hh : WF h) :
  ACalls Tryz.prog 42 [envA env, c.av, iA n] h fun o h' => o = .ret (iA (ckCl env c n)) ∧ h' = h := by
 have hl := psz_len c.ps
 have c1 := fun (g : Heap) (hw : WF g) => rcheckL_any env hg hn c.ps hB g hw
 have c2 := fun (g : Heap) (hw : WF g) => absurd_any _ c.ps (Nat.le_refl _) hB g hw
 have c3 := fun (g : Heap) (hw : WF g) => same_any _ c.b zT g (Nat.le_refl _) (by have := hb.1; omega) hb.2.2 hw
 have c4 := fun (g : Heap) (hw : WF g) => rvars_any g hw c hB
 have c5 := fun (g : Heap) (hw : WF g) => check_any g hw c.b (cntPs c.ps) 8 0 0 (by have := hb.1; omega) hb.2.1
 obtain ⟨r, hr⟩ : ∃ r, ckCl env c n = r := ⟨_, rfl⟩
 rw [hr]
 unfold ckCl at hr
 generalize chkPs env c.ps = e at c1 hr
 generalize hasKs 3 c.ps = b1 at c2 hr
 generalize sameT c.b zT = b2 at c3 hr
 generalize (cntPs c.ps : Int) = m at c4 c5 hr
 generalize checkZ m 8 0 0 c.b = z at c5 hr
 obtain ⟨ps, ⟨k, i, nm, ls, ks⟩⟩ := c
 simp only at hl hr c1 c2
 have hzw : Weak (.agg zTm) zT.av := Weak.zT
 have c3 := fun (g : Heap) (hw : WF g) => ACalls.weak (WeakL.cons (Weak.refl _) (WeakL.cons hzw WeakL.nil)) (c3 g hw)
 simp only [Cl.av, Cl.cells, cells_mk, List.map, Tm.av] at c3 c4 c5 ⊢
 refine ACalls.of_run Tryz.func42 rfl ?_
 simp only [Tryz.ntmps42, List.length_cons, List.length_nil]
 refine nv ?_
 refine Run.reg fun K hK => ?_
 simp
 refine hK _ _ _ (nv ?_); clear hK
 by_cases n1 : n < 1
 ·rw [if_pos (.inl n1)] at hr
  subst hr
  refine Run.reg fun K hK => ?_
  simp [n1]
  refine hK _ _ _ (nv ?_); clear hK
  refine ct (by simp) (nv ?_)
  refine Run.reg fun K hK => ?_
  simp
  refine hK _ _ _ (nv ?_); clear hK
  refine Run.ret ?_
  exact Fin.ret' (h0 := h) (by simp) rfl hh rfl (by simp; rfl) rfl (Weak.refl _) (by simp) ⟨by simp, rfl⟩
 by_cases n2 : 16 < n
 ·rw [if_pos (.inr (.inl n2))] at hr
  subst hr
  refine Run.reg fun K hK => ?_
  simp [n1, n2]
  refine hK _ _ _ (nv ?_); clear hK
  refine ct (by simp) (nv ?_)
  refine Run.reg fun K hK => ?_
  simp
  refine hK _ _ _ (nv ?_); clear hK
  refine Run.ret ?_
  exact Fin.ret' (h0 := h) (by simp) rfl hh rfl (by simp; rfl) rfl (Weak.refl _) (by simp) ⟨by simp, rfl⟩
 by_cases n3 : (ps.length : Int) = n
 rotate_left
 ·rw [if_pos (.inr (.inr n3))] at hr
  subst hr
  have n3b : ((ps.length : Int) != n) = true := by simpa using n3
  refine Run.reg fun K hK => ?_
  simp [n1, n2, n3b]
  refine hK _ _ _ (nv ?_); clear hK
  refine ct (by simp) (nv ?_)
  refine Run.reg fun K hK => ?_
  simp
  refine hK _ _ _ (nv ?_); clear hK
  refine Run.ret ?_
  exact Fin.ret' (h0 := h) (by simp) rfl hh rfl (by simp; rfl) rfl (Weak.refl _) (by simp) ⟨by simp, rfl⟩
 have n3b : ((ps.length : Int) != n) = false := by simpa using n3
 rw [if_neg (by omega)] at hr
 refine Run.reg fun K hK => ?_
 simp [n1, n2, n3b]
 refine hK _ _ _ (nv ?_); clear hK
 refine cf (by simp) (nv ?_)
 refine Run.reg fun K hK => ?_
 simp
 refine hK _ _ _ ?_; clear hK
 refine Go.AI.rc rfl (by first | rfl | simp) (by simp) rfl (c1 _ (hh.app (by simp))) ?_
 refine Run.ops fun K hK => ?_
 simp
 refine hK _ _ _ (nv ?_); clear hK
 refine Run.reg fun K hK => ?_
 simp
 refine hK _ _ _ (nv ?_); clear hK
 by_cases he : e = 0
 rotate_left
 ·rw [if_pos he] at hr
  subst hr
  have heb : (e != (0 : Int)) = true := by simpa using he
  refine ct (by simp [heb]) (nv ?_)
  refine Run.reg fun K hK => ?_
  simp
  refine hK _ _ _ (nv ?_); clear hK
  refine Run.ret ?_
  exact Fin.ret' (h0 := h) (by simp) rfl hh rfl (by simp; rfl) rfl (Weak.refl _) (by simp) ⟨by simp, rfl⟩
 subst he
 rw [if_neg (by simp)] at hr
 refine cf (by simp) (nv ?_)
 refine Run.reg fun K hK => ?_
 simp
 refine hK _ _ _ ?_; clear hK
 refine Go.AI.rc rfl (by first | rfl | simp) (by simp) rfl (c2 _ (hh.app (by simp))) ?_
 refine Run.ops fun K hK => ?_
 simp
 refine hK _ _ _ (nv ?_); clear hK
 cases b1 with
 | true =>
  refine Run.reg fun K hK => ?_
  simp
  refine hK _ _ _ ?_; clear hK
  refine Go.AI.rc rfl (by first | rfl | simp) (by simp) rfl (c3 _ (hh.app (by simp))) ?_
  refine Run.ops fun K hK => ?_
  simp
  refine hK _ _ _ (nv ?_); clear hK
  cases b2 with
  | false =>
   rw [if_pos ⟨rfl, rfl⟩] at hr
   subst hr
   refine ct (by simp) (nv ?_)
   refine Run.reg fun K hK => ?_
   simp
   refine hK _ _ _ (nv ?_); clear hK
   refine Run.ret ?_
   exact Fin.ret' (h0 := h) (by simp) rfl hh rfl (by simp; rfl) rfl (Weak.refl _) (by simp) ⟨by simp, rfl⟩
  | true =>
   refine cf (by simp) (nv ?_)
   refine Run.reg fun K hK => ?_
   simp
   refine hK _ _ _ ?_; clear hK
   refine Go.AI.rc rfl (by first | rfl | simp) (by simp) rfl (c4 _ (hh.app (by simp))) ?_
   refine Run.ops fun K hK => ?_
   simp
   refine hK _ _ _ (nv ?_); clear hK
   by_cases hm : 200 < m
   ·rw [if_neg (by simp), if_pos hm] at hr
    subst hr
    refine ct (by simp [hm]) (nv ?_)
    refine Run.reg fun K hK => ?_
    simp
    refine hK _ _ _ (nv ?_); clear hK
    refine Run.ret ?_
    exact Fin.ret' (h0 := h) (by simp) rfl hh rfl (by simp; rfl) rfl (Weak.refl _) (by simp) ⟨by simp, rfl⟩
   rw [if_neg (by simp), if_neg hm] at hr
   refine cf (by simp [hm]) (nv ?_)
   refine Run.reg fun K hK => ?_
   simp
   refine hK _ _ _ (nv ?_); clear hK
   rw [if_pos rfl] at hr
   subst hr
   refine ct (by simp) (nv ?_)
   refine Run.reg fun K hK => ?_
   simp
   refine hK _ _ _ (nv ?_); clear hK
   refine Run.ret ?_
   exact Fin.ret' (h0 := h) (by simp) rfl hh rfl (by simp; rfl) rfl (Weak.refl _) (by simp) ⟨by simp, rfl⟩
 | false =>
  refine Run.reg fun K hK => ?_
  simp
  refine hK _ _ _ (nv ?_); clear hK
  refine cf (by simp) (nv ?_)
  refine Run.reg fun K hK => ?_
  simp
  refine hK _ _ _ ?_; clear hK
  refine Go.AI.rc rfl (by first | rfl | simp) (by simp) rfl (c4 _ (hh.app (by simp))) ?_
  refine Run.ops fun K hK => ?_
  simp
  refine hK _ _ _ (nv ?_); clear hK
  by_cases hm : 200 < m
  ·rw [if_neg (by simp), if_pos hm] at hr
   subst hr
   refine ct (by simp [hm]) (nv ?_)
   refine Run.reg fun K hK => ?_
   simp
   refine hK _ _ _ (nv ?_); clear hK
   refine Run.ret ?_
   exact Fin.ret' (h0 := h) (by simp) rfl hh rfl (by simp; rfl) rfl (Weak.refl _) (by simp) ⟨by simp, rfl⟩
  rw [if_neg (by simp), if_neg hm] at hr
  refine cf (by simp [hm]) (nv ?_)
  refine Run.reg fun K hK => ?_
  simp
  refine hK _ _ _ (nv ?_); clear hK
  rw [if_neg (by simp)] at hr
  subst hr
  refine cf (by simp) (nv ?_)
  refine PC.Run.drawP (pc := [3, 4]) [0, 0, 0, 0, 0, 0] [0, 0, 0, 0, 0, 0] [0, 1, 0, 4, 15, 31] [0, 1, 2, 3, 4, 5] (by kernel_rfl) (by kernel_rfl) ?_
  refine PC.DR.go fun K hK => ?_
  simp
  refine hK _ _ _ _ ?_; clear hK
  refine PC.DR.pcall rfl rfl rfl (by simp) rfl rfl (fun g hg => (c4) g ?_) ?_
  ·simp at hg; (first | (rcases hg with rfl | rfl | rfl | rfl) | (rcases hg with rfl | rfl | rfl) | (rcases hg with rfl | rfl) | subst hg) <;> exact hh.app (by simp)
  refine PC.DR.go fun K hK => ?_
  simp
  refine hK _ _ _ _ ?_; clear hK
  refine PC.DR.pcall rfl rfl rfl (by simp) rfl rfl (fun g hg => (c5) g ?_) ?_
  ·simp at hg; (first | (rcases hg with rfl | rfl | rfl | rfl) | (rcases hg with rfl | rfl | rfl) | (rcases hg with rfl | rfl) | subst hg) <;> exact hh.app (by simp)
  refine PC.DR.go fun K hK => ?_
  simp
  refine hK _ _ _ _ ?_; clear hK
  change Run _ _ _ _ _ _ _ _
  refine Run.ret ?_
  exact Fin.ret' (h0 := h) (by simp) rfl hh rfl (by simp; rfl) rfl (Weak.refl _) (by simp) ⟨by simp, rfl⟩


open Go Go.AI
theorem patternChecks_any (h : Heap) (hh : WF h) (env : List Dc) (hg : Env.good env) (c : Cl) (hB : Pt.sizes c.ps ≤ 1048576) (hbg : c.b.good) (hnm : c.b.nm) (htx : ∀ p ∈ c.ps, (textP p).length ≤ 1099511627776) (n : Int) :
  ACalls Tryz.prog 10 [envA env, c.av, iA n] h fun o h' => o = .ret (bA true) ∧ h' = h := by
 have hl := psz_len c.ps
 have c1 := fun (g : Heap) (hw : WF g) => psmall_any _ c.ps 30 (Nat.le_refl _) hB (by omega) (by omega) g hw
 have c2 : ∀ (g : Heap) (hw : WF g), ACalls Tryz.prog 20 [envA env, .p (.prim (.slice none 0 0))] g fun o h' => RetB (fun b => b = true → EnvFine env) o ∧ h' = g := fun g hw => by
  refine ACalls.weak (args' := [envA env, .p (.sl 5 (tmPs []))]) (WeakL.cons (Weak.refl _) (WeakL.cons (Weak.nil _) WeakL.nil)) ?_
  refine (small08_any g hw env [] hg (by simp [Tm.sizes]) (by simp [Tm.lvss]) (by simp [Tm.fits]) (by simp)).mono ?_
  rintro o h' ⟨⟨b, hb, hb2⟩, e⟩
  exact ⟨⟨b, hb, fun hb => (hb2 hb).1⟩, e⟩
 have c3 := fun (g : Heap) (hw : WF g) => size_any _ c.b g (Nat.le_refl _) (by have := hbg.1; omega) hw
 have c4 := fun (g : Heap) (hw : WF g) => awake18_any g hw
 have c5 := fun (p : Pt) (hp : p ∈ c.ps) (g : Heap) (hw : WF g) => ptext_any _ p (Nat.le_refl _) (by have := Pt.size_at hp; omega) (htx p hp) g hw
 have c6 := fun (p : Pt) (hp : p ∈ c.ps) (g : Heap) (hw : WF g) => rtext_any _ p (Nat.le_refl _) (by have := Pt.size_at hp; omega) (htx p hp) g hw
 have c7 := fun (hn : Env.short env) (g : Heap) (hw : WF g) => pck41_any env hg hn c hB hbg hnm n g hw
 have c8 := fun (hn : Env.short env) (g : Heap) (hw : WF g) => rck42_any env hg hn c hB hbg n g hw
 have c9 := fun (g : Heap) (hw : WF g) => pvars_any g hw c hB
 have ca := fun (g : Heap) (hw : WF g) => rvars_any g hw c hB
 obtain ⟨ps, ⟨k, i, nm, ls, ks⟩⟩ := c
 simp only at hl c1 c5 c6
 simp only [Cl.av, Cl.cells, cells_mk, List.map, Tm.av] at c3 c7 c8 c9 ca ⊢
 obtain ⟨sm, hsm⟩ : ∃ sm, smPs 30 ps = sm := ⟨_, rfl⟩
 rw [hsm] at c1
 obtain ⟨k0, b0, hk0⟩ : ∃ k b, smA sm = .tup [iA k, bA b] := by cases sm <;> exact ⟨_, _, rfl⟩
 rw [hk0] at c1
 clear hk0 hsm
 refine ACalls.of_run Tryz.func10 rfl ?_
 simp only [Tryz.ntmps10, List.length_cons, List.length_nil]
 refine nv ?_
 refine Run.reg fun K hK => ?_
 simp
 refine hK _ _ _ (nv ?_); clear hK
 refine Run.reg fun K hK => ?_
 simp
 refine hK _ _ _ ?_; clear hK
 refine Go.AI.rc rfl (by first | rfl | simp) (by simp) rfl (c1 _ (hh.app (by simp))) ?_
 refine Run.ops fun K hK => ?_
 simp
 refine hK _ _ _ (nv ?_); clear hK
 cases b0 with
 | false =>
  refine Run.reg fun K hK => ?_
  simp
  refine hK _ _ _ (nv ?_); clear hK
  refine ct (by simp) (nv ?_)
  refine Run.reg fun K hK => ?_
  simp
  refine hK _ _ _ ?_; clear hK
  refine Go.AI.rc rfl (by first | rfl | simp) (by simp) rfl (c4 _ (hh.app (by simp))) ?_
  refine Run.ops fun K hK => ?_
  simp
  refine hK _ _ _ (nv ?_); clear hK
  refine Run.ret ?_
  exact Fin.ret' (h0 := h) (by simp) rfl hh rfl (by simp; rfl) rfl (Weak.refl _) (by simp) ⟨by simp, rfl⟩
 | true =>
 by_cases h20 : 20 < (ps.length : Int)
 ·have h20' : 20 < ps.length := by omega
  refine Run.reg fun K hK => ?_
  simp [h20]
  refine hK _ _ _ (nv ?_); clear hK
  refine ct (by simp) (nv ?_)
  refine Run.reg fun K hK => ?_
  simp
  refine hK _ _ _ ?_; clear hK
  refine Go.AI.rc rfl (by first | rfl | simp) (by simp) rfl (c4 _ (hh.app (by simp))) ?_
  refine Run.ops fun K hK => ?_
  simp
  refine hK _ _ _ (nv ?_); clear hK
  refine Run.ret ?_
  exact Fin.ret' (h0 := h) (by simp) rfl hh rfl (by simp; rfl) rfl (Weak.refl _) (by simp) ⟨by simp, rfl⟩
 have h20' : ¬ 20 < ps.length := by omega
 refine Run.reg fun K hK => ?_
 simp [h20]
 refine hK _ _ _ ?_; clear hK
 refine Run.call rfl (by first | rfl | simp) (by simp) rfl (c2 _ (hh.app (by simp))) ?_ ?_
 rotate_left
 ·rintro v h' ⟨⟨_, hv, _⟩, _⟩; cases hv
 rintro v h' ⟨⟨b, hv, hb⟩, rfl⟩
 simp only [AOut.ret.injEq] at hv
 subst hv
 cases b with
 | false =>
  refine Run.ops fun K hK => ?_
  simp
  refine hK _ _ _ (nv ?_); clear hK
  refine ct (by simp) (nv ?_)
  refine Run.reg fun K hK => ?_
  simp
  refine hK _ _ _ ?_; clear hK
  refine Go.AI.rc rfl (by first | rfl | simp) (by simp) rfl (c4 _ (hh.app (by simp))) ?_
  refine Run.ops fun K hK => ?_
  simp
  refine hK _ _ _ (nv ?_); clear hK
  refine Run.ret ?_
  exact Fin.ret' (h0 := h) (by simp) rfl hh rfl (by simp; rfl) rfl (Weak.refl _) (by simp) ⟨by simp, rfl⟩
 | true =>
 have hf := hb rfl
 refine Run.ops fun K hK => ?_
 simp
 refine hK _ _ _ ?_; clear hK
 refine Go.AI.rc rfl (by first | rfl | simp) (by simp) rfl (c3 _ (hh.app (by simp))) ?_
 by_cases h60 : 60 < ((Tm.mk k i nm ls ks).size : Int)
 ·have h60' : 60 < (Tm.mk k i nm ls ks).size := by omega
  refine Run.ops fun K hK => ?_
  simp [h60]
  refine hK _ _ _ (nv ?_); clear hK
  refine ct (by simp) (nv ?_)
  refine Run.reg fun K hK => ?_
  simp
  refine hK _ _ _ ?_; clear hK
  refine Go.AI.rc rfl (by first | rfl | simp) (by simp) rfl (c4 _ (hh.app (by simp))) ?_
  refine Run.ops fun K hK => ?_
  simp
  refine hK _ _ _ (nv ?_); clear hK
  refine Run.ret ?_
  exact Fin.ret' (h0 := h) (by simp) rfl hh rfl (by simp; rfl) rfl (Weak.refl _) (by simp) ⟨by simp, rfl⟩
 have h60' : ¬ 60 < (Tm.mk k i nm ls ks).size := by omega
 refine Run.ops fun K hK => ?_
 simp [h60]
 refine hK _ _ _ (nv ?_); clear hK
 refine cf (by simp) (nv ?_)
 refine Run.reg fun K hK => ?_
 simp
 refine hK _ _ _ (nv ?_); clear hK
 refine Run.loopS [0, 2, 4, 38, 39] (fun j : Nat => j ≤ ps.length) (fun j => ps.length - j) (fun j => [(40, iA j)]) (fun _ => h ++ [some (.cells [.p (.sl 3 (ptPs ps)), iA k, iA i, .p (sP nm), .p (.sl 2 (lvPs ls)), .p (.sl 5 (tmPs ks))])]) 0 (by simp) ?_ (by simp) ?_
 ·simp
  repeat' first | exact wn | apply wc | exact wj _ | exact wr _ | exact wz _ | exact wo _ _ _ | exact wi (by omega)
 rintro j hj IH
 simp
 refine nv ?_
 refine Run.reg fun K hK => ?_
 simp
 refine hK _ _ _ (nv ?_); clear hK
 by_cases hjl : j < ps.length
 ·have hgp : ps[j]? = some ps[j] := List.getElem?_eq_getElem hjl
  have hmem := List.getElem_mem hjl
  generalize ps[j] = p at hgp hmem
  have c5 := c5 p hmem
  have c6 := c6 p hmem
  generalize textP p = tx at c5 c6
  obtain ⟨pk, pn, qs⟩ := p
  simp only [Pt.av, pcells_mk, List.map] at c5 c6
  refine ct (by simp [hjl]) (nv ?_)
  refine Run.reg fun K hK => ?_
  simp [hgp, pcells_mk]
  refine hK _ _ _ (nv ?_); clear hK
  refine PC.Run.drawP (pc := [1, 3]) [0, 0, 0, 0, 0] [0, 0, 0, 0, 0] [0, 1, 0, 7, 15] [0, 1, 2, 3, 4] (by kernel_rfl) (by kernel_rfl) ?_
  refine PC.DR.go fun K hK => ?_
  simp
  refine hK _ _ _ _ ?_; clear hK
  refine PC.DR.pcall rfl rfl rfl (by simp) rfl rfl (fun g hg => (c5) g ?_) ?_
  ·simp at hg; (first | (rcases hg with rfl | rfl | rfl | rfl) | (rcases hg with rfl | rfl | rfl) | (rcases hg with rfl | rfl) | subst hg) <;> exact hh.app (by simp)
  refine PC.DR.go fun K hK => ?_
  simp
  refine hK _ _ _ _ ?_; clear hK
  refine PC.DR.pcall rfl rfl rfl (by simp) rfl rfl (fun g hg => (c6) g ?_) ?_
  ·simp at hg; (first | (rcases hg with rfl | rfl | rfl | rfl) | (rcases hg with rfl | rfl | rfl) | (rcases hg with rfl | rfl) | subst hg) <;> exact hh.app (by simp)
  refine PC.DR.go fun K hK => ?_
  simp
  refine hK _ _ _ _ ?_; clear hK
  change Run _ _ _ _ _ _ _ _
  refine cf (by simp) (nv ?_)
  refine Run.reg fun K hK => ?_
  simp
  try (simp (disch := omega) only [wrap_id])
  refine hK _ _ _ (nv ?_); clear hK
  refine Run.keep [0, 2, 4, 38, 39, 40] ?_
  simp only [keepT, keepT.go, List.contains_cons]
  simp
  refine Run.cutAt 1 hh rfl (by omega) (by simp) (by simp) (by simp) rfl ?_
  simp
  refine IH (j + 1) _ _ (by omega) (by omega) ?_ (by simp)
  simp
  repeat' first | exact wn | apply wc | exact wj _ | exact wr _ | exact wz _ | exact wo _ _ _ | exact wi (by omega)
 ·have hje : ps.length ≤ j := by omega
  refine cf (by simp [hje]) ?_
  refine Run.exit rfl ?_
  refine nv ?_
  have c7 := c7 hf.1
  have c8 := c8 hf.1
  generalize ckCl env _ n = r at c7 c8
  refine PC.Run.drawP (pc := [3, 7, 11, 13, 17]) [0, 0, 0, 0, 0, 0, 0, 0, 0, 0, 0, 0, 0, 0, 0, 0, 0, 0, 0, 0] [0, 0, 0, 0, 0, 0, 0, 0, 0, 0, 0, 0, 0, 0, 0, 0, 0, 0, 0, 0] [0, 0, 0, 7, 0, 0, 0, 127, 255, 511, 1023, 2047, 1023, 8191, 16383, 32767, 65535, 131071, 262143, 524287] [0, 1, 2, 3, 4, 5, 6, 7, 8, 9, 10, 11, 12, 13, 14, 15, 16, 17, 18, 19] (by kernel_rfl) (by kernel_rfl) ?_
  refine PC.DR.go fun K hK => ?_
  simp
  refine hK _ _ _ _ ?_; clear hK
  refine PC.DR.pcall rfl rfl rfl (by simp) rfl rfl (fun g hg => (c7) g ?_) ?_
  ·simp at hg; (first | (rcases hg with rfl | rfl | rfl | rfl) | (rcases hg with rfl | rfl | rfl) | (rcases hg with rfl | rfl) | subst hg) <;> exact hh.app (by simp)
  refine PC.DR.go fun K hK => ?_
  simp
  refine hK _ _ _ _ ?_; clear hK
  refine PC.DR.pcall rfl rfl rfl (by simp) rfl rfl (fun g hg => (c8) g ?_) ?_
  ·simp at hg; (first | (rcases hg with rfl | rfl | rfl | rfl) | (rcases hg with rfl | rfl | rfl) | (rcases hg with rfl | rfl) | subst hg) <;> exact hh.app (by simp)
  refine PC.DR.go fun K hK => ?_
  simp
  refine hK _ _ _ _ ?_; clear hK
  refine PC.DR.pcall rfl rfl rfl (by simp) rfl rfl (fun g hg => (c9) g ?_) ?_
  ·simp at hg; (first | (rcases hg with rfl | rfl | rfl | rfl) | (rcases hg with rfl | rfl | rfl) | (rcases hg with rfl | rfl) | subst hg) <;> exact hh.app (by simp)
  refine PC.DR.go fun K hK => ?_
  simp
  refine hK _ _ _ _ ?_; clear hK
  refine PC.DR.pcall rfl rfl rfl (by simp) rfl rfl (fun g hg => (ca) g ?_) ?_
  ·simp at hg; (first | (rcases hg with rfl | rfl | rfl | rfl) | (rcases hg with rfl | rfl | rfl) | (rcases hg with rfl | rfl) | subst hg) <;> exact hh.app (by simp)
  refine PC.DR.go fun K hK => ?_
  simp
  refine hK _ _ _ _ ?_; clear hK
  refine PC.DR.pcall rfl rfl rfl (by simp) rfl rfl (fun g hg => (c4) g ?_) ?_
  ·simp at hg; (first | (rcases hg with rfl | rfl | rfl | rfl) | (rcases hg with rfl | rfl | rfl) | (rcases hg with rfl | rfl) | subst hg) <;> exact hh.app (by simp)
  refine PC.DR.go fun K hK => ?_
  simp
  refine hK _ _ _ _ ?_; clear hK
  change Run _ _ _ _ _ _ _ _
  refine Run.ret ?_
  exact Fin.ret' (h0 := h) (by simp) rfl hh rfl (by simp; rfl) rfl (Weak.refl _) (by simp) ⟨by simp, rfl⟩

end Go.Proofs.YtcfcolkbeelegaaGreat
