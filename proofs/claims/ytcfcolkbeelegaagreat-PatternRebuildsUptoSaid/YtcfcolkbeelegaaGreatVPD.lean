import Derived.Test.YtcfcolkbeelegaaGreatVPB
import Derived.Test.YtcfcolkbeelegaaGreatVX0
set_option maxRecDepth 8000
set_option maxHeartbeats 16000000

namespace Go.Proofs.YtcfcolkbeelegaaGreat

open Go Go.AI
theorem pcheck_any (env : List Dc) (hg : Env.good env) (hn : Env.short env) (N : Nat) : ∀ (l : List Pt), Pt.sizes l ≤ N → Pt.sizes l ≤ 1048576 → ∀ h, WF h → ACalls Tryz.prog 70 [envA env, .p (.sl 3 (ptPs l))] h fun o h' => o = .ret (iA (chkPs env l)) ∧ h' = h := by
 induction N with
 | zero =>
  intro l hN hB h hh
  have hl : l = [] := by
   cases l with
   | nil => rfl
   | cons p l => have := p.size_pos; simp only [Pt.sizes] at hN; omega
  subst hl
  refine ACalls.of_run Tryz.func70 rfl ?_
  simp only [Tryz.ntmps70, List.length_cons, List.length_nil]
  refine nv ?_
  refine Run.reg fun K J => ?_
  simp
  refine J _ _ _ (nv ?_); clear J
  refine Run.reg fun K J => ?_
  simp
  refine J _ _ _ (nv ?_); clear J
  refine Run.loop ?_
  refine nv ?_
  refine Run.reg fun K J => ?_
  simp
  refine J _ _ _ (nv ?_); clear J
  refine cf (by simp) ?_
  refine Run.exit rfl ?_
  refine nv ?_
  refine Run.reg fun K J => ?_
  simp
  refine J _ _ _ (nv ?_); clear J
  refine Run.ret ?_
  exact Fin.ret' (by simp) rfl hh (List.append_nil _).symm rfl rfl (Weak.refl _) rfl ⟨rfl, rfl⟩
 | succ N ih =>
 intro l hN hB h hh
 have hll := Pt.length_le l
 refine ACalls.of_run Tryz.func70 rfl ?_
 simp only [Tryz.ntmps70, List.length_cons, List.length_nil]
 refine nv ?_
 refine Run.reg fun K J => ?_
 simp
 refine J _ _ _ (nv ?_); clear J
 refine Run.reg fun K J => ?_
 simp
 refine J _ _ _ (nv ?_); clear J
 refine Run.loopS [0, 11, 12] (fun j : Nat => j ≤ l.length ∧ chkPs env (l.take j) = 0) (fun j => l.length - j) (fun j => [(13, iA j)]) (fun _ => h) 0 (by simp [chkPs]) ?_ rfl ?_
 ·simp
  repeat' first | exact wn | apply wc | exact wj _ | exact wr _ | exact wz _ | exact wo _ _ _ | exact wi (by omega)
 rintro j ⟨hj, hall⟩ IH
 simp
 refine nv ?_
 refine Run.reg fun K J => ?_
 simp
 refine J _ _ _ (nv ?_); clear J
 by_cases hjl : j < l.length
 ·have hgj : l[j]? = some l[j] := List.getElem?_eq_getElem hjl
  have hsz := Pt.size_at (List.getElem_mem hjl)
  have ha := chkPs_at env l j _ hall hgj
  have hs := chkPs_snoc env l j _ hall hgj
  generalize l[j] = p at hgj hsz ha hs
  obtain ⟨k, n, qs⟩ := p
  simp only [Pt.size] at hsz
  have c1 := fun (g : Heap) (hw : WF g) => pfields_any g hw env n hg hn
  have c2 := fun (g : Heap) (hw : WF g) => ih qs (by omega) (by omega) g hw
  obtain ⟨e, he⟩ : ∃ e, chkP env (.mk k n qs) = e := ⟨_, rfl⟩
  rw [he] at ha hs
  simp only [chkP] at he
  generalize chkPs env qs = e2 at c2 he
  generalize fieldsZ env n = fz at c1 he
  obtain ⟨d, m, ok⟩ := fz
  simp only at c1 he
  obtain ⟨dc, hdc⟩ : ∃ dc, dc = d.cells.map AV.p := ⟨_, rfl⟩
  have hdl' : dc.length = 23 := by rw [hdc]; simp [dc_cells_len d]
  have htd : List.take 23 dc = dc := List.take_of_length_le (by omega)
  have hone : dc.all oneA = true := by rw [hdc]; exact dc_one d
  have hpa : ∀ l : List AV, l.length = 23 → patch l 0 dc = dc := fun l hl' => by
   have := patch_full dc l [] (by rw [hl', hdl'])
   simpa only [List.append_nil] using this
  have hdu : ∀ n, AV.underL n dc = true := fun n => by rw [hdc]; simp
  simp only [Dc.av, ← hdc] at c1
  refine ct (by simp [hjl]) (nv ?_)
  refine Run.reg fun K J => ?_
  simp [hgj, pcells_mk]
  refine J _ _ _ (nv ?_); clear J
  refine Run.reg fun K J => ?_
  simp
  refine J _ _ _ (nv ?_); clear J
  refine Run.reg fun K J => ?_
  simp
  refine J _ _ _ ?_; clear J
  repeat (first | refine Run.skip ?_ | refine Run.opsNil ?_ | refine Run.inBlock ?_)
  refine Run.joinH [0, 6, 11, 12, 13, 18] [(19, bA (decide (k = 0 ∨ k = 2 ∨ k = 3)))] (h ++ [some (.cells [iA k, .p (sP n), .p (.sl 3 (ptPs qs))])]) (fun hJ => ?_) ?_
  ·by_cases k0 : k = 0
   ·subst k0
    refine ct (by simp) ?_
    refine Run.skip ?_
    refine hJ _ ?_
    simp
    repeat' first | exact wn | apply wc | exact wj _ | exact wr _ | exact wz _ | exact wo _ _ _ | exact wi (by omega)
   ·refine cf (by simp [k0]) ?_
    refine nv ?_
    refine Run.reg fun K J => ?_
    simp
    refine J _ _ _ ?_; clear J
    repeat (first | refine Run.skip ?_ | refine Run.opsNil ?_ | refine Run.inBlock ?_)
    by_cases k2 : k = 2
    ·subst k2
     refine ct (by simp) ?_
     repeat (first | refine Run.skip ?_ | refine Run.opsNil ?_ | refine Run.inBlock ?_)
     refine hJ _ ?_
     simp
     repeat' first | exact wn | apply wc | exact wj _ | exact wr _ | exact wz _ | exact wo _ _ _ | exact wi (by omega)
    ·have k2' : (k == 2) = false := by simp [k2]
     refine cf (by simp [k2']) ?_
     repeat (first | refine Run.skip ?_ | refine Run.opsNil ?_ | refine Run.inBlock ?_)
     refine Run.reg fun K J => ?_
     simp
     refine J _ _ _ ?_; clear J
     repeat (first | refine Run.skip ?_ | refine Run.opsNil ?_ | refine Run.inBlock ?_)
     refine hJ _ ?_
     simp [k0, k2]
     repeat' first | exact wn | apply wc
     all_goals first | exact Weak.junk _ | exact Weak.refl _ | exact Weak.of_eq (by simp)
  simp only [setMany, keepT, keepT.go, List.contains_cons, List.set_cons_succ, List.set_cons_zero]
  simp
  by_cases hk : k = 0 ∨ k = 2 ∨ k = 3
  ·rw [if_pos hk] at he
   have hkt : (k = 0 ∨ k = 2 ∨ k = 3) = True := eq_true hk
   by_cases hn0 : n = []
   ·by_cases hq0 : qs = []
    ·rw [if_pos ⟨hn0, hq0⟩] at he
     subst hn0 hq0
     refine ct (by simp [hkt]) (nv ?_)
     refine Run.reg fun K J => ?_
     simp
     refine J _ _ _ (nv ?_); clear J
     refine cf (by simp) (nv ?_)
     refine Run.keep [0, 11, 12, 13] ?_
     simp only [keepT, keepT.go, List.contains_cons]
     simp
     refine Run.cutAt 0 hh rfl (by omega) (by simp) (by simp) (by simp) rfl ?_
     simp
     refine Run.reg fun K J => ?_
     simp
     try (simp (disch := omega) only [wrap_id])
     refine J _ _ _ (nv ?_); clear J
     refine IH (j + 1) _ _ ⟨by omega, hs he.symm⟩ (by omega) ?_ (by simp)
     simp
     repeat' first | exact wn | apply wc | exact wj _ | exact wr _ | exact wz _ | exact wo _ _ _ | exact wi (by omega)
    ·rw [if_neg fun x => hq0 x.2] at he
     subst hn0
     subst he
     have hq1 : 0 < qs.length := List.length_pos_iff.2 hq0
     refine ct (by simp [hkt]) (nv ?_)
     refine Run.reg fun K J => ?_
     simp [hq1]
     refine J _ _ _ (nv ?_); clear J
     refine ct (by simp) (nv ?_)
     refine Run.reg fun K J => ?_
     simp
     refine J _ _ _ (nv ?_); clear J
     refine Run.ret ?_
     exact Fin.ret' (h0 := h) (by simp) rfl hh rfl (by simp; rfl) rfl (Weak.refl _) (by simp) ⟨by rw [ha (by decide)]; rfl, rfl⟩
   ·rw [if_neg fun x => hn0 x.1] at he
    subst he
    have hne : n.isEmpty = false := by cases n <;> simp_all
    refine ct (by simp [hkt]) (nv ?_)
    refine Run.reg fun K J => ?_
    simp [hne]
    refine J _ _ _ (nv ?_); clear J
    refine ct (by simp) (nv ?_)
    refine Run.reg fun K J => ?_
    simp
    refine J _ _ _ (nv ?_); clear J
    refine Run.ret ?_
    exact Fin.ret' (h0 := h) (by simp) rfl hh rfl (by simp; rfl) rfl (Weak.refl _) (by simp) ⟨by rw [ha (by decide)]; rfl, rfl⟩
  ·rw [if_neg hk] at he
   refine cf (by simp; omega) (nv ?_)
   refine Run.reg fun K J => ?_
   simp
   refine J _ _ _ (nv ?_); clear J
   by_cases k1 : k = 1
   ·rw [if_pos k1] at he
    subst k1
    refine ct (by simp) (nv ?_)
    refine Run.reg fun K J => ?_
    simp
    refine J _ _ _ ?_; clear J
    refine rl rfl (by first | rfl | simp) (by simp) rfl (c1 _ (hh.app (by simp))) ?_
    refine Run.ops fun K J => ?_
    simp [hdl', hone, hpa]
    refine J _ _ _ (nv ?_); clear J
    refine Run.reg fun K J => ?_
    simp
    refine J _ _ _ (nv ?_); clear J
    cases ok with
    | false =>
     rw [if_pos rfl] at he
     subst he
     refine ct (by simp) (nv ?_)
     refine Run.reg fun K J => ?_
     simp
     refine J _ _ _ (nv ?_); clear J
     refine Run.ret ?_
     exact Fin.ret' (h0 := h) (by simp) rfl hh rfl (by simp; rfl) rfl (Weak.refl _) (by simp) ⟨by rw [ha (by decide)]; rfl, rfl⟩
    | true =>
     rw [if_neg (by simp)] at he
     refine cf (by simp) (nv ?_)
     by_cases hm : (qs.length : Int) = m
     ·rw [if_pos hm] at he
      have hm' : ((qs.length : Int) != m) = false := by simp [hm]
      refine Run.reg fun K J => ?_
      simp
      refine J _ _ _ (nv ?_); clear J
      refine cf (by simp [hm']) (nv ?_)
      refine Run.reg fun K J => ?_
      simp
      refine J _ _ _ ?_; clear J
      refine rl rfl (by first | rfl | simp) (by simp) rfl (c2 _ (hh.app (by simp [hdu]))) ?_
      refine Run.ops fun K J => ?_
      simp
      refine J _ _ _ (nv ?_); clear J
      refine Run.reg fun K J => ?_
      simp
      refine J _ _ _ (nv ?_); clear J
      by_cases h0 : e2 = 0
      ·skip
       refine cf (by simp [h0]) (nv ?_)
       refine Run.keep [0, 11, 12, 13] ?_
       simp only [keepT, keepT.go, List.contains_cons]
       simp
       refine Run.cutAt 0 hh rfl (by omega) (by simp) (by simp) (by simp) rfl ?_
       simp
       refine Run.reg fun K J => ?_
       simp
       try (simp (disch := omega) only [wrap_id])
       refine J _ _ _ (nv ?_); clear J
       refine IH (j + 1) _ _ ⟨by omega, hs (he.symm.trans h0)⟩ (by omega) ?_ (by simp)
       simp
       repeat' first | exact wn | apply wc | exact wj _ | exact wr _ | exact wz _ | exact wo _ _ _ | exact wi (by omega)
      ·subst he
       refine ct (by simp [h0]) (nv ?_)
       refine Run.reg fun K J => ?_
       simp
       refine J _ _ _ (nv ?_); clear J
       refine Run.ret ?_
       exact Fin.ret' (h0 := h) (by simp) rfl hh rfl (by simp; rfl) rfl (Weak.refl _) (by simp) ⟨by rw [ha h0]; rfl, rfl⟩
     ·rw [if_neg hm] at he
      subst he
      have hm' : ((qs.length : Int) != m) = true := by simp [hm]
      refine Run.reg fun K J => ?_
      simp
      refine J _ _ _ (nv ?_); clear J
      refine ct (by simp [hm']) (nv ?_)
      refine Run.reg fun K J => ?_
      simp
      refine J _ _ _ (nv ?_); clear J
      refine Run.ret ?_
      exact Fin.ret' (h0 := h) (by simp) rfl hh rfl (by simp; rfl) rfl (Weak.refl _) (by simp) ⟨by rw [ha (by decide)]; rfl, rfl⟩
   ·rw [if_neg k1] at he
    subst he
    have k1' : (k == 1) = false := by simp [k1]
    refine cf (by simp [k1']) (nv ?_)
    refine Run.reg fun K J => ?_
    simp
    refine J _ _ _ (nv ?_); clear J
    refine Run.ret ?_
    exact Fin.ret' (h0 := h) (by simp) rfl hh rfl (by simp; rfl) rfl (Weak.refl _) (by simp) ⟨by rw [ha (by decide)]; rfl, rfl⟩
 ·have hje : j = l.length := by omega
  subst hje
  rw [List.take_length] at hall
  rw [hall]
  refine cf (by simp) ?_
  refine Run.exit rfl ?_
  refine nv ?_
  refine Run.reg fun K J => ?_
  simp
  refine J _ _ _ (nv ?_); clear J
  refine Run.ret ?_
  exact Fin.ret' (by simp) rfl hh (List.append_nil _).symm rfl rfl (Weak.refl _) rfl ⟨rfl, rfl⟩


open Go Go.AI

mutual
def hasK (c : Int) : Pt → Bool
 | .mk k _ qs => (k == c) || hasKs c qs
def hasKs (c : Int) : List Pt → Bool
 | [] => false
 | p :: ps => hasK c p || hasKs c ps
end
theorem hasKs_any (c : Int) (l : List Pt) : hasKs c l = l.any (hasK c) := by
 induction l with
 | nil => rfl
 | cons p l ih => simp [hasKs, ih]
theorem any_take {α : Type} {P : α → Bool} {l : List α} {j : Nat} {x : α} (h : l[j]? = some x) (h0 : (l.take j).any P = false) (hx : P x = false) : (l.take (j + 1)).any P = false := by
 have e : l.take (j + 1) = l.take j ++ [x] := by rw [List.take_add_one, h]; rfl
 rw [e, List.any_append, h0]; simp [hx]
theorem any_hit {α : Type} {P : α → Bool} {l : List α} {j : Nat} {x : α} (h : l[j]? = some x) (hx : P x = true) : l.any P = true :=
 List.any_eq_true.2 ⟨x, List.mem_of_getElem? h, hx⟩
theorem idxPt_any (cap : List AV) (P : Pt → Bool) (h : Heap) (hh : WF h) (l : List Pt) (hb : l.length ≤ 1048576) (hc : ∀ p ∈ l, ACalls Tryz.prog 128 ([p.av] ++ cap) h fun o h' => o = .ret (bA (P p)) ∧ h' = h) :
  ACalls Tryz.prog 177 [.p (.sl 3 (ptPs l)), .fn (.func 128) [] cap] h fun o h' => ∃ r : Int, o = .ret (iA r) ∧ h' = h ∧ decide (0 ≤ r) = l.any P := by
 refine ACalls.of_run Tryz.func177 rfl ?_
 simp only [Tryz.ntmps177, List.length_cons, List.length_nil]
 refine nv ?_
 refine Run.reg fun K J => ?_
 simp
 refine J _ _ _ (nv ?_); clear J
 refine Run.reg fun K J => ?_
 simp
 refine J _ _ _ (nv ?_); clear J
 refine Run.loopS [0, 1, 7] (fun j : Nat => j ≤ l.length ∧ (l.take j).any P = false) (fun j => l.length - j) (fun j => [(8, iA j)]) (fun _ => h) 0 (by simp) ?_ rfl ?_
 ·simp
  repeat' first | exact wn | apply wc | exact wj _ | exact wr _ | exact wz _ | exact wo _ _ _ | exact wi (by omega)
 ·rintro j ⟨hj, hall⟩ IH
  simp
  refine nv ?_
  refine Run.reg fun K J => ?_
  simp
  refine J _ _ _ (nv ?_); clear J
  by_cases hjl : j < l.length
  ·have hg' : l[j]? = some l[j] := List.getElem?_eq_getElem hjl
   have hcu := hc _ (List.getElem_mem hjl)
   generalize l[j] = u at hg' hcu
   refine ct (by simp [hjl]) (nv ?_)
   refine Run.reg fun K J => ?_
   simp
   refine J _ _ _ (nv ?_); clear J
   refine Run.reg fun K J => ?_
   simp [hg']
   refine J _ _ _ ?_; clear J
   refine Run.call (args := [u.av] ++ cap) rfl rfl (by simp) rfl hcu ?_ ?_
   ·rintro v h' ⟨hv, hh'⟩
    subst hh'
    simp only [AOut.ret.injEq] at hv
    subst hv
    refine Run.ops fun K J => ?_
    simp
    refine J _ _ _ (nv ?_); clear J
    by_cases h1 : P u = true
    ·skip
     refine ct (by simp [h1]) (nv ?_)
     repeat (first | refine nw ?_ | (refine Run.reg fun K J => ?_; simp; (try (simp (disch := omega) only [wrap_id])); refine J _ _ _ ?_; clear J) | refine ct rfl ?_ | refine cf rfl ?_ | refine Run.exit rfl ?_ | refine Run.ret ?_)
     exact Fin.ret' (by simp) rfl hh (List.append_nil _).symm rfl rfl (Weak.refl _) rfl ⟨j, rfl, rfl, by rw [any_hit hg' h1]; simp⟩
    ·have h1 : P u = false := by simpa using h1
     refine cf (by simp [h1]) (nv ?_)
     refine Run.reg fun K J => ?_
     simp
     try (simp (disch := omega) only [wrap_id])
     refine J _ _ _ (nv ?_); clear J
     refine IH (j + 1) _ _ ⟨by omega, any_take hg' hall h1⟩ (by omega) ?_ rfl
     simp
     repeat' first | exact wn | apply wc | exact wj _ | exact wr _ | exact wz _ | exact wo _ _ _ | exact wi (by omega)
   ·rintro v h' ⟨hv, _⟩; cases hv
  ·have hje : j = l.length := by omega
   subst hje
   rw [List.take_length] at hall
   refine cf (by simp) ?_
   refine Run.exit rfl ?_
   refine nv ?_
   repeat (first | refine nw ?_ | (refine Run.reg fun K J => ?_; simp; (try (simp (disch := omega) only [wrap_id])); refine J _ _ _ ?_; clear J) | refine ct rfl ?_ | refine cf rfl ?_ | refine Run.exit rfl ?_ | refine Run.ret ?_)
   exact Fin.ret' (by simp) rfl hh (List.append_nil _).symm rfl rfl (Weak.refl _) rfl ⟨-1, rfl, rfl, by rw [hall]; rfl⟩
theorem anyPt_any (cap : List AV) (P : Pt → Bool) (h : Heap) (hh : WF h) (l : List Pt) (hb : l.length ≤ 1048576) (hc : ∀ p ∈ l, ACalls Tryz.prog 128 ([p.av] ++ cap) h fun o h' => o = .ret (bA (P p)) ∧ h' = h) :
  ACalls Tryz.prog 127 [.p (.sl 3 (ptPs l)), .fn (.func 128) [] cap] h fun o h' => o = .ret (bA (l.any P)) ∧ h' = h := by
 have hi := idxPt_any cap P h hh l hb hc
 generalize l.any P = r0 at hi ⊢
 refine ACalls.of_run Tryz.func127 rfl ?_
 simp only [Tryz.ntmps127, List.length_cons, List.length_nil]
 refine nv ?_
 refine Run.reg fun K J => ?_
 simp
 refine J _ _ _ (nv ?_); clear J
 refine Run.reg fun K J => ?_
 simp
 refine J _ _ _ ?_; clear J
 refine Run.call rfl rfl (by simp) rfl hi ?_ ?_
 ·rintro v h' ⟨r, hv, hh', hr⟩
  subst hh'
  simp only [AOut.ret.injEq] at hv
  subst hv
  refine Run.ops fun K J => ?_
  simp
  refine J _ _ _ (nv ?_); clear J
  refine Run.ret ?_
  exact Fin.ret' (by simp) rfl hh (List.append_nil _).symm rfl rfl (Weak.of_eq (by simp [← hr])) rfl ⟨rfl, rfl⟩
 ·rintro v h' ⟨r, hv, _⟩; cases hv
theorem pcontains_any (c : Int) (N : Nat) : ∀ (l : List Pt), Pt.sizes l ≤ N → Pt.sizes l ≤ 1048576 → ∀ h, WF h → ACalls Tryz.prog 74 [.p (.sl 3 (ptPs l)), iA c] h fun o h' => o = .ret (bA (hasKs c l)) ∧ h' = h := by
 have key : ∀ l : List Pt, Pt.sizes l ≤ 1048576 → (∀ p ∈ l, ∀ g, WF g → ACalls Tryz.prog 74 [.p (.sl 3 (ptPs p.args)), iA c] g fun o h' => o = .ret (bA (hasKs c p.args)) ∧ h' = g) →
   ∀ h, WF h → ACalls Tryz.prog 74 [.p (.sl 3 (ptPs l)), iA c] h fun o h' => o = .ret (bA (hasKs c l)) ∧ h' = h := by
  intro l hB ih h hh
  have hll := Pt.length_le l
  have hc : ∀ p ∈ l, ∀ (g : Heap) (q : Nat), WF g → g[q]? = some (some (.cells [iA c])) → ACalls Tryz.prog 128 ([p.av] ++ [.ptr q 0]) g fun o h' => o = .ret (bA (hasK c p)) ∧ h' = g := by
   intro p hp g q hg hq
   obtain ⟨p1, _⟩ := idf hq
   have c1 := fun (g : Heap) (hw : WF g) => ih p hp g hw
   obtain ⟨k, n, qs⟩ := p
   simp only [Pt.args] at c1
   simp only [hasK]
   generalize hasKs c qs = b at c1 ⊢
   simp only [Pt.av, pcells_mk, List.map, List.cons_append, List.nil_append]
   refine ACalls.of_run Tryz.func128 rfl ?_
   simp only [Tryz.ntmps128, List.length_cons, List.length_nil]
   refine nv ?_
   refine Run.reg fun K J => ?_
   simp
   refine J _ _ _ (nv ?_); clear J
   cases hk : (k == c) with
   | true =>
    refine Run.reg fun K J => ?_
    simp [p1, hk]
    refine J _ _ _ (nv ?_); clear J
    refine Run.ret ?_
    exact Fin.ret' (h0 := g) (by simp) rfl hg rfl (by simp; rfl) rfl (Weak.refl _) (by simp) ⟨by simp, rfl⟩
   | false =>
    refine Run.reg fun K J => ?_
    simp [p1, hk]
    refine J _ _ _ ?_; clear J
    refine rl rfl (by first | rfl | simp) (by simp) rfl (c1 _ (hg.app (by simp))) ?_
    refine Run.ops fun K J => ?_
    simp
    refine J _ _ _ (nv ?_); clear J
    refine Run.ret ?_
    exact Fin.ret' (h0 := g) (by simp) rfl hg rfl (by simp; rfl) rfl (Weak.refl _) (by simp) ⟨by simp, rfl⟩
  have c2 := fun (g : Heap) (q : Nat) (hw : WF g) (hq : g[q]? = some (some (.cells [iA c]))) => anyPt_any [.ptr q 0] (hasK c) g hw l (by omega) fun p hp => hc p hp g q hw hq
  rw [hasKs_any]
  generalize l.any (hasK c) = b at c2 ⊢
  refine ACalls.of_run Tryz.func74 rfl ?_
  simp only [Tryz.ntmps74, List.length_cons, List.length_nil]
  refine nv ?_
  refine Run.reg fun K J => ?_
  simp
  refine J _ _ _ (nv ?_); clear J
  refine Run.reg fun K J => ?_
  simp
  refine J _ _ _ ?_; clear J
  refine rl rfl (by first | rfl | simp) (by simp) rfl (c2 _ h.length (hh.app (by simp)) (by simp)) ?_
  refine Run.ops fun K J => ?_
  simp
  refine J _ _ _ (nv ?_); clear J
  refine Run.ret ?_
  exact Fin.ret' (h0 := h) (by simp) rfl hh rfl (by simp; rfl) rfl (Weak.refl _) (by simp) ⟨rfl, rfl⟩
 induction N with
 | zero =>
  intro l hN hB h hh
  refine key l hB (fun p hp => ?_) h hh
  have := Pt.size_at hp; have := p.size_pos; omega
 | succ N ih =>
  intro l hN hB h hh
  refine key l hB (fun p hp g hw => ?_) h hh
  have := Pt.size_at hp
  obtain ⟨k, n, qs⟩ := p
  simp only [Pt.size] at this
  exact ih qs (by omega) (by omega) g hw

end Go.Proofs.YtcfcolkbeelegaaGreat
