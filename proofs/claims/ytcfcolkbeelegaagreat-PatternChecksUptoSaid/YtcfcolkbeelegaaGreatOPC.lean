import Derived.Test.YtcfcolkbeelegaaGreatOPB
import Derived.Test.YtcfcolkbeelegaaGreatOE11

namespace Go.Proofs.YtcfcolkbeelegaaGreat

open Go Go.AI
set_option maxRecDepth 8000 in
set_option maxHeartbeats 16000000 in
theorem pcheck_any (env : List Dc) (hg : Env.good env) (hn : Env.short env) (N : Nat) : ∀ (l : List Pt), Pt.sizes l ≤ N → Pt.sizes l ≤ 1048576 → ∀ h, WF h → ACalls Tryz.prog 70 [envA env, .p (.sl 3 (ptPs l))] h fun o h' => o = .ret (iA (chkPs env l)) ∧ h' = h := by
 induction N with
 | zero =>
  intro l hN hB h hh
  have hl : l = [] := by
   cases l with
   | nil => rfl
   | cons p l => have := p.size_pos; simp only [Pt.sizes] at hN; omega
  subst hl
  refine ACalls.of_run Tryz.func70 rfl ?_
  simp only [Tryz.ntmps70, List.length_cons, List.length_nil]
  refine nv ?_
  refine Run.reg fun K hK => ?_
  simp
  refine hK _ _ _ (nv ?_); clear hK
  refine Run.reg fun K hK => ?_
  simp
  refine hK _ _ _ (nv ?_); clear hK
  refine Run.loop ?_
  refine nv ?_
  refine Run.reg fun K hK => ?_
  simp
  refine hK _ _ _ (nv ?_); clear hK
  refine cf (by simp) ?_
  refine Run.exit rfl ?_
  refine nv ?_
  refine Run.reg fun K hK => ?_
  simp
  refine hK _ _ _ (nv ?_); clear hK
  refine Run.ret ?_
  exact Fin.ret' (by simp) rfl hh (List.append_nil _).symm rfl rfl (Weak.refl _) rfl ⟨rfl, rfl⟩
 | succ N ih =>
 intro l hN hB h hh
 have hll := Pt.length_le l
 refine ACalls.of_run Tryz.func70 rfl ?_
 simp only [Tryz.ntmps70, List.length_cons, List.length_nil]
 refine nv ?_
 refine Run.reg fun K hK => ?_
 simp
 refine hK _ _ _ (nv ?_); clear hK
 refine Run.reg fun K hK => ?_
 simp
 refine hK _ _ _ (nv ?_); clear hK
 refine Run.loopS [0, 11, 12] (fun j : Nat => j ≤ l.length ∧ chkPs env (l.take j) = 0) (fun j => l.length - j) (fun j => [(13, iA j)]) (fun _ => h) 0 (by simp [chkPs]) ?_ rfl ?_
 ·simp
  repeat' first | exact wn | apply wc | exact wj _ | exact wr _ | exact wz _ | exact wo _ _ _ | exact wi (by omega)
 rintro j ⟨hj, hall⟩ IH
 simp
 refine nv ?_
 refine Run.reg fun K hK => ?_
 simp
 refine hK _ _ _ (nv ?_); clear hK
 by_cases hjl : j < l.length
 ·have hgj : l[j]? = some l[j] := List.getElem?_eq_getElem hjl
  have hsz := Pt.size_at (List.getElem_mem hjl)
  have ha := chkPs_at env l j _ hall hgj
  have hs := chkPs_snoc env l j _ hall hgj
  generalize l[j] = p at hgj hsz ha hs
  obtain ⟨k, n, qs⟩ := p
  simp only [Pt.size] at hsz
  have c1 := fun (g : Heap) (hw : WF g) => pfields_any g hw env n hg hn
  have c2 := fun (g : Heap) (hw : WF g) => ih qs (by omega) (by omega) g hw
  obtain ⟨e, he⟩ : ∃ e, chkP env (.mk k n qs) = e := ⟨_, rfl⟩
  rw [he] at ha hs
  simp only [chkP] at he
  generalize chkPs env qs = e2 at c2 he
  generalize fieldsZ env n = fz at c1 he
  obtain ⟨d, m, ok⟩ := fz
  simp only at c1 he
  obtain ⟨dc, hdc⟩ : ∃ dc, dc = d.cells.map AV.p := ⟨_, rfl⟩
  have hdl' : dc.length = 23 := by rw [hdc]; simp [dc_cells_len d]
  have htd : List.take 23 dc = dc := List.take_of_length_le (by omega)
  have hone : dc.all oneA = true := by rw [hdc]; exact dc_one d
  have hpa : ∀ l : List AV, l.length = 23 → patch l 0 dc = dc := fun l hl' => by
   have := patch_full dc l [] (by rw [hl', hdl'])
   simpa only [List.append_nil] using this
  have hdu : ∀ n, AV.underL n dc = true := fun n => by rw [hdc]; simp
  simp only [Dc.av, ← hdc] at c1
  refine ct (by simp [hjl]) (nv ?_)
  refine Run.reg fun K hK => ?_
  simp [hgj, pcells_mk]
  refine hK _ _ _ (nv ?_); clear hK
  refine Run.reg fun K hK => ?_
  simp
  refine hK _ _ _ (nv ?_); clear hK
  refine Run.reg fun K hK => ?_
  simp
  refine hK _ _ _ ?_; clear hK
  repeat (first | refine Run.skip ?_ | refine Run.opsNil ?_ | refine Run.inBlock ?_)
  refine Run.joinH [0, 6, 11, 12, 13, 18] [(19, bA (decide (k = 0 ∨ k = 2 ∨ k = 3)))] (h ++ [some (.cells [iA k, .p (sP n), .p (.sl 3 (ptPs qs))])]) (fun hJ => ?_) ?_
  ·by_cases k0 : k = 0
   ·subst k0
    refine ct (by simp) ?_
    refine Run.skip ?_
    refine hJ _ ?_
    simp
    repeat' first | exact wn | apply wc | exact wj _ | exact wr _ | exact wz _ | exact wo _ _ _ | exact wi (by omega)
   ·refine cf (by simp [k0]) ?_
    refine nv ?_
    refine Run.reg fun K hK => ?_
    simp
    refine hK _ _ _ ?_; clear hK
    repeat (first | refine Run.skip ?_ | refine Run.opsNil ?_ | refine Run.inBlock ?_)
    by_cases k2 : k = 2
    ·subst k2
     refine ct (by simp) ?_
     repeat (first | refine Run.skip ?_ | refine Run.opsNil ?_ | refine Run.inBlock ?_)
     refine hJ _ ?_
     simp
     repeat' first | exact wn | apply wc | exact wj _ | exact wr _ | exact wz _ | exact wo _ _ _ | exact wi (by omega)
    ·have k2' : (k == 2) = false := by simp [k2]
     refine cf (by simp [k2']) ?_
     repeat (first | refine Run.skip ?_ | refine Run.opsNil ?_ | refine Run.inBlock ?_)
     refine Run.reg fun K hK => ?_
     simp
     refine hK _ _ _ ?_; clear hK
     repeat (first | refine Run.skip ?_ | refine Run.opsNil ?_ | refine Run.inBlock ?_)
     refine hJ _ ?_
     simp [k0, k2]
     repeat' first | exact wn | apply wc
     all_goals first | exact Weak.junk _ | exact Weak.refl _ | exact Weak.of_eq (by simp)
  simp only [setMany, keepT, keepT.go, List.contains_cons, List.set_cons_succ, List.set_cons_zero]
  simp
  by_cases hk : k = 0 ∨ k = 2 ∨ k = 3
  ·rw [if_pos hk] at he
   have hkt : (k = 0 ∨ k = 2 ∨ k = 3) = True := eq_true hk
   by_cases hn0 : n = []
   ·by_cases hq0 : qs = []
    ·rw [if_pos ⟨hn0, hq0⟩] at he
     subst hn0 hq0
     refine ct (by simp [hkt]) (nv ?_)
     refine Run.reg fun K hK => ?_
     simp
     refine hK _ _ _ (nv ?_); clear hK
     refine cf (by simp) (nv ?_)
     refine Run.keep [0, 11, 12, 13] ?_
     simp only [keepT, keepT.go, List.contains_cons]
     simp
     refine Run.cutAt 0 hh rfl (by omega) (by simp) (by simp) (by simp) rfl ?_
     simp
     refine Run.reg fun K hK => ?_
     simp
     try (simp (disch := omega) only [wrap_id])
     refine hK _ _ _ (nv ?_); clear hK
     refine IH (j + 1) _ _ ⟨by omega, hs he.symm⟩ (by omega) ?_ (by simp)
     simp
     repeat' first | exact wn | apply wc | exact wj _ | exact wr _ | exact wz _ | exact wo _ _ _ | exact wi (by omega)
    ·rw [if_neg fun x => hq0 x.2] at he
     subst hn0
     subst he
     have hq1 : 0 < qs.length := List.length_pos_iff.2 hq0
     refine ct (by simp [hkt]) (nv ?_)
     refine Run.reg fun K hK => ?_
     simp [hq1]
     refine hK _ _ _ (nv ?_); clear hK
     refine ct (by simp) (nv ?_)
     refine Run.reg fun K hK => ?_
     simp
     refine hK _ _ _ (nv ?_); clear hK
     refine Run.ret ?_
     exact Fin.ret' (h0 := h) (by simp) rfl hh rfl (by simp; rfl) rfl (Weak.refl _) (by simp) ⟨by rw [ha (by decide)]; rfl, rfl⟩
   ·rw [if_neg fun x => hn0 x.1] at he
    subst he
    have hne : n.isEmpty = false := by cases n <;> simp_all
    refine ct (by simp [hkt]) (nv ?_)
    refine Run.reg fun K hK => ?_
    simp [hne]
    refine hK _ _ _ (nv ?_); clear hK
    refine ct (by simp) (nv ?_)
    refine Run.reg fun K hK => ?_
    simp
    refine hK _ _ _ (nv ?_); clear hK
    refine Run.ret ?_
    exact Fin.ret' (h0 := h) (by simp) rfl hh rfl (by simp; rfl) rfl (Weak.refl _) (by simp) ⟨by rw [ha (by decide)]; rfl, rfl⟩
  ·rw [if_neg hk] at he
   refine cf (by simp; omega) (nv ?_)
   refine Run.reg fun K hK => ?_
   simp
   refine hK _ _ _ (nv ?_); clear hK
   by_cases k1 : k = 1
   ·rw [if_pos k1] at he
    subst k1
    refine ct (by simp) (nv ?_)
    refine Run.reg fun K hK => ?_
    simp
    refine hK _ _ _ ?_; clear hK
    refine rc rfl (by first | rfl | simp) (by simp) rfl (c1 _ (hh.app (by simp))) ?_
    refine Run.ops fun K hK => ?_
    simp [hdl', hone, hpa]
    refine hK _ _ _ (nv ?_); clear hK
    refine Run.reg fun K hK => ?_
    simp
    refine hK _ _ _ (nv ?_); clear hK
    cases ok with
    | false =>
     rw [if_pos rfl] at he
     subst he
     refine ct (by simp) (nv ?_)
     refine Run.reg fun K hK => ?_
     simp
     refine hK _ _ _ (nv ?_); clear hK
     refine Run.ret ?_
     exact Fin.ret' (h0 := h) (by simp) rfl hh rfl (by simp; rfl) rfl (Weak.refl _) (by simp) ⟨by rw [ha (by decide)]; rfl, rfl⟩
    | true =>
     rw [if_neg (by simp)] at he
     refine cf (by simp) (nv ?_)
     by_cases hm : (qs.length : Int) = m
     ·rw [if_pos hm] at he
      have hm' : ((qs.length : Int) != m) = false := by simp [hm]
      refine Run.reg fun K hK => ?_
      simp
      refine hK _ _ _ (nv ?_); clear hK
      refine cf (by simp [hm']) (nv ?_)
      refine Run.reg fun K hK => ?_
      simp
      refine hK _ _ _ ?_; clear hK
      refine rc rfl (by first | rfl | simp) (by simp) rfl (c2 _ (hh.app (by simp [hdu]))) ?_
      refine Run.ops fun K hK => ?_
      simp
      refine hK _ _ _ (nv ?_); clear hK
      refine Run.reg fun K hK => ?_
      simp
      refine hK _ _ _ (nv ?_); clear hK
      by_cases h0 : e2 = 0
      ·skip
       refine cf (by simp [h0]) (nv ?_)
       refine Run.keep [0, 11, 12, 13] ?_
       simp only [keepT, keepT.go, List.contains_cons]
       simp
       refine Run.cutAt 0 hh rfl (by omega) (by simp) (by simp) (by simp) rfl ?_
       simp
       refine Run.reg fun K hK => ?_
       simp
       try (simp (disch := omega) only [wrap_id])
       refine hK _ _ _ (nv ?_); clear hK
       refine IH (j + 1) _ _ ⟨by omega, hs (he.symm.trans h0)⟩ (by omega) ?_ (by simp)
       simp
       repeat' first | exact wn | apply wc | exact wj _ | exact wr _ | exact wz _ | exact wo _ _ _ | exact wi (by omega)
      ·subst he
       refine ct (by simp [h0]) (nv ?_)
       refine Run.reg fun K hK => ?_
       simp
       refine hK _ _ _ (nv ?_); clear hK
       refine Run.ret ?_
       exact Fin.ret' (h0 := h) (by simp) rfl hh rfl (by simp; rfl) rfl (Weak.refl _) (by simp) ⟨by rw [ha h0]; rfl, rfl⟩
     ·rw [if_neg hm] at he
      subst he
      have hm' : ((qs.length : Int) != m) = true := by simp [hm]
      refine Run.reg fun K hK => ?_
      simp
      refine hK _ _ _ (nv ?_); clear hK
      refine ct (by simp [hm']) (nv ?_)
      refine Run.reg fun K hK => ?_
      simp
      refine hK _ _ _ (nv ?_); clear hK
      refine Run.ret ?_
      exact Fin.ret' (h0 := h) (by simp) rfl hh rfl (by simp; rfl) rfl (Weak.refl _) (by simp) ⟨by rw [ha (by decide)]; rfl, rfl⟩
   ·rw [if_neg k1] at he
    subst he
    have k1' : (k == 1) = false := by simp [k1]
    refine cf (by simp [k1']) (nv ?_)
    refine Run.reg fun K hK => ?_
    simp
    refine hK _ _ _ (nv ?_); clear hK
    refine Run.ret ?_
    exact Fin.ret' (h0 := h) (by simp) rfl hh rfl (by simp; rfl) rfl (Weak.refl _) (by simp) ⟨by rw [ha (by decide)]; rfl, rfl⟩
 ·have hje : j = l.length := by omega
  subst hje
  rw [List.take_length] at hall
  rw [hall]
  refine cf (by simp) ?_
  refine Run.exit rfl ?_
  refine nv ?_
  refine Run.reg fun K hK => ?_
  simp
  refine hK _ _ _ (nv ?_); clear hK
  refine Run.ret ?_
  exact Fin.ret' (by simp) rfl hh (List.append_nil _).symm rfl rfl (Weak.refl _) rfl ⟨rfl, rfl⟩

end Go.Proofs.YtcfcolkbeelegaaGreat
