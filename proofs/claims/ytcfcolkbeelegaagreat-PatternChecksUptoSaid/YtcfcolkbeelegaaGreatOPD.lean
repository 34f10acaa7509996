import Derived.Test.YtcfcolkbeelegaaGreatOPC
set_option maxRecDepth 8000
set_option maxHeartbeats 4000000

namespace Go.Proofs.YtcfcolkbeelegaaGreat

open Go Go.AI

mutual
def hasK (c : Int) : Pt → Bool
 | .mk k _ qs => (k == c) || hasKs c qs
def hasKs (c : Int) : List Pt → Bool
 | [] => false
 | p :: ps => hasK c p || hasKs c ps
end
theorem hasKs_any (c : Int) (l : List Pt) : hasKs c l = l.any (hasK c) := by
 induction l with
 | nil => rfl
 | cons p l ih => simp [hasKs, ih]
theorem any_take {α : Type} {P : α → Bool} {l : List α} {j : Nat} {x : α} (h : l[j]? = some x) (h0 : (l.take j).any P = false) (hx : P x = false) : (l.take (j + 1)).any P = false := by
 have e : l.take (j + 1) = l.take j ++ [x] := by rw [List.take_add_one, h]; rfl
 rw [e, List.any_append, h0]; simp [hx]
theorem any_hit {α : Type} {P : α → Bool} {l : List α} {j : Nat} {x : α} (h : l[j]? = some x) (hx : P x = true) : l.any P = true :=
 List.any_eq_true.2 ⟨x, List.mem_of_getElem? h, hx⟩
theorem idxPt_any (cap : List AV) (P : Pt → Bool) (h : Heap) (hh : WF h) (l : List Pt) (hb : l.length ≤ 1048576) (hc : ∀ p ∈ l, ACalls Tryz.prog 128 ([p.av] ++ cap) h fun o h' => o = .ret (bA (P p)) ∧ h' = h) :
  ACalls Tryz.prog 177 [.p (.sl 3 (ptPs l)), .fn (.func 128) [] cap] h fun o h' => ∃ r : Int, o = .ret (iA r) ∧ h' = h ∧ decide (0 ≤ r) = l.any P := by
 refine ACalls.of_run Tryz.func177 rfl ?_
 simp only [Tryz.ntmps177, List.length_cons, List.length_nil]
 refine nv ?_
 refine Run.reg fun K hK => ?_
 simp
 refine hK _ _ _ (nv ?_); clear hK
 refine Run.reg fun K hK => ?_
 simp
 refine hK _ _ _ (nv ?_); clear hK
 refine Run.loopS [0, 1, 7] (fun j : Nat => j ≤ l.length ∧ (l.take j).any P = false) (fun j => l.length - j) (fun j => [(8, iA j)]) (fun _ => h) 0 (by simp) ?_ rfl ?_
 ·simp
  repeat' first | exact wn | apply wc | exact wj _ | exact wr _ | exact wz _ | exact wo _ _ _ | exact wi (by omega)
 ·rintro j ⟨hj, hall⟩ IH
  simp
  refine nv ?_
  refine Run.reg fun K hK => ?_
  simp
  refine hK _ _ _ (nv ?_); clear hK
  by_cases hjl : j < l.length
  ·have hg' : l[j]? = some l[j] := List.getElem?_eq_getElem hjl
   have hcu := hc _ (List.getElem_mem hjl)
   generalize l[j] = u at hg' hcu
   refine ct (by simp [hjl]) (nv ?_)
   refine Run.reg fun K hK => ?_
   simp
   refine hK _ _ _ (nv ?_); clear hK
   refine Run.reg fun K hK => ?_
   simp [hg']
   refine hK _ _ _ ?_; clear hK
   refine Run.call (args := [u.av] ++ cap) rfl rfl (by simp) rfl hcu ?_ ?_
   ·rintro v h' ⟨hv, hh'⟩
    subst hh'
    simp only [AOut.ret.injEq] at hv
    subst hv
    refine Run.ops fun K hK => ?_
    simp
    refine hK _ _ _ (nv ?_); clear hK
    by_cases h1 : P u = true
    ·skip
     refine ct (by simp [h1]) (nv ?_)
     repeat (first | refine nw ?_ | (refine Run.reg fun K hK => ?_; simp; (try (simp (disch := omega) only [wrap_id])); refine hK _ _ _ ?_; clear hK) | refine ct rfl ?_ | refine cf rfl ?_ | refine Run.exit rfl ?_ | refine Run.ret ?_)
     exact Fin.ret' (by simp) rfl hh (List.append_nil _).symm rfl rfl (Weak.refl _) rfl ⟨j, rfl, rfl, by rw [any_hit hg' h1]; simp⟩
    ·have h1 : P u = false := by simpa using h1
     refine cf (by simp [h1]) (nv ?_)
     refine Run.reg fun K hK => ?_
     simp
     try (simp (disch := omega) only [wrap_id])
     refine hK _ _ _ (nv ?_); clear hK
     refine IH (j + 1) _ _ ⟨by omega, any_take hg' hall h1⟩ (by omega) ?_ rfl
     simp
     repeat' first | exact wn | apply wc | exact wj _ | exact wr _ | exact wz _ | exact wo _ _ _ | exact wi (by omega)
   ·rintro v h' ⟨hv, _⟩; cases hv
  ·have hje : j = l.length := by omega
   subst hje
   rw [List.take_length] at hall
   refine cf (by simp) ?_
   refine Run.exit rfl ?_
   refine nv ?_
   repeat (first | refine nw ?_ | (refine Run.reg fun K hK => ?_; simp; (try (simp (disch := omega) only [wrap_id])); refine hK _ _ _ ?_; clear hK) | refine ct rfl ?_ | refine cf rfl ?_ | refine Run.exit rfl ?_ | refine Run.ret ?_)
   exact Fin.ret' (by simp) rfl hh (List.append_nil _).symm rfl rfl (Weak.refl _) rfl ⟨-1, rfl, rfl, by rw [hall]; rfl⟩
theorem anyPt_any (cap : List AV) (P : Pt → Bool) (h : Heap) (hh : WF h) (l : List Pt) (hb : l.length ≤ 1048576) (hc : ∀ p ∈ l, ACalls Tryz.prog 128 ([p.av] ++ cap) h fun o h' => o = .ret (bA (P p)) ∧ h' = h) :
  ACalls Tryz.prog 127 [.p (.sl 3 (ptPs l)), .fn (.func 128) [] cap] h fun o h' => o = .ret (bA (l.any P)) ∧ h' = h := by
 have hi := idxPt_any cap P h hh l hb hc
 generalize l.any P = r0 at hi ⊢
 refine ACalls.of_run Tryz.func127 rfl ?_
 simp only [Tryz.ntmps127, List.length_cons, List.length_nil]
 refine nv ?_
 refine Run.reg fun K hK => ?_
 simp
 refine hK _ _ _ (nv ?_); clear hK
 refine Run.reg fun K hK => ?_
 simp
 refine hK _ _ _ ?_; clear hK
 refine Run.call rfl rfl (by simp) rfl hi ?_ ?_
 ·rintro v h' ⟨r, hv, hh', hr⟩
  subst hh'
  simp only [AOut.ret.injEq] at hv
  subst hv
  refine Run.ops fun K hK => ?_
  simp
  refine hK _ _ _ (nv ?_); clear hK
  refine Run.ret ?_
  exact Fin.ret' (by simp) rfl hh (List.append_nil _).symm rfl rfl (Weak.of_eq (by simp [← hr])) rfl ⟨rfl, rfl⟩
 ·rintro v h' ⟨r, hv, _⟩; cases hv
theorem pcontains_any (c : Int) (N : Nat) : ∀ (l : List Pt), Pt.sizes l ≤ N → Pt.sizes l ≤ 1048576 → ∀ h, WF h → ACalls Tryz.prog 74 [.p (.sl 3 (ptPs l)), iA c] h fun o h' => o = .ret (bA (hasKs c l)) ∧ h' = h := by
 have key : ∀ l : List Pt, Pt.sizes l ≤ 1048576 → (∀ p ∈ l, ∀ g, WF g → ACalls Tryz.prog 74 [.p (.sl 3 (ptPs p.args)), iA c] g fun o h' => o = .ret (bA (hasKs c p.args)) ∧ h' = g) →
   ∀ h, WF h → ACalls Tryz.prog 74 [.p (.sl 3 (ptPs l)), iA c] h fun o h' => o = .ret (bA (hasKs c l)) ∧ h' = h := by
  intro l hB ih h hh
  have hll := Pt.length_le l
  have hc : ∀ p ∈ l, ∀ (g : Heap) (q : Nat), WF g → g[q]? = some (some (.cells [iA c])) → ACalls Tryz.prog 128 ([p.av] ++ [.ptr q 0]) g fun o h' => o = .ret (bA (hasK c p)) ∧ h' = g := by
   intro p hp g q hg hq
   obtain ⟨p1, _⟩ := idf hq
   have c1 := fun (g : Heap) (hw : WF g) => ih p hp g hw
   obtain ⟨k, n, qs⟩ := p
   simp only [Pt.args] at c1
   simp only [hasK]
   generalize hasKs c qs = b at c1 ⊢
   simp only [Pt.av, pcells_mk, List.map, List.cons_append, List.nil_append]
   refine ACalls.of_run Tryz.func128 rfl ?_
   simp only [Tryz.ntmps128, List.length_cons, List.length_nil]
   refine nv ?_
   refine Run.reg fun K hK => ?_
   simp
   refine hK _ _ _ (nv ?_); clear hK
   cases hk : (k == c) with
   | true =>
    refine Run.reg fun K hK => ?_
    simp [p1, hk]
    refine hK _ _ _ (nv ?_); clear hK
    refine Run.ret ?_
    exact Fin.ret' (h0 := g) (by simp) rfl hg rfl (by simp; rfl) rfl (Weak.refl _) (by simp) ⟨by simp, rfl⟩
   | false =>
    refine Run.reg fun K hK => ?_
    simp [p1, hk]
    refine hK _ _ _ ?_; clear hK
    refine rc rfl (by first | rfl | simp) (by simp) rfl (c1 _ (hg.app (by simp))) ?_
    refine Run.ops fun K hK => ?_
    simp
    refine hK _ _ _ (nv ?_); clear hK
    refine Run.ret ?_
    exact Fin.ret' (h0 := g) (by simp) rfl hg rfl (by simp; rfl) rfl (Weak.refl _) (by simp) ⟨by simp, rfl⟩
  have c2 := fun (g : Heap) (q : Nat) (hw : WF g) (hq : g[q]? = some (some (.cells [iA c]))) => anyPt_any [.ptr q 0] (hasK c) g hw l (by omega) fun p hp => hc p hp g q hw hq
  rw [hasKs_any]
  generalize l.any (hasK c) = b at c2 ⊢
  refine ACalls.of_run Tryz.func74 rfl ?_
  simp only [Tryz.ntmps74, List.length_cons, List.length_nil]
  refine nv ?_
  refine Run.reg fun K hK => ?_
  simp
  refine hK _ _ _ (nv ?_); clear hK
  refine Run.reg fun K hK => ?_
  simp
  refine hK _ _ _ ?_; clear hK
  refine rc rfl (by first | rfl | simp) (by simp) rfl (c2 _ h.length (hh.app (by simp)) (by simp)) ?_
  refine Run.ops fun K hK => ?_
  simp
  refine hK _ _ _ (nv ?_); clear hK
  refine Run.ret ?_
  exact Fin.ret' (h0 := h) (by simp) rfl hh rfl (by simp; rfl) rfl (Weak.refl _) (by simp) ⟨rfl, rfl⟩
 induction N with
 | zero =>
  intro l hN hB h hh
  refine key l hB (fun p hp => ?_) h hh
  have := Pt.size_at hp; have := p.size_pos; omega
 | succ N ih =>
  intro l hN hB h hh
  refine key l hB (fun p hp g hw => ?_) h hh
  have := Pt.size_at hp
  obtain ⟨k, n, qs⟩ := p
  simp only [Pt.size] at this
  exact ih qs (by omega) (by omega) g hw
theorem absurd_any (N : Nat) : ∀ (l : List Pt), Pt.sizes l ≤ N → Pt.sizes l ≤ 1048576 → ∀ h, WF h → ACalls Tryz.prog 78 [.p (.sl 3 (ptPs l))] h fun o h' => o = .ret (bA (hasKs 3 l)) ∧ h' = h := by
 have key : ∀ l : List Pt, Pt.sizes l ≤ 1048576 → (∀ p ∈ l, ∀ g, WF g → ACalls Tryz.prog 78 [.p (.sl 3 (ptPs p.args))] g fun o h' => o = .ret (bA (hasKs 3 p.args)) ∧ h' = g) →
   ∀ h, WF h → ACalls Tryz.prog 78 [.p (.sl 3 (ptPs l))] h fun o h' => o = .ret (bA (hasKs 3 l)) ∧ h' = h := by
  intro l hB ih h hh
  have hll := Pt.length_le l
  rw [hasKs_any]
  refine ACalls.of_run Tryz.func78 rfl ?_
  simp only [Tryz.ntmps78, List.length_cons, List.length_nil]
  refine nv ?_
  refine Run.reg fun K hK => ?_
  simp
  refine hK _ _ _ (nv ?_); clear hK
  refine Run.reg fun K hK => ?_
  simp
  refine hK _ _ _ (nv ?_); clear hK
  refine Run.loopS [0] (fun j : Nat => j ≤ l.length ∧ (l.take j).any (hasK 3) = false) (fun j => l.length - j) (fun j => [(3, iA j)]) (fun _ => h) 0 (by simp) ?_ rfl ?_
  ·simp
   repeat' first | exact wn | apply wc | exact wj _ | exact wr _ | exact wz _ | exact wo _ _ _ | exact wi (by omega)
  rintro j ⟨hj, hall⟩ IH
  simp
  refine nv ?_
  refine Run.reg fun K hK => ?_
  simp
  refine hK _ _ _ (nv ?_); clear hK
  by_cases hjl : j < l.length
  ·have hg : l[j]? = some l[j] := List.getElem?_eq_getElem hjl
   have hcj := ih _ (List.getElem_mem hjl)
   have hhit := any_hit (P := hasK 3) hg
   have hnx := any_take (P := hasK 3) hg hall
   generalize l[j] = p at hg hcj hhit hnx
   obtain ⟨k, n, qs⟩ := p
   simp only [Pt.args] at hcj
   simp only [hasK] at hhit hnx
   generalize hasKs 3 qs = b at hcj hhit hnx
   refine ct (by simp [hjl]) (nv ?_)
   cases hk : (k == 3) with
   | true =>
    rw [hk] at hhit
    rw [hhit (by simp)]
    refine Run.reg fun K hK => ?_
    simp [hg, pcells_mk, hk]
    refine hK _ _ _ (nv ?_); clear hK
    refine ct (by simp) (nv ?_)
    refine Run.reg fun K hK => ?_
    simp
    refine hK _ _ _ (nv ?_); clear hK
    refine Run.ret ?_
    exact Fin.ret' (by simp) rfl hh (List.append_nil _).symm rfl rfl (Weak.refl _) rfl ⟨rfl, rfl⟩
   | false =>
    rw [hk] at hhit hnx
    refine Run.reg fun K hK => ?_
    simp [hg, pcells_mk, hk]
    refine hK _ _ _ ?_; clear hK
    refine Run.call rfl (by first | rfl | simp) (by simp) rfl (hcj _ hh) ?_ ?_
    rotate_left
    ·rintro v h' ⟨hv, _⟩; cases hv
    rintro v h' ⟨hv, rfl⟩
    simp only [AOut.ret.injEq] at hv
    subst hv
    cases b with
    | true =>
     rw [hhit (by simp)]
     refine Run.ops fun K hK => ?_
     simp
     refine hK _ _ _ (nv ?_); clear hK
     refine ct (by simp) (nv ?_)
     refine Run.reg fun K hK => ?_
     simp
     refine hK _ _ _ (nv ?_); clear hK
     refine Run.ret ?_
     exact Fin.ret' (by simp) rfl hh (List.append_nil _).symm rfl rfl (Weak.refl _) rfl ⟨rfl, rfl⟩
    | false =>
     refine Run.ops fun K hK => ?_
     simp
     refine hK _ _ _ (nv ?_); clear hK
     refine cf (by simp) (nv ?_)
     refine Run.reg fun K hK => ?_
     simp
     try (simp (disch := omega) only [wrap_id])
     refine hK _ _ _ (nv ?_); clear hK
     refine IH (j + 1) _ _ ⟨by omega, hnx (by simp)⟩ (by omega) ?_ rfl
     simp
     repeat' first | exact wn | apply wc | exact wj _ | exact wr _ | exact wz _ | exact wo _ _ _ | exact wi (by omega)
  ·have hje : j = l.length := by omega
   subst hje
   rw [List.take_length] at hall
   rw [hall]
   refine cf (by simp) ?_
   refine Run.exit rfl ?_
   refine nv ?_
   refine Run.reg fun K hK => ?_
   simp
   refine hK _ _ _ (nv ?_); clear hK
   refine Run.ret ?_
   exact Fin.ret' (by simp) rfl hh (List.append_nil _).symm rfl rfl (Weak.refl _) rfl ⟨rfl, rfl⟩
 induction N with
 | zero =>
  intro l hN hB h hh
  refine key l hB (fun p hp => ?_) h hh
  have := Pt.size_at hp; have := p.size_pos; omega
 | succ N ih =>
  intro l hN hB h hh
  refine key l hB (fun p hp g hw => ?_) h hh
  have := Pt.size_at hp
  obtain ⟨k, n, qs⟩ := p
  simp only [Pt.size] at this
  exact ih qs (by omega) (by omega) g hw

mutual
def cntP : Pt → Nat
 | .mk k _ qs => (if k = 0 then 1 else 0) + cntPs qs
def cntPs : List Pt → Nat
 | [] => 0
 | p :: ps => cntP p + cntPs ps
end

mutual
theorem cntP_le : ∀ p : Pt, cntP p ≤ p.size
 | .mk k n qs => by
  have := cntPs_le qs
  simp only [cntP, Pt.size]
  split <;> omega
theorem cntPs_le : ∀ l : List Pt, cntPs l ≤ Pt.sizes l
 | [] => Nat.le_refl _
 | p :: ps => by
  have := cntP_le p
  have := cntPs_le ps
  simp only [cntPs, Pt.sizes]; omega
end
theorem cntPs_snoc (l : List Pt) (p : Pt) : cntPs (l ++ [p]) = cntPs l + cntP p := by
 induction l with
 | nil => simp [cntPs]
 | cons x l ih => simp only [List.cons_append, cntPs, ih]; omega
theorem cntPs_take (l : List Pt) (j : Nat) : cntPs (l.take j) ≤ cntPs l := by
 induction l generalizing j with
 | nil => simp
 | cons x l ih =>
  cases j with
  | zero => simp [cntPs]
  | succ j => simp only [List.take_succ_cons, cntPs]; have := ih j; omega
theorem cntPs_at {l : List Pt} {j : Nat} {p : Pt} (h : l[j]? = some p) : cntPs (l.take (j + 1)) = cntPs (l.take j) + cntP p := by
 have e : l.take (j + 1) = l.take j ++ [p] := by rw [List.take_add_one, h]; rfl
 rw [e, cntPs_snoc]
theorem count_any (N : Nat) : ∀ (l : List Pt), Pt.sizes l ≤ N → Pt.sizes l ≤ 1048576 → ∀ h, WF h → ACalls Tryz.prog 80 [.p (.sl 3 (ptPs l))] h fun o h' => o = .ret (iA (cntPs l)) ∧ h' = h := by
 have key : ∀ l : List Pt, Pt.sizes l ≤ 1048576 → (∀ p ∈ l, ∀ g, WF g → ACalls Tryz.prog 80 [.p (.sl 3 (ptPs p.args))] g fun o h' => o = .ret (iA (cntPs p.args)) ∧ h' = g) →
   ∀ h, WF h → ACalls Tryz.prog 80 [.p (.sl 3 (ptPs l))] h fun o h' => o = .ret (iA (cntPs l)) ∧ h' = h := by
  intro l hB ih h hh
  have hll := Pt.length_le l
  have hcl := cntPs_le l
  refine ACalls.of_run Tryz.func80 rfl ?_
  simp only [Tryz.ntmps80, List.length_cons, List.length_nil]
  refine nv ?_
  refine Run.reg fun K hK => ?_
  simp
  refine hK _ _ _ (nv ?_); clear hK
  refine Run.reg fun K hK => ?_
  simp
  refine hK _ _ _ (nv ?_); clear hK
  refine Run.reg fun K hK => ?_
  simp
  refine hK _ _ _ (nv ?_); clear hK
  refine Run.loopS [0] (fun j : Nat => j ≤ l.length) (fun j => l.length - j) (fun j => [(3, iA (cntPs (l.take j))), (4, iA j)]) (fun _ => h) 0 (by simp) ?_ rfl ?_
  ·simp [cntPs]
   repeat' first | exact wn | apply wc | exact wj _ | exact wr _ | exact wz _ | exact wo _ _ _ | exact wi (by omega)
  rintro j hj IH
  simp
  refine nv ?_
  refine Run.reg fun K hK => ?_
  simp
  refine hK _ _ _ (nv ?_); clear hK
  by_cases hjl : j < l.length
  ·have hg : l[j]? = some l[j] := List.getElem?_eq_getElem hjl
   have hcj := ih _ (List.getElem_mem hjl)
   have hat := cntPs_at hg
   have hle := cntPs_take l (j + 1)
   generalize l[j] = p at hg hcj hat
   obtain ⟨k, n, qs⟩ := p
   simp only [Pt.args] at hcj
   simp only [cntP] at hat
   generalize cntPs qs = b at hcj hat
   obtain ⟨z, hz⟩ : ∃ z : Nat, cntPs (l.take j) = z := ⟨_, rfl⟩
   rw [hz] at hat
   refine ct (by simp [hjl]) (nv ?_)
   refine Run.reg fun K hK => ?_
   simp [hg, pcells_mk]
   refine hK _ _ _ (nv ?_); clear hK
   obtain ⟨z2, hz2⟩ : ∃ z2 : Nat, (if k = 0 then z + 1 else z) = z2 := ⟨_, rfl⟩
   have hz3 : cntPs (l.take (j + 1)) = z2 + b := by rw [hat, ← hz2]; split <;> omega
   have w1 : IntKind.i64.wrap ((z2 : Int) + (b : Int)) = ((z2 + b : Nat) : Int) := by rw [wrap_id (by omega) (by omega)]; omega
   refine Run.joinH [0, 4] [(3, iA z2)] h (fun hJ => ?_) ?_
   ·by_cases hk : k = 0
    ·rw [if_pos hk] at hz2
     have w0 : IntKind.i64.wrap ((z : Int) + 1) = (z2 : Int) := by rw [wrap_id (by omega) (by omega)]; omega
     refine ct (by simp [hk]) ?_
     refine Run.reg fun K hK => ?_
     simp [hz, w0]
     refine hK _ _ _ ?_; clear hK
     repeat (first | refine Run.skip ?_ | refine Run.opsNil ?_ | refine Run.inBlock ?_)
     refine hJ _ ?_
     simp
     repeat' first | exact wn | apply wc | exact wj _ | exact wr _ | exact wz _ | exact wo _ _ _ | exact wi (by omega)
    ·rw [if_neg hk] at hz2
     refine cf (by simp [hk]) ?_
     refine Run.skip ?_
     refine hJ _ ?_
     simp [hz, hz2]
     repeat' first | exact wn | apply wc | exact wj _ | exact wr _ | exact wz _ | exact wo _ _ _ | exact wi (by omega)
   simp only [setMany, keepT, keepT.go, List.contains_cons, List.set_cons_succ, List.set_cons_zero]
   simp
   refine Run.reg fun K hK => ?_
   simp [hg, pcells_mk]
   refine hK _ _ _ ?_; clear hK
   refine Run.call rfl (by first | rfl | simp) (by simp) rfl (hcj _ hh) ?_ ?_
   rotate_left
   ·rintro v h' ⟨hv, _⟩; cases hv
   rintro v h' ⟨hv, rfl⟩
   simp only [AOut.ret.injEq] at hv
   subst hv
   refine Run.ops fun K hK => ?_
   simp [w1]
   refine hK _ _ _ (nv ?_); clear hK
   refine Run.reg fun K hK => ?_
   simp
   try (simp (disch := omega) only [wrap_id])
   refine hK _ _ _ (nv ?_); clear hK
   refine IH (j + 1) _ _ (by omega) (by omega) ?_ rfl
   simp [hz3]
   repeat' first | exact wn | apply wc | exact wj _ | exact wr _ | exact wz _ | exact wo _ _ _ | exact wi (by omega)
  ·have hje : j = l.length := by omega
   subst hje
   rw [List.take_length]
   refine cf (by simp) ?_
   refine Run.exit rfl ?_
   refine nv ?_
   refine Run.reg fun K hK => ?_
   simp
   refine hK _ _ _ (nv ?_); clear hK
   refine Run.ret ?_
   exact Fin.ret' (by simp) rfl hh (List.append_nil _).symm rfl rfl (Weak.refl _) rfl ⟨rfl, rfl⟩
 induction N with
 | zero =>
  intro l hN hB h hh
  refine key l hB (fun p hp => ?_) h hh
  have := Pt.size_at hp; have := p.size_pos; omega
 | succ N ih =>
  intro l hN hB h hh
  refine key l hB (fun p hp g hw => ?_) h hh
  have := Pt.size_at hp
  obtain ⟨k, n, qs⟩ := p
  simp only [Pt.size] at this
  exact ih qs (by omega) (by omega) g hw
theorem vars1_any (q : Nat) (N : Nat) : ∀ (l : List Pt), Pt.sizes l ≤ N → Pt.sizes l ≤ 1048576 → ∀ h, WF h → h[q]? = some (some (.cells [.fn (.func 90) [] [.ptr q 0]])) → ACalls Tryz.prog 90 [.p (.sl 3 (ptPs l)), .ptr q 0] h fun o h' => o = .ret (iA (cntPs l)) ∧ h' = h := by
 have key : ∀ l : List Pt, Pt.sizes l ≤ 1048576 → (∀ p ∈ l, ∀ g, WF g → g[q]? = some (some (.cells [.fn (.func 90) [] [.ptr q 0]])) → ACalls Tryz.prog 90 [.p (.sl 3 (ptPs p.args)), .ptr q 0] g fun o h' => o = .ret (iA (cntPs p.args)) ∧ h' = g) →
   ∀ h, WF h → h[q]? = some (some (.cells [.fn (.func 90) [] [.ptr q 0]])) → ACalls Tryz.prog 90 [.p (.sl 3 (ptPs l)), .ptr q 0] h fun o h' => o = .ret (iA (cntPs l)) ∧ h' = h := by
  intro l hB ih h hh hq
  obtain ⟨q1, _⟩ := idf hq
  have hql := (List.getElem?_eq_some_iff.1 hq).1
  have hll := Pt.length_le l
  have hcl := cntPs_le l
  refine ACalls.of_run Tryz.func90 rfl ?_
  simp only [Tryz.ntmps90, List.length_cons, List.length_nil]
  refine nv ?_
  refine Run.reg fun K hK => ?_
  simp
  refine hK _ _ _ (nv ?_); clear hK
  refine Run.reg fun K hK => ?_
  simp
  refine hK _ _ _ (nv ?_); clear hK
  refine Run.reg fun K hK => ?_
  simp
  refine hK _ _ _ (nv ?_); clear hK
  refine Run.loopS [1, 7, 8] (fun j : Nat => j ≤ l.length) (fun j => l.length - j) (fun j => [(4, iA (cntPs (l.take j))), (9, iA j)]) (fun _ => h) 0 (by simp) ?_ rfl ?_
  ·simp [cntPs]
   repeat' first | exact wn | apply wc | exact wj _ | exact wr _ | exact wz _ | exact wo _ _ _ | exact wi (by omega)
  rintro j hj IH
  simp
  refine nv ?_
  refine Run.reg fun K hK => ?_
  simp
  refine hK _ _ _ (nv ?_); clear hK
  by_cases hjl : j < l.length
  ·have hg : l[j]? = some l[j] := List.getElem?_eq_getElem hjl
   have hcj := ih _ (List.getElem_mem hjl)
   have hat := cntPs_at hg
   have hle := cntPs_take l (j + 1)
   generalize l[j] = p at hg hcj hat
   obtain ⟨k, n, qs⟩ := p
   simp only [Pt.args] at hcj
   simp only [cntP] at hat
   generalize cntPs qs = b at hcj hat
   obtain ⟨z, hz⟩ : ∃ z : Nat, cntPs (l.take j) = z := ⟨_, rfl⟩
   rw [hz] at hat
   refine ct (by simp [hjl]) (nv ?_)
   refine Run.reg fun K hK => ?_
   simp [hg, pcells_mk]
   refine hK _ _ _ (nv ?_); clear hK
   refine Run.reg fun K hK => ?_
   simp
   refine hK _ _ _ (nv ?_); clear hK
   obtain ⟨z2, hz2⟩ : ∃ z2 : Nat, (if k = 0 then z + 1 else z) = z2 := ⟨_, rfl⟩
   have hz3 : cntPs (l.take (j + 1)) = z2 + b := by rw [hat, ← hz2]; split <;> omega
   have w1 : IntKind.i64.wrap ((z2 : Int) + (b : Int)) = ((z2 + b : Nat) : Int) := by rw [wrap_id (by omega) (by omega)]; omega
   refine Run.joinH [1, 6, 7, 8, 9] [(4, iA z2)] (h ++ [some (.cells [iA k, .p (sP n), .p (.sl 3 (ptPs qs))])]) (fun hJ => ?_) ?_
   ·by_cases hk : k = 0
    ·rw [if_pos hk] at hz2
     have w0 : IntKind.i64.wrap ((z : Int) + 1) = (z2 : Int) := by rw [wrap_id (by omega) (by omega)]; omega
     refine ct (by simp [hk]) ?_
     refine Run.reg fun K hK => ?_
     simp [hz, w0]
     refine hK _ _ _ ?_; clear hK
     repeat (first | refine Run.skip ?_ | refine Run.opsNil ?_ | refine Run.inBlock ?_)
     refine hJ _ ?_
     simp
     repeat' first | exact wn | apply wc | exact wj _ | exact wr _ | exact wz _ | exact wo _ _ _ | exact wi (by omega)
    ·rw [if_neg hk] at hz2
     refine cf (by simp [hk]) ?_
     refine Run.skip ?_
     refine hJ _ ?_
     simp [hz, hz2]
     repeat' first | exact wn | apply wc | exact wj _ | exact wr _ | exact wz _ | exact wo _ _ _ | exact wi (by omega)
   simp only [setMany, keepT, keepT.go, List.contains_cons, List.set_cons_succ, List.set_cons_zero]
   simp
   refine Run.reg fun K hK => ?_
   simp [q1]
   refine hK _ _ _ ?_; clear hK
   refine rc rfl (by first | rfl | simp) (by simp) rfl (hcj _ (hh.app (by simp)) (q1 _)) ?_
   refine Run.ops fun K hK => ?_
   simp [w1]
   refine hK _ _ _ (nv ?_); clear hK
   refine Run.keep [1, 4, 7, 8, 9] ?_
   simp only [keepT, keepT.go, List.contains_cons]
   simp
   refine Run.cutAt 0 hh rfl (by omega) (by simp) (by simp; omega) (by simp) rfl ?_
   simp
   refine Run.reg fun K hK => ?_
   simp
   try (simp (disch := omega) only [wrap_id])
   refine hK _ _ _ (nv ?_); clear hK
   refine IH (j + 1) _ _ (by omega) (by omega) ?_ (by simp)
   simp [hz3]
   repeat' first | exact wn | apply wc | exact wj _ | exact wr _ | exact wz _ | exact wo _ _ _ | exact wi (by omega)
  ·have hje : j = l.length := by omega
   subst hje
   rw [List.take_length]
   refine cf (by simp) ?_
   refine Run.exit rfl ?_
   refine nv ?_
   refine Run.reg fun K hK => ?_
   simp
   refine hK _ _ _ (nv ?_); clear hK
   refine Run.ret ?_
   exact Fin.ret' (by simp) rfl hh (List.append_nil _).symm rfl rfl (Weak.refl _) rfl ⟨rfl, rfl⟩
 induction N with
 | zero =>
  intro l hN hB h hh
  refine key l hB (fun p hp => ?_) h hh
  have := Pt.size_at hp; have := p.size_pos; omega
 | succ N ih =>
  intro l hN hB h hh
  refine key l hB (fun p hp g hw => ?_) h hh
  have := Pt.size_at hp
  obtain ⟨k, n, qs⟩ := p
  simp only [Pt.size] at this
  exact ih qs (by omega) (by omega) g hw
theorem pvars_any (h : Heap) (hh : WF h) (c : Cl) (hB : Pt.sizes c.ps ≤ 1048576) : ACalls Tryz.prog 43 [c.av] h fun o h' => o = .ret (iA (cntPs c.ps)) ∧ h' = h := by
 have c1 := fun (q : Nat) (g : Heap) (hw : WF g) (hq : g[q]? = some (some (.cells [.fn (.func 90) [] [.ptr q 0]]))) => vars1_any q _ c.ps (Nat.le_refl _) hB g hw hq
 obtain ⟨ps, ⟨k, i, n, ls, ks⟩⟩ := c
 simp only at c1
 simp only [Cl.av, Cl.cells, cells_mk, List.map]
 refine ACalls.of_run Tryz.func43 rfl ?_
 simp only [Tryz.ntmps43, List.length_cons, List.length_nil]
 refine nv ?_
 refine Run.reg fun K hK => ?_
 simp
 refine hK _ _ _ (nv ?_); clear hK
 refine Run.reg fun K hK => ?_
 simp
 refine hK _ _ _ (nv ?_); clear hK
 refine Run.reg fun K hK => ?_
 simp
 refine hK _ _ _ (nv ?_); clear hK
 refine Run.reg fun K hK => ?_
 simp
 refine hK _ _ _ ?_; clear hK
 refine rc rfl (by first | rfl | simp) (by simp) rfl (c1 (h.length + 1) _ (hh.app (by simp)) (by simp)) ?_
 refine Run.ops fun K hK => ?_
 simp
 refine hK _ _ _ (nv ?_); clear hK
 refine Run.ret ?_
 exact Fin.ret' (h0 := h) (by simp) rfl hh rfl (by simp; rfl) rfl (Weak.refl _) (by simp) ⟨rfl, rfl⟩
theorem rvars_any (h : Heap) (hh : WF h) (c : Cl) (hB : Pt.sizes c.ps ≤ 1048576) : ACalls Tryz.prog 28 [c.av] h fun o h' => o = .ret (iA (cntPs c.ps)) ∧ h' = h := by
 have c1 := fun (g : Heap) (hw : WF g) => count_any _ c.ps (Nat.le_refl _) hB g hw
 obtain ⟨ps, ⟨k, i, n, ls, ks⟩⟩ := c
 simp only at c1
 simp only [Cl.av, Cl.cells, cells_mk, List.map]
 refine ACalls.of_run Tryz.func28 rfl ?_
 simp only [Tryz.ntmps28, List.length_cons, List.length_nil]
 refine nv ?_
 refine Run.reg fun K hK => ?_
 simp
 refine hK _ _ _ (nv ?_); clear hK
 refine Run.reg fun K hK => ?_
 simp
 refine hK _ _ _ ?_; clear hK
 refine rc rfl (by first | rfl | simp) (by simp) rfl (c1 _ (hh.app (by simp))) ?_
 refine Run.ops fun K hK => ?_
 simp
 refine hK _ _ _ (nv ?_); clear hK
 refine Run.ret ?_
 exact Fin.ret' (h0 := h) (by simp) rfl hh rfl (by simp; rfl) rfl (Weak.refl _) (by simp) ⟨rfl, rfl⟩

end Go.Proofs.YtcfcolkbeelegaaGreat
