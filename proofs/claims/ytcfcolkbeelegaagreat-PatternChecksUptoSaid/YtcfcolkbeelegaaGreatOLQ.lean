import Derived.Test.YtcfcolkbeelegaaGreatOX12
import Derived.Test.YtcfcolkbeelegaaGreatOH8
import Derived.Test.YtcfcolkbeelegaaGreatOFF
import Derived.Test.YtcfcolkbeelegaaGreatOFS
import Derived.Test.YtcfcolkbeelegaaGreatProg
import Derived.KernelRfl
import Derived.Shelf.Lays
import Derived.Test.YtcfcolkbeelegaaGreatOM3
import Derived.Test.YtcfcolkbeelegaaGreatOE3
import Derived.Test.YtcfcolkbeelegaaGreatOFU
import Derived.Test.YtcfcolkbeelegaaGreatOH9
import Derived.Test.YtcfcolkbeelegaaGreatOV0
import Derived.Test.YtcfcolkbeelegaaGreatOC
import Derived.Test.YtcfcolkbeelegaaGreatOE11
set_option maxRecDepth 8000
set_option maxHeartbeats 8000000

namespace Go.Proofs.YtcfcolkbeelegaaGreat

open Go Go.AI
theorem indexF_any (h : Heap) (hh : WF h) (l : List Tm) (hl : l.length ≤ 1048576) (hg : ∀ t ∈ l, t.good) : ACalls Tryz.prog 121 [.p (.sl 5 (tmPs l)), .p (.prim (.func (.func 66) #[] #[]))] h fun o h' => RetI (fun _ => True) o ∧ h' = h := by
 refine ACalls.of_run Tryz.func121 rfl ?_
 simp only [Tryz.ntmps121, List.length_cons, List.length_nil]
 refine nv ?_
 refine Run.reg fun K hK => ?_
 simp
 refine hK _ _ _ (nv ?_); clear hK
 refine Run.reg fun K hK => ?_
 simp
 refine hK _ _ _ (nv ?_); clear hK
 refine Run.loopS [0, 1, 7] (fun j : Nat => j ≤ l.length) (fun j => l.length - j) (fun j => [(8, iA j)]) (fun _ => _) 0 (by simp) ?_ rfl ?_
 ·simp
  repeat' first | exact wn | apply wc | exact wj _ | exact wr _ | exact wz _ | exact wo _ _ _ | exact wi (by omega)
 rintro j hj IH
 simp
 refine nv ?_
 refine Run.reg fun K hK => ?_
 simp
 refine hK _ _ _ (nv ?_); clear hK
 by_cases hjl : j < l.length
 ·have hge : l[j]? = some l[j] := List.getElem?_eq_getElem hjl
  have c1 := fun (g : Heap) (hw : WF g) => high_any g hw _ (hg _ (List.getElem_mem hjl))
  generalize (checkZ 60000 8 65536 65536 l[j] != 0) = b at c1
  generalize l[j] = t at hge c1
  obtain ⟨k, i, n, ls, ks⟩ := t
  simp only [Tm.av, cells_mk, List.map] at c1
  refine ct (by simp [hjl]) (nv ?_)
  refine Run.reg fun K hK => ?_
  simp
  refine hK _ _ _ (nv ?_); clear hK
  refine Run.reg fun K hK => ?_
  simp [hge]
  refine hK _ _ _ ?_; clear hK
  refine Run.call rfl (by first | rfl | simp) (by simp) rfl (c1 _ hh) ?_ ?_
  rotate_left
  ·rintro v h' ⟨hv, _⟩; cases hv
  rintro v h' ⟨hv, rfl⟩
  simp only [AOut.ret.injEq] at hv
  subst hv
  cases b with
  | false =>
   refine Run.ops fun K hK => ?_
   simp
   refine hK _ _ _ (nv ?_); clear hK
   refine cf (by simp) (nv ?_)
   refine Run.reg fun K hK => ?_
   simp
   try (simp (disch := omega) only [wrap_id])
   refine hK _ _ _ (nv ?_); clear hK
   refine IH (j + 1) _ _ (by omega) (by omega) ?_ rfl
   simp
   repeat' first | exact wn | apply wc | exact wj _ | exact wr _ | exact wz _ | exact wo _ _ _ | exact wi (by omega)
  | true =>
   refine Run.ops fun K hK => ?_
   simp
   refine hK _ _ _ (nv ?_); clear hK
   refine ct (by simp) (nv ?_)
   repeat (first | refine nw ?_ | (refine Run.reg fun K hK => ?_; simp; (try (simp (disch := omega) only [wrap_id])); refine hK _ _ _ ?_; clear hK) | refine ct rfl ?_ | refine cf rfl ?_ | refine Run.exit rfl ?_ | refine Run.ret ?_)
   exact Fin.ret' (by simp) rfl hh (List.append_nil _).symm rfl rfl (Weak.refl _) rfl ⟨⟨_, rfl, trivial⟩, rfl⟩
 ·have hje : j = l.length := by omega
  subst hje
  refine cf (by simp) ?_
  refine Run.exit rfl ?_
  refine nv ?_
  repeat (first | refine nw ?_ | (refine Run.reg fun K hK => ?_; simp; (try (simp (disch := omega) only [wrap_id])); refine hK _ _ _ ?_; clear hK) | refine ct rfl ?_ | refine cf rfl ?_ | refine Run.exit rfl ?_ | refine Run.ret ?_)
  exact Fin.ret' (by simp) rfl hh (List.append_nil _).symm rfl rfl (Weak.refl _) rfl ⟨⟨_, rfl, trivial⟩, rfl⟩
theorem containsF_any (h : Heap) (hh : WF h) (l : List Tm) (hl : l.length ≤ 1048576) (hg : ∀ t ∈ l, t.good) : ACalls Tryz.prog 65 [.p (.sl 5 (tmPs l)), .p (.prim (.func (.func 66) #[] #[]))] h fun o h' => RetB (fun _ => True) o ∧ h' = h := by
 refine ACalls.of_run Tryz.func65 rfl ?_
 simp only [Tryz.ntmps65, List.length_cons, List.length_nil]
 refine nv ?_
 refine Run.reg fun K hK => ?_
 simp
 refine hK _ _ _ (nv ?_); clear hK
 refine Run.reg fun K hK => ?_
 simp
 refine hK _ _ _ ?_; clear hK
 refine Run.call rfl (by first | rfl | simp) (by simp) rfl (indexF_any _ hh l hl hg) ?_ ?_
 rotate_left
 ·rintro v h' ⟨⟨_, hv, _⟩, _⟩; cases hv
 rintro v h' ⟨⟨e, hv, he⟩, rfl⟩
 simp only [AOut.ret.injEq] at hv
 subst hv
 refine Run.ops fun K hK => ?_
 simp
 refine hK _ _ _ (nv ?_); clear hK
 refine Run.ret ?_
 exact Fin.ret' (by simp) rfl hh (List.append_nil _).symm (by simp; rfl) rfl (Weak.refl _) (by simp) ⟨⟨_, rfl, trivial⟩, rfl⟩
theorem small08_any (h : Heap) (hh : WF h) (env : List Dc) (l : List Tm) (hg : Env.good env) (hsz : Tm.sizes l ≤ 1048576) (hlv : Tm.lvss l) (hf : Tm.fits l) (hgl : ∀ t ∈ l, t.good) :
  ACalls Tryz.prog 20 [envA env, .p (.sl 5 (tmPs l))] h fun o h' => RetB (fun b => b = true → EnvFine env ∧ goodB l = true) o ∧ h' = h := by
 have hll := length_le_sizes l
 have c1 := fun (g : Heap) (hw : WF g) => nodes_any (Tm.sizes l) l 60 g (Nat.le_refl _) (by omega) (by omega) (by omega) hw
 have c2 := fun (g : Heap) (hw : WF g) => good_any g hw l (by omega) hlv hf
 have c3 := fun (g : Heap) (hw : WF g) => goodEnv_any g hw env hg
 have c4 := fun (g : Heap) (hw : WF g) => containsF_any g hw l (by omega) hgl
 generalize goodB l = gb at c2 ⊢
 generalize nd 60 0 l = n at c1
 refine ACalls.of_run Tryz.func20 rfl ?_
 simp only [Tryz.ntmps20, List.length_cons, List.length_nil]
 refine nv ?_
 refine Run.reg fun K hK => ?_
 simp
 refine hK _ _ _ (nv ?_); clear hK
 refine Run.reg fun K hK => ?_
 simp
 refine hK _ _ _ ?_; clear hK
 refine Run.call rfl (by first | rfl | simp) (by simp) rfl (c1 _ hh) ?_ ?_
 rotate_left
 ·rintro v h' ⟨hv, _⟩; cases hv
 rintro v h' ⟨hv, rfl⟩
 simp only [AOut.ret.injEq] at hv
 subst hv
 by_cases e1 : n ≤ 60
 rotate_left
 ·refine Run.ops fun K hK => ?_
  simp [e1]
  refine hK _ _ _ (nv ?_); clear hK
  refine Run.ret ?_
  exact Fin.ret' (by simp) rfl hh (List.append_nil _).symm (by simp; rfl) rfl (Weak.refl _) (by simp) ⟨⟨_, rfl, fun h => by cases h⟩, rfl⟩
 refine Run.ops fun K hK => ?_
 simp [e1]
 refine hK _ _ _ ?_; clear hK
 refine Run.call rfl (by first | rfl | simp) (by simp) rfl (c2 _ hh) ?_ ?_
 rotate_left
 ·rintro v h' ⟨hv, _⟩; cases hv
 rintro v h' ⟨hv, rfl⟩
 simp only [AOut.ret.injEq] at hv
 subst hv
 cases gb with
 | false =>
  refine Run.ops fun K hK => ?_
  simp
  refine hK _ _ _ (nv ?_); clear hK
  refine Run.ret ?_
  exact Fin.ret' (by simp) rfl hh (List.append_nil _).symm (by simp; rfl) rfl (Weak.refl _) (by simp) ⟨⟨_, rfl, fun h => by cases h⟩, rfl⟩
 | true =>
 refine Run.ops fun K hK => ?_
 simp
 refine hK _ _ _ ?_; clear hK
 refine Run.call rfl (by first | rfl | simp) (by simp) rfl (c3 _ hh) ?_ ?_
 rotate_left
 ·rintro v h' ⟨⟨_, hv, _⟩, _⟩; cases hv
 rintro v h' ⟨⟨b, hv, hb⟩, rfl⟩
 simp only [AOut.ret.injEq] at hv
 subst hv
 cases b with
 | false =>
  refine Run.ops fun K hK => ?_
  simp
  refine hK _ _ _ (nv ?_); clear hK
  refine Run.ret ?_
  exact Fin.ret' (by simp) rfl hh (List.append_nil _).symm (by simp; rfl) rfl (Weak.refl _) (by simp) ⟨⟨_, rfl, fun h => by cases h⟩, rfl⟩
 | true =>
  have he := hb rfl
  refine Run.ops fun K hK => ?_
  simp
  refine hK _ _ _ ?_; clear hK
  refine Run.call rfl (by first | rfl | simp) (by simp) rfl (c4 _ hh) ?_ ?_
  rotate_left
  ·rintro v h' ⟨⟨_, hv, _⟩, _⟩; cases hv
  rintro v h' ⟨⟨b, hv, hb⟩, rfl⟩
  simp only [AOut.ret.injEq] at hv
  subst hv
  refine Run.ops fun K hK => ?_
  simp
  refine hK _ _ _ (nv ?_); clear hK
  refine Run.ret ?_
  exact Fin.ret' (by simp) rfl hh (List.append_nil _).symm (by simp; rfl) rfl (Weak.refl _) (by simp) ⟨⟨_, rfl, fun _ => ⟨he, rfl⟩⟩, rfl⟩


open Go Go.AI

mutual
def smP (m : Int) : Pt → Option Int
 | .mk _ n qs => if m ≤ 0 ∨ 80 < (n.length : Int) then none else smPs (m - 1) qs
def smPs (m : Int) : List Pt → Option Int
 | [] => some m
 | p :: ps => match smP m p with | none => none | some k => smPs k ps
end

mutual
theorem smP_eq : ∀ (p : Pt) (m k : Int), smP m p = some k → k = m - p.size ∧ 0 ≤ k
 | .mk _ n qs, m, k, h => by
  simp only [smP] at h
  split at h
  ·cases h
  ·rename_i hc
   have h1 := smPs_eq qs (m - 1) k h
   simp only [Pt.size]
   refine ⟨by rw [h1.1]; omega, h1.2 (by omega)⟩
theorem smPs_eq : ∀ (l : List Pt) (m k : Int), smPs m l = some k → k = m - Pt.sizes l ∧ (0 ≤ m → 0 ≤ k)
 | [], m, k, h => by simp only [smPs, Option.some.injEq] at h; subst h; simp [Pt.sizes]
 | p :: ps, m, k, h => by
  simp only [smPs] at h
  split at h
  ·cases h
  ·rename_i k1 he
   have h1 := smP_eq p m k1 he
   have h2 := smPs_eq ps k1 k h
   simp only [Pt.sizes]
   refine ⟨by rw [h2.1, h1.1]; omega, fun _ => h2.2 h1.2⟩
end
def smA : Option Int → AV
 | some k => .tup [iA k, bA true]
 | none => .tup [iA 0, bA false]
theorem smPs_drop {m k : Int} {l : List Pt} {j : Nat} (h : smPs m l = smPs k (l.drop j)) {x : Pt} (hg : l[j]? = some x) : smPs m l = match smP k x with | none => none | some k => smPs k (l.drop (j + 1)) := by
 rw [h, drop_of_get hg, smPs]
theorem psmall_any (N : Nat) : ∀ (l : List Pt) (m : Int), Pt.sizes l ≤ N → Pt.sizes l ≤ 1048576 → -1 ≤ m → m ≤ 1048576 → ∀ h, WF h → ACalls Tryz.prog 37 [.p (.sl 3 (ptPs l)), iA m] h fun o h' => o = .ret (smA (smPs m l)) ∧ h' = h := by
 have key : ∀ (l : List Pt) (m : Int), Pt.sizes l ≤ 1048576 → -1 ≤ m → m ≤ 1048576 → (∀ p ∈ l, ∀ k, -1 ≤ k → k ≤ 1048576 → ∀ g, WF g → ACalls Tryz.prog 37 [.p (.sl 3 (ptPs p.args)), iA k] g fun o h' => o = .ret (smA (smPs k p.args)) ∧ h' = g) →
   ∀ h, WF h → ACalls Tryz.prog 37 [.p (.sl 3 (ptPs l)), iA m] h fun o h' => o = .ret (smA (smPs m l)) ∧ h' = h := by
  intro l m hB hm1 hm2 ih h hh
  have hll := psz_len l
  refine ACalls.of_run Tryz.func37 rfl ?_
  simp only [Tryz.ntmps37, List.length_cons, List.length_nil]
  refine nv ?_
  refine Run.reg fun K hK => ?_
  simp
  refine hK _ _ _ (nv ?_); clear hK
  refine Run.reg fun K hK => ?_
  simp
  refine hK _ _ _ (nv ?_); clear hK
  refine Run.loopS (ι := Nat × Int) [10, 11] (fun p => p.1 ≤ l.length ∧ -1 ≤ p.2 ∧ p.2 ≤ 1048576 ∧ smPs m l = smPs p.2 (l.drop p.1)) (fun p => l.length - p.1) (fun p => [(1, iA p.2), (12, iA p.1)]) (fun _ => h) (0, m) ⟨by simp, hm1, hm2, by simp⟩ ?_ rfl ?_
  ·simp
   repeat' first | exact wn | apply wc | exact wj _ | exact wr _ | exact wz _ | exact wo _ _ _ | exact wi (by omega)
  rintro ⟨j, k⟩ ⟨hj, hk1, hk2, hd⟩ IH
  simp only at hj hk1 hk2 hd
  simp
  refine nv ?_
  refine Run.reg fun K hK => ?_
  simp
  refine hK _ _ _ (nv ?_); clear hK
  by_cases hjl : j < l.length
  ·have hg : l[j]? = some l[j] := List.getElem?_eq_getElem hjl
   have hmem := List.getElem_mem hjl
   generalize l[j] = x at hg hmem
   have hd2 := smPs_drop hd hg
   have ihx := ih x hmem (k - 1)
   have hsm := smP_eq x k
   have hsz := Pt.size_at hmem
   obtain ⟨pk, pn, qs⟩ := x
   simp only [smP] at hd2 hsm
   simp only [Pt.args] at ihx
   refine ct (by simp [hjl]) (nv ?_)
   refine Run.reg fun K hK => ?_
   simp [hg, pcells_mk]
   refine hK _ _ _ (nv ?_); clear hK
   by_cases h1 : k ≤ 0
   ·simp only [h1, true_or, if_true] at hd2
    rw [hd2]
    refine Run.reg fun K hK => ?_
    simp [h1]
    refine hK _ _ _ (nv ?_); clear hK
    refine ct (by simp) (nv ?_)
    refine Run.reg fun K hK => ?_
    simp
    refine hK _ _ _ (nv ?_); clear hK
    refine Run.ret ?_
    exact Fin.ret' (h0 := h) (by simp) rfl hh rfl (by simp; rfl) rfl (Weak.refl _) (by simp) ⟨by simp [smA], rfl⟩
   by_cases h2 : 80 < pn.length
   ·have h2i : 80 < (pn.length : Int) := by omega
    simp only [h2i, or_true, if_true] at hd2
    rw [hd2]
    refine Run.reg fun K hK => ?_
    simp [h1, h2i]
    refine hK _ _ _ (nv ?_); clear hK
    refine ct (by simp) (nv ?_)
    refine Run.reg fun K hK => ?_
    simp
    refine hK _ _ _ (nv ?_); clear hK
    refine Run.ret ?_
    exact Fin.ret' (h0 := h) (by simp) rfl hh rfl (by simp; rfl) rfl (Weak.refl _) (by simp) ⟨by simp [smA], rfl⟩
   have h2i : ¬ 80 < (pn.length : Int) := by omega
   simp only [h1, h2i, or_self, if_false] at hd2 hsm
   have ihx := fun g hw => ihx (by omega) (by omega) g hw
   refine Run.reg fun K hK => ?_
   simp [h1, h2i]
   refine hK _ _ _ (nv ?_); clear hK
   refine cf (by simp) (nv ?_)
   refine Run.reg fun K hK => ?_
   simp
   try (simp (disch := omega) only [wrap_id])
   refine hK _ _ _ ?_; clear hK
   refine rc rfl (by first | rfl | simp) (by simp) rfl (ihx _ (hh.app (by simp))) ?_
   cases hr : smPs (k - 1) qs with
   | none =>
    rw [hr] at hd2
    simp only at hd2
    rw [hd2]
    simp only [smA]
    refine Run.ops fun K hK => ?_
    simp
    refine hK _ _ _ (nv ?_); clear hK
    refine Run.reg fun K hK => ?_
    simp
    refine hK _ _ _ (nv ?_); clear hK
    refine ct (by simp) (nv ?_)
    refine Run.reg fun K hK => ?_
    simp
    refine hK _ _ _ (nv ?_); clear hK
    refine Run.ret ?_
    exact Fin.ret' (h0 := h) (by simp) rfl hh rfl (by simp; rfl) rfl (Weak.refl _) (by simp) ⟨by simp, rfl⟩
   | some k2 =>
    rw [hr] at hd2
    simp only at hd2
    have hs2 := hsm k2 hr
    have := Pt.size_pos (.mk pk pn qs)
    simp only [smA]
    refine Run.ops fun K hK => ?_
    simp
    refine hK _ _ _ (nv ?_); clear hK
    refine Run.reg fun K hK => ?_
    simp
    refine hK _ _ _ (nv ?_); clear hK
    refine cf (by simp) (nv ?_)
    refine Run.reg fun K hK => ?_
    simp
    refine hK _ _ _ (nv ?_); clear hK
    refine Run.reg fun K hK => ?_
    simp
    try (simp (disch := omega) only [wrap_id])
    refine hK _ _ _ (nv ?_); clear hK
    refine Run.keep [1, 10, 11, 12] ?_
    simp
    refine Run.cutAt 0 hh rfl (by omega) (by simp) (by simp) (by simp) rfl ?_
    simp
    refine IH (j + 1, k2) _ _ ⟨by simp only; omega, by simp only; omega, by simp only; omega, hd2⟩ (by simp only; omega) ?_ (by simp)
    simp
    repeat' first | exact wn | apply wc | exact wj _ | exact wr _ | exact wz _ | exact wo _ _ _ | exact wi (by omega)
  ·have hje : j = l.length := by omega
   subst hje
   rw [List.drop_length, smPs] at hd
   rw [hd]
   refine cf (by simp) ?_
   refine Run.exit rfl ?_
   refine nv ?_
   refine Run.reg fun K hK => ?_
   simp
   refine hK _ _ _ (nv ?_); clear hK
   refine Run.ret ?_
   exact Fin.ret' (by simp) rfl hh (List.append_nil _).symm (by simp; rfl) rfl (Weak.refl _) (by simp) ⟨by simp [smA], rfl⟩
 induction N with
 | zero =>
  intro l m hl hB hm1 hm2
  cases l with
  | nil => exact key [] m hB hm1 hm2 (by simp)
  | cons p l => have := p.size_pos; simp only [Pt.sizes] at hl; omega
 | succ N ih =>
  intro l m hl hB hm1 hm2
  refine key l m hB hm1 hm2 fun p hp k hk1 hk2 g hw => ?_
  have h2 := Pt.size_at hp
  obtain ⟨pk, pn, qs⟩ := p
  simp only [Pt.size] at h2
  exact ih qs k (by omega) (by omega) hk1 hk2 g hw

end Go.Proofs.YtcfcolkbeelegaaGreat

namespace Go.AI

open Go

section

variable {P : Program} {rd : Option Nat} {nb : Nat} {all : Array Oper} {k : List It} {T : List AV} {h : Heap} {D : List AD} {Q : AX → List AV → Heap → List AD → Prop} {o : Oper} {rest : List Oper}
theorem fnil_run {P : Program} {w : World} {t : TypeId} {ox : Operand} {a b c} (ht : P.underlying t = some (.func a b c)) (x : Value) (r : Bool) (hx : (x = .nilFunc ∧ r = true) ∨ (∃ f u v, x = .func f u v) ∧ r = false) :
  (do eqGuard .eql t ox (.const .nilFunc) x .nilFunc; binOp .eql t x .nilFunc : Sem Value).run P w = .ok (.bool r) w := by
 have h1 : ∀ d, (Op.equalIn (d + 1) t .nilFunc .nilFunc).run P w = .ok true w := by
  intro d; simp only [Op.equalIn, Sem.run_bind, run_underlying ht, Result.andThen_ok]; rfl
 have h2 : ∀ d f u v, (Op.equalIn (d + 1) t (.func f u v) .nilFunc).run P w = .ok false w := by
  intro d f u v; simp only [Op.equalIn, Sem.run_bind, run_underlying ht, Result.andThen_ok]; rfl
 have e1 : (Op.equal t .nilFunc .nilFunc).run P w = .ok true w := h1 9999
 have e2 : ∀ f u v, (Op.equal t (.func f u v) .nilFunc).run P w = .ok false w := h2 9999
 have g1 : (eqGuard .eql t ox (.const .nilFunc) .nilFunc .nilFunc).run P w = .ok () w := by
  unfold eqGuard; simp
 have g2 : ∀ f u v, (eqGuard .eql t ox (.const .nilFunc) (.func f u v) .nilFunc).run P w = .ok () w := by
  intro f u v; unfold eqGuard; rfl
 rcases hx with ⟨rfl, rfl⟩ | ⟨⟨f, u, v, rfl⟩, rfl⟩
 ·simp [g1, binOp, e1]
 ·simp [g2, binOp, e2]
theorem Run.funcNil (r : Bool) {t t2 : TypeId} {x : Operand} (ho : o.op = .binOp .eql t x (.const .nilFunc) t2) (hw : awanted all T o = some true) (ht : ∃ a b c, P.underlying t = some (.func a b c))
  (hx : (aev T x = .p (.prim .nilFunc) ∧ r = true) ∨ (∃ f u v, aev T x = .fn f u v) ∧ r = false)
  (n : Run P rd nb (.ops all rest :: k) (tput T o.dst (.p (.prim (.bool r)))) h D Q) : Run P rd nb (.ops all (o :: rest) :: k) T h D Q := by
 refine Run.opR (R := fun y h' => y = .p (.prim (.bool r)) ∧ h' = h) hw (fun c hc => by rw [hc] at ho; cases ho) ?_ (by rintro y h' ⟨rfl, rfl⟩; exact n)
 obtain ⟨a, b, c, ht⟩ := ht
 intro E w ac s
 have hr := aev_rep s x
 refine ⟨_, _, E, w, .bool r, ⟨rfl, rfl⟩, ?_, s.rel, s.fresh, by simp [Rep, RepP, isPrim], Fr.refl _ _ _⟩
 have : ((do eqGuard .eql t x (.const .nilFunc) (ac.eval x) .nilFunc; binOp .eql t (ac.eval x) .nilFunc : Sem Value)).run P w = .ok (.bool r) w := by
  refine fnil_run ht _ _ ?_
  rcases hx with ⟨e, rfl⟩ | ⟨⟨f, u, v, e⟩, rfl⟩
  ·rw [e] at hr
   simp only [Rep, RepP] at hr
   exact .inl ⟨hr.1, rfl⟩
  ·rw [e] at hr
   simp only [Rep] at hr
   obtain ⟨vs, us, e2, _, _⟩ := hr
   exact .inr ⟨⟨_, _, _, e2⟩, rfl⟩
 have hq : ac.eval (.const .nilFunc) = .nilFunc := rfl
 simp only [execOp, ho, hq]
 rw [Sem.run_bind, this]
 rfl

end


open Go

section

variable {P : Program} {rd : Option Nat} {nb : Nat} {all : Array Oper} {k : List It} {T : List AV} {h : Heap} {D : List AD} {Q : AX → List AV → Heap → List AD → Prop} {o : Oper} {rest : List Oper}
theorem Run.assertHit {t xT : TypeId} {x : Operand} {y : AV} (ho : o.op = .typeAssert x xT t true) (hw : awanted all T o = some true) {fs} (ht : P.underlying t = some (.struct fs)) (hx : aev T x = .ifc t y)
  (n : Run P rd nb (.ops all rest :: k) (tput T o.dst (.tup [y, .p (.prim (.bool true))])) h D Q) : Run P rd nb (.ops all (o :: rest) :: k) T h D Q := by
 refine Run.opR (R := fun z h' => z = .tup [y, .p (.prim (.bool true))] ∧ h' = h) hw (fun c hc => by rw [hc] at ho; cases ho) ?_ (by rintro z h' ⟨rfl, rfl⟩; exact n)
 intro E w ac s
 have hr := aev_rep s x
 rw [hx] at hr
 simp only [Rep] at hr
 obtain ⟨u, e, hu⟩ := hr
 refine ⟨_, _, E, w, .tuple #[u, .bool true], ⟨rfl, rfl⟩, ?_, s.rel, s.fresh, ?_, Fr.refl _ _ _⟩
 ·simp [execOp, ho, e, Instr.typeAssert, run_underlying ht]
 ·simp only [Rep, RepL, RepP]
  exact ⟨[u, .bool true], rfl, u, [.bool true], rfl, hu, .bool true, [], rfl, ⟨rfl, rfl⟩, rfl⟩
theorem Run.assertMiss {t t0 xT : TypeId} {x : Operand} {y : AV} {z : List Value} (ho : o.op = .typeAssert x xT t true) (hw : awanted all T o = some true) {fs} (ht : P.underlying t = some (.struct fs)) (hx : aev T x = .ifc t0 y) (hne : t0 ≠ t)
  (hz : ∀ w, (zeroValue t).run P w = .ok (.agg z.toArray) w) (hzp : z.all isPrim = true)
  (n : Run P rd nb (.ops all rest :: k) (tput T o.dst (.tup [.agg (prims z), .p (.prim (.bool false))])) h D Q) : Run P rd nb (.ops all (o :: rest) :: k) T h D Q := by
 refine Run.opR (R := fun v h' => v = .tup [.agg (prims z), .p (.prim (.bool false))] ∧ h' = h) hw (fun c hc => by rw [hc] at ho; cases ho) ?_ (by rintro v h' ⟨rfl, rfl⟩; exact n)
 intro E w ac s
 have hr := aev_rep s x
 rw [hx] at hr
 simp only [Rep] at hr
 obtain ⟨u, e, hu⟩ := hr
 refine ⟨_, _, E, w, .tuple #[.agg z.toArray, .bool false], ⟨rfl, rfl⟩, ?_, s.rel, s.fresh, ?_, Fr.refl _ _ _⟩
 ·simp [execOp, ho, e, Instr.typeAssert, run_underlying ht, hne, hz]
 ·have hp : ∀ l : List Value, l.all isPrim = true → RepL E w (prims l) l := by
   intro l
   induction l with
   | nil => intro _; rfl
   | cons a l ih =>
    intro hl
    simp only [List.all_cons, Bool.and_eq_true] at hl
    exact ⟨_, _, rfl, ⟨rfl, hl.1⟩, ih hl.2⟩
  simp only [Rep, RepL, RepP]
  exact ⟨[.agg z.toArray, .bool false], rfl, .agg z.toArray, [.bool false], rfl, ⟨z, rfl, hp z hzp⟩, .bool false, [], rfl, ⟨rfl, rfl⟩, rfl⟩

end

end Go.AI

namespace Go.Proofs.YtcfcolkbeelegaaGreat

open Go Go.AI
theorem im165 : intMap Tryz.prog 165 = true := by kernel_rfl

attribute [simp] alookup amapUpd kvOf_ikv im165

structure SumH (B : List (Int × Int) → Int → Heap) (id s n : Nat) : Prop where
 len : ∀ om c, (B om c).length = n
 gi : ∀ om c l, (B om c ++ l)[id]? = some (some (.aux (.map (om.map ikv))))
 gs : ∀ om c l, (B om c ++ l)[s]? = some (some (.cells [.mp id, iA c]))
 si : ∀ om c om' l, (B om c ++ l).set id (some (.aux (.map (om'.map ikv)))) = B om' c ++ l
 ss : ∀ om c c' l, (B om c ++ l).set s (some (.cells [.mp id, iA c'])) = B om c' ++ l
 wf : ∀ om c, WF (B om c)
 lt : id < n ∧ s < n
theorem SumH.gl {B : List (Int × Int) → Int → Heap} {id s n : Nat} (hB : SumH B id s n) (om : List (Int × Int)) (c : Int) (l : List (Option AO)) (k : Nat) : (B om c ++ l)[n + k]? = l[k]? := get_lastN (hB.len om c)
theorem SumH.gl0 {B : List (Int × Int) → Int → Heap} {id s n : Nat} (hB : SumH B id s n) (om : List (Int × Int)) (c : Int) (l : List (Option AO)) : (B om c ++ l)[n]? = l[0]? := get_lastN0 (hB.len om c)
theorem SumH.sl {B : List (Int × Int) → Int → Heap} {id s n : Nat} (hB : SumH B id s n) (om : List (Int × Int)) (c : Int) (l : List (Option AO)) (k : Nat) (o : Option AO) : (B om c ++ l).set (n + k) o = B om c ++ l.set k o := set_lastN (hB.len om c)
theorem SumH.sl0 {B : List (Int × Int) → Int → Heap} {id s n : Nat} (hB : SumH B id s n) (om : List (Int × Int)) (c : Int) (l : List (Option AO)) (o : Option AO) : (B om c ++ l).set n o = B om c ++ l.set 0 o := set_lastN0 (hB.len om c)
theorem SumH.wfl {B : List (Int × Int) → Int → Heap} {id s n : Nat} (hB : SumH B id s n) (om : List (Int × Int)) (c : Int) (l : List (Option AO)) (hl : l.all (AO.under (n + l.length)) = true) : WF (B om c ++ l) := (hB.wf om c).app (by rw [hB.len]; exact hl)


open Go Go.AI
theorem SumH.app {B : List (Int × Int) → Int → Heap} {id s n : Nat} (hB : SumH B id s n) (l : List (Option AO)) (hl : l.all (AO.under (n + l.length)) = true) : SumH (fun om c => B om c ++ l) id s (n + l.length) where
 len om c := by rw [List.length_append, hB.len]
 gi om c k := by rw [List.append_assoc]; exact hB.gi om c _
 gs om c k := by rw [List.append_assoc]; exact hB.gs om c _
 si om c om' k := by rw [List.append_assoc, List.append_assoc]; exact hB.si om c om' _
 ss om c c' k := by rw [List.append_assoc, List.append_assoc]; exact hB.ss om c c' _
 wf om c := hB.wfl om c l hl
 lt := ⟨Nat.lt_of_lt_of_le hB.lt.1 (Nat.le_add_right _ _), Nat.lt_of_lt_of_le hB.lt.2 (Nat.le_add_right _ _)⟩


open Go Go.AI
theorem ints_get' (l : List Int) (j : Nat) : (ints l)[j]? = (l[j]?).map fun z => [iP z] := by simp [ints]

attribute [simp] ints_length ints_get'


open Go Go.AI
def paramsL (l : Lv) : Int := if validB l then (match l.vars[l.vars.length - 1]? with | some v => max 0 (v.1 + 1) | none => 0) else 0
theorem upL_last {vs : List (Int × Int)} (h : upL vs) {u v : Int × Int} (hu : vs[vs.length - 1]? = some u) (hv : v ∈ vs) : v.1 ≤ u.1 := by
 induction vs with
 | nil => simp at hv
 | cons x vs ih =>
  cases vs with
  | nil =>
   simp at hu hv
   subst hu hv
   exact Int.le_refl _
  | cons y vs =>
   have hu' : (y :: vs)[(y :: vs).length - 1]? = some u := by simpa using hu
   rcases List.mem_cons.1 hv with rfl | hv
   ·have hm := List.mem_of_getElem? hu'
    have := h.1 u hm
    omega
   ·exact ih h.2 hu' hv
theorem paramsL_lt {l : Lv} (h : validB l = true) {v : Int × Int} (hv : v ∈ l.vars) : v.1 < paramsL l := by
 have hl : 0 < l.vars.length := List.length_pos_of_mem hv
 have hg : l.vars[l.vars.length - 1]? = some l.vars[l.vars.length - 1] := List.getElem?_eq_getElem (by omega)
 have := upL_last (Vd.of h).up hg hv
 unfold paramsL
 rw [h, hg]
 simp only [if_true]
 omega
theorem nodup_len2 : ∀ (n : Nat) (l : List Int) (a : Int), l.Nodup → (∀ x ∈ l, a ≤ x ∧ x < a + n) → l.length ≤ n
 | 0, l, a, _, h => by
  cases l with
  | nil => simp
  | cons x l => have := h x (by simp); omega
 | n + 1, l, a, hn, h => by
  have ih := nodup_len2 n (l.erase (a + n)) a (hn.erase _) fun x hx => by
   rw [hn.mem_erase_iff] at hx
   have := h x hx.2
   have := hx.1
   omega
  rw [List.length_erase] at ih
  split at ih <;> omega

structure StOk (s : Int × List (Int × Int)) : Prop where
 c0 : 0 ≤ s.1
 c1 : s.1 ≤ 200
 nd : (s.2.map Prod.fst).Nodup
 k : ∀ i ∈ s.2.map Prod.fst, -65536 ≤ i ∧ i < 8
theorem addM_keys {P : Int → Prop} (n : Int) : ∀ (vs m : List (Int × Int)), (∀ i ∈ m.map Prod.fst, P i) → (∀ v ∈ vs, P v.1) → ∀ i ∈ (addM m vs n).map Prod.fst, P i
 | [], m, h, _ => h
 | v :: vs, m, h, hv => addM_keys n vs (raiseM m v.1 (v.2 + n)) (fun i hi => by
     rcases raiseM_keys m v.1 (v.2 + n) i hi with c | rfl
     ·exact h i c
     ·exact hv v (by simp)) fun w hw => hv w (by simp [hw])
theorem StOk.step {vals : List Lv} {metas : Bool} (hv : ∀ x ∈ vals, Vd x) {s : Int × List (Int × Int)} (h : StOk s) {v : Int × Int} (v0 : -65536 ≤ v.1) (v1 : v.1 < 8) (p1 : v.2 ≤ 100) : StOk (stepP vals metas s v) := by
 unfold stepP
 split
 ·rename_i x hx
  have hx' : x ∈ vals := by
   unfold hitL at hx
   split at hx
   ·exact List.mem_of_getElem? hx
   ·cases hx
  have V := hv x hx'
  have := V.c1
  have := h.c0
  have := h.c1
  exact ⟨by simp only; omega, by simp only; omega, addM_nodup _ _ h.nd, addM_keys _ _ _ h.k fun w hw => ⟨V.i0 w hw, V.i1 w hw⟩⟩
 ·refine ⟨h.c0, h.c1, raiseM_nodup _ _ h.nd, fun i hi => ?_⟩
  rcases raiseM_keys s.2 v.1 v.2 i hi with c | rfl
  ·exact h.k i c
  ·exact ⟨v0, v1⟩
theorem StOk.all {vals : List Lv} {metas : Bool} (hv : ∀ x ∈ vals, Vd x) : ∀ (vs : List (Int × Int)) {s : Int × List (Int × Int)}, (∀ v ∈ vs, -65536 ≤ v.1 ∧ v.1 < 8 ∧ v.2 ≤ 100) → StOk s → StOk (vs.foldl (stepP vals metas) s)
 | [], _, _, h => h
 | v :: vs, _, hb, h => StOk.all hv vs (fun w hw => hb w (by simp [hw])) (h.step hv (hb v (by simp)).1 (hb v (by simp)).2.1 (hb v (by simp)).2.2)
theorem StOk.len {s : Int × List (Int × Int)} (h : StOk s) : s.2.length ≤ 65544 := by
 have := nodup_len2 65544 (s.2.map Prod.fst) (-65536) h.nd fun x hx => by have := h.k x hx; omega
 simpa using this
theorem StOk.wf {s : Int × List (Int × Int)} (h : StOk s) : ∀ x ∈ s.2, (Lit.int .i64 x.1).wf = true := by
 intro x hx
 have := h.k x.1 (List.mem_map.2 ⟨x, hx, rfl⟩)
 have e1 : IntKind.i64.min = -9223372036854775808 := by decide
 have e2 : IntKind.i64.max = 9223372036854775807 := by decide
 simp only [Lit.wf, e1, e2, Bool.and_eq_true, decide_eq_true_eq]
 omega


open Go Go.AI
def errL (f : Lv → Lv × Int) : List Lv → Int
 | [] => 0
 | l :: ls => if (f l).2 = 0 then errL f ls else (f l).2
theorem buf_set {sz m j : Nat} {es : List (List PV)} {c : List PV} (hes : ∀ e ∈ es, e.length = sz) (hc : c.length = sz) (hj : j < es.length) : patch (buf sz es m) (j * sz) (c.map .p) = buf sz (es.set j c) m := by
 unfold buf
 have hle : j * sz + sz ≤ es.length * sz := by
  have : (j + 1) * sz ≤ es.length * sz := Nat.mul_le_mul_right _ hj
  rw [Nat.add_mul] at this; omega
 rw [patch_app _ _ _ _ (by rw [List.length_map, List.length_map, flat_length hes, hc]; exact hle), ← map_patch, flat_set _ _ _ _ hes hc hj]


open Go Go.AI
def KeyOk (vs : List (Int × Int)) : Prop := upL vs ∧ ∀ y ∈ vs, -65536 ≤ y.1 ∧ y.1 < 8
theorem KeyOk.len {vs : List (Int × Int)} (h : KeyOk vs) : vs.length ≤ 65544 := by
 have := nodup_len2 65544 (vs.map Prod.fst) (-65536) h.1.nodup fun x hx => by
  obtain ⟨y, hy, rfl⟩ := List.mem_map.1 hx
  have := h.2 y hy; omega
 simpa using this
theorem KeyOk.plus {a : List (Int × Int)} (ha : KeyOk a) (n : Int) : KeyOk (plusV a n) :=
 ⟨plusV_up ha.1, fun y hy => by obtain ⟨z, hz, rfl⟩ := List.mem_map.1 hy; exact ha.2 z hz⟩
theorem Vd.key {l : Lv} (h : Vd l) : KeyOk l.vars := ⟨h.up, fun y hy => ⟨h.i0 y hy, h.i1 y hy⟩⟩
theorem KeyOk.plusL {l : Lv} (h : Vd l) (n : Int) : KeyOk (plusL l n).1.vars := by
 have e : (Go.Proofs.YtcfcolkbeelegaaGreat.plusL l n).1.vars = [] ∨ (Go.Proofs.YtcfcolkbeelegaaGreat.plusL l n).1.vars = plusV l.vars n := by
  unfold Go.Proofs.YtcfcolkbeelegaaGreat.plusL
  simp only
  generalize (if 0 < l.c ∨ l.vars = [] then l.c + n else 0) = c
  by_cases h1 : 100 < c
  ·rw [if_pos h1]; exact .inl rfl
  ·rw [if_neg h1]
   by_cases h2 : l.vars.all (fun x => decide (x.2 + n ≤ 100)) = true
   ·rw [if_pos h2]; exact .inr rfl
   ·rw [if_neg h2]; exact .inl rfl
 rcases e with e | e <;> rw [e]
 ·exact ⟨trivial, by simp⟩
 ·exact h.key.plus n

end Go.Proofs.YtcfcolkbeelegaaGreat
