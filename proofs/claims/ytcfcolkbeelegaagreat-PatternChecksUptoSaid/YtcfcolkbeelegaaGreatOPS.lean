import Derived.Test.YtcfcolkbeelegaaGreatOX15
import Derived.Test.YtcfcolkbeelegaaGreatOX23
import Derived.Test.YtcfcolkbeelegaaGreatOV0
import Derived.Test.YtcfcolkbeelegaaGreatOFS
import Derived.Test.YtcfcolkbeelegaaGreatOLQ
import Derived.Test.YtcfcolkbeelegaaGreatOE11
import Derived.Test.YtcfcolkbeelegaaGreatOG1
import Derived.Test.YtcfcolkbeelegaaGreatOH8
import Derived.Test.YtcfcolkbeelegaaGreatOLB
set_option maxRecDepth 8000
set_option maxHeartbeats 16000000

namespace Go.Proofs.YtcfcolkbeelegaaGreat

open Go Go.AI
theorem un327 : ∃ a b c, Tryz.prog.underlying 327 = some (.func a b c) := ⟨#[242, 25, 23], #[25, 4], false, by kernel_rfl⟩
theorem st328 : stT Tryz.prog 328 = some [(0, 1), (1, 1), (2, 1), (3, 1), (4, 1), (5, 1), (6, 1)] := by kernel_rfl
def usB (env : List Dc) (n : List UInt8) (ls : List Lv) : Bool := decide ((resFind env n).2 = 0) && decide ((ls.length : Int) = (resFind env n).1.ps)
theorem usable_any (env : List Dc) (hg : Env.good env) (hn : Env.short env) (k i : Int) (nm : List UInt8) (ls : List Lv) (ks : List Tm) (q : Nat) (s : Int) (h : Heap) (hh : WF h) (hq : h[q]? = some (some (.cells [envA env, iA s]))) :
  ACalls Tryz.prog 261 [.ptr q 0, (Tm.mk k i nm ls ks).av] h fun o h' => o = .ret (.tup [(resFind env nm).1.av, bA (usB env nm ls)]) ∧ h' = h := by
 have hql := (List.getElem?_eq_some_iff.1 hq).1
 have hq' : ∀ l : List (Option AO), (h ++ l)[q]? = some (some (.cells [envA env, iA s])) := fun l => by rw [List.getElem?_append_left hql]; exact hq
 have c1 := fun (g : Heap) (hw : WF g) => find_any g hw env nm hg hn
 unfold usB
 generalize resFind env nm = r at c1 ⊢
 obtain ⟨⟨a0, a1, a2, a3, ⟨b0, b1, b2, b3, b4⟩⟩, e⟩ := r
 simp only [En.av, En.cells, cells_mk, List.map] at c1
 refine ACalls.of_run Tryz.func261 rfl ?_
 simp only [Tryz.ntmps261, List.length_cons, List.length_nil, Tm.av, cells_mk, List.map]
 refine nv ?_
 refine Run.reg fun K hK => ?_
 simp
 refine hK _ _ _ (nv ?_); clear hK
 refine PC.Run.drawP (pc := [6]) [0, 0, 0, 0, 0, 0, 0, 0, 0, 0, 0, 1, 2] [0, 0, 0, 0, 0, 0, 0, 0, 0, 0, 0, 1, 0] [0, 1, 3, 7, 0, 16, 63, 127, 255, 255, 0, 1535, 4095] [10, 0, 1, 2, 3, 4, 5, 6, 7, 8, 11, 9, 12] (by kernel_rfl) (by kernel_rfl) ?_
 refine PC.DR.go fun K hK => ?_
 simp [hq']
 refine hK _ _ _ _ ?_; clear hK
 refine PC.DR.pcall rfl rfl rfl (by simp) rfl rfl (fun g hg => (c1) g ?_) ?_
 ·simp at hg; (first | (rcases hg with rfl | rfl | rfl | rfl) | (rcases hg with rfl | rfl | rfl) | (rcases hg with rfl | rfl) | subst hg) <;> exact hh.app (by simp)
 refine PC.DR.go fun K hK => ?_
 simp
 refine hK _ _ _ _ ?_; clear hK
 change Run _ _ _ _ _ _ _ _
 refine nv ?_
 by_cases he : e = 0
 ·subst he
  have hl : ((ls.length : Int) == a3) = decide ((ls.length : Int) = a3) := rfl
  refine Run.draw [0, 0, 0, 0, 0, 0, 0, 0, 0, 0, 0, 0, 1] [0, 0, 0, 0, 0, 0, 0, 0, 0, 0, 0, 0, 0] [0, 0, 2, 6, 14, 30, 62, 14, 142, 510, 1022, 15, 4095] [0, 1, 2, 3, 11, 4, 5, 6, 7, 8, 9, 10, 12] (by kernel_rfl) (by kernel_rfl) ?_
  refine DR.go fun K hK => ?_
  simp [hl]
  refine hK _ _ _ _ ?_; clear hK
  change Run _ _ _ _ _ _ _ _
  refine Run.ret ?_
  exact Fin.ret' (h0 := h) (by simp) rfl hh rfl (by simp; rfl) rfl (Weak.refl _) (by simp) ⟨by simp [En.av, En.cells], rfl⟩
 ·have heb : (e == (0 : Int)) = false := by simpa using he
  refine Run.draw [0, 0, 0, 0, 0, 0, 0, 0, 0, 0, 0, 0, 1] [0, 0, 0, 0, 0, 0, 0, 0, 0, 0, 0, 0, 0] [0, 0, 2, 6, 14, 30, 62, 14, 142, 510, 1022, 15, 4095] [0, 1, 2, 3, 11, 4, 5, 6, 7, 8, 9, 10, 12] (by kernel_rfl) (by kernel_rfl) ?_
  refine DR.go fun K hK => ?_
  simp [heb]
  refine hK _ _ _ _ ?_; clear hK
  change Run _ _ _ _ _ _ _ _
  refine Run.ret ?_
  exact Fin.ret' (h0 := h) (by simp) rfl hh rfl (by simp; rfl) rfl (Weak.refl _) (by simp) ⟨by simp [En.av, En.cells, he], rfl⟩
def stuckC (env : List Dc) (n : List UInt8) (ls : List Lv) : Prop := usB env n ls = false ∨ (resFind env n).1.k = 0 ∨ (resFind env n).1.k = 2 ∨ (resFind env n).1.k = 3 ∨ (resFind env n).1.k = 4
theorem constStuck_any (env : List Dc) (hg : Env.good env) (hn : Env.short env) (k i : Int) (nm : List UInt8) (ls : List Lv) (ks args : List Tm) (q : Nat) (s : Int) (h : Heap) (hh : WF h) (hq : h[q]? = some (some (.cells [envA env, iA s]))) (hst : stuckC env nm ls) :
  ACalls Tryz.prog 237 [.ptr q 0, (Tm.mk k i nm ls ks).av, .p (.sl 5 (tmPs args))] h fun o h' => o = .ret (.tup [zT.av, bA false]) ∧ h' = h := by
 have hql := (List.getElem?_eq_some_iff.1 hq).1
 have hq' : ∀ l : List (Option AO), (h ++ l)[q]? = some (some (.cells [envA env, iA s])) := fun l => by rw [List.getElem?_append_left hql]; exact hq
 have c1 := fun (l : List (Option AO)) (hw : WF (h ++ l)) => usable_any env hg hn k i nm ls ks q s (h ++ l) hw (hq' l)
 unfold stuckC at hst
 generalize usB env nm ls = b at c1 hst
 generalize resFind env nm = r at c1 hst
 obtain ⟨⟨a0, a1, a2, a3, ⟨b0, b1, b2, b3, b4⟩⟩, e⟩ := r
 simp only [En.av, En.cells, cells_mk, List.map, Tm.av] at c1
 simp only at hst
 simp only [Tm.av, zT, cells_mk, List.map]
 refine ACalls.of_run Tryz.func237 rfl ?_
 simp only [Tryz.ntmps237, List.length_cons, List.length_nil]
 refine nv ?_
 refine Run.reg fun K hK => ?_
 simp
 refine hK _ _ _ (nv ?_); clear hK
 refine Run.reg fun K hK => ?_
 simp
 refine hK _ _ _ ?_; clear hK
 refine rc rfl (by first | rfl | simp) (by simp) rfl (c1 _ (hh.app (by simp))) ?_
 refine Run.ops fun K hK => ?_
 simp
 refine hK _ _ _ (nv ?_); clear hK
 refine Run.reg fun K hK => ?_
 simp
 refine hK _ _ _ (nv ?_); clear hK
 cases b with
 | false =>
  refine ct (by simp) (nv ?_)
  refine Run.reg fun K hK => ?_
  simp
  refine hK _ _ _ (nv ?_); clear hK
  refine Run.ret ?_
  exact Fin.ret' (h0 := h) (xs := [.agg zTm, bA false]) (by simp) rfl hh rfl (by simp) rfl (Weak.tup (WeakL.cons Weak.zT (WeakL.refl _))) (by simp) ⟨rfl, rfl⟩
 | true =>
  simp only [reduceCtorEq, false_or] at hst
  refine cf (by simp) (nv ?_)
  rcases hst with rfl | rfl | rfl | rfl
  all_goals
   refine Run.reg fun K hK => ?_
   simp [st328, ar328]
   refine hK _ _ _ (nv ?_); clear hK
   refine Run.regPre 1 fun K hK => ?_
   simp only [List.take_succ_cons, List.take_zero]
   simp
   refine hK _ _ _ ?_; clear hK
   simp only [List.nil_append, List.drop_succ_cons, List.drop_zero]
   refine Run.funcNil true rfl (by simp [awanted]) un327 (.inl ⟨by simp, rfl⟩) ?_
   simp
   refine Run.ops fun K hK => ?_
   simp
   refine hK _ _ _ (nv ?_); clear hK
   refine ct (by simp) (nv ?_)
   refine Run.reg fun K hK => ?_
   simp
   refine hK _ _ _ (nv ?_); clear hK
   refine Run.ret ?_
   exact Fin.ret' (h0 := h) (xs := [.agg zTm, bA false]) (by simp) rfl hh rfl (by simp) rfl (Weak.tup (WeakL.cons Weak.zT (WeakL.refl _))) (by simp) ⟨rfl, rfl⟩
def stuckT (env : List Dc) (t : Tm) : Prop := t.size ≤ 40960 ∧ (resSpine t).2.length ≤ 40960 ∧ match (resSpine t).1 with
 | .mk k _ n ls _ => k ≠ 5 ∧ k ≠ 11 ∧ k ≠ 9 ∧ k ≠ 10 ∧ (k = 3 → stuckC env n ls)
theorem whnfStuck_any (env : List Dc) (hg : Env.good env) (hn : Env.short env) (t : Tm) (hst : stuckT env t) (q : Nat) (s : Int) (h : Heap) (hh : WF h) (hq : h[q]? = some (some (.cells [envA env, iA s]))) :
  ACalls Tryz.prog 211 [.ptr q 0, t.av] h fun o h' => o = .ret t.av ∧ h' = h := by
 have hql := (List.getElem?_eq_some_iff.1 hq).1
 have hq' : ∀ l : List (Option AO), (h ++ l)[q]? = some (some (.cells [envA env, iA s])) := fun l => by rw [List.getElem?_append_left hql]; exact hq
 obtain ⟨h1, h2, h3⟩ := hst
 have c1 := fun (g : Heap) (hw : WF g) => spine72_any g hw t (by omega)
 generalize resSpine t = r at c1 h2 h3
 obtain ⟨⟨k, i, nm, ls, ks⟩, asp⟩ := r
 simp only at h2 h3
 obtain ⟨n5, n11, n9, n10, hc⟩ := h3
 have c2 := fun (l : List (Option AO)) (hw : WF (h ++ l)) hc => constStuck_any env hg hn k i nm ls ks asp q s (h ++ l) hw (hq' l) hc
 obtain ⟨k0, i0, nm0, ls0, ks0⟩ := t
 simp only [Tm.av, zT, cells_mk, List.map] at c1 c2 ⊢
 have hasl : ¬ 40960 < (asp.length : Int) := by omega
 have hasl' : ¬ 40960 < asp.length := by omega
 have k5 : (k == (5 : Int)) = false := by simpa using n5
 have k11 : (k == (11 : Int)) = false := by simpa using n11
 have k9 : (k == (9 : Int)) = false := by simpa using n9
 have k10 : (k == (10 : Int)) = false := by simpa using n10
 refine ACalls.of_run Tryz.func211 rfl ?_
 simp only [Tryz.ntmps211, List.length_cons, List.length_nil]
 refine nv ?_
 refine Run.reg fun K hK => ?_
 simp
 refine hK _ _ _ (nv ?_); clear hK
 refine Run.loop ?_
 refine nv ?_
 refine Run.reg fun K hK => ?_
 simp
 refine hK _ _ _ ?_; clear hK
 refine rc rfl (by first | rfl | simp) (by simp) rfl (c1 _ (hh.app (by simp))) ?_
 refine Run.ops fun K hK => ?_
 simp
 refine hK _ _ _ (nv ?_); clear hK
 refine Run.reg fun K hK => ?_
 simp [hasl]
 refine hK _ _ _ (nv ?_); clear hK
 refine cf (by simp) (nv ?_)
 refine Run.reg fun K hK => ?_
 simp
 refine hK _ _ _ (nv ?_); clear hK
 refine Run.reg fun K hK => ?_
 simp [k5]
 refine hK _ _ _ (nv ?_); clear hK
 refine cf (by simp) (nv ?_)
 refine Run.reg fun K hK => ?_
 simp [k11]
 refine hK _ _ _ (nv ?_); clear hK
 refine cf (by simp) (nv ?_)
 refine Run.reg fun K hK => ?_
 simp [k9]
 refine hK _ _ _ (nv ?_); clear hK
 refine cf (by simp) ?_
 refine Run.reg fun K hK => ?_
 simp [k10]
 refine hK _ _ _ (nv ?_); clear hK
 refine cf (by simp) (nv ?_)
 by_cases k3 : k = 3
 ·subst k3
  refine Run.reg fun K hK => ?_
  simp
  refine hK _ _ _ (nv ?_); clear hK
  refine ct (by simp) (nv ?_)
  refine Run.reg fun K hK => ?_
  simp
  refine hK _ _ _ ?_; clear hK
  refine rc rfl (by first | rfl | simp) (by simp) rfl (c2 _ (hh.app (by simp)) (hc rfl)) ?_
  refine Run.ops fun K hK => ?_
  simp
  refine hK _ _ _ (nv ?_); clear hK
  refine Run.reg fun K hK => ?_
  simp
  refine hK _ _ _ (nv ?_); clear hK
  refine ct (by simp) (nv ?_)
  refine Run.reg fun K hK => ?_
  simp
  refine hK _ _ _ (nv ?_); clear hK
  refine Run.ret ?_
  exact Fin.ret' (h0 := h) (by simp) rfl hh rfl (by simp; rfl) rfl (Weak.refl _) (by simp) ⟨rfl, rfl⟩
 ·have k3b : (k == (3 : Int)) = false := by simpa using k3
  refine Run.reg fun K hK => ?_
  simp [k3b]
  refine hK _ _ _ (nv ?_); clear hK
  refine cf (by simp) (nv ?_)
  refine Run.reg fun K hK => ?_
  simp
  refine hK _ _ _ (nv ?_); clear hK
  refine Run.ret ?_
  exact Fin.ret' (h0 := h) (by simp) rfl hh rfl (by simp; rfl) rfl (Weak.refl _) (by simp) ⟨rfl, rfl⟩


open Go Go.AI
theorem runDef_ok (h : Heap) (hh : WF h) (p : Nat) : ADef Tryz.prog 233 [.ptr p 0] none h h := by
 refine ADef.of_run Tryz.func233 rfl rfl rfl fun K hK => ?_
 simp only [Tryz.ntmps233, List.length_cons, List.length_nil]
 simp [recA]
 refine hK _ _ ?_; clear hK
 have hu : Tryz.prog.underlying 20 = some (.interface #[]) := by kernel_rfl
 refine nv ?_
 refine Run.reg fun K hK => ?_
 simp [hu]
 refine hK _ _ _ (nv ?_); clear hK
 refine cf (by simp) (nv ?_)
 refine Run.nil ?_
 exact Fin.ret' (by simp) rfl hh (List.append_nil _).symm rfl rfl (Weak.refl _) rfl ⟨⟨_, rfl⟩, rfl⟩

section

variable (env : List Dc) (t t' : Tm) (s' : Int)
def WhnfDoes : Prop := ∀ (H : Heap) (q : Nat), WF H → H[q]? = some (some (.cells [envA env, iA 20000])) → ACalls Tryz.prog 211 [.ptr q 0, t.av] H fun o h' => o = .ret t'.av ∧ h' = H.set q (some (.cells [envA env, iA s']))
theorem whnf1_any (hc : WhnfDoes env t t' s') (H : Heap) (hh : WF H) (q p r : Nat) (hq : H[q]? = some (some (.cells [envA env, iA 20000]))) (hp : H[p]? = some (some (.cells (t.cells.map .p)))) {a b c d e : AV} (hr : H[r]? = some (some (.cells [a, b, c, d, e]))) (hqr : q ≠ r) :
  ACalls Tryz.prog 210 [.ptr q 0, .ptr p 0, .ptr r 0] H fun o h' => o = .ret (.tup []) ∧ h' = (H.set q (some (.cells [envA env, iA s']))).set r (some (.cells (t'.cells.map .p))) := by
 have c1 := hc H q hh hq
 have hrl := (List.getElem?_eq_some_iff.1 hr).1
 have hr2 : (H.set q (some (.cells [envA env, iA s'])))[r]? = some (some (.cells [a, b, c, d, e])) := by rw [List.getElem?_set_ne hqr]; exact hr
 obtain ⟨k, i, nm, ls, ks⟩ := t
 obtain ⟨k2, i2, nm2, ls2, ks2⟩ := t'
 simp only [Tm.av, cells_mk, List.map] at c1 hp ⊢
 refine ACalls.of_run Tryz.func210 rfl ?_
 simp only [Tryz.ntmps210, List.length_cons, List.length_nil]
 refine Run.reg fun K hK => ?_
 simp [hp]
 refine hK _ _ _ ?_; clear hK
 refine Run.call rfl (by first | rfl | simp) (by simp) rfl (c1) ?_ ?_
 rotate_left
 ·rintro v h' ⟨hv, _⟩; cases hv
 rintro v h' ⟨hv, rfl⟩
 simp only [AOut.ret.injEq] at hv
 subst hv
 refine Run.ops fun K hK => ?_
 simp [hr2]
 refine hK _ _ _ (nv ?_); clear hK
 refine Run.nil ?_
 exact Fin.ret' (by simp) (by simp) ((hh.set (by simp)).set (by simp)) (List.append_nil _).symm rfl rfl (Weak.refl _) rfl ⟨rfl, rfl⟩
theorem run209_any (hc : WhnfDoes env t t' s') (H : Heap) (hh : WF H) (p r : Nat) (hp : H[p]? = some (some (.cells (t.cells.map .p)))) {a b c d e : AV} (hr : H[r]? = some (some (.cells [a, b, c, d, e]))) :
  ACalls Tryz.prog 209 [envA env, .fn (.func 210) [] [.ptr p 0, .ptr r 0]] H fun o h' => o = .ret (iA 0) ∧ h' = H.set r (some (.cells (t'.cells.map .p))) := by
 have hpl := (List.getElem?_eq_some_iff.1 hp).1
 have hrl := (List.getElem?_eq_some_iff.1 hr).1
 have c1 := whnf1_any env t t' s' hc (H ++ [some (.cells [iA 0]), some (.cells [envA env, iA 20000])]) (hh.app (by simp)) (H.length + 1) p r (by simp) (by rw [List.getElem?_append_left hpl]; exact hp) (by rw [List.getElem?_append_left hrl]; exact hr) (by omega)
 have hs1 : ((H ++ [some (AO.cells [iA 0]), some (AO.cells [envA env, iA 20000])]).set (H.length + 1) (some (AO.cells [envA env, iA s']))).set r (some (AO.cells (t'.cells.map .p))) = H.set r (some (AO.cells (t'.cells.map .p))) ++ [some (AO.cells [iA 0]), some (AO.cells [envA env, iA s'])] := by
  have e1 : (H ++ [some (AO.cells [iA 0]), some (AO.cells [envA env, iA 20000])]).set (H.length + 1) (some (AO.cells [envA env, iA s'])) = H ++ [some (AO.cells [iA 0]), some (AO.cells [envA env, iA s'])] := by simp
  rw [e1, List.set_append_left _ _ hrl]
 rw [hs1] at c1
 refine ACalls.of_runD Tryz.func209 rfl ?_
 simp only [Tryz.ntmps209, List.length_cons, List.length_nil]
 refine nv ?_
 refine Run.reg fun K hK => ?_
 simp
 refine hK _ _ _ (nv ?_); clear hK
 refine Run.regPre 1 fun K hK => ?_
 simp only [List.take_succ_cons, List.take_zero]
 simp
 refine hK _ _ _ ?_; clear hK
 simp only [List.nil_append, List.drop_succ_cons, List.drop_zero]
 refine Run.defer (i := 233) (first := []) (cap := [.ptr H.length 0]) rfl rfl rfl (by simp) ?_
 refine Run.ops fun K hK => ?_
 simp
 refine hK _ _ _ (nv ?_); clear hK
 refine Run.reg fun K hK => ?_
 simp
 refine hK _ _ _ ?_; clear hK
 refine Run.call (args := [.ptr (H.length + 1) 0, .ptr p 0, .ptr r 0]) rfl rfl (by simp) rfl c1 ?_ ?_
 rotate_left
 ·rintro v h' ⟨hv, _⟩; cases hv
 rintro v h' ⟨hv, rfl⟩
 simp only [AOut.ret.injEq] at hv
 subst hv
 have g1 : ∀ (G l : Heap), G.length = H.length → (G ++ l)[H.length]? = l[0]? := fun G l e => by rw [List.getElem?_append_right (by omega), e, Nat.sub_self]
 have g2 : ∀ (G l : Heap) o, G.length = H.length → (G ++ l).set H.length o = G ++ l.set 0 o := fun G l o e => by rw [List.set_append_right _ _ (by omega), e, Nat.sub_self]
 generalize hG : H.set r (some (.cells (t'.cells.map .p))) = G
 have hGl : G.length = H.length := by rw [← hG]; simp
 have hGw : WF G := by rw [← hG]; exact hh.set (by simp)
 refine Run.ops fun K hK => ?_
 simp
 refine hK _ _ _ (nv ?_); clear hK
 refine Run.reg fun K hK => ?_
 simp [g2, hGl]
 refine hK _ _ _ (nv ?_); clear hK
 refine Run.ret ?_
 simp only [FinD]
 refine ⟨by simp, rfl, _, runDef_ok _ (hGw.app (by simp [hGl])) H.length, ?_⟩
 exact Fin.ret' (h0 := G) (by simp) hGl hGw rfl (by simp [hGl]; rfl) rfl (Weak.refl _) (by simp) ⟨rfl, rfl⟩
theorem whnf173_any (hc : WhnfDoes env t t' s') (h : Heap) (hh : WF h) :
  ACalls Tryz.prog 173 [envA env, t.av] h fun o h' => o = .ret (.tup [t'.av, iA 0]) ∧ h' = h := by
 have c1 := run209_any env t t' s' hc (h ++ [some (AO.cells (t.cells.map .p)), some (AO.cells zTm), some (AO.cells zTm)]) (hh.app (by simp)) h.length (h.length + 2) (by simp) (by simp; exact ⟨rfl, rfl, rfl, rfl, rfl⟩)
 obtain ⟨k, i, nm, ls, ks⟩ := t
 obtain ⟨k2, i2, nm2, ls2, ks2⟩ := t'
 simp only [Tm.av, cells_mk, List.map] at c1 ⊢
 refine ACalls.of_run Tryz.func173 rfl ?_
 simp only [Tryz.ntmps173, List.length_cons, List.length_nil]
 refine nv ?_
 refine Run.reg fun K hK => ?_
 simp
 refine hK _ _ _ (nv ?_); clear hK
 refine Run.reg fun K hK => ?_
 simp
 refine hK _ _ _ (nv ?_); clear hK
 refine Run.reg fun K hK => ?_
 simp
 refine hK _ _ _ ?_; clear hK
 refine Run.call rfl (by first | rfl | simp) (by simp) rfl (c1) ?_ ?_
 rotate_left
 ·rintro v h' ⟨hv, _⟩; cases hv
 rintro v h' ⟨hv, rfl⟩
 simp only [AOut.ret.injEq] at hv
 subst hv
 refine Run.ops fun K hK => ?_
 simp
 refine hK _ _ _ (nv ?_); clear hK
 refine Run.reg fun K hK => ?_
 simp
 refine hK _ _ _ (nv ?_); clear hK
 refine cf (by simp) (nv ?_)
 refine Run.reg fun K hK => ?_
 simp
 refine hK _ _ _ (nv ?_); clear hK
 refine Run.ret ?_
 exact Fin.ret' (h0 := h) (by simp) rfl hh rfl (by simp; rfl) rfl (Weak.refl _) (by simp) ⟨rfl, rfl⟩

end


open Go Go.AI

inductive Oc where
 | mat (l : List Tm)
 | stuck
 | given (e : Int)
 | failed
def Oc.av : Oc → AV
 | .mat l => .ifc 121 (.agg [.p (.sl 5 (tmPs l))])
 | .stuck => .ifc 123 (.agg [])
 | .given e => .ifc 125 (.agg [iA e])
 | .failed => .ifc 234 (.agg [])
def Oc.join (l : List Tm) : Oc → Oc
 | .mat m => .mat (l ++ m)
 | o => o

section

variable (W : Tm → Tm × Int) (env : List Dc)
def headO (n : List UInt8) (hd : Tm) (us : List Tm) : Option Oc :=
 if hd.kind ≠ 3 then some .stuck
 else if (fieldsZ env hd.name).2.2 = false ∨ (us.length : Int) ≠ (fieldsZ env hd.name).1.fx + (fieldsZ env hd.name).2.1 then some .stuck
 else if hd.name ≠ n then some .failed else none

mutual
def oneO : Pt → Tm → Oc
 | .mk k n qs, t =>
  if k = 0 then .mat [t] else if k = 2 then .mat [] else if k = 3 then .failed
  else if (W t).2 ≠ 0 then .given (W t).2
  else match headO env n (resSpine (W t).1).1 (resSpine (W t).1).2 with
   | some o => o
   | none => matO qs ((resSpine (W t).1).2.drop (fieldsZ env n).1.fx.toNat)
def matO : List Pt → List Tm → Oc
 | [], _ => .mat []
 | _ :: _, [] => .mat []
 | p :: ps, a :: l => match oneO p a with
  | .mat m => (matO ps l).join m
  | o => o
end

mutual
theorem oneO_len : ∀ (p : Pt) (t : Tm) (l : List Tm), oneO W env p t = .mat l → l.length ≤ p.size
 | .mk k n qs, t, l, h => by
  simp only [oneO] at h
  simp only [Pt.size]
  split at h
  ·simp at h; subst h; simp
  split at h
  ·simp at h; subst h; simp
  split at h
  ·cases h
  split at h
  ·cases h
  split at h
  ·rename_i o ho
   subst h
   simp only [headO] at ho
   split at ho
   ·simp at ho
   split at ho
   ·simp at ho
   split at ho
   ·simp at ho
   ·cases ho
  ·have := matO_len qs _ l h
   omega
theorem matO_len : ∀ (ps : List Pt) (us : List Tm) (l : List Tm), matO W env ps us = .mat l → l.length ≤ Pt.sizes ps
 | [], us, l, h => by simp [matO] at h; subst h; simp
 | p :: ps, [], l, h => by simp [matO] at h; subst h; simp
 | p :: ps, a :: us, l, h => by
  simp only [matO] at h
  simp only [Pt.sizes]
  split at h
  ·rename_i m hm
   have h1 := oneO_len p a m hm
   cases hc : matO W env ps us with
   | mat m2 =>
    have h2 := matO_len ps us m2 hc
    rw [hc] at h
    simp [Oc.join] at h
    subst h
    simp; omega
   | _ => rw [hc] at h; simp [Oc.join] at h
  ·rename_i hno
   exact absurd h (fun e => hno l e)
end

end

structure WOk (env : List Dc) (W : Tm → Tm × Int) (G : Tm → Prop) : Prop where
 run : ∀ t, G t → ∀ h, WF h → ACalls Tryz.prog 173 [envA env, t.av] h fun o h' => o = .ret (.tup [(W t).1.av, iA (W t).2]) ∧ h' = h
 sz : ∀ t, G t → (W t).2 = 0 → (W t).1.size ≤ 1048576
 args : ∀ t, G t → (W t).2 = 0 → ∀ a ∈ (resSpine (W t).1).2, G a
theorem Weak.ifc {t : TypeId} {x y : AV} (h : Weak x y) : Weak (.ifc t x) (.ifc t y) := fun E w v r => by
 simp only [Rep] at r ⊢
 obtain ⟨u, e, hu⟩ := r
 exact ⟨u, e, h E w u hu⟩
theorem matched_nil : Weak (.ifc 121 (.agg [.p (.prim (.slice none 0 0))])) (Oc.mat []).av := Weak.ifc (Weak.agg (WeakL.cons (Weak.nil 5) WeakL.nil))
theorem fields_fx {env : List Dc} (hf : EnvFine env) (hg : Env.good env) {n : List UInt8} (h : (fieldsZ env n).2.2 = true) : 0 ≤ (fieldsZ env n).1.fx ∧ (fieldsZ env n).1.fx ≤ 1048576 := by
 unfold fieldsZ at h ⊢
 split
 ·rcases famZ_cases hf n with e | ⟨d, a, e, hm, hk, hd, hj⟩
  ·rename_i hc; rw [e] at hc; simp at hc
  ·rw [e]
   have h1 := hd.fix hk
   simp only [fixB, Bool.and_eq_true, decide_eq_true_eq] at h1
   have h2 := leadN_le d.ty.size d.ty (Nat.le_refl _)
   have h3 := (hg.2 d hm).ty.1
   exact ⟨hd.fx0, by simp only; omega⟩
 ·rename_i hc
  rw [if_neg hc] at h
  simp at h
theorem fields_nn (env : List Dc) (n : List UInt8) : 0 ≤ (fieldsZ env n).2.1 := by
 unfold fieldsZ
 split
 ·exact fldZ_nn _ _
 ·simp
theorem chkP_bad {env : List Dc} {k : Int} {n : List UInt8} {qs : List Pt} (h0 : ¬ k = 0) (h1 : ¬ k = 1) (h2 : ¬ k = 2) (h3 : ¬ k = 3) : chkP env (.mk k n qs) = 3 := by
 rw [chkP, if_neg (by omega), if_neg h1]
theorem one_any (env : List Dc) (hf : EnvFine env) (hg : Env.good env) (W : Tm → Tm × Int) (G : Tm → Prop) (hW : WOk env W G) (k : Int) (n : List UInt8) (qs : List Pt) (t : Tm) (hG : G t) (hc : chkP env (.mk k n qs) = 0)
  (ih : ∀ us, qs.length ≤ us.length → (∀ a ∈ us, G a) → ∀ h, WF h → ACalls Tryz.prog 71 [envA env, .p (.sl 3 (ptPs qs)), .p (.sl 5 (tmPs us))] h fun o h' => o = .ret (matO W env qs us).av ∧ h' = h) (h : Heap) (hh : WF h) :
  ACalls Tryz.prog 124 [envA env, (Pt.mk k n qs).av, t.av] h fun o h' => o = .ret (oneO W env (.mk k n qs) t).av ∧ h' = h := by
 have c1 := hW.run t hG
 have hsz := hW.sz t hG
 have hGa := hW.args t hG
 have hone : oneO W env (.mk k n qs) t = if k = 0 then .mat [t] else if k = 2 then .mat [] else if k = 3 then .failed
  else if (W t).2 ≠ 0 then .given (W t).2
  else match headO env n (resSpine (W t).1).1 (resSpine (W t).1).2 with
   | some o => o
   | none => matO W env qs ((resSpine (W t).1).2.drop (fieldsZ env n).1.fx.toNat) := by rw [oneO]
 rw [hone]
 generalize W t = wt at c1 hsz hGa
 obtain ⟨⟨k2, i2, n2, l2, s2⟩, e⟩ := wt
 obtain ⟨k1, i1, n1, l1, s1⟩ := t
 simp only [Tm.av, Pt.av, pcells_mk, cells_mk, List.map] at c1 ⊢
 simp only at hsz hGa
 refine ACalls.of_run Tryz.func124 rfl ?_
 simp only [Tryz.ntmps124, List.length_cons, List.length_nil]
 refine nv ?_
 refine Run.reg fun K hK => ?_
 simp
 refine hK _ _ _ (nv ?_); clear hK
 refine Run.reg fun K hK => ?_
 simp
 refine hK _ _ _ (nv ?_); clear hK
 refine Run.reg fun K hK => ?_
 simp
 refine hK _ _ _ (nv ?_); clear hK
 by_cases k0 : k = 0
 ·subst k0
  rw [if_pos rfl]
  refine ct (by simp) (nv ?_)
  refine Run.reg fun K hK => ?_
  simp
  refine hK _ _ _ (nv ?_); clear hK
  refine Run.ret ?_
  exact Fin.ret' (h0 := h) (by simp) rfl hh rfl (by simp; rfl) rfl (Weak.refl _) (by simp) ⟨rfl, rfl⟩
 have k0b : (k == (0 : Int)) = false := by simpa using k0
 rw [if_neg k0]
 refine cf (by simp [k0b]) (nv ?_)
 refine Run.reg fun K hK => ?_
 simp
 refine hK _ _ _ (nv ?_); clear hK
 by_cases k2' : k = 2
 ·subst k2'
  rw [if_pos rfl]
  refine ct (by simp) (nv ?_)
  refine Run.reg fun K hK => ?_
  simp
  refine hK _ _ _ (nv ?_); clear hK
  refine Run.ret ?_
  exact Fin.ret' (h0 := h) (xs := [.ifc 121 (.agg [.p (.prim (.slice none 0 0))])]) (by simp) rfl hh rfl (by simp) rfl matched_nil (by simp [Oc.av]) ⟨rfl, rfl⟩
 have k2b : (k == (2 : Int)) = false := by simpa using k2'
 rw [if_neg k2']
 refine cf (by simp [k2b]) (nv ?_)
 refine Run.reg fun K hK => ?_
 simp
 refine hK _ _ _ (nv ?_); clear hK
 by_cases k3 : k = 3
 ·subst k3
  rw [if_pos rfl]
  refine ct (by simp) (nv ?_)
  refine Run.reg fun K hK => ?_
  simp
  refine hK _ _ _ (nv ?_); clear hK
  refine Run.ret ?_
  exact Fin.ret' (h0 := h) (by simp) rfl hh rfl (by simp; rfl) rfl (Weak.refl _) (by simp [Value.cells]) ⟨rfl, rfl⟩
 have k3b : (k == (3 : Int)) = false := by simpa using k3
 rw [if_neg k3]
 refine cf (by simp [k3b]) (nv ?_)
 refine Run.reg fun K hK => ?_
 simp
 refine hK _ _ _ ?_; clear hK
 refine rc rfl (by first | rfl | simp) (by simp) rfl (c1 _ (hh.app (by simp))) ?_
 refine Run.ops fun K hK => ?_
 simp
 refine hK _ _ _ (nv ?_); clear hK
 refine Run.reg fun K hK => ?_
 simp
 refine hK _ _ _ (nv ?_); clear hK
 by_cases he : e = 0
 rotate_left
 ·have heb : (e != (0 : Int)) = true := by simpa using he
  rw [if_pos he]
  refine ct (by simp [heb]) (nv ?_)
  refine Run.reg fun K hK => ?_
  simp
  refine hK _ _ _ (nv ?_); clear hK
  refine Run.ret ?_
  exact Fin.ret' (h0 := h) (by simp) rfl hh rfl (by simp; rfl) rfl (Weak.refl _) (by simp) ⟨rfl, rfl⟩
 subst he
 rw [if_neg (by simp)]
 have hsz := hsz rfl
 have hGa := hGa rfl
 have c2 := fun (g : Heap) (hw : WF g) => spine72_any g hw (.mk k2 i2 n2 l2 s2) hsz
 generalize resSpine (Tm.mk k2 i2 n2 l2 s2) = sp at c2 hGa ⊢
 obtain ⟨⟨hk, hi, hn, hl, hs⟩, us⟩ := sp
 simp only [Tm.av, cells_mk, List.map] at c2
 simp only at hGa ⊢
 refine cf (by simp) (nv ?_)
 refine Run.reg fun K hK => ?_
 simp
 refine hK _ _ _ ?_; clear hK
 refine rc rfl (by first | rfl | simp) (by simp) rfl (c2 _ (hh.app (by simp))) ?_
 refine Run.ops fun K hK => ?_
 simp
 refine hK _ _ _ (nv ?_); clear hK
 refine Run.reg fun K hK => ?_
 simp
 refine hK _ _ _ (nv ?_); clear hK
 by_cases hk3 : hk = 3
 rotate_left
 ·have hk3b : (hk != (3 : Int)) = true := by simpa using hk3
  have ho : headO env n (.mk hk hi hn hl hs) us = some .stuck := by simp [headO, Tm.kind, hk3]
  rw [ho]
  refine ct (by simp [hk3b]) (nv ?_)
  refine Run.reg fun K hK => ?_
  simp
  refine hK _ _ _ (nv ?_); clear hK
  refine Run.ret ?_
  exact Fin.ret' (h0 := h) (by simp) rfl hh rfl (by simp; rfl) rfl (Weak.refl _) (by simp [Value.cells]) ⟨rfl, rfl⟩
 subst hk3
 have c3 := fun (g : Heap) (hw : WF g) => pfields_any g hw env hn hg hf.1
 have hfx : (fieldsZ env hn).2.2 = true → 0 ≤ (fieldsZ env hn).1.fx ∧ (fieldsZ env hn).1.fx ≤ 1048576 := fields_fx hf hg
 have hfl := fld_le hf hg hn
 have hnn := fields_nn env hn
 have hqf : n = hn → (qs.length : Int) = (fieldsZ env hn).2.1 := fun e => by
  subst e
  by_cases k1' : k = 1
  ·subst k1'; exact (chkP_ctor hc).2.1
  ·rw [chkP_bad k0 k1' k2' k3] at hc; exact absurd hc (by decide)
 have ho : headO env n (.mk 3 hi hn hl hs) us = if (fieldsZ env hn).2.2 = false ∨ (us.length : Int) ≠ (fieldsZ env hn).1.fx + (fieldsZ env hn).2.1 then some .stuck else if hn ≠ n then some .failed else none := by unfold headO; exact if_neg (fun h => h rfl)
 rw [ho]
 have hdr : n = hn → (fieldsZ env n).1.fx.toNat = (fieldsZ env hn).1.fx.toNat := fun e => by rw [e]
 generalize (fieldsZ env n).1.fx.toNat = fxn at hdr ⊢
 generalize fieldsZ env hn = fz at c3 hfx hfl hnn hqf hdr ⊢
 obtain ⟨d, m, ok⟩ := fz
 simp only at c3 hfx hfl hnn hqf hdr ⊢
 obtain ⟨dc, hdc, hdcl, hone', hdu, hd14, hd13⟩ := dc_fields d
 have hd13' : ∀ q : 13 < dc.length, dc[13] = iA d.fx := fun q => by rw [List.getElem?_eq_getElem q] at hd13; exact Option.some.inj hd13
 have htd : List.take 23 dc = dc := List.take_of_length_le (by omega)
 have hpa : ∀ l : List AV, l.length = 23 → patch l 0 dc = dc := fun l hl' => by
  have := patch_full dc l [] (by rw [hl', hdcl])
  simpa only [List.append_nil] using this
 rw [hdc] at c3
 refine cf (by simp) (nv ?_)
 refine Run.reg fun K hK => ?_
 simp
 refine hK _ _ _ ?_; clear hK
 refine rc rfl (by first | rfl | simp) (by simp) rfl (c3 _ (hh.app (by simp))) ?_
 refine Run.ops fun K hK => ?_
 simp [hdcl, hone', hpa]
 refine hK _ _ _ (nv ?_); clear hK
 cases ok with
 | false =>
  rw [if_pos (.inl rfl)]
  refine Run.reg fun K hK => ?_
  simp
  refine hK _ _ _ (nv ?_); clear hK
  refine ct (by simp) (nv ?_)
  refine Run.reg fun K hK => ?_
  simp
  refine hK _ _ _ (nv ?_); clear hK
  refine Run.ret ?_
  exact Fin.ret' (h0 := h) (by simp) rfl hh rfl (by simp; rfl) rfl (Weak.refl _) (by simp [Value.cells]) ⟨rfl, rfl⟩
 | true =>
 obtain ⟨f0, f1⟩ := hfx rfl
 have hw : IntKind.i64.wrap (d.fx + m) = d.fx + m := wrap_id (by omega) (by omega)
 by_cases hlm : (us.length : Int) = d.fx + m
 rotate_left
 ·have hlb : ((us.length : Int) != d.fx + m) = true := by simpa using hlm
  rw [if_pos (.inr hlm)]
  refine Run.reg fun K hK => ?_
  simp [hd13', hdcl, hw, hlb]
  refine hK _ _ _ (nv ?_); clear hK
  refine ct (by simp) (nv ?_)
  refine Run.reg fun K hK => ?_
  simp
  refine hK _ _ _ (nv ?_); clear hK
  refine Run.ret ?_
  exact Fin.ret' (h0 := h) (by simp) rfl hh rfl (by simp; rfl) rfl (Weak.refl _) (by simp [Value.cells]) ⟨rfl, rfl⟩
 have hlb : ((us.length : Int) != d.fx + m) = false := by simpa using hlm
 rw [if_neg (by simp [hlm])]
 refine Run.reg fun K hK => ?_
 simp [hd13', hdcl, hw, hlb]
 refine hK _ _ _ (nv ?_); clear hK
 refine cf (by simp) (nv ?_)
 refine Run.reg fun K hK => ?_
 simp
 refine hK _ _ _ (nv ?_); clear hK
 by_cases hnm : hn = n
 rotate_left
 ·have hnm' : ¬ n = hn := fun e => hnm e.symm
  rw [if_pos hnm]
  refine ct (by simp [hnm]) (nv ?_)
  refine Run.reg fun K hK => ?_
  simp
  refine hK _ _ _ (nv ?_); clear hK
  refine Run.ret ?_
  exact Fin.ret' (h0 := h) (by simp) rfl hh rfl (by simp; rfl) rfl (Weak.refl _) (by simp [Value.cells]) ⟨rfl, rfl⟩
 subst hnm
 rw [if_neg (by simp)]
 refine cf (by simp) (nv ?_)
 have hfe : fxn = d.fx.toNat := hdr rfl
 subst hfe
 have hql := hqf rfl
 have c4 := ih (us.drop d.fx.toNat) (by simp; omega) (fun a ha => hGa a (List.mem_of_mem_drop ha))
 have hlo : ¬ d.fx < 0 := by omega
 have hhi : d.fx ≤ (us.length : Int) := by omega
 have hmd : (tmPs us).drop d.fx.toNat = tmPs (us.drop d.fx.toNat) := by simp
 generalize matO W env qs (us.drop d.fx.toNat) = r at c4 ⊢
 refine PC.Run.drawP (pc := [7]) [0, 0, 0, 0, 0, 0, 0, 0, 0] [0, 0, 0, 0, 0, 0, 0, 0, 0] [0, 0, 2, 0, 0, 16, 56, 127, 255] [0, 1, 2, 3, 4, 5, 6, 7, 8] (by kernel_rfl) (by kernel_rfl) ?_
 refine PC.DR.go fun K hK => ?_
 simp [hd13', hdcl, f0, hhi, hmd]
 refine hK _ _ _ _ ?_; clear hK
 refine PC.DR.pcall rfl rfl rfl (by simp) rfl rfl (fun g hg => c4 g ?_) ?_
 ·simp at hg
  (first | (rcases hg with rfl | rfl | rfl | rfl) | (rcases hg with rfl | rfl | rfl) | (rcases hg with rfl | rfl) | subst hg) <;> exact hh.app (by simp [hdu])
 refine PC.DR.go fun K hK => ?_
 simp
 refine hK _ _ _ _ ?_; clear hK
 change Run _ _ _ _ _ _ _ _
 refine Run.ret ?_
 cases r <;> exact Fin.ret' (h0 := h) (by simp) rfl hh rfl (by simp; rfl) rfl (Weak.refl _) (by simp [Oc.av]) ⟨rfl, rfl⟩

end Go.Proofs.YtcfcolkbeelegaaGreat
