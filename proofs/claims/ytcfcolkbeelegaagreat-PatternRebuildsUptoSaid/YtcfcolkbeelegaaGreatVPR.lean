import Derived.Test.YtcfcolkbeelegaaGreatProg
import Derived.KernelRfl
import Derived.Shelf.Lays
import Derived.Scope
import Derived.Test.YtcfcolkbeelegaaGreatVX0
import Derived.Test.YtcfcolkbeelegaaGreatVFE
import Derived.Test.YtcfcolkbeelegaaGreatVE3
import Derived.Test.YtcfcolkbeelegaaGreatVFU
import Derived.Test.YtcfcolkbeelegaaGreatVFZ
import Derived.Test.YtcfcolkbeelegaaGreatVX1
import Derived.Test.YtcfcolkbeelegaaGreatVC
import Derived.Test.YtcfcolkbeelegaaGreatVX15
import Derived.Test.YtcfcolkbeelegaaGreatVX23
import Derived.Test.YtcfcolkbeelegaaGreatVV0
import Derived.Test.YtcfcolkbeelegaaGreatVFS
import Derived.Test.YtcfcolkbeelegaaGreatVFJ
set_option maxRecDepth 8000
set_option maxHeartbeats 8000000

namespace Go.Proofs.YtcfcolkbeelegaaGreat

open Go Go.AI
theorem im165 : intMap Tryz.prog 165 = true := by kernel_rfl

attribute [simp] alookup amapUpd kvOf_ikv im165


open Go Go.AI
theorem ints_get' (l : List Int) (j : Nat) : (ints l)[j]? = (l[j]?).map fun z => [iP z] := by simp [ints]

attribute [simp] ints_length ints_get'


open Go Go.AI
theorem buf_set {sz m j : Nat} {es : List (List PV)} {c : List PV} (hes : ∀ e ∈ es, e.length = sz) (hc : c.length = sz) (hj : j < es.length) : patch (buf sz es m) (j * sz) (c.map .p) = buf sz (es.set j c) m := by
 unfold buf
 have hle : j * sz + sz ≤ es.length * sz := by
  have : (j + 1) * sz ≤ es.length * sz := Nat.mul_le_mul_right _ hj
  rw [Nat.add_mul] at this; omega
 rw [patch_app _ _ _ _ (by rw [List.length_map, List.length_map, flat_length hes, hc]; exact hle), ← map_patch, flat_set _ _ _ _ hes hc hj]


open Go Go.AI
theorem un327 : ∃ a b c, Tryz.prog.underlying 327 = some (.func a b c) := ⟨#[242, 25, 23], #[25, 4], false, by kernel_rfl⟩
theorem st328 : stT Tryz.prog 328 = some [(0, 1), (1, 1), (2, 1), (3, 1), (4, 1), (5, 1), (6, 1)] := by kernel_rfl
def usB (env : List Dc) (n : List UInt8) (ls : List Lv) : Bool := decide ((resFind env n).2 = 0) && decide ((ls.length : Int) = (resFind env n).1.ps)
theorem usable_any (env : List Dc) (hg : Env.good env) (hn : Env.short env) (k i : Int) (nm : List UInt8) (ls : List Lv) (ks : List Tm) (q : Nat) (s : Int) (h : Heap) (hh : WF h) (hq : h[q]? = some (some (.cells [envA env, iA s]))) :
  ACalls Tryz.prog 261 [.ptr q 0, (Tm.mk k i nm ls ks).av] h fun o h' => o = .ret (.tup [(resFind env nm).1.av, bA (usB env nm ls)]) ∧ h' = h := by
 have hql := (List.getElem?_eq_some_iff.1 hq).1
 have hq' : ∀ l : List (Option AO), (h ++ l)[q]? = some (some (.cells [envA env, iA s])) := fun l => by rw [List.getElem?_append_left hql]; exact hq
 have c1 := fun (g : Heap) (hw : WF g) => find_any g hw env nm hg hn
 unfold usB
 generalize resFind env nm = r at c1 ⊢
 obtain ⟨⟨a0, a1, a2, a3, ⟨b0, b1, b2, b3, b4⟩⟩, e⟩ := r
 simp only [En.av, En.cells, cells_mk, List.map] at c1
 refine ACalls.of_run Tryz.func261 rfl ?_
 simp only [Tryz.ntmps261, List.length_cons, List.length_nil, Tm.av, cells_mk, List.map]
 refine nv ?_
 refine Run.reg fun K J => ?_
 simp
 refine J _ _ _ (nv ?_); clear J
 refine PC.Run.drawP (pc := [6]) [0, 0, 0, 0, 0, 0, 0, 0, 0, 0, 0, 1, 2] [0, 0, 0, 0, 0, 0, 0, 0, 0, 0, 0, 1, 0] [0, 1, 3, 7, 0, 16, 63, 127, 255, 255, 0, 1535, 4095] [10, 0, 1, 2, 3, 4, 5, 6, 7, 8, 11, 9, 12] (by kernel_rfl) (by kernel_rfl) ?_
 refine PC.DR.go fun K J => ?_
 simp [hq']
 refine J _ _ _ _ ?_; clear J
 refine PC.DR.pcall rfl rfl rfl (by simp) rfl rfl (fun g hg => (c1) g ?_) ?_
 ·simp at hg; (first | (rcases hg with rfl | rfl | rfl | rfl) | (rcases hg with rfl | rfl | rfl) | (rcases hg with rfl | rfl) | subst hg) <;> exact hh.app (by simp)
 refine PC.DR.go fun K J => ?_
 simp
 refine J _ _ _ _ ?_; clear J
 change Run _ _ _ _ _ _ _ _
 refine nv ?_
 by_cases he : e = 0
 ·subst he
  have hl : ((ls.length : Int) == a3) = decide ((ls.length : Int) = a3) := rfl
  refine Run.draw [0, 0, 0, 0, 0, 0, 0, 0, 0, 0, 0, 0, 1] [0, 0, 0, 0, 0, 0, 0, 0, 0, 0, 0, 0, 0] [0, 0, 2, 6, 14, 30, 62, 14, 142, 510, 1022, 15, 4095] [0, 1, 2, 3, 11, 4, 5, 6, 7, 8, 9, 10, 12] (by kernel_rfl) (by kernel_rfl) ?_
  refine DR.go fun K J => ?_
  simp [hl]
  refine J _ _ _ _ ?_; clear J
  change Run _ _ _ _ _ _ _ _
  refine Run.ret ?_
  exact Fin.ret' (h0 := h) (by simp) rfl hh rfl (by simp; rfl) rfl (Weak.refl _) (by simp) ⟨by simp [En.av, En.cells], rfl⟩
 ·have heb : (e == (0 : Int)) = false := by simpa using he
  refine Run.draw [0, 0, 0, 0, 0, 0, 0, 0, 0, 0, 0, 0, 1] [0, 0, 0, 0, 0, 0, 0, 0, 0, 0, 0, 0, 0] [0, 0, 2, 6, 14, 30, 62, 14, 142, 510, 1022, 15, 4095] [0, 1, 2, 3, 11, 4, 5, 6, 7, 8, 9, 10, 12] (by kernel_rfl) (by kernel_rfl) ?_
  refine DR.go fun K J => ?_
  simp [heb]
  refine J _ _ _ _ ?_; clear J
  change Run _ _ _ _ _ _ _ _
  refine Run.ret ?_
  exact Fin.ret' (h0 := h) (by simp) rfl hh rfl (by simp; rfl) rfl (Weak.refl _) (by simp) ⟨by simp [En.av, En.cells, he], rfl⟩
def stuckC (env : List Dc) (n : List UInt8) (ls : List Lv) : Prop := usB env n ls = false ∨ (resFind env n).1.k = 0 ∨ (resFind env n).1.k = 2 ∨ (resFind env n).1.k = 3 ∨ (resFind env n).1.k = 4
theorem constStuck_any (env : List Dc) (hg : Env.good env) (hn : Env.short env) (k i : Int) (nm : List UInt8) (ls : List Lv) (ks args : List Tm) (q : Nat) (s : Int) (h : Heap) (hh : WF h) (hq : h[q]? = some (some (.cells [envA env, iA s]))) (hst : stuckC env nm ls) :
  ACalls Tryz.prog 237 [.ptr q 0, (Tm.mk k i nm ls ks).av, .p (.sl 5 (tmPs args))] h fun o h' => o = .ret (.tup [zT.av, bA false]) ∧ h' = h := by
 have hql := (List.getElem?_eq_some_iff.1 hq).1
 have hq' : ∀ l : List (Option AO), (h ++ l)[q]? = some (some (.cells [envA env, iA s])) := fun l => by rw [List.getElem?_append_left hql]; exact hq
 have c1 := fun (l : List (Option AO)) (hw : WF (h ++ l)) => usable_any env hg hn k i nm ls ks q s (h ++ l) hw (hq' l)
 unfold stuckC at hst
 generalize usB env nm ls = b at c1 hst
 generalize resFind env nm = r at c1 hst
 obtain ⟨⟨a0, a1, a2, a3, ⟨b0, b1, b2, b3, b4⟩⟩, e⟩ := r
 simp only [En.av, En.cells, cells_mk, List.map, Tm.av] at c1
 simp only at hst
 simp only [Tm.av, zT, cells_mk, List.map]
 refine ACalls.of_run Tryz.func237 rfl ?_
 simp only [Tryz.ntmps237, List.length_cons, List.length_nil]
 refine nv ?_
 refine Run.reg fun K J => ?_
 simp
 refine J _ _ _ (nv ?_); clear J
 refine Run.reg fun K J => ?_
 simp
 refine J _ _ _ ?_; clear J
 refine rl rfl (by first | rfl | simp) (by simp) rfl (c1 _ (hh.app (by simp))) ?_
 refine Run.ops fun K J => ?_
 simp
 refine J _ _ _ (nv ?_); clear J
 refine Run.reg fun K J => ?_
 simp
 refine J _ _ _ (nv ?_); clear J
 cases b with
 | false =>
  refine ct (by simp) (nv ?_)
  refine Run.reg fun K J => ?_
  simp
  refine J _ _ _ (nv ?_); clear J
  refine Run.ret ?_
  exact Fin.ret' (h0 := h) (xs := [.agg zTm, bA false]) (by simp) rfl hh rfl (by simp) rfl (Weak.tup (WeakL.cons Weak.zT (WeakL.refl _))) (by simp) ⟨rfl, rfl⟩
 | true =>
  simp only [reduceCtorEq, false_or] at hst
  refine cf (by simp) (nv ?_)
  rcases hst with rfl | rfl | rfl | rfl
  all_goals
   refine Run.reg fun K J => ?_
   simp [st328, ar328]
   refine J _ _ _ (nv ?_); clear J
   refine Run.regPre 1 fun K J => ?_
   simp only [List.take_succ_cons, List.take_zero]
   simp
   refine J _ _ _ ?_; clear J
   simp only [List.nil_append, List.drop_succ_cons, List.drop_zero]
   refine Run.funcNil true rfl (by simp [awanted]) un327 (.inl ⟨by simp, rfl⟩) ?_
   simp
   refine Run.ops fun K J => ?_
   simp
   refine J _ _ _ (nv ?_); clear J
   refine ct (by simp) (nv ?_)
   refine Run.reg fun K J => ?_
   simp
   refine J _ _ _ (nv ?_); clear J
   refine Run.ret ?_
   exact Fin.ret' (h0 := h) (xs := [.agg zTm, bA false]) (by simp) rfl hh rfl (by simp) rfl (Weak.tup (WeakL.cons Weak.zT (WeakL.refl _))) (by simp) ⟨rfl, rfl⟩
def stuckT (env : List Dc) (t : Tm) : Prop := t.size ≤ 40960 ∧ (resSpine t).2.length ≤ 40960 ∧ match (resSpine t).1 with
 | .mk k _ n ls _ => k ≠ 5 ∧ k ≠ 11 ∧ k ≠ 9 ∧ k ≠ 10 ∧ (k = 3 → stuckC env n ls)
theorem whnfStuck_any (env : List Dc) (hg : Env.good env) (hn : Env.short env) (t : Tm) (hst : stuckT env t) (q : Nat) (s : Int) (h : Heap) (hh : WF h) (hq : h[q]? = some (some (.cells [envA env, iA s]))) :
  ACalls Tryz.prog 211 [.ptr q 0, t.av] h fun o h' => o = .ret t.av ∧ h' = h := by
 have hql := (List.getElem?_eq_some_iff.1 hq).1
 have hq' : ∀ l : List (Option AO), (h ++ l)[q]? = some (some (.cells [envA env, iA s])) := fun l => by rw [List.getElem?_append_left hql]; exact hq
 obtain ⟨h1, h2, h3⟩ := hst
 have c1 := fun (g : Heap) (hw : WF g) => spine72_any g hw t (by omega)
 generalize resSpine t = r at c1 h2 h3
 obtain ⟨⟨k, i, nm, ls, ks⟩, asp⟩ := r
 simp only at h2 h3
 obtain ⟨n5, n11, n9, n10, hc⟩ := h3
 have c2 := fun (l : List (Option AO)) (hw : WF (h ++ l)) hc => constStuck_any env hg hn k i nm ls ks asp q s (h ++ l) hw (hq' l) hc
 obtain ⟨k0, i0, nm0, ls0, ks0⟩ := t
 simp only [Tm.av, zT, cells_mk, List.map] at c1 c2 ⊢
 have hasl : ¬ 40960 < (asp.length : Int) := by omega
 have hasl' : ¬ 40960 < asp.length := by omega
 have k5 : (k == (5 : Int)) = false := by simpa using n5
 have k11 : (k == (11 : Int)) = false := by simpa using n11
 have k9 : (k == (9 : Int)) = false := by simpa using n9
 have k10 : (k == (10 : Int)) = false := by simpa using n10
 refine ACalls.of_run Tryz.func211 rfl ?_
 simp only [Tryz.ntmps211, List.length_cons, List.length_nil]
 refine nv ?_
 refine Run.reg fun K J => ?_
 simp
 refine J _ _ _ (nv ?_); clear J
 refine Run.loop ?_
 refine nv ?_
 refine Run.reg fun K J => ?_
 simp
 refine J _ _ _ ?_; clear J
 refine rl rfl (by first | rfl | simp) (by simp) rfl (c1 _ (hh.app (by simp))) ?_
 refine Run.ops fun K J => ?_
 simp
 refine J _ _ _ (nv ?_); clear J
 refine Run.reg fun K J => ?_
 simp [hasl]
 refine J _ _ _ (nv ?_); clear J
 refine cf (by simp) (nv ?_)
 refine Run.reg fun K J => ?_
 simp
 refine J _ _ _ (nv ?_); clear J
 refine Run.reg fun K J => ?_
 simp [k5]
 refine J _ _ _ (nv ?_); clear J
 refine cf (by simp) (nv ?_)
 refine Run.reg fun K J => ?_
 simp [k11]
 refine J _ _ _ (nv ?_); clear J
 refine cf (by simp) (nv ?_)
 refine Run.reg fun K J => ?_
 simp [k9]
 refine J _ _ _ (nv ?_); clear J
 refine cf (by simp) ?_
 refine Run.reg fun K J => ?_
 simp [k10]
 refine J _ _ _ (nv ?_); clear J
 refine cf (by simp) (nv ?_)
 by_cases k3 : k = 3
 ·subst k3
  refine Run.reg fun K J => ?_
  simp
  refine J _ _ _ (nv ?_); clear J
  refine ct (by simp) (nv ?_)
  refine Run.reg fun K J => ?_
  simp
  refine J _ _ _ ?_; clear J
  refine rl rfl (by first | rfl | simp) (by simp) rfl (c2 _ (hh.app (by simp)) (hc rfl)) ?_
  refine Run.ops fun K J => ?_
  simp
  refine J _ _ _ (nv ?_); clear J
  refine Run.reg fun K J => ?_
  simp
  refine J _ _ _ (nv ?_); clear J
  refine ct (by simp) (nv ?_)
  refine Run.reg fun K J => ?_
  simp
  refine J _ _ _ (nv ?_); clear J
  refine Run.ret ?_
  exact Fin.ret' (h0 := h) (by simp) rfl hh rfl (by simp; rfl) rfl (Weak.refl _) (by simp) ⟨rfl, rfl⟩
 ·have k3b : (k == (3 : Int)) = false := by simpa using k3
  refine Run.reg fun K J => ?_
  simp [k3b]
  refine J _ _ _ (nv ?_); clear J
  refine cf (by simp) (nv ?_)
  refine Run.reg fun K J => ?_
  simp
  refine J _ _ _ (nv ?_); clear J
  refine Run.ret ?_
  exact Fin.ret' (h0 := h) (by simp) rfl hh rfl (by simp; rfl) rfl (Weak.refl _) (by simp) ⟨rfl, rfl⟩


open Go Go.AI
theorem runDef_ok (h : Heap) (hh : WF h) (p : Nat) : ADef Tryz.prog 233 [.ptr p 0] none h h := by
 refine ADef.of_run Tryz.func233 rfl rfl rfl fun K J => ?_
 simp only [Tryz.ntmps233, List.length_cons, List.length_nil]
 simp [recA]
 refine J _ _ ?_; clear J
 have hu : Tryz.prog.underlying 20 = some (.interface #[]) := by kernel_rfl
 refine nv ?_
 refine Run.reg fun K J => ?_
 simp [hu]
 refine J _ _ _ (nv ?_); clear J
 refine cf (by simp) (nv ?_)
 refine Run.nil ?_
 exact Fin.ret' (by simp) rfl hh (List.append_nil _).symm rfl rfl (Weak.refl _) rfl ⟨⟨_, rfl⟩, rfl⟩

section

variable (env : List Dc) (t t' : Tm) (s' : Int)
def WhnfDoes : Prop := ∀ (H : Heap) (q : Nat), WF H → H[q]? = some (some (.cells [envA env, iA 20000])) → ACalls Tryz.prog 211 [.ptr q 0, t.av] H fun o h' => o = .ret t'.av ∧ h' = H.set q (some (.cells [envA env, iA s']))
theorem whnf1_any (hc : WhnfDoes env t t' s') (H : Heap) (hh : WF H) (q p r : Nat) (hq : H[q]? = some (some (.cells [envA env, iA 20000]))) (hp : H[p]? = some (some (.cells (t.cells.map .p)))) {a b c d e : AV} (hr : H[r]? = some (some (.cells [a, b, c, d, e]))) (hqr : q ≠ r) :
  ACalls Tryz.prog 210 [.ptr q 0, .ptr p 0, .ptr r 0] H fun o h' => o = .ret (.tup []) ∧ h' = (H.set q (some (.cells [envA env, iA s']))).set r (some (.cells (t'.cells.map .p))) := by
 have c1 := hc H q hh hq
 have hrl := (List.getElem?_eq_some_iff.1 hr).1
 have hr2 : (H.set q (some (.cells [envA env, iA s'])))[r]? = some (some (.cells [a, b, c, d, e])) := by rw [List.getElem?_set_ne hqr]; exact hr
 obtain ⟨k, i, nm, ls, ks⟩ := t
 obtain ⟨k2, i2, nm2, ls2, ks2⟩ := t'
 simp only [Tm.av, cells_mk, List.map] at c1 hp ⊢
 refine ACalls.of_run Tryz.func210 rfl ?_
 simp only [Tryz.ntmps210, List.length_cons, List.length_nil]
 refine Run.reg fun K J => ?_
 simp [hp]
 refine J _ _ _ ?_; clear J
 refine Run.call rfl (by first | rfl | simp) (by simp) rfl (c1) ?_ ?_
 rotate_left
 ·rintro v h' ⟨hv, _⟩; cases hv
 rintro v h' ⟨hv, rfl⟩
 simp only [AOut.ret.injEq] at hv
 subst hv
 refine Run.ops fun K J => ?_
 simp [hr2]
 refine J _ _ _ (nv ?_); clear J
 refine Run.nil ?_
 exact Fin.ret' (by simp) (by simp) ((hh.set (by simp)).set (by simp)) (List.append_nil _).symm rfl rfl (Weak.refl _) rfl ⟨rfl, rfl⟩
theorem run209_any (hc : WhnfDoes env t t' s') (H : Heap) (hh : WF H) (p r : Nat) (hp : H[p]? = some (some (.cells (t.cells.map .p)))) {a b c d e : AV} (hr : H[r]? = some (some (.cells [a, b, c, d, e]))) :
  ACalls Tryz.prog 209 [envA env, .fn (.func 210) [] [.ptr p 0, .ptr r 0]] H fun o h' => o = .ret (iA 0) ∧ h' = H.set r (some (.cells (t'.cells.map .p))) := by
 have hpl := (List.getElem?_eq_some_iff.1 hp).1
 have hrl := (List.getElem?_eq_some_iff.1 hr).1
 have c1 := whnf1_any env t t' s' hc (H ++ [some (.cells [iA 0]), some (.cells [envA env, iA 20000])]) (hh.app (by simp)) (H.length + 1) p r (by simp) (by rw [List.getElem?_append_left hpl]; exact hp) (by rw [List.getElem?_append_left hrl]; exact hr) (by omega)
 have hs1 : ((H ++ [some (AO.cells [iA 0]), some (AO.cells [envA env, iA 20000])]).set (H.length + 1) (some (AO.cells [envA env, iA s']))).set r (some (AO.cells (t'.cells.map .p))) = H.set r (some (AO.cells (t'.cells.map .p))) ++ [some (AO.cells [iA 0]), some (AO.cells [envA env, iA s'])] := by
  have e1 : (H ++ [some (AO.cells [iA 0]), some (AO.cells [envA env, iA 20000])]).set (H.length + 1) (some (AO.cells [envA env, iA s'])) = H ++ [some (AO.cells [iA 0]), some (AO.cells [envA env, iA s'])] := by simp
  rw [e1, List.set_append_left _ _ hrl]
 rw [hs1] at c1
 refine ACalls.of_runD Tryz.func209 rfl ?_
 simp only [Tryz.ntmps209, List.length_cons, List.length_nil]
 refine nv ?_
 refine Run.reg fun K J => ?_
 simp
 refine J _ _ _ (nv ?_); clear J
 refine Run.regPre 1 fun K J => ?_
 simp only [List.take_succ_cons, List.take_zero]
 simp
 refine J _ _ _ ?_; clear J
 simp only [List.nil_append, List.drop_succ_cons, List.drop_zero]
 refine Run.defer (i := 233) (first := []) (cap := [.ptr H.length 0]) rfl rfl rfl (by simp) ?_
 refine Run.ops fun K J => ?_
 simp
 refine J _ _ _ (nv ?_); clear J
 refine Run.reg fun K J => ?_
 simp
 refine J _ _ _ ?_; clear J
 refine Run.call (args := [.ptr (H.length + 1) 0, .ptr p 0, .ptr r 0]) rfl rfl (by simp) rfl c1 ?_ ?_
 rotate_left
 ·rintro v h' ⟨hv, _⟩; cases hv
 rintro v h' ⟨hv, rfl⟩
 simp only [AOut.ret.injEq] at hv
 subst hv
 have g1 : ∀ (G l : Heap), G.length = H.length → (G ++ l)[H.length]? = l[0]? := fun G l e => by rw [List.getElem?_append_right (by omega), e, Nat.sub_self]
 have g2 : ∀ (G l : Heap) o, G.length = H.length → (G ++ l).set H.length o = G ++ l.set 0 o := fun G l o e => by rw [List.set_append_right _ _ (by omega), e, Nat.sub_self]
 generalize hG : H.set r (some (.cells (t'.cells.map .p))) = G
 have hGl : G.length = H.length := by rw [← hG]; simp
 have hGw : WF G := by rw [← hG]; exact hh.set (by simp)
 refine Run.ops fun K J => ?_
 simp
 refine J _ _ _ (nv ?_); clear J
 refine Run.reg fun K J => ?_
 simp [g2, hGl]
 refine J _ _ _ (nv ?_); clear J
 refine Run.ret ?_
 simp only [FinD]
 refine ⟨by simp, rfl, _, runDef_ok _ (hGw.app (by simp [hGl])) H.length, ?_⟩
 exact Fin.ret' (h0 := G) (by simp) hGl hGw rfl (by simp [hGl]; rfl) rfl (Weak.refl _) (by simp) ⟨rfl, rfl⟩
theorem whnf173_any (hc : WhnfDoes env t t' s') (h : Heap) (hh : WF h) :
  ACalls Tryz.prog 173 [envA env, t.av] h fun o h' => o = .ret (.tup [t'.av, iA 0]) ∧ h' = h := by
 have c1 := run209_any env t t' s' hc (h ++ [some (AO.cells (t.cells.map .p)), some (AO.cells zTm), some (AO.cells zTm)]) (hh.app (by simp)) h.length (h.length + 2) (by simp) (by simp; exact ⟨rfl, rfl, rfl, rfl, rfl⟩)
 obtain ⟨k, i, nm, ls, ks⟩ := t
 obtain ⟨k2, i2, nm2, ls2, ks2⟩ := t'
 simp only [Tm.av, cells_mk, List.map] at c1 ⊢
 refine ACalls.of_run Tryz.func173 rfl ?_
 simp only [Tryz.ntmps173, List.length_cons, List.length_nil]
 refine nv ?_
 refine Run.reg fun K J => ?_
 simp
 refine J _ _ _ (nv ?_); clear J
 refine Run.reg fun K J => ?_
 simp
 refine J _ _ _ (nv ?_); clear J
 refine Run.reg fun K J => ?_
 simp
 refine J _ _ _ ?_; clear J
 refine Run.call rfl (by first | rfl | simp) (by simp) rfl (c1) ?_ ?_
 rotate_left
 ·rintro v h' ⟨hv, _⟩; cases hv
 rintro v h' ⟨hv, rfl⟩
 simp only [AOut.ret.injEq] at hv
 subst hv
 refine Run.ops fun K J => ?_
 simp
 refine J _ _ _ (nv ?_); clear J
 refine Run.reg fun K J => ?_
 simp
 refine J _ _ _ (nv ?_); clear J
 refine cf (by simp) (nv ?_)
 refine Run.reg fun K J => ?_
 simp
 refine J _ _ _ (nv ?_); clear J
 refine Run.ret ?_
 exact Fin.ret' (h0 := h) (by simp) rfl hh rfl (by simp; rfl) rfl (Weak.refl _) (by simp) ⟨rfl, rfl⟩

end

end Go.Proofs.YtcfcolkbeelegaaGreat
