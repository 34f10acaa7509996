import Derived.Test.YtcfcolkbeelegaaGreatVFZ
import Derived.Test.YtcfcolkbeelegaaGreatVFU
import Derived.Test.YtcfcolkbeelegaaGreatVX3
import Derived.Test.YtcfcolkbeelegaaGreatVT6
import Derived.Test.YtcfcolkbeelegaaGreatVX0
import Derived.Test.YtcfcolkbeelegaaGreatVFE
import Derived.Test.YtcfcolkbeelegaaGreatVX12
set_option maxRecDepth 8000
set_option maxHeartbeats 16000000

namespace Go.Proofs.YtcfcolkbeelegaaGreat

open Go Go.AI

mutual
def textP : Pt → List UInt8
 | .mk k n qs => if k = 0 then [95] else if k = 2 then [46, 95] else if k = 3 then [40, 41] else if k = 1 then (if qs = [] then n else 40 :: (n ++ textT qs ++ [41])) else []
def textT : List Pt → List UInt8
 | [] => []
 | p :: ps => 32 :: (textP p ++ textT ps)
end
theorem textT_join (n : List UInt8) (l : List Pt) : Lib.join (n :: l.map textP) [32] = n ++ textT l := by
 rw [Lib.join_cons]
 congr 1
 induction l with
 | nil => rfl
 | cons p l ih => simp only [List.map_cons, Lib.joinTail, List.flatten_cons, textT] at ih ⊢; rw [ih]; simp
theorem textT_mem {l : List Pt} {p : Pt} (h : p ∈ l) : (textP p).length ≤ (textT l).length := by
 induction l with
 | nil => simp at h
 | cons q l ih =>
  simp only [textT, List.length_cons, List.length_append]
  rcases List.mem_cons.1 h with rfl | h
  ·omega
  ·have := ih h; omega
theorem joinW_any (h : Heap) (xs : List (List UInt8)) (sep : List UInt8) (hN : xs.length ≤ 140737488355328) (hlen : (Lib.join xs sep).length ≤ 140737488355328) :
  ACalls Tryz.prog 87 [.p (.sl 1 (strPs xs)), .p (sP sep)] h fun o h' => o = .ret (.p (sP (Lib.join xs sep))) ∧ h' = h := join_calls lays156 lays156X xs sep hN hlen
theorem ptext_any (N : Nat) : ∀ (p : Pt), p.size ≤ N → p.size ≤ 1048576 → (textP p).length ≤ 1099511627776 → ∀ h, WF h → ACalls Tryz.prog 39 [p.av] h fun o h' => o = .ret (.p (sP (textP p))) ∧ h' = h := by
 induction N with
 | zero => intro p hp; have := p.size_pos; omega
 | succ N ih =>
 intro p hp hB hL h hh
 obtain ⟨k, n, qs⟩ := p
 simp only [Pt.size] at hp hB
 obtain ⟨r, hr⟩ : ∃ r, textP (.mk k n qs) = r := ⟨_, rfl⟩
 rw [hr] at hL ⊢
 rw [textP] at hr
 simp only [Pt.av, pcells_mk, List.map]
 have hql := psz_len qs
 refine ACalls.of_run Tryz.func39 rfl ?_
 simp only [Tryz.ntmps39, List.length_cons, List.length_nil]
 refine nv ?_
 refine Run.reg fun K J => ?_
 simp
 refine J _ _ _ (nv ?_); clear J
 refine Run.reg fun K J => ?_
 simp
 refine J _ _ _ (nv ?_); clear J
 refine Run.reg fun K J => ?_
 simp
 refine J _ _ _ (nv ?_); clear J
 by_cases k0 : k = 0
 ·subst k0
  rw [if_pos rfl] at hr; subst hr
  refine ct (by simp) (nv ?_)
  refine Run.reg fun K J => ?_
  simp
  refine J _ _ _ (nv ?_); clear J
  refine Run.ret ?_
  exact Fin.ret' (h0 := h) (by simp) rfl hh rfl (by simp; rfl) rfl (Weak.refl _) (by simp) ⟨by simp, rfl⟩
 have k0b : (k == (0 : Int)) = false := by simpa using k0
 rw [if_neg k0] at hr
 refine cf (by simp [k0b]) (nv ?_)
 refine Run.reg fun K J => ?_
 simp
 refine J _ _ _ (nv ?_); clear J
 by_cases k2 : k = 2
 ·subst k2
  rw [if_pos rfl] at hr; subst hr
  refine ct (by simp) (nv ?_)
  refine Run.reg fun K J => ?_
  simp
  refine J _ _ _ (nv ?_); clear J
  refine Run.ret ?_
  exact Fin.ret' (h0 := h) (by simp) rfl hh rfl (by simp; rfl) rfl (Weak.refl _) (by simp) ⟨by simp, rfl⟩
 have k2b : (k == (2 : Int)) = false := by simpa using k2
 rw [if_neg k2] at hr
 refine cf (by simp [k2b]) (nv ?_)
 refine Run.reg fun K J => ?_
 simp
 refine J _ _ _ (nv ?_); clear J
 by_cases k3 : k = 3
 ·subst k3
  rw [if_pos rfl] at hr; subst hr
  refine ct (by simp) (nv ?_)
  refine Run.reg fun K J => ?_
  simp
  refine J _ _ _ (nv ?_); clear J
  refine Run.ret ?_
  exact Fin.ret' (h0 := h) (by simp) rfl hh rfl (by simp; rfl) rfl (Weak.refl _) (by simp) ⟨by simp, rfl⟩
 have k3b : (k == (3 : Int)) = false := by simpa using k3
 rw [if_neg k3] at hr
 refine cf (by simp [k3b]) (nv ?_)
 refine Run.reg fun K J => ?_
 simp
 refine J _ _ _ (nv ?_); clear J
 by_cases k1 : k = 1
 rotate_left
 ·have k1b : (k == (1 : Int)) = false := by simpa using k1
  rw [if_neg k1] at hr; subst hr
  refine cf (by simp [k1b]) (nv ?_)
  refine Run.reg fun K J => ?_
  simp
  refine J _ _ _ (nv ?_); clear J
  refine Run.ret ?_
  exact Fin.ret' (h0 := h) (by simp) rfl hh rfl (by simp; rfl) rfl (Weak.refl _) (by simp) ⟨by simp, rfl⟩
 subst k1
 rw [if_pos rfl] at hr
 refine ct (by simp) (nv ?_)
 refine Run.regPre 2 fun K J => ?_
 simp only [List.take_succ_cons, List.take_zero]
 simp
 refine J _ _ _ ?_; clear J
 simp only [List.nil_append, List.drop_succ_cons, List.drop_zero]
 refine Run.buildV (sz := 1) (es := [[sP n]]) rfl (by simp [awanted]) (by simp) (by simp) ?_
 simp
 refine Run.ops fun K J => ?_
 simp
 refine J _ _ _ (nv ?_); clear J
 refine Run.reg fun K J => ?_
 simp
 refine J _ _ _ (nv ?_); clear J
 have hqb : qs ≠ [] → (textT qs).length + n.length + 2 ≤ 1099511627776 := fun hne => by
  rw [if_neg hne] at hr
  rw [← hr] at hL
  simp at hL
  omega
 refine Run.loopS [1, 20, 21] (fun j : Nat => j ≤ qs.length) (fun j => qs.length - j) (fun j => [(3, .vec (h.length + 1) (j + 1)), (22, iA j)])
  (fun j => h ++ [some (.cells [iA 1, .p (sP n), .p (.sl 3 (ptPs qs))]), some (.vec 1 (strPs (n :: (qs.take j).map textP)))]) 0 (by simp) ?_ (by simp [strPs]) ?_
 ·simp
  repeat' first | exact wn | apply wc | exact wj _ | exact wr _ | exact wz _ | exact wo _ _ _ | exact wi (by omega)
 rintro j hj IH
 simp
 refine nv ?_
 refine Run.reg fun K J => ?_
 simp
 refine J _ _ _ (nv ?_); clear J
 by_cases hjl : j < qs.length
 ·have hg : qs[j]? = some qs[j] := List.getElem?_eq_getElem hjl
  have hmem := List.getElem_mem hjl
  have htk : qs.take (j + 1) = qs.take j ++ [qs[j]] := List.take_succ_eq_append_getElem hjl
  have hmin : min j qs.length = j := Nat.min_eq_left hj
  generalize qs[j] = q at hg hmem htk
  have hsz := Pt.size_at hmem
  have hne : qs ≠ [] := by intro e; subst e; simp at hjl
  have hqb := hqb hne
  have hml := textT_mem hmem
  have c1 := ih q (by omega) (by omega) (by omega)
  obtain ⟨pk, pn, ps⟩ := q
  simp only [Pt.av, pcells_mk, List.map] at c1
  obtain ⟨tx, htx⟩ : ∃ tx, textP (Pt.mk pk pn ps) = tx := ⟨_, rfl⟩
  rw [htx] at c1 hml
  refine ct (by simp [hjl]) (nv ?_)
  refine Run.reg fun K J => ?_
  simp [hg, pcells_mk]
  refine J _ _ _ (nv ?_); clear J
  refine Run.reg fun K J => ?_
  simp
  refine J _ _ _ ?_; clear J
  refine rl rfl (by first | rfl | simp) (by simp) rfl (c1 _ (hh.app (by simp))) ?_
  refine Run.opsPre 1 fun K J => ?_
  simp only [List.take_succ_cons, List.take_zero]
  simp
  refine J _ _ _ ?_; clear J
  simp only [List.nil_append, List.drop_succ_cons, List.drop_zero]
  refine Run.appendV (id := h.length + 1) (es := strPs (n :: (qs.take j).map textP)) (ys := [[sP tx]]) (sz := 1) (by_ := 16) (e := 9) rfl (by simp [awanted]) rfl rfl rfl rfl (by simp [hmin]) (by simp) (strPs_len1 _) (by simp) (by simp) (by simp) (by simp; omega) (by simp; omega) ?_
  simp [hmin]
  refine Run.ops fun K J => ?_
  simp
  refine J _ _ _ (nv ?_); clear J
  refine Run.keep [1, 3, 20, 21, 22] ?_
  simp only [keepT, keepT.go, List.contains_cons]
  simp
  refine Run.cutAt 2 hh rfl (by omega) (by simp) (by simp) (by simp) rfl ?_
  simp
  refine Run.reg fun K J => ?_
  simp
  try (simp (disch := omega) only [wrap_id])
  refine J _ _ _ (nv ?_); clear J
  refine IH (j + 1) _ _ (by omega) (by omega) ?_ ?_
  ·simp
   repeat' first | exact wn | apply wc | exact wj _ | exact wr _ | exact wz _ | exact wo _ _ _ | exact wi (by omega)
  ·rw [htk]; simp [strPs, htx]
 ·have hje : j = qs.length := by omega
  subst hje
  have htl : List.take qs.length (qs.map textP) = qs.map textP := List.take_of_length_le (by simp)
  rw [htl]
  refine cf (by simp) ?_
  refine Run.exit rfl ?_
  refine nv ?_
  refine Run.keep [1, 3] ?_
  simp only [keepT, keepT.go, List.contains_cons]
  simp
  refine Run.freezeV 3 (id := h.length + 1) (n := qs.length + 1) (sz := 1) (es := strPs (n :: qs.map textP)) (by simp) (by simp) (strPs_len1 _) (by simp) ?_
  simp
  by_cases hq0 : qs = []
  ·subst hq0
   rw [if_pos rfl] at hr; subst hr
   refine Run.reg fun K J => ?_
   simp
   refine J _ _ _ (nv ?_); clear J
   refine ct (by simp) (nv ?_)
   refine Run.reg fun K J => ?_
   simp
   refine J _ _ _ (nv ?_); clear J
   refine Run.ret ?_
   exact Fin.ret' (h0 := h) (by simp) rfl hh rfl (by simp; rfl) rfl (Weak.refl _) (by simp) ⟨by simp, rfl⟩
  ·have hqb := hqb hq0
   rw [if_neg hq0] at hr
   have hlb : ((qs.length : Int) + 1 == 1) = false := by
    have : 0 < qs.length := List.length_pos_iff.2 hq0
    simp; omega
   have hjn := textT_join n qs
   have c2 := joinW_any (h ++ [some (.cells [iA 1, .p (sP n), .p (.sl 3 (ptPs qs))]), none]) (n :: qs.map textP) [32] (by simp; omega) (by rw [hjn]; simp; omega)
   rw [hjn] at c2
   have hb1 : 1 + (n.length + (textT qs).length) ≤ 9223372036854775807 := by omega
   refine Run.reg fun K J => ?_
   simp [hlb]
   refine J _ _ _ (nv ?_); clear J
   refine cf (by simp) (nv ?_)
   refine Run.reg fun K J => ?_
   simp
   refine J _ _ _ ?_; clear J
   refine Run.call rfl (by first | rfl | simp) (by simp) rfl (c2) ?_ ?_
   rotate_left
   ·rintro v h' ⟨hv, _⟩; cases hv
   rintro v h' ⟨hv, rfl⟩
   simp only [AOut.ret.injEq] at hv
   subst hv
   have hb2 : n.length + (textT qs).length + 1 + 1 ≤ 9223372036854775807 := by omega
   refine Run.ops fun K J => ?_
   simp [hb1, hb2]
   refine J _ _ _ (nv ?_); clear J
   refine Run.ret ?_
   subst hr
   exact Fin.ret' (h0 := h) (by simp) rfl hh rfl (by simp; rfl) rfl (Weak.refl _) (by simp) ⟨by simp, rfl⟩


open Go Go.AI

open Rows (uptoBulk uptoBulkAll)

open Go.ChangeShapes Go.WideShapes Go.ChangeAt Go.RowKit

section

variable {H : Type} {enc : TypeId × Value → H} {W : World} {sp : Nat → Bool} {held : Bool}

end
abbrev u32A (i : Int) : AV := .p (.prim (.int .u32 i))
def vecA (ps : List Pt) (s : Int) : AV := .agg [.p (.sl 3 (ptPs ps)), u32A s]
theorem cells56 : Tryz.prog.cellsOf 56 = 2 := by kernel_rfl
theorem open_u32 {H : Type} {enc : TypeId × Value → H} {W : World} {sp : Nat → Bool} {held : Bool} {n : Nat} {cs : List Value} {x : DataW H × List MemPlace} (h : DataW.trod enc Tryz.prog W 0 sp held n 54 cs = some x) :
  ∃ i : Int, cs = [.int .u32 i] ∧ RepP (roAll W) W (.prim (.int .u32 i)) (.int .u32 i) ∧ 0 ≤ i ∧ i ≤ 4294967295 := by
 obtain ⟨i, rfl, _, hw⟩ := DataW.trod_int Tryz.underlying54 h
 exact ⟨i, rfl, by simp [RepP, isPrim], by simpa [Lit.wf, IntKind.min, IntKind.max, IntKind.signed, IntKind.bits] using hw⟩
theorem arg_vec {H : Type} {enc : TypeId × Value → H} {W : World} {v : Value} {d : DataW H} {p : List MemPlace} {base : Nat}
  (hv : Value.okWide Tryz.prog W .any base 56 v) (h : DataW.Trod enc Tryz.prog W 0 (fun _ => true) true 56 v d p) : ∃ (ps : List Pt) (s : Int), Rep (roAll W) W (vecA ps s) v ∧ (0 ≤ s ∧ s ≤ 4294967295) ∧ (uptoBulk d ≤ 1048576 → Pt.sizes ps ≤ uptoBulk d) := by
 obtain ⟨cs, rfl, hcs⟩ := okWide_struct Tryz.underlying56 hv
 obtain ⟨n, hn⟩ := h
 obtain ⟨xs, m, rfl, e1, hl, hlen, hf⟩ := DataW.trod_struct Tryz.underlying56 hn
 rw [cells56] at hl
 simp only [Value.cells] at hl hf
 obtain ⟨c0, c1, hcl⟩ : ∃ a b, cs.toList = [a, b] := by match cs.toList, hl with | [a, b], _ => exact ⟨a, b, rfl⟩
 obtain ⟨x0, x1, rfl⟩ : ∃ a b, xs = [a, b] := by match xs, hlen with | [a, b], _ => exact ⟨a, b, rfl⟩
 rw [hcl] at hf
 have h0 := hf 0 _ rfl
 have h1 := hf 1 _ rfl
 simp only [List.getElem?_cons_zero, List.getElem?_cons_succ] at h0 h1
 obtain ⟨ps, w, q0, r0, hG0⟩ := open_slice (α := Pt) Tryz.underlying50 cells74 (by decide) Pt.cells GPt (fun p => by cases p; rfl) (fun m' _ cs y hy => open_pt m' m' cs y (Nat.le_refl _) hy) h0
 obtain ⟨i, q1, r1, b1, b2⟩ := open_u32 h1
 injection q0 with q0; subst q0
 injection q1 with q1; subst q1
 refine ⟨ps, i, ?_, ⟨b1, b2⟩, fun hb => ?_⟩
 ·simp only [vecA, Rep]
  refine ⟨cs.toList, by simp, ?_⟩
  rw [hcl]
  simp only [RepL, Rep, ptPs_eq']
  exact ⟨_, _, rfl, r0, _, _, rfl, r1, rfl⟩
 ·obtain ⟨e1, _⟩ := Prod.mk.inj e1
  rw [e1] at hb ⊢
  simp only [List.map_cons, List.map_nil, uptoBulk, uptoBulkAll] at hb ⊢
  rcases hG0 with ⟨rfl, _⟩ | ⟨elems, rest, he, hG⟩
  ·simp [Pt.sizes]
  ·rw [he] at hb ⊢
   simp only [uptoBulk] at hb ⊢
   have := GL_pts hG (by omega)
   omega

end Go.Proofs.YtcfcolkbeelegaaGreat

namespace Go.Proofs.YtcfcolkbeelegaaGreat

open Go Go.AI
theorem indexF_any (h : Heap) (hh : WF h) (l : List Tm) (hl : l.length ≤ 1048576) (hg : ∀ t ∈ l, t.good) : ACalls Tryz.prog 121 [.p (.sl 5 (tmPs l)), .p (.prim (.func (.func 66) #[] #[]))] h fun o h' => RetI (fun _ => True) o ∧ h' = h := by
 refine ACalls.of_run Tryz.func121 rfl ?_
 simp only [Tryz.ntmps121, List.length_cons, List.length_nil]
 refine nv ?_
 refine Run.reg fun K J => ?_
 simp
 refine J _ _ _ (nv ?_); clear J
 refine Run.reg fun K J => ?_
 simp
 refine J _ _ _ (nv ?_); clear J
 refine Run.loopS [0, 1, 7] (fun j : Nat => j ≤ l.length) (fun j => l.length - j) (fun j => [(8, iA j)]) (fun _ => _) 0 (by simp) ?_ rfl ?_
 ·simp
  repeat' first | exact wn | apply wc | exact wj _ | exact wr _ | exact wz _ | exact wo _ _ _ | exact wi (by omega)
 rintro j hj IH
 simp
 refine nv ?_
 refine Run.reg fun K J => ?_
 simp
 refine J _ _ _ (nv ?_); clear J
 by_cases hjl : j < l.length
 ·have hge : l[j]? = some l[j] := List.getElem?_eq_getElem hjl
  have c1 := fun (g : Heap) (hw : WF g) => high_any g hw _ (hg _ (List.getElem_mem hjl))
  generalize (checkZ 60000 8 65536 65536 l[j] != 0) = b at c1
  generalize l[j] = t at hge c1
  obtain ⟨k, i, n, ls, ks⟩ := t
  simp only [Tm.av, cells_mk, List.map] at c1
  refine ct (by simp [hjl]) (nv ?_)
  refine Run.reg fun K J => ?_
  simp
  refine J _ _ _ (nv ?_); clear J
  refine Run.reg fun K J => ?_
  simp [hge]
  refine J _ _ _ ?_; clear J
  refine Run.call rfl (by first | rfl | simp) (by simp) rfl (c1 _ hh) ?_ ?_
  rotate_left
  ·rintro v h' ⟨hv, _⟩; cases hv
  rintro v h' ⟨hv, rfl⟩
  simp only [AOut.ret.injEq] at hv
  subst hv
  cases b with
  | false =>
   refine Run.ops fun K J => ?_
   simp
   refine J _ _ _ (nv ?_); clear J
   refine cf (by simp) (nv ?_)
   refine Run.reg fun K J => ?_
   simp
   try (simp (disch := omega) only [wrap_id])
   refine J _ _ _ (nv ?_); clear J
   refine IH (j + 1) _ _ (by omega) (by omega) ?_ rfl
   simp
   repeat' first | exact wn | apply wc | exact wj _ | exact wr _ | exact wz _ | exact wo _ _ _ | exact wi (by omega)
  | true =>
   refine Run.ops fun K J => ?_
   simp
   refine J _ _ _ (nv ?_); clear J
   refine ct (by simp) (nv ?_)
   repeat (first | refine nw ?_ | (refine Run.reg fun K J => ?_; simp; (try (simp (disch := omega) only [wrap_id])); refine J _ _ _ ?_; clear J) | refine ct rfl ?_ | refine cf rfl ?_ | refine Run.exit rfl ?_ | refine Run.ret ?_)
   exact Fin.ret' (by simp) rfl hh (List.append_nil _).symm rfl rfl (Weak.refl _) rfl ⟨⟨_, rfl, trivial⟩, rfl⟩
 ·have hje : j = l.length := by omega
  subst hje
  refine cf (by simp) ?_
  refine Run.exit rfl ?_
  refine nv ?_
  repeat (first | refine nw ?_ | (refine Run.reg fun K J => ?_; simp; (try (simp (disch := omega) only [wrap_id])); refine J _ _ _ ?_; clear J) | refine ct rfl ?_ | refine cf rfl ?_ | refine Run.exit rfl ?_ | refine Run.ret ?_)
  exact Fin.ret' (by simp) rfl hh (List.append_nil _).symm rfl rfl (Weak.refl _) rfl ⟨⟨_, rfl, trivial⟩, rfl⟩
theorem containsF_any (h : Heap) (hh : WF h) (l : List Tm) (hl : l.length ≤ 1048576) (hg : ∀ t ∈ l, t.good) : ACalls Tryz.prog 65 [.p (.sl 5 (tmPs l)), .p (.prim (.func (.func 66) #[] #[]))] h fun o h' => RetB (fun _ => True) o ∧ h' = h := by
 refine ACalls.of_run Tryz.func65 rfl ?_
 simp only [Tryz.ntmps65, List.length_cons, List.length_nil]
 refine nv ?_
 refine Run.reg fun K J => ?_
 simp
 refine J _ _ _ (nv ?_); clear J
 refine Run.reg fun K J => ?_
 simp
 refine J _ _ _ ?_; clear J
 refine Run.call rfl (by first | rfl | simp) (by simp) rfl (indexF_any _ hh l hl hg) ?_ ?_
 rotate_left
 ·rintro v h' ⟨⟨_, hv, _⟩, _⟩; cases hv
 rintro v h' ⟨⟨e, hv, he⟩, rfl⟩
 simp only [AOut.ret.injEq] at hv
 subst hv
 refine Run.ops fun K J => ?_
 simp
 refine J _ _ _ (nv ?_); clear J
 refine Run.ret ?_
 exact Fin.ret' (by simp) rfl hh (List.append_nil _).symm (by simp; rfl) rfl (Weak.refl _) (by simp) ⟨⟨_, rfl, trivial⟩, rfl⟩
theorem small08_any (h : Heap) (hh : WF h) (env : List Dc) (l : List Tm) (hg : Env.good env) (hsz : Tm.sizes l ≤ 1048576) (hlv : Tm.lvss l) (hf : Tm.fits l) (hgl : ∀ t ∈ l, t.good) :
  ACalls Tryz.prog 20 [envA env, .p (.sl 5 (tmPs l))] h fun o h' => RetB (fun b => b = true → EnvFine env ∧ goodB l = true) o ∧ h' = h := by
 have hll := length_le_sizes l
 have c1 := fun (g : Heap) (hw : WF g) => nodes_any (Tm.sizes l) l 60 g (Nat.le_refl _) (by omega) (by omega) (by omega) hw
 have c2 := fun (g : Heap) (hw : WF g) => good_any g hw l (by omega) hlv hf
 have c3 := fun (g : Heap) (hw : WF g) => goodEnv_any g hw env hg
 have c4 := fun (g : Heap) (hw : WF g) => containsF_any g hw l (by omega) hgl
 generalize goodB l = gb at c2 ⊢
 generalize nd 60 0 l = n at c1
 refine ACalls.of_run Tryz.func20 rfl ?_
 simp only [Tryz.ntmps20, List.length_cons, List.length_nil]
 refine nv ?_
 refine Run.reg fun K J => ?_
 simp
 refine J _ _ _ (nv ?_); clear J
 refine Run.reg fun K J => ?_
 simp
 refine J _ _ _ ?_; clear J
 refine Run.call rfl (by first | rfl | simp) (by simp) rfl (c1 _ hh) ?_ ?_
 rotate_left
 ·rintro v h' ⟨hv, _⟩; cases hv
 rintro v h' ⟨hv, rfl⟩
 simp only [AOut.ret.injEq] at hv
 subst hv
 by_cases e1 : n ≤ 60
 rotate_left
 ·refine Run.ops fun K J => ?_
  simp [e1]
  refine J _ _ _ (nv ?_); clear J
  refine Run.ret ?_
  exact Fin.ret' (by simp) rfl hh (List.append_nil _).symm (by simp; rfl) rfl (Weak.refl _) (by simp) ⟨⟨_, rfl, fun h => by cases h⟩, rfl⟩
 refine Run.ops fun K J => ?_
 simp [e1]
 refine J _ _ _ ?_; clear J
 refine Run.call rfl (by first | rfl | simp) (by simp) rfl (c2 _ hh) ?_ ?_
 rotate_left
 ·rintro v h' ⟨hv, _⟩; cases hv
 rintro v h' ⟨hv, rfl⟩
 simp only [AOut.ret.injEq] at hv
 subst hv
 cases gb with
 | false =>
  refine Run.ops fun K J => ?_
  simp
  refine J _ _ _ (nv ?_); clear J
  refine Run.ret ?_
  exact Fin.ret' (by simp) rfl hh (List.append_nil _).symm (by simp; rfl) rfl (Weak.refl _) (by simp) ⟨⟨_, rfl, fun h => by cases h⟩, rfl⟩
 | true =>
 refine Run.ops fun K J => ?_
 simp
 refine J _ _ _ ?_; clear J
 refine Run.call rfl (by first | rfl | simp) (by simp) rfl (c3 _ hh) ?_ ?_
 rotate_left
 ·rintro v h' ⟨⟨_, hv, _⟩, _⟩; cases hv
 rintro v h' ⟨⟨b, hv, hb⟩, rfl⟩
 simp only [AOut.ret.injEq] at hv
 subst hv
 cases b with
 | false =>
  refine Run.ops fun K J => ?_
  simp
  refine J _ _ _ (nv ?_); clear J
  refine Run.ret ?_
  exact Fin.ret' (by simp) rfl hh (List.append_nil _).symm (by simp; rfl) rfl (Weak.refl _) (by simp) ⟨⟨_, rfl, fun h => by cases h⟩, rfl⟩
 | true =>
  have he := hb rfl
  refine Run.ops fun K J => ?_
  simp
  refine J _ _ _ ?_; clear J
  refine Run.call rfl (by first | rfl | simp) (by simp) rfl (c4 _ hh) ?_ ?_
  rotate_left
  ·rintro v h' ⟨⟨_, hv, _⟩, _⟩; cases hv
  rintro v h' ⟨⟨b, hv, hb⟩, rfl⟩
  simp only [AOut.ret.injEq] at hv
  subst hv
  refine Run.ops fun K J => ?_
  simp
  refine J _ _ _ (nv ?_); clear J
  refine Run.ret ?_
  exact Fin.ret' (by simp) rfl hh (List.append_nil _).symm (by simp; rfl) rfl (Weak.refl _) (by simp) ⟨⟨_, rfl, fun _ => ⟨he, rfl⟩⟩, rfl⟩


open Go Go.AI

mutual
def smP (m : Int) : Pt → Option Int
 | .mk _ n qs => if m ≤ 0 ∨ 80 < (n.length : Int) then none else smPs (m - 1) qs
def smPs (m : Int) : List Pt → Option Int
 | [] => some m
 | p :: ps => match smP m p with | none => none | some k => smPs k ps
end

mutual
theorem smP_eq : ∀ (p : Pt) (m k : Int), smP m p = some k → k = m - p.size ∧ 0 ≤ k
 | .mk _ n qs, m, k, h => by
  simp only [smP] at h
  split at h
  ·cases h
  ·rename_i hc
   have h1 := smPs_eq qs (m - 1) k h
   simp only [Pt.size]
   refine ⟨by rw [h1.1]; omega, h1.2 (by omega)⟩
theorem smPs_eq : ∀ (l : List Pt) (m k : Int), smPs m l = some k → k = m - Pt.sizes l ∧ (0 ≤ m → 0 ≤ k)
 | [], m, k, h => by simp only [smPs, Option.some.injEq] at h; subst h; simp [Pt.sizes]
 | p :: ps, m, k, h => by
  simp only [smPs] at h
  split at h
  ·cases h
  ·rename_i k1 he
   have h1 := smP_eq p m k1 he
   have h2 := smPs_eq ps k1 k h
   simp only [Pt.sizes]
   refine ⟨by rw [h2.1, h1.1]; omega, fun _ => h2.2 h1.2⟩
end
def smA : Option Int → AV
 | some k => .tup [iA k, bA true]
 | none => .tup [iA 0, bA false]
theorem smPs_drop {m k : Int} {l : List Pt} {j : Nat} (h : smPs m l = smPs k (l.drop j)) {x : Pt} (hg : l[j]? = some x) : smPs m l = match smP k x with | none => none | some k => smPs k (l.drop (j + 1)) := by
 rw [h, drop_of_get hg, smPs]
theorem psmall_any (N : Nat) : ∀ (l : List Pt) (m : Int), Pt.sizes l ≤ N → Pt.sizes l ≤ 1048576 → -1 ≤ m → m ≤ 1048576 → ∀ h, WF h → ACalls Tryz.prog 37 [.p (.sl 3 (ptPs l)), iA m] h fun o h' => o = .ret (smA (smPs m l)) ∧ h' = h := by
 have key : ∀ (l : List Pt) (m : Int), Pt.sizes l ≤ 1048576 → -1 ≤ m → m ≤ 1048576 → (∀ p ∈ l, ∀ k, -1 ≤ k → k ≤ 1048576 → ∀ g, WF g → ACalls Tryz.prog 37 [.p (.sl 3 (ptPs p.args)), iA k] g fun o h' => o = .ret (smA (smPs k p.args)) ∧ h' = g) →
   ∀ h, WF h → ACalls Tryz.prog 37 [.p (.sl 3 (ptPs l)), iA m] h fun o h' => o = .ret (smA (smPs m l)) ∧ h' = h := by
  intro l m hB hm1 hm2 ih h hh
  have hll := psz_len l
  refine ACalls.of_run Tryz.func37 rfl ?_
  simp only [Tryz.ntmps37, List.length_cons, List.length_nil]
  refine nv ?_
  refine Run.reg fun K J => ?_
  simp
  refine J _ _ _ (nv ?_); clear J
  refine Run.reg fun K J => ?_
  simp
  refine J _ _ _ (nv ?_); clear J
  refine Run.loopS (ι := Nat × Int) [10, 11] (fun p => p.1 ≤ l.length ∧ -1 ≤ p.2 ∧ p.2 ≤ 1048576 ∧ smPs m l = smPs p.2 (l.drop p.1)) (fun p => l.length - p.1) (fun p => [(1, iA p.2), (12, iA p.1)]) (fun _ => h) (0, m) ⟨by simp, hm1, hm2, by simp⟩ ?_ rfl ?_
  ·simp
   repeat' first | exact wn | apply wc | exact wj _ | exact wr _ | exact wz _ | exact wo _ _ _ | exact wi (by omega)
  rintro ⟨j, k⟩ ⟨hj, hk1, hk2, hd⟩ IH
  simp only at hj hk1 hk2 hd
  simp
  refine nv ?_
  refine Run.reg fun K J => ?_
  simp
  refine J _ _ _ (nv ?_); clear J
  by_cases hjl : j < l.length
  ·have hg : l[j]? = some l[j] := List.getElem?_eq_getElem hjl
   have hmem := List.getElem_mem hjl
   generalize l[j] = x at hg hmem
   have hd2 := smPs_drop hd hg
   have ihx := ih x hmem (k - 1)
   have hsm := smP_eq x k
   have hsz := Pt.size_at hmem
   obtain ⟨pk, pn, qs⟩ := x
   simp only [smP] at hd2 hsm
   simp only [Pt.args] at ihx
   refine ct (by simp [hjl]) (nv ?_)
   refine Run.reg fun K J => ?_
   simp [hg, pcells_mk]
   refine J _ _ _ (nv ?_); clear J
   by_cases h1 : k ≤ 0
   ·simp only [h1, true_or, if_true] at hd2
    rw [hd2]
    refine Run.reg fun K J => ?_
    simp [h1]
    refine J _ _ _ (nv ?_); clear J
    refine ct (by simp) (nv ?_)
    refine Run.reg fun K J => ?_
    simp
    refine J _ _ _ (nv ?_); clear J
    refine Run.ret ?_
    exact Fin.ret' (h0 := h) (by simp) rfl hh rfl (by simp; rfl) rfl (Weak.refl _) (by simp) ⟨by simp [smA], rfl⟩
   by_cases h2 : 80 < pn.length
   ·have h2i : 80 < (pn.length : Int) := by omega
    simp only [h2i, or_true, if_true] at hd2
    rw [hd2]
    refine Run.reg fun K J => ?_
    simp [h1, h2i]
    refine J _ _ _ (nv ?_); clear J
    refine ct (by simp) (nv ?_)
    refine Run.reg fun K J => ?_
    simp
    refine J _ _ _ (nv ?_); clear J
    refine Run.ret ?_
    exact Fin.ret' (h0 := h) (by simp) rfl hh rfl (by simp; rfl) rfl (Weak.refl _) (by simp) ⟨by simp [smA], rfl⟩
   have h2i : ¬ 80 < (pn.length : Int) := by omega
   simp only [h1, h2i, or_self, if_false] at hd2 hsm
   have ihx := fun g hw => ihx (by omega) (by omega) g hw
   refine Run.reg fun K J => ?_
   simp [h1, h2i]
   refine J _ _ _ (nv ?_); clear J
   refine cf (by simp) (nv ?_)
   refine Run.reg fun K J => ?_
   simp
   try (simp (disch := omega) only [wrap_id])
   refine J _ _ _ ?_; clear J
   refine rl rfl (by first | rfl | simp) (by simp) rfl (ihx _ (hh.app (by simp))) ?_
   cases hr : smPs (k - 1) qs with
   | none =>
    rw [hr] at hd2
    simp only at hd2
    rw [hd2]
    simp only [smA]
    refine Run.ops fun K J => ?_
    simp
    refine J _ _ _ (nv ?_); clear J
    refine Run.reg fun K J => ?_
    simp
    refine J _ _ _ (nv ?_); clear J
    refine ct (by simp) (nv ?_)
    refine Run.reg fun K J => ?_
    simp
    refine J _ _ _ (nv ?_); clear J
    refine Run.ret ?_
    exact Fin.ret' (h0 := h) (by simp) rfl hh rfl (by simp; rfl) rfl (Weak.refl _) (by simp) ⟨by simp, rfl⟩
   | some k2 =>
    rw [hr] at hd2
    simp only at hd2
    have hs2 := hsm k2 hr
    have := Pt.size_pos (.mk pk pn qs)
    simp only [smA]
    refine Run.ops fun K J => ?_
    simp
    refine J _ _ _ (nv ?_); clear J
    refine Run.reg fun K J => ?_
    simp
    refine J _ _ _ (nv ?_); clear J
    refine cf (by simp) (nv ?_)
    refine Run.reg fun K J => ?_
    simp
    refine J _ _ _ (nv ?_); clear J
    refine Run.reg fun K J => ?_
    simp
    try (simp (disch := omega) only [wrap_id])
    refine J _ _ _ (nv ?_); clear J
    refine Run.keep [1, 10, 11, 12] ?_
    simp
    refine Run.cutAt 0 hh rfl (by omega) (by simp) (by simp) (by simp) rfl ?_
    simp
    refine IH (j + 1, k2) _ _ ⟨by simp only; omega, by simp only; omega, by simp only; omega, hd2⟩ (by simp only; omega) ?_ (by simp)
    simp
    repeat' first | exact wn | apply wc | exact wj _ | exact wr _ | exact wz _ | exact wo _ _ _ | exact wi (by omega)
  ·have hje : j = l.length := by omega
   subst hje
   rw [List.drop_length, smPs] at hd
   rw [hd]
   refine cf (by simp) ?_
   refine Run.exit rfl ?_
   refine nv ?_
   refine Run.reg fun K J => ?_
   simp
   refine J _ _ _ (nv ?_); clear J
   refine Run.ret ?_
   exact Fin.ret' (by simp) rfl hh (List.append_nil _).symm (by simp; rfl) rfl (Weak.refl _) (by simp) ⟨by simp [smA], rfl⟩
 induction N with
 | zero =>
  intro l m hl hB hm1 hm2
  cases l with
  | nil => exact key [] m hB hm1 hm2 (by simp)
  | cons p l => have := p.size_pos; simp only [Pt.sizes] at hl; omega
 | succ N ih =>
  intro l m hl hB hm1 hm2
  refine key l m hB hm1 hm2 fun p hp k hk1 hk2 g hw => ?_
  have h2 := Pt.size_at hp
  obtain ⟨pk, pn, qs⟩ := p
  simp only [Pt.size] at h2
  exact ih qs k (by omega) (by omega) hk1 hk2 g hw

end Go.Proofs.YtcfcolkbeelegaaGreat
