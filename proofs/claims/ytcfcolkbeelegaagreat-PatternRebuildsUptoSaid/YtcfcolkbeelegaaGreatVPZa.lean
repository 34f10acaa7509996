import Derived.Test.YtcfcolkbeelegaaGreatVQQ
import Derived.Test.YtcfcolkbeelegaaGreatVPX
set_option linter.unusedSectionVars false
set_option maxRecDepth 8000
set_option maxHeartbeats 16000000

namespace Go.Proofs.YtcfcolkbeelegaaGreat

open Go Go.AI

mutual
theorem filP_sub : ∀ (q : Pt) (zs : List (Pt × Tm)) (p : Pt) (r : List (Pt × Tm)), filP q zs = some (p, r) → r.length ≤ zs.length ∧ ∀ z ∈ r, z ∈ zs
 | .mk k n qs, zs, p, r, h => by
  simp only [filP] at h
  split at h
  ·cases hq : filPs qs zs with
   | none => rw [hq] at h; simp at h
   | some w =>
    obtain ⟨as_, ws⟩ := w
    rw [hq] at h
    simp only [Option.some.injEq, Prod.mk.injEq] at h
    rw [← h.2]
    exact filPs_sub qs zs as_ ws hq
  ·cases zs with
   | nil => simp at h
   | cons z zs =>
    simp only [Option.some.injEq, Prod.mk.injEq] at h
    rw [← h.2]
    exact ⟨by simp, fun x hx => by simp [hx]⟩
theorem filPs_sub : ∀ (l : List Pt) (zs : List (Pt × Tm)) (ps : List Pt) (r : List (Pt × Tm)), filPs l zs = some (ps, r) → r.length ≤ zs.length ∧ ∀ z ∈ r, z ∈ zs
 | [], zs, ps, r, h => by
  simp only [filPs, Option.some.injEq, Prod.mk.injEq] at h
  rw [← h.2]
  exact ⟨Nat.le_refl _, fun _ h => h⟩
 | q :: l, zs, ps, r, h => by
  simp only [filPs] at h
  cases hq : filP q zs with
  | none => rw [hq] at h; simp at h
  | some w =>
   obtain ⟨p, ws⟩ := w
   rw [hq] at h
   simp only at h
   cases hl : filPs l ws with
   | none => rw [hl] at h; simp at h
   | some w2 =>
    obtain ⟨ps', ws2⟩ := w2
    rw [hl] at h
    simp only [Option.some.injEq, Prod.mk.injEq] at h
    have h1 := filP_sub q zs p ws hq
    have h2 := filPs_sub l ws ps' ws2 hl
    rw [← h.2]
    exact ⟨by omega, fun z hz => h1.2 z (h2.2 z hz)⟩
end

section

variable {env : List Dc} (hg : Env.good env) (hf : EnvFine env) {i0 : Nat} {d : Dc} (hi : env[i0]? = some d) (hk3 : d.k = 3) (hfx : d.fx ≤ 1048576) (hcs : ∀ c ∈ d.cs, c.ty.size ≤ 1048576)
include hg hf hi hk3 hfx hcs
theorem names33_any (N : Nat) : ∀ (p : Pt) (t : Tm), btP d p t → p.size ≤ N → t.size ≤ 1048576 → ∀ h, WF h → ACalls Tryz.prog 33 [envA env, t.av] h fun o h' => o = .ret p.av ∧ h' = h := by
 induction N with
 | zero => intro p t _ hN; have := p.size_pos; omega
 | succ N ih =>
 intro p t hb hN hts h hh
 obtain ⟨k, n, ps⟩ := p
 simp only [btP] at hb
 obtain ⟨rfl, j, c, us, a1, rfl, a3, rfl, a5⟩ := hb
 have hcz := conZ_bt hf hi hk3 a1 a3 (hcs c (List.mem_of_getElem? a1)) hfx
 have c1 := fun (g : Heap) (hw : WF g) => refConstruct_any g hw env (bT d.fx c.nm us) hg hf hts
 rw [hcz] at c1
 simp only [optCo, Option.getD_some, Option.isSome_some, Dc.av_row] at c1
 have hul := btPs_len a5
 have husz : ∀ u ∈ us, u.size ≤ 1048576 := fun u hu => by
  have := Tm.sizes_mem hu
  rw [bT_size] at hts
  omega
 have hull : us.length ≤ 1048576 := by
  rw [bT_size] at hts
  omega
 simp only [Pt.size] at hN
 generalize bT d.fx c.nm us = t at c1
 obtain ⟨t0, t1, t2, t3, t4⟩ := t
 obtain ⟨nm, ⟨u0, u1, u2, u3, u4⟩⟩ := c
 simp only [Tm.av, cells_mk, List.map] at c1 ⊢
 refine ACalls.of_run Tryz.func33 rfl ?_
 simp only [Tryz.ntmps33, List.length_cons, List.length_nil]
 refine nv ?_
 refine Run.reg fun K J => ?_
 simp
 refine J _ _ _ (nv ?_); clear J
 refine Run.reg fun K J => ?_
 simp
 refine J _ _ _ ?_; clear J
 refine rl rfl (by first | rfl | simp) (by simp) rfl (c1 _ (hh.app (by simp))) ?_
 refine Run.ops fun K J => ?_
 simp [Dc.row_one, Dc.row_patch]
 refine J _ _ _ (nv ?_); clear J
 refine Run.reg fun K J => ?_
 simp
 refine J _ _ _ (nv ?_); clear J
 refine cf (by simp) (nv ?_)
 refine Run.regPre 6 fun K J => ?_
 simp only [List.take_succ_cons, List.take_zero]
 simp [a1, Ct.cells]
 refine J _ _ _ ?_; clear J
 simp only [List.nil_append, List.drop_succ_cons, List.drop_zero]
 refine rl rfl (by first | rfl | simp) (by simp) rfl (ctor68_nil _ (hh.app (by simp)) nm) ?_
 refine Run.ops fun K J => ?_
 simp
 refine J _ _ _ (nv ?_); clear J
 refine Run.tokAt (h.length + 3) 2 3 (by simp; rfl) (by simp) ?_
 simp
 refine Run.reg fun K J => ?_
 simp
 refine J _ _ _ (nv ?_); clear J
 refine Run.loopS [0, 3, 4, 9, 30, 31] (fun i : Nat => i ≤ us.length) (fun i => us.length - i) (fun i => [(32, iA i)])
  (fun i => h ++ [some (.cells [iA t0, iA t1, .p (sP t2), .p (.sl 2 (lvPs t3)), .p (.sl 5 (tmPs t4))]), some (.cells [iA 0, .p (sP []), .p (.prim (.slice none 0 0))]), some (.cells d.row), some (.cells [iA 1, .p (sP nm), .own (h.length + 4) 3 (ptPs (ps.take i))]), some (.tok i 3)]) 0 (by simp) ?_ (by simp [ptPs]) ?_
 ·simp
  repeat' first | exact wn | apply wc | exact wj _ | exact wr _ | exact wz _ | exact wo _ _ _ | exact wi (by omega)
 intro i hil0 IH
 simp
 refine nv ?_
 refine Run.reg fun K J => ?_
 simp
 refine J _ _ _ (nv ?_); clear J
 by_cases hil : i < us.length
 ·have hgu : us[i]? = some us[i] := List.getElem?_eq_getElem hil
  obtain ⟨p, hp1, hp2⟩ := btPs_get a5 i _ hgu
  have hum := husz us[i] (List.getElem_mem hil)
  have c2 := fun (g : Heap) (hw : WF g) => ih p us[i] hp2 (by have := Pt.size_at (List.mem_of_getElem? hp1); omega) hum g hw
  generalize us[i] = u at hgu c2
  have hpl := (List.getElem?_eq_some_iff.1 hp1).1
  have htk : ps.take (i + 1) = ps.take i ++ [p] := by
   rw [List.take_succ_eq_append_getElem hpl]
   rw [List.getElem?_eq_getElem hpl] at hp1
   rw [Option.some.inj hp1]
  obtain ⟨v0, v1, v2, v3, v4⟩ := u
  obtain ⟨pk, pn, pq⟩ := p
  have htl : (ps.take i).length = i := by simp; omega
  have hb1 : (i + 1) * 48 ≤ 140737488355328 := by omega
  have hb2 : i + 1 ≤ 9223372036854775807 := by omega
  simp only [Tm.av, Pt.av, cells_mk, pcells_mk, List.map] at c2
  refine ct (by simp [hil]) (nv ?_)
  refine Run.reg fun K J => ?_
  simp [hgu]
  refine J _ _ _ (nv ?_); clear J
  refine Run.draw [0, 0, 0, 0, 0, 1, 1, 2, 2] [0, 0, 0, 0, 0, 0, 1, 0, 2] [0, 1, 0, 0, 12, 28, 63, 127, 255] [2, 3, 4, 0, 1, 5, 6, 7, 8] (by kernel_rfl) (by kernel_rfl) ?_
  refine DR.go fun K J => ?_
  simp
  refine J _ _ _ _ ?_; clear J
  refine DR.call rfl rfl rfl (by simp) rfl (c2 _ (hh.app (by simp))) ?_
  refine DR.go fun K J => ?_
  simp [hb1, hb2, htl]
  refine J _ _ _ _ ?_; clear J
  change Run _ _ _ _ _ _ _ _
  refine nv ?_
  refine Run.reg fun K J => ?_
  simp
  try (simp (disch := omega) only [wrap_id])
  refine J _ _ _ (nv ?_); clear J
  refine Run.keep [0, 3, 4, 9, 30, 31, 32] ?_
  simp
  refine Run.cutAt 5 hh rfl (by omega) (by simp) (by simp) (by simp) (by simp [underD]) ?_
  refine IH (i + 1) _ _ (by omega) (by omega) ?_ ?_
  ·simp
   repeat' first | exact wn | apply wc | exact wj _ | exact wr _ | exact wz _ | exact wo _ _ _ | exact wi (by omega)
  ·rw [htk, ptPs_snoc, pcells_mk]; simp
 ·have hie : i = us.length := by omega
  subst hie
  rw [← hul, List.take_length]
  refine cf (by simp [hil, hul]) ?_
  refine Run.exit rfl ?_
  refine nv ?_
  refine Run.weakH (h.length + 3) (cs := [iA 1, .p (sP nm), .own (h.length + 4) 3 (ptPs ps)]) (cs' := [iA 1, .p (sP nm), .p (.sl 3 (ptPs ps))]) (by simp [Heap.at]) ?_ ?_
  ·exact WeakL.cons (Weak.refl _) (WeakL.cons (Weak.refl _) (WeakL.cons (Weak.own _ _ _) WeakL.nil))
  simp
  refine Run.reg fun K J => ?_
  simp
  refine J _ _ _ (nv ?_); clear J
  refine Run.ret ?_
  exact Fin.ret' (h0 := h) (by simp) rfl hh rfl (by simp; rfl) rfl (Weak.refl _) (by simp) ⟨by simp [Pt.av, pcells_mk], rfl⟩
theorem filled32_any (N : Nat) : ∀ (l : List Pt), Pt.sizes l ≤ N → Pt.sizes l ≤ 1048576 → ∀ (zs r : List (Pt × Tm)) (ps : List Pt), (∀ z ∈ zs, btP d z.1 z.2 ∧ z.2.size ≤ 1048576) → zs.length ≤ 1048576 → filPs l zs = some (ps, r) →
  ∀ h, WF h → ACalls Tryz.prog 32 [envA env, .p (.sl 3 (ptPs l)), .p (.sl 5 (tmPs (zs.map (·.2))))] h fun o h' => o = .ret (.tup [.p (.sl 3 (ptPs ps)), .p (.sl 5 (tmPs (r.map (·.2))))]) ∧ h' = h := by
 have key : ∀ (l : List Pt), Pt.sizes l ≤ 1048576 → (∀ p ∈ l, ∀ (zs r : List (Pt × Tm)) (ps : List Pt), (∀ z ∈ zs, btP d z.1 z.2 ∧ z.2.size ≤ 1048576) → zs.length ≤ 1048576 → filPs p.args zs = some (ps, r) → ∀ g, WF g → ACalls Tryz.prog 32 [envA env, .p (.sl 3 (ptPs p.args)), .p (.sl 5 (tmPs (zs.map (·.2))))] g fun o h' => o = .ret (.tup [.p (.sl 3 (ptPs ps)), .p (.sl 5 (tmPs (r.map (·.2))))]) ∧ h' = g) →
   ∀ (zs r : List (Pt × Tm)) (ps : List Pt), (∀ z ∈ zs, btP d z.1 z.2 ∧ z.2.size ≤ 1048576) → zs.length ≤ 1048576 → filPs l zs = some (ps, r) →
   ∀ h, WF h → ACalls Tryz.prog 32 [envA env, .p (.sl 3 (ptPs l)), .p (.sl 5 (tmPs (zs.map (·.2))))] h fun o h' => o = .ret (.tup [.p (.sl 3 (ptPs ps)), .p (.sl 5 (tmPs (r.map (·.2))))]) ∧ h' = h := by
  intro l hB ih zs r ps hzs hzl hfl h hh
  have hll := psz_len l
  refine ACalls.of_run Tryz.func32 rfl ?_
  simp only [Tryz.ntmps32, List.length_cons, List.length_nil]
  refine nv ?_
  refine Run.reg fun K J => ?_
  simp
  refine J _ _ _ (nv ?_); clear J
  refine Run.reg fun K J => ?_
  simp
  refine J _ _ _ (nv ?_); clear J
  refine Run.tok 8 3 (by simp) ?_
  simp
  refine Run.reg fun K J => ?_
  simp
  refine J _ _ _ (nv ?_); clear J
  refine Run.loopS (ι := Nat × List Pt × List (Pt × Tm)) [0, 12, 13] (fun p => p.1 ≤ l.length ∧ p.2.1.length = p.1 ∧ p.2.2.length ≤ 1048576 ∧ (∀ z ∈ p.2.2, btP d z.1 z.2 ∧ z.2.size ≤ 1048576) ∧ ∃ rest, filPs (l.drop p.1) p.2.2 = some (rest, r) ∧ ps = p.2.1 ++ rest) (fun p => l.length - p.1)
   (fun p => [(2, .p (.sl 5 (tmPs (p.2.2.map (·.2))))), (8, .own h.length 3 (ptPs p.2.1)), (14, iA p.1)]) (fun p => h ++ [some (.tok p.2.1.length 3)]) (0, [], zs) ⟨by simp, by simp, hzl, hzs, ps, by simpa using hfl, by simp⟩ ?_ (by simp) ?_
  ·simp [ptPs]
   repeat' first | exact wn | apply wc | exact wj _ | exact wr _ | exact wz _ | exact wo _ _ _ | exact wi (by omega)
  rintro ⟨j, out, ys⟩ ⟨hj, hol, hyl, hys, rest, hr1, hr2⟩ IH
  simp only at hj hol hyl hys hr1 hr2
  simp
  refine nv ?_
  refine Run.reg fun K J => ?_
  simp
  refine J _ _ _ (nv ?_); clear J
  by_cases hjl : j < l.length
  rotate_left
  ·have hje : l.length ≤ j := by omega
   rw [List.drop_of_length_le hje, filPs] at hr1
   simp only [Option.some.injEq, Prod.mk.injEq] at hr1
   obtain ⟨rfl, rfl⟩ := hr1
   rw [List.append_nil] at hr2
   subst hr2
   refine cf (by simp [hje]) ?_
   refine Run.exit rfl ?_
   refine nv ?_
   refine Run.reg fun K J => ?_
   simp
   refine J _ _ _ (nv ?_); clear J
   refine Run.ret ?_
   exact Fin.ret' (h0 := h) (xs := [.own h.length 3 (ptPs ps), .p (.sl 5 (tmPs (ys.map (·.2))))]) (by simp) rfl hh rfl (by simp) rfl (Weak.tup (WeakL.cons (Weak.own _ _ _) (WeakL.refl _))) (by simp) ⟨rfl, rfl⟩
  have hgp : l[j]? = some l[j] := List.getElem?_eq_getElem hjl
  have hmem := List.getElem_mem hjl
  rw [drop_of_get hgp, filPs] at hr1
  generalize l[j] = p at hgp hmem hr1
  have ih := ih p hmem
  obtain ⟨k, n, qs⟩ := p
  simp only [Pt.args] at ih
  have hb1 : (j + 1) * 48 ≤ 140737488355328 := by omega
  have hb2 : j + 1 ≤ 9223372036854775807 := by omega
  refine ct (by simp [hjl]) (nv ?_)
  refine Run.reg fun K J => ?_
  simp [hgp, pcells_mk]
  refine J _ _ _ (nv ?_); clear J
  by_cases k1 : k = 1
  rotate_left
  ·have k1' : (k != 1) = true := by simpa using k1
   simp only [filP, if_neg k1] at hr1
   cases ys with
   | nil => simp at hr1
   | cons y ys =>
   simp only at hr1
   split at hr1
   ·cases hr1
   rename_i rest' r' he
   simp only [Option.some.injEq, Prod.mk.injEq] at hr1
   obtain ⟨rfl, rfl⟩ := hr1
   obtain ⟨y1, y2⟩ := y
   obtain ⟨hy1, hy2⟩ := hys (y1, y2) (by simp)
   simp only at hy1 hy2
   have c1 := fun (g : Heap) (hw : WF g) => names33_any hg hf hi hk3 hfx hcs y1.size y1 y2 hy1 (Nat.le_refl _) hy2 g hw
   obtain ⟨v0, v1, v2, v3, v4⟩ := y2
   obtain ⟨pk, pn, pq⟩ := y1
   simp only [Tm.av, Pt.av, cells_mk, pcells_mk, List.map] at c1
   have hy1 : 1 ≤ (ys.length : Int) + 1 := by omega
   have hy0 : ¬ (ys.length : Int) + 1 = 0 := by omega
   have hyt : List.take ys.length (List.map (fun x => x.snd) ys) = List.map (fun x => x.snd) ys := List.take_of_length_le (by simp)
   refine Run.reg fun K J => ?_
   simp [k1']
   refine J _ _ _ (nv ?_); clear J
   refine ct (by simp) (nv ?_)
   refine Run.reg fun K J => ?_
   simp
   refine J _ _ _ (nv ?_); clear J
   refine cf (by simp [hy0]) (nv ?_)
   refine Run.draw [0, 0, 0, 0, 0, 0, 1, 1, 0, 0, 2, 2] [0, 0, 0, 0, 0, 0, 0, 1, 0, 0, 0, 0] [0, 0, 0, 4, 12, 30, 62, 127, 0, 256, 255, 2047] [1, 2, 3, 4, 5, 0, 6, 7, 8, 9, 10, 11] (by kernel_rfl) (by kernel_rfl) ?_
   refine DR.go fun K J => ?_
   simp [tmPs]
   refine J _ _ _ _ ?_; clear J
   refine DR.call rfl rfl rfl (by simp) rfl (c1 _ (hh.app (by simp))) ?_
   refine DR.go fun K J => ?_
   simp [hb1, hb2, hol, hy1, hyt]
   refine J _ _ _ _ ?_; clear J
   change Run _ _ _ _ _ _ _ _
   refine Run.exit rfl ?_
   refine Run.reg fun K J => ?_
   simp
   try (simp (disch := omega) only [wrap_id])
   refine J _ _ _ (nv ?_); clear J
   refine Run.keep [0, 2, 8, 12, 13, 14] ?_
   simp
   refine Run.cutAt 1 hh rfl (by omega) (by simp) (by simp) (by simp) (by simp [underD]) ?_
   refine IH (j + 1, out ++ [.mk pk pn pq], ys) _ _ ⟨by omega, by simp [hol], by simp at hyl ⊢; omega, fun z hz => hys z (by simp [hz]), rest', he, by simp [hr2]⟩ (by simp only; omega) ?_ ?_
   ·simp [ptPs_snoc, pcells_mk]
    repeat' first | exact wn | apply wc | exact wj _ | exact wr _ | exact wz _ | exact wo _ _ _ | exact wi (by omega)
   ·simp [hol]
  subst k1
  simp only [filP, if_true] at hr1
  cases hq : filPs qs ys with
  | none => rw [hq] at hr1; simp at hr1
  | some w =>
  obtain ⟨as_, ws⟩ := w
  rw [hq] at hr1
  simp only at hr1
  split at hr1
  ·cases hr1
  rename_i rest' r' he
  simp only [Option.some.injEq, Prod.mk.injEq] at hr1
  obtain ⟨rfl, rfl⟩ := hr1
  have hsub := filPs_sub qs ys as_ ws hq
  have c1 := fun (g : Heap) (hw : WF g) => ih ys ws as_ hys hyl hq g hw
  have c2 := fun (g : Heap) (hw : WF g) => ctor68_any g hw n as_
  simp only [Pt.av, pcells_mk, List.map] at c2
  refine Run.reg fun K J => ?_
  simp
  refine J _ _ _ (nv ?_); clear J
  refine cf (by simp) (nv ?_)
  refine Run.reg fun K J => ?_
  simp
  refine J _ _ _ (nv ?_); clear J
  refine Run.reg fun K J => ?_
  simp
  refine J _ _ _ ?_; clear J
  refine rl rfl (by first | rfl | simp) (by simp) rfl (c1 _ (hh.app (by simp))) ?_
  refine Run.ops fun K J => ?_
  simp
  refine J _ _ _ (nv ?_); clear J
  refine Run.reg fun K J => ?_
  simp
  refine J _ _ _ ?_; clear J
  refine rl rfl (by first | rfl | simp) (by simp) rfl (c2 _ (hh.app (by simp))) ?_
  refine Run.ops fun K J => ?_
  simp [hb1, hb2, hol]
  refine J _ _ _ (nv ?_); clear J
  refine Run.reg fun K J => ?_
  simp
  try (simp (disch := omega) only [wrap_id])
  refine J _ _ _ (nv ?_); clear J
  refine Run.keep [0, 2, 8, 12, 13, 14] ?_
  simp
  refine Run.cutAt 1 hh rfl (by omega) (by simp) (by simp) (by simp) (by simp [underD]) ?_
  refine IH (j + 1, out ++ [.mk 1 n as_], ws) _ _ ⟨by omega, by simp [hol], by have := hsub.1; simp only; omega, fun z hz => hys z (hsub.2 z hz), rest', he, by simp [hr2]⟩ (by simp only; omega) ?_ ?_
  ·simp [ptPs_snoc, pcells_mk]
   repeat' first | exact wn | apply wc | exact wj _ | exact wr _ | exact wz _ | exact wo _ _ _ | exact wi (by omega)
  ·simp [hol]
 induction N with
 | zero =>
  intro l hN hB
  refine key l hB fun p hp => ?_
  have := Pt.size_at hp
  have := p.size_pos
  omega
 | succ N ih =>
  intro l hN hB
  refine key l hB fun p hp => ?_
  have h1 := Pt.size_at hp
  obtain ⟨k, nm, qs⟩ := p
  simp only [Pt.size] at h1
  exact ih qs (by omega) (by omega)

end

end Go.Proofs.YtcfcolkbeelegaaGreat

namespace Go.Proofs.YtcfcolkbeelegaaGreat

open Go Go.AI
def vPt : Pt := .mk 0 [] []
def zPn : Pt := .mk 1 zeroB []
def sPn : Pt := .mk 1 succB [vPt]
def clsA : List Cl := [⟨[zPn, vPt], zT⟩, ⟨[sPn, zPn], zT⟩, ⟨[sPn, sPn], zT⟩]
def lessA : List Cl := [⟨[zPn, vPt], zT⟩, ⟨[sPn, sPn], zT⟩]
def awR : Tm → Tm × Int := fun t => (t, 0)
theorem aw_m1 : matchM awR natE clsA [sucT (vr 3), sucT (vr 5)] = (2, [vr 3, vr 5], 0) := by kernel_rfl
theorem aw_m2 : matchM awR natE clsA [vr 3, zroT] = (0, [], 19) := by kernel_rfl
theorem aw_c1 : coversB natE clsA [vPt, vPt] = true := by kernel_rfl
theorem aw_c2 : coversB natE lessA [vPt, vPt] = false := by kernel_rfl
theorem aw_c3 : coversB natE lessA [zPn, vPt] = true := by kernel_rfl
theorem aw_c4 : coversB natE lessA [sPn, vPt] = false := by kernel_rfl
theorem aw_tx : textP (.mk 1 succB [sPn]) = [40, 115, 117, 99, 99, 32, 40, 115, 117, 99, 99, 32, 95, 41, 41] := by kernel_rfl
theorem aw_sm : sameQ [vr 3, vr 5] [vr 3, vr 5] = true := by kernel_rfl
abbrev vRaw : List PV := [iP 0, sP [], .prim (.slice none 0 0)]
theorem k1_any (g : Heap) (hw : WF g) : ACalls Tryz.prog 68 [.p (sP zeroB), .p (.prim (.slice none 0 0))] g fun o h' => o = .ret zPn.av ∧ h' = g :=
 ACalls.weak (args' := [.p (sP zeroB), .p (.sl 3 (ptPs []))]) (WeakL.cons (Weak.refl _) (WeakL.cons (Weak.nil _) WeakL.nil)) (ctor68_any g hw zeroB [])
theorem vRaw_weak : WeakPs [vRaw] (ptPs [vPt]) := by
 simp only [vPt, ptPs, pcells_mk]
 exact WeakPs.cons (WeakPL.cons (WeakP.refl _) (WeakPL.cons (WeakP.refl _) (WeakPL.cons (WeakP.nil _) WeakPL.nil))) WeakPs.nil
theorem k2_any (g : Heap) (hw : WF g) : ACalls Tryz.prog 68 [.p (sP succB), .p (.sl 3 [vRaw])] g fun o h' => o = .ret sPn.av ∧ h' = g :=
 ACalls.weak (args' := [.p (sP succB), .p (.sl 3 (ptPs [vPt]))]) (WeakL.cons (Weak.refl _) (WeakL.cons (WeakP.sl vRaw_weak).av WeakL.nil)) (ctor68_any g hw succB [vPt])


open Go Go.AI
abbrev zRaw : List PV := [iP 1, sP zeroB, .sl 3 []]
abbrev sRaw : List PV := [iP 1, sP succB, .sl 3 [[iP 0, sP [], .sl 3 []]]]
abbrev rc (a b : List PV) : List PV := [.sl 3 [a, b], iP 0, iP 0, sP [], .prim (.slice none 0 0), .prim (.slice none 0 0)]
abbrev rT (i : Int) : List PV := [iP 0, iP i, sP [], .prim (.slice none 0 0), .prim (.slice none 0 0)]
abbrev rZ : List PV := [iP 3, iP 0, sP zeroB, .prim (.slice none 0 0), .prim (.slice none 0 0)]
theorem v_weak : WeakPL vRaw vPt.cells := by simp only [vPt, pcells_mk, ptPs]; exact WeakPL.cons (WeakP.refl _) (WeakPL.cons (WeakP.refl _) (WeakPL.cons (WeakP.nil _) WeakPL.nil))
theorem pl_refl : ∀ l : List PV, WeakPL l l
 | [] => WeakPL.nil
 | x :: l => WeakPL.cons (WeakP.refl x) (pl_refl l)
theorem z_eq : zRaw = zPn.cells := by simp only [zPn, pcells_mk, ptPs]
theorem s_eq : sRaw = sPn.cells := by simp only [sPn, vPt, pcells_mk, ptPs]
theorem rc_weak {a b : List PV} {p q : Pt} (h1 : WeakPL a p.cells) (h2 : WeakPL b q.cells) : WeakPL (rc a b) (Cl.cells ⟨[p, q], zT⟩) := by
 simp only [Cl.cells, zT, cells_mk, ptPs, lvPs, tmPs, List.map]
 exact WeakPL.cons (WeakP.sl (WeakPs.cons h1 (WeakPs.cons h2 WeakPs.nil))) (WeakPL.cons (WeakP.refl _) (WeakPL.cons (WeakP.refl _) (WeakPL.cons (WeakP.refl _) (WeakPL.cons (WeakP.nil _) (WeakPL.cons (WeakP.nil _) WeakPL.nil)))))
theorem zw : WeakPL zRaw zPn.cells := by rw [z_eq]; exact pl_refl _
theorem sw : WeakPL sRaw sPn.cells := by rw [s_eq]; exact pl_refl _
theorem RC_weak : WeakPs [rc zRaw vRaw, rc sRaw zRaw, rc sRaw sRaw] (clPs clsA) := by
 simp only [clPs, clsA, List.map]
 exact WeakPs.cons (rc_weak zw v_weak) (WeakPs.cons (rc_weak sw zw) (WeakPs.cons (rc_weak sw sw) WeakPs.nil))
theorem RL_weak : WeakPs [rc zRaw vRaw, rc sRaw sRaw] (clPs lessA) := by
 simp only [clPs, lessA, List.map]
 exact WeakPs.cons (rc_weak zw v_weak) (WeakPs.cons (rc_weak sw sw) WeakPs.nil)
theorem rT_weak (i : Int) : WeakPL (rT i) (vr i).cells := by
 simp only [vr, cells_mk, lvPs, tmPs, List.map]
 exact WeakPL.cons (WeakP.refl _) (WeakPL.cons (WeakP.refl _) (WeakPL.cons (WeakP.refl _) (WeakPL.cons (WeakP.nil _) (WeakPL.cons (WeakP.nil _) WeakPL.nil))))
theorem rZ_weak : WeakPL rZ zroT.cells := by
 simp only [zroT, cells_mk, lvPs, tmPs, List.map]
 exact WeakPL.cons (WeakP.refl _) (WeakPL.cons (WeakP.refl _) (WeakPL.cons (WeakP.refl _) (WeakPL.cons (WeakP.nil _) (WeakPL.cons (WeakP.nil _) WeakPL.nil))))
theorem rT_weakA (i : Int) : Weak (.agg ((rT i).map .p)) (vr i).av := by
 simp only [vr, Tm.av, cells_mk, lvPs, tmPs, List.map]
 exact Weak.agg (WeakL.cons (Weak.refl _) (WeakL.cons (Weak.refl _) (WeakL.cons (Weak.refl _) (WeakL.cons (Weak.nil _) (WeakL.cons (Weak.nil _) WeakL.nil)))))
theorem smA1 : PSmall clsA [] := ⟨by decide, by decide, by decide⟩
theorem smA2 (v : List Pt) (h : Pt.sizes v ≤ 1048576) : PSmall clsA v := ⟨by decide, by decide, h⟩
theorem smL (v : List Pt) (h : Pt.sizes v ≤ 1048576) : PSmall lessA v := ⟨by decide, by decide, h⟩
theorem m1_any (g : Heap) (hw : WF g) : ACalls Tryz.prog 22 [.p (.sl 23 (natE.map Dc.cells)), .p (.sl 6 [rc zRaw vRaw, rc sRaw zRaw, rc sRaw sRaw]), .p (.sl 5 (tmPs [sucT (vr 3), sucT (vr 5)]))] g fun o h' => o = .ret (mtA (2, [vr 3, vr 5], 0)) ∧ h' = g := by
 rw [← aw_m1]
 refine ACalls.weak (WeakL.cons (Weak.refl _) (WeakL.cons (WeakP.sl RC_weak).av (WeakL.cons (Weak.refl _) WeakL.nil))) (pmatch_any natE natE_fine natE_good awR awG awW clsA _ smA1 ?_ (by simp) g hw)
 intro a ha
 simp at ha
 rcases ha with rfl | rfl
 ·exact .inl rfl
 ·exact .inr (.inl rfl)
theorem m2_any (g : Heap) (hw : WF g) : ACalls Tryz.prog 22 [.p (.sl 23 (natE.map Dc.cells)), .p (.sl 6 [rc zRaw vRaw, rc sRaw zRaw, rc sRaw sRaw]), .p (.sl 5 [rT 3, rZ])] g fun o h' => o = .ret (mtA (0, [], 19)) ∧ h' = g := by
 rw [← aw_m2]
 have h1 : WeakPs [rT 3, rZ] (tmPs [vr 3, zroT]) := WeakPs.cons (rT_weak 3) (WeakPs.cons rZ_weak WeakPs.nil)
 refine ACalls.weak (WeakL.cons (Weak.refl _) (WeakL.cons (WeakP.sl RC_weak).av (WeakL.cons (WeakP.sl h1).av WeakL.nil))) (pmatch_any natE natE_fine natE_good awR awG awW clsA _ smA1 ?_ (by simp) g hw)
 intro a ha
 simp at ha
 rcases ha with rfl | rfl
 ·exact .inr (.inr (.inl rfl))
 ·exact .inr (.inr (.inr (.inr rfl)))
theorem v1_any (g : Heap) (hw : WF g) : ACalls Tryz.prog 26 [.p (.sl 23 (natE.map Dc.cells)), .p (.sl 6 [rc zRaw vRaw, rc sRaw zRaw, rc sRaw sRaw]), .p (.sl 3 [vRaw, vRaw])] g fun o h' => o = .ret (bA true) ∧ h' = g := by
 rw [← aw_c1]
 exact ACalls.weak (WeakL.cons (Weak.refl _) (WeakL.cons (WeakP.sl RC_weak).av (WeakL.cons (WeakP.sl (es' := ptPs [vPt, vPt]) (WeakPs.cons v_weak (WeakPs.cons v_weak WeakPs.nil))).av WeakL.nil))) (covers_any natE natE_fine natE_good clsA [vPt, vPt] (smA2 _ (by decide)) g hw)
theorem v2_any (g : Heap) (hw : WF g) : ACalls Tryz.prog 26 [.p (.sl 23 (natE.map Dc.cells)), .p (.sl 6 [rc zRaw vRaw, rc sRaw sRaw]), .p (.sl 3 [vRaw, vRaw])] g fun o h' => o = .ret (bA false) ∧ h' = g := by
 rw [← aw_c2]
 exact ACalls.weak (WeakL.cons (Weak.refl _) (WeakL.cons (WeakP.sl RL_weak).av (WeakL.cons (WeakP.sl (es' := ptPs [vPt, vPt]) (WeakPs.cons v_weak (WeakPs.cons v_weak WeakPs.nil))).av WeakL.nil))) (covers_any natE natE_fine natE_good lessA [vPt, vPt] (smL _ (by decide)) g hw)
theorem v3_any (g : Heap) (hw : WF g) : ACalls Tryz.prog 26 [.p (.sl 23 (natE.map Dc.cells)), .p (.sl 6 [rc zRaw vRaw, rc sRaw sRaw]), .p (.sl 3 [zRaw, vRaw])] g fun o h' => o = .ret (bA true) ∧ h' = g := by
 rw [← aw_c3]
 exact ACalls.weak (WeakL.cons (Weak.refl _) (WeakL.cons (WeakP.sl RL_weak).av (WeakL.cons (WeakP.sl (es' := ptPs [zPn, vPt]) (WeakPs.cons zw (WeakPs.cons v_weak WeakPs.nil))).av WeakL.nil))) (covers_any natE natE_fine natE_good lessA [zPn, vPt] (smL _ (by decide)) g hw)
theorem v4_any (g : Heap) (hw : WF g) : ACalls Tryz.prog 26 [.p (.sl 23 (natE.map Dc.cells)), .p (.sl 6 [rc zRaw vRaw, rc sRaw sRaw]), .p (.sl 3 [sRaw, vRaw])] g fun o h' => o = .ret (bA false) ∧ h' = g := by
 rw [← aw_c4]
 exact ACalls.weak (WeakL.cons (Weak.refl _) (WeakL.cons (WeakP.sl RL_weak).av (WeakL.cons (WeakP.sl (es' := ptPs [sPn, vPt]) (WeakPs.cons sw (WeakPs.cons v_weak WeakPs.nil))).av WeakL.nil))) (covers_any natE natE_fine natE_good lessA [sPn, vPt] (smL _ (by decide)) g hw)
theorem s69_any (i : Int) (g : Heap) (hw : WF g) : ACalls Tryz.prog 69 [.agg ((rT i).map .p)] g fun o h' => o = .ret (sucT (vr i)).av ∧ h' = g :=
 ACalls.weak (WeakL.cons (rT_weakA i) WeakL.nil) (awake1_any g hw (vr i))
theorem q25_any (g : Heap) (hw : WF g) : ACalls Tryz.prog 25 [.p (.sl 5 (tmPs [vr 3, vr 5])), .p (.sl 5 [rT 3, rT 5])] g fun o h' => o = .ret (bA true) ∧ h' = g := by
 rw [← aw_sm]
 exact ACalls.weak (WeakL.cons (Weak.refl _) (WeakL.cons (WeakP.sl (es' := tmPs [vr 3, vr 5]) (WeakPs.cons (rT_weak 3) (WeakPs.cons (rT_weak 5) WeakPs.nil))).av WeakL.nil)) (sameTerms_any [vr 3, vr 5] [vr 3, vr 5] (by decide) (by simp [Tm.lvss, vr, Tm.lvs]) (by simp) g hw)
theorem c68_any (g : Heap) (hw : WF g) : ACalls Tryz.prog 68 [.p (sP succB), .p (.sl 3 [sRaw])] g fun o h' => o = .ret (Pt.mk 1 succB [sPn]).av ∧ h' = g := by
 have := ctor68_any g hw succB [sPn]
 simp only [ptPs, ← s_eq] at this
 exact this
theorem t39_any (g : Heap) (hw : WF g) : ACalls Tryz.prog 39 [(Pt.mk 1 succB [sPn]).av] g fun o h' => o = .ret (.p (sP [40, 115, 117, 99, 99, 32, 40, 115, 117, 99, 99, 32, 95, 41, 41])) ∧ h' = g := by
 rw [← aw_tx]
 exact ptext_any _ _ (Nat.le_refl _) (by decide) (by rw [aw_tx]; simp) g hw

end Go.Proofs.YtcfcolkbeelegaaGreat
