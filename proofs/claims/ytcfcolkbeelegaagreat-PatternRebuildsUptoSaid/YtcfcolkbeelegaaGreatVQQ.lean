import Derived.Test.YtcfcolkbeelegaaGreatVX23
import Derived.Test.YtcfcolkbeelegaaGreatVQO
import Derived.Test.YtcfcolkbeelegaaGreatVPB
import Derived.Test.YtcfcolkbeelegaaGreatVPX
set_option maxRecDepth 8000
set_option maxHeartbeats 16000000

namespace Go.Proofs.YtcfcolkbeelegaaGreat

open Go Go.AI
theorem refConstruct_any (h : Heap) (hh : WF h) (env : List Dc) (t : Tm) (hg : Env.good env) (hf : EnvFine env) (ht : t.size ≤ 1048576) : ACalls Tryz.prog 85 [envA env, t.av] h fun o h' => o = .ret (.tup [(optCo (conZ env t)).d.av, iA (optCo (conZ env t)).i, .p (.sl 5 (tmPs (optCo (conZ env t)).as_)), bA (conZ env t).isSome]) ∧ h' = h := by
 have hsl := resSpine_len t
 have hts := ht
 have c1 := fun (g : Heap) (hw : WF g) => spine44' g hw t ht
 obtain ⟨r, hr⟩ : ∃ r, r = conZ env t := ⟨_, rfl⟩
 rw [← hr]
 unfold conZ at hr
 generalize resSpine t = q at hsl c1 hr
 obtain ⟨hd, xs⟩ := q
 simp only at hsl c1 hr
 have c2 := fun (g : Heap) (hw : WF g) => refFamily_any g hw env hd.name hg hf.1
 have hfc := famZ_cases hf hd.name
 generalize famZ env hd.name = fz at c2 hfc hr
 obtain ⟨sk, hsk⟩ : ∃ x, x = hd.kind := ⟨_, rfl⟩
 rw [← hsk] at hr
 obtain ⟨k, i, n, ls, ks⟩ := t
 obtain ⟨k2, i2, n2, l2, s2⟩ := hd
 change sk = k2 at hsk
 subst hsk
 simp only [Tm.av, cells_mk, List.map, Tm.name] at c1 c2 hfc ⊢
 refine ACalls.of_run Tryz.func85 rfl ?_
 simp only [Tryz.ntmps85, List.length_cons, List.length_nil]
 refine nv ?_
 refine Run.reg fun K J => ?_
 simp
 refine J _ _ _ (nv ?_); clear J
 refine Run.reg fun K J => ?_
 simp
 refine J _ _ _ ?_; clear J
 refine rl rfl (by first | rfl | simp) (by simp) rfl (c1 _ (hh.app (by simp))) ?_
 refine Run.ops fun K J => ?_
 simp
 refine J _ _ _ (nv ?_); clear J
 by_cases e0 : sk = 3
 rotate_left
 ·rw [if_pos e0] at hr
  have e0' : (sk != 3) = true := by simpa using e0
  refine Run.reg fun K J => ?_
  simp [e0']
  refine J _ _ _ (nv ?_); clear J
  refine ct (by simp) (nv ?_)
  refine Run.reg fun K J => ?_
  simp
  refine J _ _ _ (nv ?_); clear J
  refine Run.ret ?_
  exact Fin.ret' (h0 := h) (xs := [.agg zDcC, iA 0, .p (.prim (.slice none 0 0)), bA false]) (by simp) rfl hh rfl (by simp) rfl (y := .tup [zDc.av, iA 0, .p (.sl 5 []), bA false]) (Weak.tup (WeakL.cons dc_weak0 (WeakL.cons (Weak.refl _) (WeakL.cons (Weak.nil 5) (WeakL.refl _))))) (by simp [zDc, Dc.av, Dc.cells, zT]) ⟨by rw [hr]; rfl, rfl⟩
 subst e0
 rw [if_neg (by simp)] at hr
 refine Run.reg fun K J => ?_
 simp
 refine J _ _ _ (nv ?_); clear J
 refine cf (by simp) (nv ?_)
 refine Run.reg fun K J => ?_
 simp
 refine J _ _ _ ?_; clear J
 rcases hfc with rfl | ⟨d, a, rfl, hm, hk3, hok, hpl⟩
 ·rw [if_neg (by simp)] at hr
  simp only [zDc, Dc.av, Dc.cells, zT, cells_mk, List.map, List.cons_append, List.nil_append] at c2
  refine rl rfl (by first | rfl | simp) (by simp) rfl (c2 _ (hh.app (by simp))) ?_
  refine Run.ops fun K J => ?_
  simp
  refine J _ _ _ (nv ?_); clear J
  refine Run.draw [0, 0, 0, 0, 0, 0, 0, 0, 0, 0, 0, 0, 0, 0, 1, 1, 1] [0, 0, 0, 0, 0, 0, 0, 0, 0, 0, 0, 0, 0, 0, 0, 0, 0] [0, 1, 3, 7, 15, 31, 63, 127, 255, 127, 639, 127, 127, 6271, 15999, 32767, 65535] [0, 1, 2, 3, 4, 5, 6, 11, 12, 13, 7, 8, 9, 10, 14, 15, 16] (by kernel_rfl) (by kernel_rfl) ?_
  refine DR.go fun K J => ?_
  simp
  refine J _ _ _ _ ?_; clear J
  change Run _ _ _ _ _ _ _ _
  refine ct (by simp) (nv ?_)
  refine Run.reg fun K J => ?_
  simp
  refine J _ _ _ (nv ?_); clear J
  refine Run.ret ?_
  exact Fin.ret' (h0 := h) (xs := [.agg zDcC, iA 0, .p (.prim (.slice none 0 0)), bA false]) (by simp) rfl hh rfl (by simp) rfl (y := .tup [zDc.av, iA 0, .p (.sl 5 []), bA false]) (Weak.tup (WeakL.cons dc_weak0 (WeakL.cons (Weak.refl _) (WeakL.cons (Weak.nil 5) (WeakL.refl _))))) (by simp [zDc, Dc.av, Dc.cells, zT]) ⟨by rw [hr]; rfl, rfl⟩
 have hgd := hg.2 d hm
 have hcsg := hgd.cs
 have hfx0 := hok.fx0
 have hfix := hok.fix hk3
 clear hok hk3 hm
 simp only at hr
 rcases hpl with e1 | ⟨j, rfl, hjl⟩
 ·rw [if_neg (by omega)] at hr
  obtain ⟨kk, nm, pr, ⟨k1, i1, n1, l1, s1⟩, ⟨k2, i2, n2, l2, s2⟩, fx, cs, rp, ⟨k3, i3, n3, l3, s3⟩, rr, fs⟩ := d
  simp only [Dc.av, Dc.cells, cells_mk, List.map, List.cons_append, List.nil_append] at c2
  refine rl rfl (by first | rfl | simp) (by simp) rfl (c2 _ (hh.app (by simp))) ?_
  refine Run.ops fun K J => ?_
  simp
  refine J _ _ _ (nv ?_); clear J
  refine Run.draw [0, 0, 0, 0, 0, 0, 0, 0, 0, 0, 0, 0, 0, 0, 1, 1, 1] [0, 0, 0, 0, 0, 0, 0, 0, 0, 0, 0, 0, 0, 0, 0, 0, 0] [0, 1, 3, 7, 15, 31, 63, 127, 255, 127, 639, 127, 127, 6271, 15999, 32767, 65535] [0, 1, 2, 3, 4, 5, 6, 11, 12, 13, 7, 8, 9, 10, 14, 15, 16] (by kernel_rfl) (by kernel_rfl) ?_
  refine DR.go fun K J => ?_
  simp [e1]
  refine J _ _ _ _ ?_; clear J
  change Run _ _ _ _ _ _ _ _
  refine ct (by simp) (nv ?_)
  refine Run.reg fun K J => ?_
  simp
  refine J _ _ _ (nv ?_); clear J
  refine Run.ret ?_
  exact Fin.ret' (h0 := h) (xs := [.agg zDcC, iA 0, .p (.prim (.slice none 0 0)), bA false]) (by simp) rfl hh rfl (by simp) rfl (y := .tup [zDc.av, iA 0, .p (.sl 5 []), bA false]) (Weak.tup (WeakL.cons dc_weak0 (WeakL.cons (Weak.refl _) (WeakL.cons (Weak.nil 5) (WeakL.refl _))))) (by simp [zDc, Dc.av, Dc.cells, zT]) ⟨by rw [hr]; rfl, rfl⟩
 rw [if_pos (by simp)] at hr
 have hgj : d.cs[j]? = some d.cs[j] := List.getElem?_eq_getElem hjl
 rw [Int.toNat_natCast, hgj] at hr
 simp only at hr
 have hcg := hcsg _ (List.getElem_mem hjl)
 have c3 := fun (g : Heap) (hw : WF g) => fields_any g hw d hgd j hjl
 have hFj : fldZ d j = fldC d.fx d.cs[j].ty := by rw [fldZ, hgj]
 unfold fldC at hFj
 have hla := lead_all d.cs[j].ty
 have hfl : d.fx ≤ leadN d.cs[j].ty := by
  unfold fixB at hfix
  simp only [Bool.and_eq_true, List.all_eq_true, decide_eq_true_eq] at hfix
  exact hfix.2 _ (List.getElem_mem hjl)
 rw [← hla] at hfl
 have hbl2 : (resAll d.cs[j].ty).1.length ≤ d.cs[j].ty.size := (all_ok d.cs[j].ty hcg.2.2 hcg.1).2.2.2
 have hcz := hcg.1
 generalize fldZ d j = F at c3 hFj
 clear hla hfix hcsg hcg hgd
 generalize d.cs[j] = c at hgj hr hFj hfl hbl2 hcz
 generalize resAll c.ty = q at hr hFj hfl hbl2
 obtain ⟨bs, ⟨u1, u2, u3, u4, u5⟩⟩ := q
 obtain ⟨cn, ⟨v1, v2, v3, v4, v5⟩⟩ := c
 obtain ⟨kk, nm, pr, ⟨k1, i1, n1, l1, s1⟩, ⟨k2, i2, n2, l2, s2⟩, fx, cs, rp, ⟨k3, i3, n3, l3, s3⟩, rr, fs⟩ := d
 simp only at hr hfx0 hfl hjl hgj hFj hbl2 hcz
 obtain ⟨N, rfl⟩ : ∃ N : Nat, fx = N := ⟨fx.toNat, by omega⟩
 simp only [Dc.av, Dc.cells, cells_mk, List.map, List.cons_append, List.nil_append] at c2 c3
 have hj3 : ¬ (j : Int) < 0 := by omega
 have hwr : IntKind.i64.wrap ((bs.length : Int) - N) = bs.length - N := wrap_id (by omega) (by omega)
 rw [hwr] at hFj
 have hF : F = (bs.length : Int) - N := by rw [hFj]; split <;> omega
 have hw2 : IntKind.i64.wrap ((N : Int) + F) = bs.length := by rw [wrap_id (by omega) (by omega)]; omega
 clear hFj
 refine rl rfl (by first | rfl | simp) (by simp) rfl (c2 _ (hh.app (by simp))) ?_
 refine Run.ops fun K J => ?_
 simp
 refine J _ _ _ (nv ?_); clear J
 by_cases e2 : xs.length = bs.length
 ·rw [if_pos e2] at hr
  have e2' : ((xs.length : Int) != bs.length) = false := by simp [e2]
  have e4 : ¬ (xs.length : Int) < N := by omega
  have e5 : (N : Int) ≤ xs.length := by omega
  have e6 : N ≤ xs.length := by omega
  refine Run.draw [0, 0, 0, 0, 0, 0, 0, 0, 0, 0, 0, 0, 0, 0, 1, 1, 1] [0, 0, 0, 0, 0, 0, 0, 0, 0, 0, 0, 0, 0, 0, 0, 0, 0] [0, 1, 3, 7, 15, 31, 63, 127, 255, 127, 639, 127, 127, 6271, 15999, 32767, 65535] [0, 1, 2, 3, 4, 5, 6, 11, 12, 13, 7, 8, 9, 10, 14, 15, 16] (by kernel_rfl) (by kernel_rfl) ?_
  refine DR.go fun K J => ?_
  simp [hj3]
  refine J _ _ _ _ ?_; clear J
  refine DR.call rfl rfl rfl (by simp) rfl (c3 _ (hh.app (by simp))) ?_
  refine DR.go fun K J => ?_
  simp [hw2, e2']
  refine J _ _ _ _ ?_; clear J
  change Run _ _ _ _ _ _ _ _
  refine cf (by simp) (nv ?_)
  refine Run.draw [0, 0, 0, 0, 0, 0, 0, 1, 1, 1] [0, 0, 0, 0, 0, 0, 0, 0, 0, 0] [0, 0, 0, 0, 8, 28, 1, 67, 255, 511] [0, 6, 1, 2, 3, 4, 5, 7, 8, 9] (by kernel_rfl) (by kernel_rfl) ?_
  refine DR.go fun K J => ?_
  simp [e5]
  refine J _ _ _ _ ?_; clear J
  change Run _ _ _ _ _ _ _ _
  refine Run.ret ?_
  exact Fin.ret' (h0 := h) (by simp) rfl hh rfl (by simp; rfl) rfl (Weak.refl _) (by simp) ⟨by rw [hr]; simp [optCo, Dc.av, Dc.cells], rfl⟩
 ·rw [if_neg e2] at hr
  have e2' : ((xs.length : Int) != bs.length) = true := by simp; omega
  refine Run.draw [0, 0, 0, 0, 0, 0, 0, 0, 0, 0, 0, 0, 0, 0, 1, 1, 1] [0, 0, 0, 0, 0, 0, 0, 0, 0, 0, 0, 0, 0, 0, 0, 0, 0] [0, 1, 3, 7, 15, 31, 63, 127, 255, 127, 639, 127, 127, 6271, 15999, 32767, 65535] [0, 1, 2, 3, 4, 5, 6, 11, 12, 13, 7, 8, 9, 10, 14, 15, 16] (by kernel_rfl) (by kernel_rfl) ?_
  refine DR.go fun K J => ?_
  simp [hj3]
  refine J _ _ _ _ ?_; clear J
  refine DR.call rfl rfl rfl (by simp) rfl (c3 _ (hh.app (by simp))) ?_
  refine DR.go fun K J => ?_
  simp [hw2, e2']
  refine J _ _ _ _ ?_; clear J
  change Run _ _ _ _ _ _ _ _
  refine ct (by simp) (nv ?_)
  refine Run.reg fun K J => ?_
  simp
  refine J _ _ _ (nv ?_); clear J
  refine Run.ret ?_
  exact Fin.ret' (h0 := h) (xs := [.agg zDcC, iA 0, .p (.prim (.slice none 0 0)), bA false]) (by simp) rfl hh rfl (by simp) rfl (y := .tup [zDc.av, iA 0, .p (.sl 5 []), bA false]) (Weak.tup (WeakL.cons dc_weak0 (WeakL.cons (Weak.refl _) (WeakL.cons (Weak.nil 5) (WeakL.refl _))))) (by simp [zDc, Dc.av, Dc.cells, zT]) ⟨by rw [hr]; rfl, rfl⟩


open Go Go.AI
theorem right29_any (env : List Dc) (hg : Env.good env) (hn : Env.short env) (l : List Pt) (hB : Pt.sizes l ≤ 1048576) (h : Heap) (hh : WF h) : ACalls Tryz.prog 29 [envA env, .p (.sl 3 (ptPs l))] h fun o h' => o = .ret (bA (decide (chkPs env l = 0))) ∧ h' = h := by
 have c1 := fun (g : Heap) (hw : WF g) => rcheckL_any env hg hn l hB g hw
 obtain ⟨r, hr⟩ : ∃ r, chkPs env l = r := ⟨_, rfl⟩
 rw [hr] at c1 ⊢
 refine ACalls.of_run Tryz.func29 rfl ?_
 simp only [Tryz.ntmps29, List.length_cons, List.length_nil]
 refine nv ?_
 refine Run.reg fun K J => ?_
 simp
 refine J _ _ _ (nv ?_); clear J
 refine Run.reg fun K J => ?_
 simp
 refine J _ _ _ ?_; clear J
 refine Run.call rfl (by first | rfl | simp) (by simp) rfl (c1 _ hh) ?_ ?_
 rotate_left
 ·rintro v h' ⟨hv, _⟩; cases hv
 rintro v h' ⟨hv, rfl⟩
 simp only [AOut.ret.injEq] at hv
 subst hv
 refine Run.ops fun K J => ?_
 simp
 refine J _ _ _ (nv ?_); clear J
 refine Run.ret ?_
 exact Fin.ret' (by simp) rfl hh (List.append_nil _).symm (by simp; rfl) rfl (Weak.refl _) (by simp) ⟨by congr 3, rfl⟩
theorem ctor68_nil (h : Heap) (hh : WF h) (n : List UInt8) : ACalls Tryz.prog 68 [.p (sP n), .p (.prim (.slice none 0 0))] h fun o h' => o = .ret (.agg [iA 1, .p (sP n), .p (.prim (.slice none 0 0))]) ∧ h' = h := by
 refine ACalls.of_run Tryz.func68 rfl ?_
 simp only [Tryz.ntmps68, List.length_cons, List.length_nil]
 refine nv ?_
 refine Run.reg fun K J => ?_
 simp
 refine J _ _ _ (nv ?_); clear J
 refine Run.reg fun K J => ?_
 simp
 refine J _ _ _ (nv ?_); clear J
 refine Run.ret ?_
 exact Fin.ret' (h0 := h) (by simp) rfl hh rfl (by simp; rfl) rfl (Weak.refl _) (by simp) ⟨rfl, rfl⟩
theorem same86_any (h : Heap) (hh : WF h) (p : Pt) (ih : ∀ g, WF g → ACalls Tryz.prog 34 [.p (.sl 3 (ptPs p.args)), .p (.sl 3 (ptPs p.args))] g fun o h' => o = .ret (bA true) ∧ h' = g) :
  ACalls Tryz.prog 86 [p.av, p.av] h fun o h' => o = .ret (bA true) ∧ h' = h := by
 obtain ⟨k, n, qs⟩ := p
 simp only [Pt.args] at ih
 simp only [Pt.av, pcells_mk, List.map]
 refine ACalls.of_run Tryz.func86 rfl ?_
 simp only [Tryz.ntmps86, List.length_cons, List.length_nil]
 refine nv ?_
 refine Run.reg fun K J => ?_
 simp
 refine J _ _ _ (nv ?_); clear J
 refine Run.reg fun K J => ?_
 simp
 refine J _ _ _ ?_; clear J
 refine rl rfl (by first | rfl | simp) (by simp) rfl (ih _ (hh.app (by simp))) ?_
 refine Run.ops fun K J => ?_
 simp
 refine J _ _ _ (nv ?_); clear J
 refine Run.ret ?_
 exact Fin.ret' (h0 := h) (by simp) rfl hh rfl (by simp; rfl) rfl (Weak.refl _) (by simp) ⟨rfl, rfl⟩
theorem same34_any (N : Nat) : ∀ (l : List Pt), Pt.sizes l ≤ N → Pt.sizes l ≤ 1048576 → ∀ h, WF h → ACalls Tryz.prog 34 [.p (.sl 3 (ptPs l)), .p (.sl 3 (ptPs l))] h fun o h' => o = .ret (bA true) ∧ h' = h := by
 have key : ∀ (l : List Pt), Pt.sizes l ≤ 1048576 → (∀ p ∈ l, ∀ g, WF g → ACalls Tryz.prog 34 [.p (.sl 3 (ptPs p.args)), .p (.sl 3 (ptPs p.args))] g fun o h' => o = .ret (bA true) ∧ h' = g) →
   ∀ h, WF h → ACalls Tryz.prog 34 [.p (.sl 3 (ptPs l)), .p (.sl 3 (ptPs l))] h fun o h' => o = .ret (bA true) ∧ h' = h := by
  intro l hB ih h hh
  have hll := psz_len l
  refine ACalls.of_run Tryz.func34 rfl ?_
  simp only [Tryz.ntmps34, List.length_cons, List.length_nil]
  refine nv ?_
  refine Run.reg fun K J => ?_
  simp
  refine J _ _ _ (nv ?_); clear J
  refine Run.reg fun K J => ?_
  simp
  refine J _ _ _ (nv ?_); clear J
  refine cf (by simp) (nv ?_)
  refine Run.reg fun K J => ?_
  simp
  refine J _ _ _ (nv ?_); clear J
  refine Run.loopS [0, 1] (fun j : Nat => j ≤ l.length) (fun j => l.length - j) (fun j => [(5, iA j)]) (fun _ => h) 0 (by simp) ?_ rfl ?_
  ·simp
   repeat' first | exact wn | apply wc | exact wj _ | exact wr _ | exact wz _ | exact wo _ _ _ | exact wi (by omega)
  intro j hj IH
  simp
  refine nv ?_
  refine Run.reg fun K J => ?_
  simp
  refine J _ _ _ (nv ?_); clear J
  by_cases hjl : j < l.length
  ·have hgp : l[j]? = some l[j] := List.getElem?_eq_getElem hjl
   have hmem := List.getElem_mem hjl
   generalize l[j] = p at hgp hmem
   have c1 := fun (g : Heap) (hw : WF g) => same86_any g hw p (ih p hmem)
   obtain ⟨k, n, qs⟩ := p
   simp only [Pt.av, pcells_mk, List.map] at c1
   refine ct (by simp [hjl]) (nv ?_)
   refine Run.draw [0, 0, 0, 0, 0, 0, 0, 0, 0, 1] [0, 0, 0, 0, 0, 0, 0, 0, 0, 0] [0, 0, 3, 7, 0, 0, 48, 112, 255, 511] [0, 1, 2, 3, 4, 5, 6, 7, 8, 9] (by kernel_rfl) (by kernel_rfl) ?_
   refine DR.go fun K J => ?_
   simp [hgp, pcells_mk]
   refine J _ _ _ _ ?_; clear J
   refine DR.call rfl rfl rfl (by simp) rfl (c1 _ hh) ?_
   refine DR.go fun K J => ?_
   simp
   refine J _ _ _ _ ?_; clear J
   change Run _ _ _ _ _ _ _ _
   refine cf (by simp) (nv ?_)
   refine Run.reg fun K J => ?_
   simp
   try (simp (disch := omega) only [wrap_id])
   refine J _ _ _ (nv ?_); clear J
   refine IH (j + 1) _ _ (by omega) (by omega) ?_ rfl
   simp
   repeat' first | exact wn | apply wc | exact wj _ | exact wr _ | exact wz _ | exact wo _ _ _ | exact wi (by omega)
  ·skip
   refine cf (by simp [hjl]) ?_
   refine Run.exit rfl ?_
   refine nv ?_
   refine Run.reg fun K J => ?_
   simp
   refine J _ _ _ (nv ?_); clear J
   refine Run.ret ?_
   exact Fin.ret' (h0 := h) (by simp) rfl hh (List.append_nil _).symm (by simp; rfl) rfl (Weak.refl _) (by simp) ⟨rfl, rfl⟩
 induction N with
 | zero =>
  intro l hN hB
  refine key l hB fun p hp => ?_
  have := Pt.size_at hp
  have := p.size_pos
  omega
 | succ N ih =>
  intro l hN hB
  refine key l hB fun p hp => ?_
  have h1 := Pt.size_at hp
  obtain ⟨k, nm, qs⟩ := p
  simp only [Pt.size] at h1
  exact ih qs (by omega) (by omega)
theorem conZ_bt {env : List Dc} (hf : EnvFine env) {i : Nat} {d : Dc} (hi : env[i]? = some d) (hk : d.k = 3) {j : Nat} {c : Ct} (hc : d.cs[j]? = some c) {us : List Tm} (hu : (us.length : Int) = fldZ d j) (hsz : c.ty.size ≤ 1048576) (hfx1 : d.fx ≤ 1048576) :
  conZ env (bT d.fx c.nm us) = some ⟨d, j, us⟩ := by
 have hok := dcOk_of hf.2 hi
 have hfx := hok.fx0
 have hb := hok.fix hk
 simp only [fixB, Bool.and_eq_true, decide_eq_true_eq, List.all_eq_true] at hb
 have hl := hb.2 c (List.mem_of_getElem? hc)
 rw [← lead_all] at hl
 have hlen : (resAll c.ty).1.length ≤ 1048576 := by
  have := leadN_le c.ty.size c.ty (Nat.le_refl _)
  rw [← lead_all] at this
  omega
 simp only [fldZ, hc, fldC] at hu
 rw [wrap_id (by omega) (by omega)] at hu
 unfold conZ
 rw [bT_spine]
 simp only [Tm.kind, Tm.name, ctor_found hf hi hk hc]
 rw [if_neg (by simp), if_pos (by simp)]
 simp only [Int.toNat_natCast, hc]
 rw [if_pos (by simp; split at hu <;> omega)]
 rw [List.drop_append_of_le_length (by simp), List.drop_of_length_le (by simp), List.nil_append]

end Go.Proofs.YtcfcolkbeelegaaGreat
