import Derived.Test.YtcfcolkbeelegaaGreatOPW
import Derived.Test.YtcfcolkbeelegaaGreatOE1
import Derived.Test.YtcfcolkbeelegaaGreatOH9
set_option maxRecDepth 16000
set_option maxHeartbeats 16000000

namespace Go.Proofs.YtcfcolkbeelegaaGreat

open Go Go.AI
def sameQ (a b : List Tm) : Bool := decide (a.length = b.length) && sameTs a b
theorem sameTerms_any (a b : List Tm) (hsz : Tm.sizes a ≤ 1048576) (hlv : Tm.lvss a) (hb : b.length ≤ 1048576) (h : Heap) (hh : WF h) : ACalls Tryz.prog 25 [.p (.sl 5 (tmPs a)), .p (.sl 5 (tmPs b))] h fun o h' => o = .ret (bA (sameQ a b)) ∧ h' = h := by
 have hll := length_le_sizes a
 obtain ⟨r, hr⟩ : ∃ r, sameQ a b = r := ⟨_, rfl⟩
 rw [hr]
 unfold sameQ at hr
 rw [sameTs_at] at hr
 refine ACalls.of_run Tryz.func25 rfl ?_
 simp only [Tryz.ntmps25, List.length_cons, List.length_nil]
 refine nv ?_
 refine Run.reg fun K hK => ?_
 simp
 refine hK _ _ _ (nv ?_); clear hK
 by_cases hl : a.length = b.length
 rotate_left
 ·have hlb : ((a.length : Int) != (b.length : Int)) = true := by simp; omega
  rw [decide_eq_false hl] at hr
  simp at hr
  subst hr
  refine Run.reg fun K hK => ?_
  simp [hlb]
  refine hK _ _ _ (nv ?_); clear hK
  refine ct (by simp) (nv ?_)
  refine Run.reg fun K hK => ?_
  simp
  refine hK _ _ _ (nv ?_); clear hK
  refine Run.ret ?_
  exact Fin.ret' (by simp) rfl hh (List.append_nil _).symm rfl rfl (Weak.refl _) rfl ⟨rfl, rfl⟩
 rw [decide_eq_true hl, Bool.true_and] at hr
 refine Run.reg fun K hK => ?_
 simp [hl]
 refine hK _ _ _ (nv ?_); clear hK
 refine cf (by simp) (nv ?_)
 refine Run.reg fun K hK => ?_
 simp
 refine hK _ _ _ (nv ?_); clear hK
 refine Run.loopS [0, 1] (fun j : Nat => j ≤ a.length ∧ allTo (tmsAt a b) j = true) (fun j => a.length - j) (fun j => [(5, iA j)]) (fun _ => h) 0 (by simp [allTo]) ?_ rfl ?_
 ·simp
  repeat' first | exact wn | apply wc | exact wj _ | exact wr _ | exact wz _ | exact wo _ _ _ | exact wi (by omega)
 rintro j ⟨hj, hall⟩ IH
 simp
 refine nv ?_
 refine Run.reg fun K hK => ?_
 simp
 refine hK _ _ _ (nv ?_); clear hK
 by_cases hjl : j < a.length
 ·have hga : a[j]? = some a[j] := List.getElem?_eq_getElem hjl
  have hgb : b[j]? = some (b[j]'(by omega)) := List.getElem?_eq_getElem (by omega)
  have hma := List.getElem_mem hjl
  have hs := sizes_take a j _ hga
  have hs2 := sizes_take_le a (j + 1)
  have hlvj := Tm.lvss_at hlv _ hma
  generalize a[j] = x at hga hma hs hlvj
  generalize b[j] = y at hgb
  have c1 := fun (g : Heap) (hw : WF g) => same_any x.size x y g (Nat.le_refl _) (by omega) hlvj hw
  have hta : tmsAt a b j = sameT x y := by simp [tmsAt, hga, hgb]
  generalize sameT x y = s at c1 hta
  obtain ⟨k, i, n, ls, ks⟩ := x
  obtain ⟨k2, i2, n2, ls2, ks2⟩ := y
  simp only [Tm.av, cells_mk, List.map] at c1
  refine ct (by simp [hjl]) (nv ?_)
  refine PC.Run.drawP (pc := [8]) [0, 0, 0, 0, 0, 0, 0, 0, 0, 0] [0, 0, 0, 0, 0, 0, 0, 0, 0, 0] [0, 0, 3, 7, 0, 0, 48, 112, 255, 511] [0, 1, 2, 3, 4, 5, 6, 7, 8, 9] (by kernel_rfl) (by kernel_rfl) ?_
  refine PC.DR.go fun K hK => ?_
  simp [hga, hgb]
  refine hK _ _ _ _ ?_; clear hK
  refine PC.DR.pcall rfl rfl rfl (by simp) rfl rfl (fun g hg => c1 g ?_) ?_
  ·simp at hg
   subst hg
   exact hh
  refine PC.DR.go fun K hK => ?_
  simp
  refine hK _ _ _ _ ?_; clear hK
  change Run _ _ _ _ _ _ _ _
  cases s with
  | false =>
   have := allTo_false hjl hta
   rw [this] at hr
   subst hr
   refine ct (by simp) (nv ?_)
   refine Run.reg fun K hK => ?_
   simp
   refine hK _ _ _ (nv ?_); clear hK
   refine Run.ret ?_
   exact Fin.ret' (by simp) rfl hh (List.append_nil _).symm rfl rfl (Weak.refl _) rfl ⟨rfl, rfl⟩
  | true =>
   refine cf (by simp) (nv ?_)
   refine Run.reg fun K hK => ?_
   simp
   try (simp (disch := omega) only [wrap_id])
   refine hK _ _ _ (nv ?_); clear hK
   refine IH (j + 1) _ _ ⟨by omega, by rw [allTo_succ, hall, hta]; rfl⟩ (by omega) ?_ rfl
   simp
   repeat' first | exact wn | apply wc | exact wj _ | exact wr _ | exact wz _ | exact wo _ _ _ | exact wi (by omega)
 ·have hje : j = a.length := by omega
  subst hje
  rw [hall] at hr
  subst hr
  refine cf (by simp) ?_
  refine Run.exit rfl ?_
  refine nv ?_
  refine Run.reg fun K hK => ?_
  simp
  refine hK _ _ _ (nv ?_); clear hK
  refine Run.ret ?_
  exact Fin.ret' (by simp) rfl hh (List.append_nil _).symm rfl rfl (Weak.refl _) rfl ⟨rfl, rfl⟩
def sucT (t : Tm) : Tm := appT (.mk 3 0 succB [] []) t
def zroT : Tm := .mk 3 0 zeroB [] []
theorem awake1_any (h : Heap) (hh : WF h) (t : Tm) : ACalls Tryz.prog 69 [t.av] h fun o h' => o = .ret (sucT t).av ∧ h' = h := by
 obtain ⟨k, i, n, ls, ks⟩ := t
 refine ACalls.of_run Tryz.func69 rfl ?_
 simp only [Tryz.ntmps69, List.length_cons, List.length_nil, Tm.av, cells_mk, List.map]
 refine nv ?_
 refine Run.reg fun K hK => ?_
 simp
 refine hK _ _ _ (nv ?_); clear hK
 refine Run.reg fun K hK => ?_
 simp
 refine hK _ _ _ (nv ?_); clear hK
 refine Run.ret ?_
 refine Fin.ret' (h0 := h) (y := (sucT (.mk k i n ls ks)).av) (by simp) rfl hh rfl (by simp; rfl) rfl ?_ (by simp) ⟨rfl, rfl⟩
 simp only [sucT, appT, Tm.av, cells_mk, List.map, lvPs, tmPs]
 refine Weak.agg (WeakL.cons (Weak.refl _) (WeakL.cons (Weak.refl _) (WeakL.cons (Weak.refl _) (WeakL.cons (Weak.nil _) (WeakL.cons (WeakP.av (WeakP.sl ?_)) WeakL.nil)))))
 repeat (first | exact WeakP.refl _ | exact WeakP.nil _ | exact WeakPs.nil | exact WeakPL.nil | refine WeakP.sl ?_ | refine WeakPs.cons ?_ ?_ | refine WeakPL.cons ?_ ?_)
def awG (t : Tm) : Prop := t = sucT (vr 3) ∨ t = sucT (vr 5) ∨ t = vr 3 ∨ t = vr 5 ∨ t = zroT
theorem find_succ : (resFind natE succB).1.k = 4 := by kernel_rfl
theorem find_zero : (resFind natE zeroB).1.k = 4 := by kernel_rfl
theorem sp3 : resSpine (sucT (vr 3)) = (.mk 3 0 succB [] [], [vr 3]) := by kernel_rfl
theorem sp5 : resSpine (sucT (vr 5)) = (.mk 3 0 succB [] [], [vr 5]) := by kernel_rfl
theorem sp3' : resSpine (vr 3) = (vr 3, []) := by kernel_rfl
theorem sp5' : resSpine (vr 5) = (vr 5, []) := by kernel_rfl
theorem spz : resSpine zroT = (zroT, []) := by kernel_rfl
theorem awG_stuck : ∀ t, awG t → stuckT natE t := by
 intro t ht
 rcases ht with rfl | rfl | rfl | rfl | rfl
 ·exact ⟨by decide, by rw [sp3]; simp, by rw [sp3]; exact ⟨by decide, by decide, by decide, by decide, fun _ => .inr (.inr (.inr (.inr find_succ)))⟩⟩
 ·exact ⟨by decide, by rw [sp5]; simp, by rw [sp5]; exact ⟨by decide, by decide, by decide, by decide, fun _ => .inr (.inr (.inr (.inr find_succ)))⟩⟩
 ·exact ⟨by decide, by decide, by decide, by decide, by decide, by decide, fun h => absurd h (by decide)⟩
 ·exact ⟨by decide, by decide, by decide, by decide, by decide, by decide, fun h => absurd h (by decide)⟩
 ·exact ⟨by decide, by decide, by decide, by decide, by decide, by decide, fun _ => .inr (.inr (.inr (.inr find_zero)))⟩
theorem awW : WOk natE (fun t => (t, 0)) awG := by
 refine ⟨fun t ht h hh => ?_, fun t ht _ => ?_, fun t ht _ a ha => ?_⟩
 ·refine whnf173_any natE t t 20000 (fun H q hw hq => ?_) h hh
  refine (whnfStuck_any natE natE_good natE_fine.1 t (awG_stuck t ht) q 20000 H hw hq).mono ?_
  rintro o h' ⟨rfl, rfl⟩
  refine ⟨rfl, ?_⟩
  obtain ⟨hl, e⟩ := List.getElem?_eq_some_iff.1 hq
  rw [← e, List.set_getElem_self]
 ·have := (awG_stuck t ht).1
  simp only
  omega
 ·simp only at ha
  rcases ht with rfl | rfl | rfl | rfl | rfl
  ·rw [sp3] at ha; simp at ha; subst ha; exact .inr (.inr (.inl rfl))
  ·rw [sp5] at ha; simp at ha; subst ha; exact .inr (.inr (.inr (.inl rfl)))
  ·rw [sp3'] at ha; simp at ha
  ·rw [sp5'] at ha; simp at ha
  ·rw [spz] at ha; simp at ha


open Go Go.AI
def vPt : Pt := .mk 0 [] []
def zPn : Pt := .mk 1 zeroB []
def sPn : Pt := .mk 1 succB [vPt]
def clsA : List Cl := [⟨[zPn, vPt], zT⟩, ⟨[sPn, zPn], zT⟩, ⟨[sPn, sPn], zT⟩]
def lessA : List Cl := [⟨[zPn, vPt], zT⟩, ⟨[sPn, sPn], zT⟩]
def awR : Tm → Tm × Int := fun t => (t, 0)
theorem aw_m1 : matchM awR natE clsA [sucT (vr 3), sucT (vr 5)] = (2, [vr 3, vr 5], 0) := by kernel_rfl
theorem aw_m2 : matchM awR natE clsA [vr 3, zroT] = (0, [], 19) := by kernel_rfl
theorem aw_c1 : coversB natE clsA [vPt, vPt] = true := by kernel_rfl
theorem aw_c2 : coversB natE lessA [vPt, vPt] = false := by kernel_rfl
theorem aw_c3 : coversB natE lessA [zPn, vPt] = true := by kernel_rfl
theorem aw_c4 : coversB natE lessA [sPn, vPt] = false := by kernel_rfl
theorem aw_tx : textP (.mk 1 succB [sPn]) = [40, 115, 117, 99, 99, 32, 40, 115, 117, 99, 99, 32, 95, 41, 41] := by kernel_rfl
theorem aw_sm : sameQ [vr 3, vr 5] [vr 3, vr 5] = true := by kernel_rfl

abbrev vRaw : List PV := [iP 0, sP [], .prim (.slice none 0 0)]
theorem k1_any (g : Heap) (hw : WF g) : ACalls Tryz.prog 68 [.p (sP zeroB), .p (.prim (.slice none 0 0))] g fun o h' => o = .ret zPn.av ∧ h' = g :=
 ACalls.weak (args' := [.p (sP zeroB), .p (.sl 3 (ptPs []))]) (WeakL.cons (Weak.refl _) (WeakL.cons (Weak.nil _) WeakL.nil)) (ctor68_any g hw zeroB [])
theorem vRaw_weak : WeakPs [vRaw] (ptPs [vPt]) := by
 simp only [vPt, ptPs, pcells_mk]
 exact WeakPs.cons (WeakPL.cons (WeakP.refl _) (WeakPL.cons (WeakP.refl _) (WeakPL.cons (WeakP.nil _) WeakPL.nil))) WeakPs.nil
theorem k2_any (g : Heap) (hw : WF g) : ACalls Tryz.prog 68 [.p (sP succB), .p (.sl 3 [vRaw])] g fun o h' => o = .ret sPn.av ∧ h' = g :=
 ACalls.weak (args' := [.p (sP succB), .p (.sl 3 (ptPs [vPt]))]) (WeakL.cons (Weak.refl _) (WeakL.cons (WeakP.sl vRaw_weak).av WeakL.nil)) (ctor68_any g hw succB [vPt])


open Go Go.AI
abbrev zRaw : List PV := [iP 1, sP zeroB, .sl 3 []]
abbrev sRaw : List PV := [iP 1, sP succB, .sl 3 [[iP 0, sP [], .sl 3 []]]]
abbrev rc (a b : List PV) : List PV := [.sl 3 [a, b], iP 0, iP 0, sP [], .prim (.slice none 0 0), .prim (.slice none 0 0)]
abbrev rT (i : Int) : List PV := [iP 0, iP i, sP [], .prim (.slice none 0 0), .prim (.slice none 0 0)]
abbrev rZ : List PV := [iP 3, iP 0, sP zeroB, .prim (.slice none 0 0), .prim (.slice none 0 0)]
theorem v_weak : WeakPL vRaw vPt.cells := by simp only [vPt, pcells_mk, ptPs]; exact WeakPL.cons (WeakP.refl _) (WeakPL.cons (WeakP.refl _) (WeakPL.cons (WeakP.nil _) WeakPL.nil))
theorem pl_refl : ∀ l : List PV, WeakPL l l
 | [] => WeakPL.nil
 | x :: l => WeakPL.cons (WeakP.refl x) (pl_refl l)
theorem z_eq : zRaw = zPn.cells := by simp only [zPn, pcells_mk, ptPs]
theorem s_eq : sRaw = sPn.cells := by simp only [sPn, vPt, pcells_mk, ptPs]
theorem rc_weak {a b : List PV} {p q : Pt} (h1 : WeakPL a p.cells) (h2 : WeakPL b q.cells) : WeakPL (rc a b) (Cl.cells ⟨[p, q], zT⟩) := by
 simp only [Cl.cells, zT, cells_mk, ptPs, lvPs, tmPs, List.map]
 exact WeakPL.cons (WeakP.sl (WeakPs.cons h1 (WeakPs.cons h2 WeakPs.nil))) (WeakPL.cons (WeakP.refl _) (WeakPL.cons (WeakP.refl _) (WeakPL.cons (WeakP.refl _) (WeakPL.cons (WeakP.nil _) (WeakPL.cons (WeakP.nil _) WeakPL.nil)))))
theorem zw : WeakPL zRaw zPn.cells := by rw [z_eq]; exact pl_refl _
theorem sw : WeakPL sRaw sPn.cells := by rw [s_eq]; exact pl_refl _
theorem RC_weak : WeakPs [rc zRaw vRaw, rc sRaw zRaw, rc sRaw sRaw] (clPs clsA) := by
 simp only [clPs, clsA, List.map]
 exact WeakPs.cons (rc_weak zw v_weak) (WeakPs.cons (rc_weak sw zw) (WeakPs.cons (rc_weak sw sw) WeakPs.nil))
theorem RL_weak : WeakPs [rc zRaw vRaw, rc sRaw sRaw] (clPs lessA) := by
 simp only [clPs, lessA, List.map]
 exact WeakPs.cons (rc_weak zw v_weak) (WeakPs.cons (rc_weak sw sw) WeakPs.nil)
theorem rT_weak (i : Int) : WeakPL (rT i) (vr i).cells := by
 simp only [vr, cells_mk, lvPs, tmPs, List.map]
 exact WeakPL.cons (WeakP.refl _) (WeakPL.cons (WeakP.refl _) (WeakPL.cons (WeakP.refl _) (WeakPL.cons (WeakP.nil _) (WeakPL.cons (WeakP.nil _) WeakPL.nil))))
theorem rZ_weak : WeakPL rZ zroT.cells := by
 simp only [zroT, cells_mk, lvPs, tmPs, List.map]
 exact WeakPL.cons (WeakP.refl _) (WeakPL.cons (WeakP.refl _) (WeakPL.cons (WeakP.refl _) (WeakPL.cons (WeakP.nil _) (WeakPL.cons (WeakP.nil _) WeakPL.nil))))
theorem rT_weakA (i : Int) : Weak (.agg ((rT i).map .p)) (vr i).av := by
 simp only [vr, Tm.av, cells_mk, lvPs, tmPs, List.map]
 exact Weak.agg (WeakL.cons (Weak.refl _) (WeakL.cons (Weak.refl _) (WeakL.cons (Weak.refl _) (WeakL.cons (Weak.nil _) (WeakL.cons (Weak.nil _) WeakL.nil)))))
theorem smA1 : PSmall clsA [] := ⟨by decide, by decide, by decide⟩
theorem smA2 (v : List Pt) (h : Pt.sizes v ≤ 1048576) : PSmall clsA v := ⟨by decide, by decide, h⟩
theorem smL (v : List Pt) (h : Pt.sizes v ≤ 1048576) : PSmall lessA v := ⟨by decide, by decide, h⟩
theorem m1_any (g : Heap) (hw : WF g) : ACalls Tryz.prog 22 [.p (.sl 23 (natE.map Dc.cells)), .p (.sl 6 [rc zRaw vRaw, rc sRaw zRaw, rc sRaw sRaw]), .p (.sl 5 (tmPs [sucT (vr 3), sucT (vr 5)]))] g fun o h' => o = .ret (mtA (2, [vr 3, vr 5], 0)) ∧ h' = g := by
 rw [← aw_m1]
 refine ACalls.weak (WeakL.cons (Weak.refl _) (WeakL.cons (WeakP.sl RC_weak).av (WeakL.cons (Weak.refl _) WeakL.nil))) (pmatch_any natE natE_fine natE_good awR awG awW clsA _ smA1 ?_ (by simp) g hw)
 intro a ha
 simp at ha
 rcases ha with rfl | rfl
 ·exact .inl rfl
 ·exact .inr (.inl rfl)
theorem m2_any (g : Heap) (hw : WF g) : ACalls Tryz.prog 22 [.p (.sl 23 (natE.map Dc.cells)), .p (.sl 6 [rc zRaw vRaw, rc sRaw zRaw, rc sRaw sRaw]), .p (.sl 5 [rT 3, rZ])] g fun o h' => o = .ret (mtA (0, [], 19)) ∧ h' = g := by
 rw [← aw_m2]
 have h1 : WeakPs [rT 3, rZ] (tmPs [vr 3, zroT]) := WeakPs.cons (rT_weak 3) (WeakPs.cons rZ_weak WeakPs.nil)
 refine ACalls.weak (WeakL.cons (Weak.refl _) (WeakL.cons (WeakP.sl RC_weak).av (WeakL.cons (WeakP.sl h1).av WeakL.nil))) (pmatch_any natE natE_fine natE_good awR awG awW clsA _ smA1 ?_ (by simp) g hw)
 intro a ha
 simp at ha
 rcases ha with rfl | rfl
 ·exact .inr (.inr (.inl rfl))
 ·exact .inr (.inr (.inr (.inr rfl)))
theorem v1_any (g : Heap) (hw : WF g) : ACalls Tryz.prog 26 [.p (.sl 23 (natE.map Dc.cells)), .p (.sl 6 [rc zRaw vRaw, rc sRaw zRaw, rc sRaw sRaw]), .p (.sl 3 [vRaw, vRaw])] g fun o h' => o = .ret (bA true) ∧ h' = g := by
 rw [← aw_c1]
 exact ACalls.weak (WeakL.cons (Weak.refl _) (WeakL.cons (WeakP.sl RC_weak).av (WeakL.cons (WeakP.sl (es' := ptPs [vPt, vPt]) (WeakPs.cons v_weak (WeakPs.cons v_weak WeakPs.nil))).av WeakL.nil))) (covers_any natE natE_fine natE_good clsA [vPt, vPt] (smA2 _ (by decide)) g hw)
theorem v2_any (g : Heap) (hw : WF g) : ACalls Tryz.prog 26 [.p (.sl 23 (natE.map Dc.cells)), .p (.sl 6 [rc zRaw vRaw, rc sRaw sRaw]), .p (.sl 3 [vRaw, vRaw])] g fun o h' => o = .ret (bA false) ∧ h' = g := by
 rw [← aw_c2]
 exact ACalls.weak (WeakL.cons (Weak.refl _) (WeakL.cons (WeakP.sl RL_weak).av (WeakL.cons (WeakP.sl (es' := ptPs [vPt, vPt]) (WeakPs.cons v_weak (WeakPs.cons v_weak WeakPs.nil))).av WeakL.nil))) (covers_any natE natE_fine natE_good lessA [vPt, vPt] (smL _ (by decide)) g hw)
theorem v3_any (g : Heap) (hw : WF g) : ACalls Tryz.prog 26 [.p (.sl 23 (natE.map Dc.cells)), .p (.sl 6 [rc zRaw vRaw, rc sRaw sRaw]), .p (.sl 3 [zRaw, vRaw])] g fun o h' => o = .ret (bA true) ∧ h' = g := by
 rw [← aw_c3]
 exact ACalls.weak (WeakL.cons (Weak.refl _) (WeakL.cons (WeakP.sl RL_weak).av (WeakL.cons (WeakP.sl (es' := ptPs [zPn, vPt]) (WeakPs.cons zw (WeakPs.cons v_weak WeakPs.nil))).av WeakL.nil))) (covers_any natE natE_fine natE_good lessA [zPn, vPt] (smL _ (by decide)) g hw)
theorem v4_any (g : Heap) (hw : WF g) : ACalls Tryz.prog 26 [.p (.sl 23 (natE.map Dc.cells)), .p (.sl 6 [rc zRaw vRaw, rc sRaw sRaw]), .p (.sl 3 [sRaw, vRaw])] g fun o h' => o = .ret (bA false) ∧ h' = g := by
 rw [← aw_c4]
 exact ACalls.weak (WeakL.cons (Weak.refl _) (WeakL.cons (WeakP.sl RL_weak).av (WeakL.cons (WeakP.sl (es' := ptPs [sPn, vPt]) (WeakPs.cons sw (WeakPs.cons v_weak WeakPs.nil))).av WeakL.nil))) (covers_any natE natE_fine natE_good lessA [sPn, vPt] (smL _ (by decide)) g hw)
theorem s69_any (i : Int) (g : Heap) (hw : WF g) : ACalls Tryz.prog 69 [.agg ((rT i).map .p)] g fun o h' => o = .ret (sucT (vr i)).av ∧ h' = g :=
 ACalls.weak (WeakL.cons (rT_weakA i) WeakL.nil) (awake1_any g hw (vr i))
theorem q25_any (g : Heap) (hw : WF g) : ACalls Tryz.prog 25 [.p (.sl 5 (tmPs [vr 3, vr 5])), .p (.sl 5 [rT 3, rT 5])] g fun o h' => o = .ret (bA true) ∧ h' = g := by
 rw [← aw_sm]
 exact ACalls.weak (WeakL.cons (Weak.refl _) (WeakL.cons (WeakP.sl (es' := tmPs [vr 3, vr 5]) (WeakPs.cons (rT_weak 3) (WeakPs.cons (rT_weak 5) WeakPs.nil))).av WeakL.nil)) (sameTerms_any [vr 3, vr 5] [vr 3, vr 5] (by decide) (by simp [Tm.lvss, vr, Tm.lvs]) (by simp) g hw)
theorem c68_any (g : Heap) (hw : WF g) : ACalls Tryz.prog 68 [.p (sP succB), .p (.sl 3 [sRaw])] g fun o h' => o = .ret (Pt.mk 1 succB [sPn]).av ∧ h' = g := by
 have := ctor68_any g hw succB [sPn]
 simp only [ptPs, ← s_eq] at this
 exact this
theorem t39_any (g : Heap) (hw : WF g) : ACalls Tryz.prog 39 [(Pt.mk 1 succB [sPn]).av] g fun o h' => o = .ret (.p (sP [40, 115, 117, 99, 99, 32, 40, 115, 117, 99, 99, 32, 95, 41, 41])) ∧ h' = g := by
 rw [← aw_tx]
 exact ptext_any _ _ (Nat.le_refl _) (by decide) (by rw [aw_tx]; simp) g hw


open Go Go.AI
theorem awake18_any (h : Heap) (hh : WF h) : ACalls Tryz.prog 21 [] h fun o h' => o = .ret (bA true) ∧ h' = h := by
 have n1 := fun (g : Heap) (hw : WF g) => naturals_any g hw
 have k1 := k1_any
 have k2 := k2_any
 simp only [zeroB, succB] at k1 k2
 obtain ⟨NE, hNE⟩ : ∃ NE, natE.map Dc.cells = NE := ⟨_, rfl⟩
 simp only [envA, hNE] at n1
 have m1 := m1_any
 have m2 := m2_any
 have v1 := v1_any
 have v2 := v2_any
 have v3 := v3_any
 have v4 := v4_any
 have s3 := s69_any 3
 have s5 := s69_any 5
 have q1 := q25_any
 have c3 := c68_any
 have t1 := t39_any
 simp only [hNE, mtA, zRaw, sRaw, rc, rT, rZ, zeroB, succB, sPn, vPt, Pt.av, pcells_mk, ptPs, sucT, appT, vr, Tm.av, tmPs, cells_mk, lvPs, List.map] at m1 m2 v1 v2 v3 v4 s3 s5 q1 c3 t1
 refine ACalls.of_run Tryz.func21 rfl ?_
 simp only [Tryz.ntmps21, List.length_nil]
 refine nv ?_
 refine Run.reg fun K hK => ?_
 simp
 refine hK _ _ _ (nv ?_); clear hK
 refine Run.reg fun K hK => ?_
 simp
 refine hK _ _ _ ?_; clear hK
 refine Run.call rfl (by first | rfl | simp) (by simp) rfl (n1 _ hh) ?_ ?_
 rotate_left
 ·rintro v h' ⟨hv, _⟩; cases hv
 rintro v h' ⟨hv, rfl⟩
 simp only [AOut.ret.injEq] at hv
 subst hv
 refine Run.ops fun K hK => ?_
 simp
 refine hK _ _ _ (nv ?_); clear hK
 refine PC.Run.draw2 (pc := [0, 3]) 4 5 [0, 0, 0, 0, 0, 1, 2, 3] [0, 0, 0, 0, 0, 1, 2, 3] [0, 0, 2, 7, 0, 16, 63, 127] [4, 5, 0, 1, 2, 3, 6, 7] [0, 0, 0, 0, 1, 0, 2, 3] [0, 0, 0, 0, 1, 0, 2, 3] [0, 0, 2, 7, 32, 0, 63, 127] [5, 4, 0, 1, 2, 3, 6, 7] (by kernel_rfl) (by kernel_rfl) (by kernel_rfl) (by kernel_rfl) ?_ ?_
 all_goals
  refine PC.DR.go fun K hK => ?_
  simp
  refine hK _ _ _ _ ?_; clear hK
  refine PC.DR.pcall rfl rfl rfl (by simp) rfl rfl (fun g hg => k1 g ?_) ?_
  ·simp at hg
   (first | (rcases hg with rfl | rfl | rfl | rfl) | (rcases hg with rfl | rfl | rfl) | (rcases hg with rfl | rfl) | subst hg) <;> exact hh.app (by simp)
  refine PC.DR.go fun K hK => ?_
  simp
  refine hK _ _ _ _ ?_; clear hK
  refine PC.DR.pcall rfl rfl rfl (by simp) rfl rfl (fun g hg => k2 g ?_) ?_
  ·simp at hg
   (first | (rcases hg with rfl | rfl | rfl | rfl) | (rcases hg with rfl | rfl | rfl) | (rcases hg with rfl | rfl) | subst hg) <;> exact hh.app (by simp)
  simp only [zPn, sPn, vPt, zeroB, succB, Pt.av, pcells_mk, ptPs, List.map]
  refine PC.DR.go fun K hK => ?_
  simp
  refine hK _ _ _ _ ?_; clear hK
  change Run _ _ _ _ _ _ _ _
  refine nv ?_
  refine Run.reg fun K hK => ?_
  simp
  refine hK _ _ _ (nv ?_); clear hK
  refine Run.reg fun K hK => ?_
  simp
  refine hK _ _ _ (nv ?_); clear hK
  refine Run.reg fun K hK => ?_
  simp
  refine hK _ _ _ (nv ?_); clear hK
  refine PC.Run.drawP (pc := [4, 7, 9]) [0, 0, 0, 0, 0, 0, 0, 0, 0, 0, 0, 0, 0, 0, 0, 0, 0] [0, 0, 0, 0, 0, 0, 0, 0, 0, 0, 0, 0, 0, 0, 0, 0, 0] [0, 0, 0, 0, 12, 0, 0, 124, 252, 511, 1023, 2047, 2047, 2047, 4095, 24575, 65535] [0, 1, 2, 3, 4, 5, 6, 7, 8, 9, 10, 11, 12, 13, 14, 15, 16] (by kernel_rfl) (by kernel_rfl) ?_
  refine PC.DR.go fun K hK => ?_
  simp
  refine hK _ _ _ _ ?_; clear hK
  refine PC.DR.pcall rfl rfl rfl (by simp) rfl rfl (fun g hg => s3 g ?_) ?_
  ·simp at hg
   (first | (rcases hg with rfl | rfl | rfl | rfl) | (rcases hg with rfl | rfl | rfl) | (rcases hg with rfl | rfl) | subst hg) <;> exact hh.app (by simp)
  refine PC.DR.go fun K hK => ?_
  simp
  refine hK _ _ _ _ ?_; clear hK
  refine PC.DR.pcall rfl rfl rfl (by simp) rfl rfl (fun g hg => s5 g ?_) ?_
  ·simp at hg
   (first | (rcases hg with rfl | rfl | rfl | rfl) | (rcases hg with rfl | rfl | rfl) | (rcases hg with rfl | rfl) | subst hg) <;> exact hh.app (by simp)
  refine PC.DR.go fun K hK => ?_
  simp
  refine hK _ _ _ _ ?_; clear hK
  refine PC.DR.pcall rfl rfl rfl (by simp) rfl rfl (fun g hg => m1 g ?_) ?_
  ·simp at hg
   (first | (rcases hg with rfl | rfl | rfl | rfl) | (rcases hg with rfl | rfl | rfl) | (rcases hg with rfl | rfl) | subst hg) <;> exact hh.app (by simp)
  refine PC.DR.go fun K hK => ?_
  simp
  refine hK _ _ _ _ ?_; clear hK
  change Run _ _ _ _ _ _ _ _
  refine nv ?_
  refine Run.reg fun K hK => ?_
  simp
  refine hK _ _ _ ?_; clear hK
  refine Go.AI.rc rfl (by first | rfl | simp) (by simp) rfl (m2 _ (hh.app (by simp))) ?_
  refine Run.ops fun K hK => ?_
  simp
  refine hK _ _ _ (nv ?_); clear hK
  refine Run.draw [0, 0, 0, 0, 0, 0, 0, 0] [0, 0, 0, 0, 0, 0, 0, 0] [0, 1, 3, 0, 8, 24, 63, 127] [0, 1, 2, 3, 4, 5, 6, 7] (by kernel_rfl) (by kernel_rfl) ?_
  refine DR.go fun K hK => ?_
  simp
  refine hK _ _ _ _ ?_; clear hK
  change Run _ _ _ _ _ _ _ _
  refine nv ?_
  refine Run.reg fun K hK => ?_
  simp
  refine hK _ _ _ ?_; clear hK
  refine Go.AI.rc rfl (by first | rfl | simp) (by simp) rfl (q1 _ (hh.app (by simp))) ?_
  refine Run.ops fun K hK => ?_
  simp
  refine hK _ _ _ ?_; clear hK
  refine Go.AI.rc rfl (by first | rfl | simp) (by simp) rfl (v1 _ (hh.app (by simp))) ?_
  refine Run.ops fun K hK => ?_
  simp
  refine hK _ _ _ ?_; clear hK
  refine Go.AI.rc rfl (by first | rfl | simp) (by simp) rfl (v2 _ (hh.app (by simp))) ?_
  refine Run.ops fun K hK => ?_
  simp
  refine hK _ _ _ ?_; clear hK
  refine Go.AI.rc rfl (by first | rfl | simp) (by simp) rfl (v3 _ (hh.app (by simp))) ?_
  refine Run.ops fun K hK => ?_
  simp
  refine hK _ _ _ ?_; clear hK
  refine Go.AI.rc rfl (by first | rfl | simp) (by simp) rfl (v4 _ (hh.app (by simp))) ?_
  refine Run.ops fun K hK => ?_
  simp
  refine hK _ _ _ ?_; clear hK
  refine Go.AI.rc rfl (by first | rfl | simp) (by simp) rfl (c3 _ (hh.app (by simp))) ?_
  refine Run.ops fun K hK => ?_
  simp
  refine hK _ _ _ ?_; clear hK
  refine Go.AI.rc rfl (by first | rfl | simp) (by simp) rfl (t1 _ (hh.app (by simp))) ?_
  refine Run.ops fun K hK => ?_
  simp
  refine hK _ _ _ (nv ?_); clear hK
  refine Run.ret ?_
  exact Fin.ret' (h0 := h') (by simp) rfl hh rfl (by simp; rfl) rfl (Weak.refl _) (by simp) ⟨by simp, rfl⟩


open Go Go.AI
theorem textT_take : ∀ (l : List Pt) (j : Nat), (textT (l.take j)).length ≤ (textT l).length
 | [], j => by simp [textT]
 | p :: l, 0 => by simp [textT]
 | p :: l, j + 1 => by have := textT_take l j; simp only [List.take_succ_cons, textT, List.length_cons, List.length_append]; omega
theorem rtext_any (N : Nat) : ∀ (p : Pt), p.size ≤ N → p.size ≤ 1048576 → (textP p).length ≤ 1099511627776 → ∀ h, WF h → ACalls Tryz.prog 40 [p.av] h fun o h' => o = .ret (.p (sP (textP p))) ∧ h' = h := by
 induction N with
 | zero => intro p hp; have := p.size_pos; omega
 | succ N ih =>
 intro p hp hB hL h hh
 obtain ⟨k, n, qs⟩ := p
 simp only [Pt.size] at hp hB
 obtain ⟨r, hr⟩ : ∃ r, textP (.mk k n qs) = r := ⟨_, rfl⟩
 rw [hr] at hL ⊢
 rw [textP] at hr
 simp only [Pt.av, pcells_mk, List.map]
 have hql := psz_len qs
 refine ACalls.of_run Tryz.func40 rfl ?_
 simp only [Tryz.ntmps40, List.length_cons, List.length_nil]
 refine nv ?_
 refine Run.reg fun K hK => ?_
 simp
 refine hK _ _ _ (nv ?_); clear hK
 refine Run.reg fun K hK => ?_
 simp
 refine hK _ _ _ (nv ?_); clear hK
 refine Run.reg fun K hK => ?_
 simp
 refine hK _ _ _ (nv ?_); clear hK
 by_cases k0 : k = 0
 ·subst k0
  rw [if_pos rfl] at hr; subst hr
  refine ct (by simp) (nv ?_)
  refine Run.reg fun K hK => ?_
  simp
  refine hK _ _ _ (nv ?_); clear hK
  refine Run.ret ?_
  exact Fin.ret' (h0 := h) (by simp) rfl hh rfl (by simp; rfl) rfl (Weak.refl _) (by simp) ⟨by simp, rfl⟩
 have k0b : (k == (0 : Int)) = false := by simpa using k0
 rw [if_neg k0] at hr
 refine cf (by simp [k0b]) (nv ?_)
 refine Run.reg fun K hK => ?_
 simp
 refine hK _ _ _ (nv ?_); clear hK
 by_cases k2 : k = 2
 ·subst k2
  rw [if_pos rfl] at hr; subst hr
  refine ct (by simp) (nv ?_)
  refine Run.reg fun K hK => ?_
  simp
  refine hK _ _ _ (nv ?_); clear hK
  refine Run.ret ?_
  exact Fin.ret' (h0 := h) (by simp) rfl hh rfl (by simp; rfl) rfl (Weak.refl _) (by simp) ⟨by simp, rfl⟩
 have k2b : (k == (2 : Int)) = false := by simpa using k2
 rw [if_neg k2] at hr
 refine cf (by simp [k2b]) (nv ?_)
 refine Run.reg fun K hK => ?_
 simp
 refine hK _ _ _ (nv ?_); clear hK
 by_cases k3 : k = 3
 ·subst k3
  rw [if_pos rfl] at hr; subst hr
  refine ct (by simp) (nv ?_)
  refine Run.reg fun K hK => ?_
  simp
  refine hK _ _ _ (nv ?_); clear hK
  refine Run.ret ?_
  exact Fin.ret' (h0 := h) (by simp) rfl hh rfl (by simp; rfl) rfl (Weak.refl _) (by simp) ⟨by simp, rfl⟩
 have k3b : (k == (3 : Int)) = false := by simpa using k3
 rw [if_neg k3] at hr
 refine cf (by simp [k3b]) (nv ?_)
 refine Run.reg fun K hK => ?_
 simp
 refine hK _ _ _ (nv ?_); clear hK
 by_cases k1 : k = 1
 rotate_left
 ·have k1b : (k == (1 : Int)) = false := by simpa using k1
  rw [if_neg k1] at hr; subst hr
  refine cf (by simp [k1b]) (nv ?_)
  refine Run.reg fun K hK => ?_
  simp
  refine hK _ _ _ (nv ?_); clear hK
  refine Run.ret ?_
  exact Fin.ret' (h0 := h) (by simp) rfl hh rfl (by simp; rfl) rfl (Weak.refl _) (by simp) ⟨by simp, rfl⟩
 subst k1
 rw [if_pos rfl] at hr
 refine ct (by simp) (nv ?_)
 refine Run.reg fun K hK => ?_
 simp
 refine hK _ _ _ (nv ?_); clear hK
 by_cases hq0 : qs = []
 ·subst hq0
  rw [if_pos rfl] at hr; subst hr
  refine ct (by simp) (nv ?_)
  refine Run.reg fun K hK => ?_
  simp
  refine hK _ _ _ (nv ?_); clear hK
  refine Run.ret ?_
  exact Fin.ret' (h0 := h) (by simp) rfl hh rfl (by simp; rfl) rfl (Weak.refl _) (by simp) ⟨by simp, rfl⟩
 have hlb : ((qs.length : Int) == 0) = false := by
  have : 0 < qs.length := List.length_pos_iff.2 hq0
  simp; omega
 rw [if_neg hq0] at hr
 have hqb : (textT qs).length + n.length + 2 ≤ 1099511627776 := by
  rw [← hr] at hL
  simp at hL
  omega
 have hb0 : 1 + n.length ≤ 9223372036854775807 := by omega
 refine cf (by simp [hlb]) (nv ?_)
 refine Run.reg fun K hK => ?_
 simp [hb0]
 refine hK _ _ _ (nv ?_); clear hK
 refine Run.reg fun K hK => ?_
 simp
 refine hK _ _ _ (nv ?_); clear hK
 refine Run.loopS [1] (fun j : Nat => j ≤ qs.length) (fun j => qs.length - j) (fun j => [(3, .p (sP (40 :: (n ++ textT (qs.take j))))), (4, iA j)])
  (fun j => h ++ [some (.cells [iA 1, .p (sP n), .p (.sl 3 (ptPs qs))])]) 0 (by simp) ?_ (by simp) ?_
 ·simp [textT]
  repeat' first | exact wn | apply wc | exact wj _ | exact wr _ | exact wz _ | exact wo _ _ _ | exact wi (by omega)
 rintro j hj IH
 simp
 refine nv ?_
 refine Run.reg fun K hK => ?_
 simp
 refine hK _ _ _ (nv ?_); clear hK
 by_cases hjl : j < qs.length
 ·have hg : qs[j]? = some qs[j] := List.getElem?_eq_getElem hjl
  have hmem := List.getElem_mem hjl
  have htk : qs.take (j + 1) = qs.take j ++ [qs[j]] := List.take_succ_eq_append_getElem hjl
  generalize qs[j] = q at hg hmem htk
  have hsz := Pt.size_at hmem
  have hml := textT_mem hmem
  have htl := textT_take qs (j + 1)
  rw [htk, textT_snoc] at htl
  simp only [List.length_append, List.length_cons] at htl
  have c1 := ih q (by omega) (by omega) (by omega)
  obtain ⟨pk, pn, ps⟩ := q
  simp only [Pt.av, pcells_mk, List.map] at c1
  obtain ⟨tx, htx⟩ : ∃ tx, textP (Pt.mk pk pn ps) = tx := ⟨_, rfl⟩
  rw [htx] at c1 hml htl
  obtain ⟨ac, hac⟩ : ∃ ac, textT (qs.take j) = ac := ⟨_, rfl⟩
  rw [hac] at htl
  have hb1 : 1 + tx.length ≤ 9223372036854775807 := by omega
  have hb2 : n.length + ac.length + 1 + (tx.length + 1) ≤ 9223372036854775807 := by omega
  refine ct (by simp [hjl]) (nv ?_)
  refine Run.reg fun K hK => ?_
  simp [hg, pcells_mk]
  refine hK _ _ _ ?_; clear hK
  refine Go.AI.rc rfl (by first | rfl | simp) (by simp) rfl (c1 _ (hh.app (by simp))) ?_
  refine Run.ops fun K hK => ?_
  simp [hb1, hb2, hac]
  refine hK _ _ _ (nv ?_); clear hK
  refine Run.reg fun K hK => ?_
  simp
  try (simp (disch := omega) only [wrap_id])
  refine hK _ _ _ (nv ?_); clear hK
  have hnx : textT (qs.take (j + 1)) = ac ++ 32 :: tx := by rw [htk, textT_snoc, htx, hac]
  refine IH (j + 1) _ _ (by omega) (by omega) ?_ ?_
  ·rw [hnx]
   simp
   repeat' first | exact wn | apply wc | exact wj _ | exact wr _ | exact wz _ | exact wo _ _ _ | exact wi (by omega)
  ·simp
 ·have hje : j = qs.length := by omega
  subst hje
  rw [List.take_length]
  have hb3 : n.length + (textT qs).length + 1 + 1 ≤ 9223372036854775807 := by omega
  refine cf (by simp) ?_
  refine Run.exit rfl ?_
  refine nv ?_
  refine Run.reg fun K hK => ?_
  simp [hb3]
  refine hK _ _ _ (nv ?_); clear hK
  refine Run.ret ?_
  subst hr
  exact Fin.ret' (h0 := h) (by simp) rfl hh rfl (by simp; rfl) rfl (Weak.refl _) (by simp) ⟨by simp, rfl⟩

end Go.Proofs.YtcfcolkbeelegaaGreat
