import Derived.Test.YtcfcolkbeelegaaGreatVX8
import Derived.Test.YtcfcolkbeelegaaGreatVX9
import Derived.Test.YtcfcolkbeelegaaGreatVT6

namespace Go.Proofs.YtcfcolkbeelegaaGreat

open Go Go.AI
def termsZ (env : List Dc) (d : Dc) : Int :=
 if d.k ≠ 4 ∧ ofTermZ env [] d d.ty 0 d.ps ≠ 0 then ofTermZ env [] d d.ty 0 d.ps
 else if d.k = 1 ∨ d.k = 2 then ofTermZ env [] d d.va 0 d.ps
 else if d.k = 3 then
  (if firstE (d.cs.map fun c => ofTermZ env [d.nm] d c.ty 0 d.ps) ≠ 0 then firstE (d.cs.map fun c => ofTermZ env [d.nm] d c.ty 0 d.ps)
   else if ofTermZ env ((namesZ d).take ((namesZ d).length - 1)) d d.rt 0 d.rp ≠ 0 then ofTermZ env ((namesZ d).take ((namesZ d).length - 1)) d d.rt 0 d.rp
   else firstE (d.rr.map fun t => ofTermZ env (namesZ d) d t 0 d.rp))
 else if d.k = 4 then
  (if firstE (d.fs.map fun f => ofTermZ env [] d f.ty 0 d.ps) ≠ 0 then firstE (d.fs.map fun f => ofTermZ env [] d f.ty 0 d.ps)
   else firstE (d.fs.map fun f => treeZ env (namesZ d) d f.tr f.ar 0))
 else 0
theorem firstE_map_stop {α : Type} {f : α → Int} {l : List α} {j : Nat} {x : α} (hg : l[j]? = some x) (hall : firstE ((l.map f).take j) = 0) (hx : f x ≠ 0) : firstE (l.map f) = f x := by
 have htk : (l.map f).take (j + 1) = (l.map f).take j ++ [f x] := by rw [List.take_add_one, List.getElem?_map, hg]; rfl
 have e1 : firstE ((l.map f).take (j + 1)) = f x := by rw [htk, firstE_snoc, hall, if_pos rfl]
 rw [firstE_stop (j := j + 1) (by rw [e1]; exact hx), e1]
theorem firstE_map_go {α : Type} {f : α → Int} {l : List α} {j : Nat} {x : α} (hg : l[j]? = some x) (hall : firstE ((l.map f).take j) = 0) (hx : f x = 0) : firstE ((l.map f).take (j + 1)) = 0 := by
 have htk : (l.map f).take (j + 1) = (l.map f).take j ++ [f x] := by rw [List.take_add_one, List.getElem?_map, hg]; rfl
 rw [htk, firstE_snoc, hall, if_pos rfl, hx]
set_option maxRecDepth 8000 in
set_option maxHeartbeats 64000000 in
theorem terms_any (h : Heap) (hh : WF h) (env : List Dc) (d : Dc) (hd : d.good) (hn : d.nm.length ≤ 1099511627776) (hg : Env.good env) (hs : Env.short env) : ACalls Tryz.prog 206 [envA env, d.av] h fun o h' => o = .ret (iA (termsZ env d)) ∧ h' = h := by
 have hnl := namesZ_len d hd.csl hd.fsl
 have hsc : ∀ own : List (List UInt8), own.length ≤ 1099511627776 → ScOk env own d := fun own ho => ⟨hg, hs, ho, hd⟩
 have c0 := fun (g : Heap) (hw : WF g) => names_any g hw d hn hd.csl hd.fsl
 have c1 := fun (t : Tm) (ht : t.good) (g : Heap) (hw : WF g) => ofTerm_any g hw env [] d (hsc [] (by simp)) t ht 0 d.ps
 have c2 := fun (t : Tm) (ht : t.good) (g : Heap) (hw : WF g) => ofTerm_any g hw env [d.nm] d (hsc _ (by simp)) t ht 0 d.ps
 have c3 := fun (t : Tm) (ht : t.good) (g : Heap) (hw : WF g) => ofTerm_any g hw env ((namesZ d).take ((namesZ d).length - 1)) d (hsc _ (by simp; omega)) t ht 0 d.rp
 have c4 := fun (t : Tm) (ht : t.good) (g : Heap) (hw : WF g) => ofTerm_any g hw env (namesZ d) d (hsc _ (by omega)) t ht 0 d.rp
 have c5 := fun (t : Tr) (ht : t.good) (v : Int) (g : Heap) (hw : WF g) => ofTree_any env (namesZ d) d (hsc _ (by omega)) t.size t v 0 g (Nat.le_refl _) ht hw
 have c1t := c1 d.ty hd.ty
 have c1v := c1 d.va hd.va
 have c3r := c3 d.rt hd.rt
 have hcs := hd.cs
 have hrr := hd.rr
 have hfs := hd.fs
 have hcl := hd.csl
 have hrl := hd.rrl
 have hfl := hd.fsl
 have hk := kcase d.k
 have hl3 : d.k = 3 → 0 < (namesZ d).length := fun h3 => by unfold namesZ; rw [if_neg (by omega), if_pos h3]; simp
 obtain ⟨r, hr⟩ : ∃ r, r = termsZ env d := ⟨_, rfl⟩
 rw [← hr]
 unfold termsZ at hr
 obtain ⟨O1, hO1⟩ : ∃ O, O = fun t => ofTermZ env [] d t 0 d.ps := ⟨_, rfl⟩
 obtain ⟨O2, hO2⟩ : ∃ O, O = fun t => ofTermZ env [d.nm] d t 0 d.ps := ⟨_, rfl⟩
 obtain ⟨O4, hO4⟩ : ∃ O, O = fun t => ofTermZ env (namesZ d) d t 0 d.rp := ⟨_, rfl⟩
 obtain ⟨O5, hO5⟩ : ∃ O, O = fun (f : Fu) => treeZ env (namesZ d) d f.tr f.ar 0 := ⟨_, rfl⟩
 have k1 : ∀ t, ofTermZ env [] d t 0 d.ps = O1 t := fun t => by rw [hO1]
 have k2 : ∀ t, ofTermZ env [d.nm] d t 0 d.ps = O2 t := fun t => by rw [hO2]
 have k4 : ∀ t, ofTermZ env (namesZ d) d t 0 d.rp = O4 t := fun t => by rw [hO4]
 have k5 : ∀ (f : Fu), treeZ env (namesZ d) d f.tr f.ar 0 = O5 f := fun f => by rw [hO5]
 have c5 : ∀ (f : Fu), f.good → ∀ g : Heap, WF g → ACalls Tryz.prog 230 [scE env (namesZ d) d, f.tr.av, iA f.ar, iA 0] g fun o h' => o = .ret (iA (O5 f)) ∧ h' = g := fun f hf g hw => by rw [← k5]; exact c5 f.tr hf.2 f.ar g hw
 simp only [k1, k2, k4, k5] at c1 c1t c1v c2 c4 hr
 generalize ofTermZ env ((namesZ d).take ((namesZ d).length - 1)) d d.rt 0 d.rp = e3 at c3r hr
 generalize hN : namesZ d = NN at c0 c3r c4 c5 hnl hl3
 clear hO1 hO2 hO4 hO5 k1 k2 k4 k5 c3 hsc hN
 generalize he1 : O1 d.ty = e1 at c1t hr
 generalize he2 : O1 d.va = e2 at c1v hr
 clear he1 he2
 obtain ⟨k, nm, ps, ⟨k1, i1, n1, l1, s1⟩, ⟨k2, i2, n2, l2, s2⟩, fx, cs, rp, ⟨k3, i3, n3, l3, s3⟩, rr, fs⟩ := d
 clear hd hg hs
 simp only at hn hcs hrr hfs hcl hrl hfl hk hl3 hr
 simp only [scE, Dc.av, Dc.cells, Tm.av, cells_mk, List.map, List.cons_append, List.nil_append, show strPs [] = [] from rfl] at c0 c1 c1t c1v c2 c3r c4 c5 ⊢
 refine ACalls.of_run Tryz.func206 rfl ?_
 simp only [Tryz.ntmps206, List.length_cons, List.length_nil]
 refine nv ?_
 refine Run.reg fun K J => ?_
 simp
 refine J _ _ _ (nv ?_); clear J
 refine Run.regPre 3 fun K J => ?_
 simp only [List.take_succ_cons, List.take_zero]
 simp
 refine J _ _ _ ?_; clear J
 simp only [List.nil_append, List.drop_succ_cons, List.drop_zero]
 refine Run.weakAt 19 (.agg [.p (.sl 23 (env.map Dc.cells)), .p (.sl 1 []), iA k, .p (sP nm), iA ps, .p (iP k1), .p (iP i1), .p (sP n1), .p (.sl 2 (lvPs l1)), .p (.sl 5 (tmPs s1)), .p (iP k2), .p (iP i2), .p (sP n2), .p (.sl 2 (lvPs l2)), .p (.sl 5 (tmPs s2)), iA fx, .p (.sl 6 (cs.map Ct.cells)), iA rp, .p (iP k3), .p (iP i3), .p (sP n3), .p (.sl 2 (lvPs l3)), .p (.sl 5 (tmPs s3)), .p (.sl 5 (tmPs rr)), .p (.sl 15 (fs.map Fu.cells))]) ?_ ?_
 ·simp
  refine Weak.agg ?_
  repeat' first | exact wn | apply wc
  all_goals first | exact Weak.refl _ | exact Weak.nil _
 simp
 refine Run.ops fun K J => ?_
 simp
 refine J _ _ _ ?_; clear J
 repeat (first | refine Run.skip ?_ | refine Run.opsNil ?_ | refine Run.inBlock ?_)
 refine nv ?_
 refine Run.reg fun K J => ?_
 simp
 refine J _ _ _ ?_; clear J
 repeat (first | refine Run.skip ?_ | refine Run.opsNil ?_ | refine Run.inBlock ?_)
 refine Run.joinC0 (¬ (k ≠ 4 ∧ e1 ≠ 0)) [0, 3, 5] [] (fun hJ => ?_) (fun hC => ?_)
 ·by_cases h4 : k = 4
  ·have h4' : (k != 4) = false := by simp [h4]
   refine cf (by simp [h4']) ?_
   repeat (first | refine Run.skip ?_ | refine Run.opsNil ?_ | refine Run.inBlock ?_)
   refine hJ _ ?_ (by simp [h4])
   simp
   repeat' first | exact wn | apply wc | exact wj _ | exact wr _ | exact wz _ | exact wo _ _ _ | exact wi (by omega)
  ·have h4' : (k != 4) = true := by simp [h4]
   refine ct (by simp [h4']) (nv ?_)
   refine Run.reg fun K J => ?_
   simp
   refine J _ _ _ ?_; clear J
   refine rl rfl (by first | rfl | simp) (by simp) rfl (c1t _ (hh.app (by simp))) ?_
   refine Run.ops fun K J => ?_
   simp
   refine J _ _ _ (nv ?_); clear J
   refine Run.reg fun K J => ?_
   simp
   refine J _ _ _ (nv ?_); clear J
   by_cases he : e1 = 0
   ·skip
    refine cf (by simp [he]) ?_
    repeat (first | refine Run.skip ?_ | refine Run.opsNil ?_ | refine Run.inBlock ?_)
    refine hJ _ ?_ (by simp [he])
    simp
    repeat' first | exact wn | apply wc | exact wj _ | exact wr _ | exact wz _ | exact wo _ _ _ | exact wi (by omega)
   ·rw [if_pos ⟨h4, he⟩] at hr
    refine ct (by simp [he]) (nv ?_)
    repeat (first | refine nw ?_ | (refine Run.reg fun K J => ?_; simp; (try (simp (disch := omega) only [wrap_id])); refine J _ _ _ ?_; clear J) | refine ct rfl ?_ | refine cf rfl ?_ | refine Run.exit rfl ?_ | refine Run.ret ?_)
    exact Fin.ret' (h0 := h) (by simp) rfl hh rfl rfl rfl (Weak.refl _) rfl ⟨by rw [hr]; rfl, rfl⟩
 rw [if_neg hC] at hr
 clear hC c1t
 simp only [setMany, keepT, keepT.go, List.contains_cons]
 simp
 refine nv ?_
 refine Run.reg fun K J => ?_
 simp
 refine J _ _ _ (nv ?_); clear J
 have hlast : ∀ (hr0 : r = 0), True := fun _ => trivial
 rcases hk with rfl | rfl | rfl | hk
 ·rw [if_neg (by omega), if_neg (by omega), if_neg (by omega)] at hr
  refine Run.reg fun K J => ?_
  simp
  refine J _ _ _ (nv ?_); clear J
  refine cf (by simp) ?_
  refine Run.reg fun K J => ?_
  simp
  refine J _ _ _ (nv ?_); clear J
  refine cf (by simp) (nv ?_)
  refine Run.reg fun K J => ?_
  simp
  refine J _ _ _ (nv ?_); clear J
  refine cf (by simp) (nv ?_)
  refine Run.reg fun K J => ?_
  simp
  refine J _ _ _ (nv ?_); clear J
  refine cf (by simp) (nv ?_)
  repeat (first | refine nw ?_ | (refine Run.reg fun K J => ?_; simp; (try (simp (disch := omega) only [wrap_id])); refine J _ _ _ ?_; clear J) | refine ct rfl ?_ | refine cf rfl ?_ | refine Run.exit rfl ?_ | refine Run.ret ?_)
  exact Fin.ret' (h0 := h) (by simp) rfl hh rfl rfl rfl (Weak.refl _) rfl ⟨by rw [hr]; rfl, rfl⟩
 ·rw [if_pos (by omega)] at hr
  refine Run.reg fun K J => ?_
  simp
  refine J _ _ _ (nv ?_); clear J
  refine ct (by simp) (nv ?_)
  refine ct (by simp) (nv ?_)
  refine Run.reg fun K J => ?_
  simp
  refine J _ _ _ ?_; clear J
  refine rl rfl (by first | rfl | simp) (by simp) rfl (c1v _ (hh.app (by simp))) ?_
  refine Run.ops fun K J => ?_
  simp
  refine J _ _ _ (nv ?_); clear J
  refine Run.ret ?_
  exact Fin.ret' (h0 := h) (by simp) rfl hh rfl (by simp; rfl) rfl (Weak.refl _) (by simp) ⟨by rw [hr]; rfl, rfl⟩
 ·rw [if_pos (by omega)] at hr
  refine Run.reg fun K J => ?_
  simp
  refine J _ _ _ (nv ?_); clear J
  refine cf (by simp) ?_
  refine Run.reg fun K J => ?_
  simp
  refine J _ _ _ (nv ?_); clear J
  refine ct (by simp) (nv ?_)
  refine Run.reg fun K J => ?_
  simp
  refine J _ _ _ ?_; clear J
  refine rl rfl (by first | rfl | simp) (by simp) rfl (c1v _ (hh.app (by simp))) ?_
  refine Run.ops fun K J => ?_
  simp
  refine J _ _ _ (nv ?_); clear J
  refine Run.ret ?_
  exact Fin.ret' (h0 := h) (by simp) rfl hh rfl (by simp; rfl) rfl (Weak.refl _) (by simp) ⟨by rw [hr]; rfl, rfl⟩
 rcases hk with rfl | hk
 ·rw [if_neg (by omega), if_pos rfl] at hr
  have hl3 := hl3 rfl
  clear c1 c5 c1v
  simp only [show strPs [nm] = [[sP nm]] from rfl] at c2
  refine Run.reg fun K J => ?_
  simp
  refine J _ _ _ (nv ?_); clear J
  refine cf (by simp) ?_
  refine Run.reg fun K J => ?_
  simp
  refine J _ _ _ (nv ?_); clear J
  refine cf (by simp) (nv ?_)
  refine Run.reg fun K J => ?_
  simp
  refine J _ _ _ (nv ?_); clear J
  refine ct (by simp) (nv ?_)
  refine Run.reg fun K J => ?_
  simp
  refine J _ _ _ (nv ?_); clear J
  refine Run.reg fun K J => ?_
  simp
  refine J _ _ _ (nv ?_); clear J
  refine Run.loopS [0, 3, 5] (fun j : Nat => j ≤ cs.length ∧ firstE ((cs.map fun c => O2 c.ty).take j) = 0) (fun j => cs.length - j) (fun j => [(7, iA j)]) (fun _ => _) 0 (by simp [firstE]) ?_ rfl ?_
  ·simp
   repeat' first | exact wn | apply wc | exact wj _ | exact wr _ | exact wz _ | exact wo _ _ _ | exact wi (by omega)
  rintro j ⟨hj, hall⟩ IH
  simp
  refine nv ?_
  refine Run.reg fun K J => ?_
  simp
  refine J _ _ _ (nv ?_); clear J
  by_cases hjl : j < cs.length
  ·have hg : cs[j]? = some cs[j] := List.getElem?_eq_getElem hjl
   have c2 := c2 _ (hcs _ (List.getElem_mem hjl))
   have hstop := firstE_map_stop (f := fun c : Ct => O2 c.ty) hg hall
   have hgo := firstE_map_go (f := fun c : Ct => O2 c.ty) hg hall
   generalize O2 cs[j].ty = e at c2 hstop hgo
   generalize cs[j] = c at hg c2
   obtain ⟨x, ⟨k4, i4, n4, l4, s4⟩⟩ := c
   simp only [cells_mk, List.map] at c2
   refine ct (by simp [hjl]) (nv ?_)
   refine Run.draw [0, 0, 0, 0, 0, 0, 0, 0, 0, 0, 1] [0, 0, 0, 0, 0, 0, 0, 0, 0, 0, 0] [0, 0, 2, 0, 14, 30, 62, 0, 128, 511, 1023] [0, 1, 2, 3, 4, 5, 6, 7, 8, 9, 10] (by kernel_rfl) (by kernel_rfl) ?_
   refine DR.go fun K J => ?_
   simp [hg, Ct.cells]
   refine J _ _ _ _ ?_; clear J
   refine DR.call rfl rfl rfl (by simp) rfl (c2 _ (hh.app (by simp))) ?_
   refine DR.go fun K J => ?_
   simp
   refine J _ _ _ _ ?_; clear J
   change Run _ _ _ _ _ _ _ _
   refine nv ?_
   refine Run.reg fun K J => ?_
   simp
   refine J _ _ _ (nv ?_); clear J
   by_cases he : e = 0
   ·skip
    refine cf (by simp [he]) (nv ?_)
    refine Run.reg fun K J => ?_
    simp
    try (simp (disch := omega) only [wrap_id])
    refine J _ _ _ (nv ?_); clear J
    refine IH (j + 1) _ _ ⟨by omega, hgo he⟩ (by omega) ?_ rfl
    simp
    repeat' first | exact wn | apply wc | exact wj _ | exact wr _ | exact wz _ | exact wo _ _ _ | exact wi (by omega)
   ·rw [hstop he, if_pos he] at hr
    refine ct (by simp [he]) (nv ?_)
    repeat (first | refine nw ?_ | (refine Run.reg fun K J => ?_; simp; (try (simp (disch := omega) only [wrap_id])); refine J _ _ _ ?_; clear J) | refine ct rfl ?_ | refine cf rfl ?_ | refine Run.exit rfl ?_ | refine Run.ret ?_)
    exact Fin.ret' (h0 := h) (by simp) rfl hh rfl rfl rfl (Weak.refl _) rfl ⟨by rw [hr]; rfl, rfl⟩
  have hje : j = cs.length := by omega
  subst hje
  rw [List.take_of_length_le (by simp)] at hall
  rw [hall, if_neg (by simp)] at hr
  clear c2
  have hw : IntKind.i64.wrap ((NN.length : Int) - 1) = (NN.length : Int) - 1 := wrap_id (by omega) (by omega)
  have hnn : ¬ ((NN.length : Int) - 1 < 0) := by omega
  have hle : (NN.length : Int) - 1 ≤ NN.length := by omega
  have hone : 1 ≤ (NN.length : Int) := by omega
  have htn : ((NN.length : Int) - 1).toNat = NN.length - 1 := by omega
  have hstp : (strPs NN).take (NN.length - 1) = strPs (NN.take (NN.length - 1)) := by simp [strPs]
  refine cf (by simp) ?_
  refine Run.exit rfl ?_
  refine nv ?_
  refine Run.reg fun K J => ?_
  simp
  refine J _ _ _ ?_; clear J
  refine rl rfl (by first | rfl | simp) (by simp) rfl (c0 _ (hh.app (by simp))) ?_
  refine Run.ops fun K J => ?_
  simp
  refine J _ _ _ (nv ?_); clear J
  refine Run.reg fun K J => ?_
  simp [hw, hle, htn, hstp, hone]
  refine J _ _ _ (nv ?_); clear J
  refine Run.reg fun K J => ?_
  simp
  refine J _ _ _ ?_; clear J
  refine rl rfl (by first | rfl | simp) (by simp) rfl (c3r _ (hh.app (by simp))) ?_
  refine Run.ops fun K J => ?_
  simp
  refine J _ _ _ (nv ?_); clear J
  refine Run.reg fun K J => ?_
  simp
  refine J _ _ _ (nv ?_); clear J
  by_cases he3 : e3 = 0
  rotate_left
  ·rw [if_pos he3] at hr
   refine ct (by simp [he3]) (nv ?_)
   repeat (first | refine nw ?_ | (refine Run.reg fun K J => ?_; simp; (try (simp (disch := omega) only [wrap_id])); refine J _ _ _ ?_; clear J) | refine ct rfl ?_ | refine cf rfl ?_ | refine Run.exit rfl ?_ | refine Run.ret ?_)
   exact Fin.ret' (h0 := h) (by simp) rfl hh rfl rfl rfl (Weak.refl _) rfl ⟨by rw [hr]; rfl, rfl⟩
  rw [if_neg (by simp [he3])] at hr
  clear c3r c0
  refine cf (by simp [he3]) (nv ?_)
  refine Run.reg fun K J => ?_
  simp
  refine J _ _ _ (nv ?_); clear J
  refine Run.reg fun K J => ?_
  simp
  refine J _ _ _ (nv ?_); clear J
  refine Run.loopS [0, 3, 5] (fun j : Nat => j ≤ rr.length ∧ firstE ((rr.map O4).take j) = 0) (fun j => rr.length - j) (fun j => [(11, iA j)]) (fun _ => _) 0 (by simp [firstE]) ?_ rfl ?_
  ·simp
   repeat' first | exact wn | apply wc | exact wj _ | exact wr _ | exact wz _ | exact wo _ _ _ | exact wi (by omega)
  rintro j ⟨hj, hall⟩ IH
  simp
  refine nv ?_
  refine Run.reg fun K J => ?_
  simp
  refine J _ _ _ (nv ?_); clear J
  by_cases hjl : j < rr.length
  ·have hg : rr[j]? = some rr[j] := List.getElem?_eq_getElem hjl
   have c4 := c4 _ (hrr _ (List.getElem_mem hjl))
   have hstop := firstE_map_stop (f := O4) hg hall
   have hgo := firstE_map_go (f := O4) hg hall
   generalize O4 rr[j] = e at c4 hstop hgo
   generalize rr[j] = c at hg c4
   obtain ⟨k4, i4, n4, l4, s4⟩ := c
   simp only [cells_mk, List.map] at c4
   refine ct (by simp [hjl]) (nv ?_)
   refine Run.draw [0, 0, 0, 0, 0, 0, 0, 0, 0, 0, 0, 1] [0, 0, 0, 0, 0, 0, 0, 0, 0, 0, 0, 0] [0, 0, 2, 6, 0, 30, 62, 0, 128, 384, 1023, 2047] [0, 1, 2, 3, 4, 5, 6, 7, 8, 9, 10, 11] (by kernel_rfl) (by kernel_rfl) ?_
   refine DR.go fun K J => ?_
   simp [hg]
   refine J _ _ _ _ ?_; clear J
   refine DR.call rfl rfl rfl (by simp) rfl (c4 _ (hh.app (by simp))) ?_
   refine DR.go fun K J => ?_
   simp
   refine J _ _ _ _ ?_; clear J
   change Run _ _ _ _ _ _ _ _
   refine nv ?_
   refine Run.reg fun K J => ?_
   simp
   refine J _ _ _ (nv ?_); clear J
   by_cases he : e = 0
   ·skip
    refine cf (by simp [he]) (nv ?_)
    refine Run.reg fun K J => ?_
    simp
    try (simp (disch := omega) only [wrap_id])
    refine J _ _ _ (nv ?_); clear J
    refine IH (j + 1) _ _ ⟨by omega, hgo he⟩ (by omega) ?_ rfl
    simp
    repeat' first | exact wn | apply wc | exact wj _ | exact wr _ | exact wz _ | exact wo _ _ _ | exact wi (by omega)
   ·rw [hstop he] at hr
    refine ct (by simp [he]) (nv ?_)
    repeat (first | refine nw ?_ | (refine Run.reg fun K J => ?_; simp; (try (simp (disch := omega) only [wrap_id])); refine J _ _ _ ?_; clear J) | refine ct rfl ?_ | refine cf rfl ?_ | refine Run.exit rfl ?_ | refine Run.ret ?_)
    exact Fin.ret' (h0 := h) (by simp) rfl hh rfl rfl rfl (Weak.refl _) rfl ⟨by rw [hr]; rfl, rfl⟩
  have hje : j = rr.length := by omega
  subst hje
  rw [List.take_of_length_le (by simp)] at hall
  rw [hall] at hr
  refine cf (by simp) ?_
  refine Run.exit rfl ?_
  refine nv ?_
  repeat (first | refine nw ?_ | (refine Run.reg fun K J => ?_; simp; (try (simp (disch := omega) only [wrap_id])); refine J _ _ _ ?_; clear J) | refine ct rfl ?_ | refine cf rfl ?_ | refine Run.exit rfl ?_ | refine Run.ret ?_)
  exact Fin.ret' (h0 := h) (by simp) rfl hh rfl rfl rfl (Weak.refl _) rfl ⟨by rw [hr]; rfl, rfl⟩
 rcases hk with rfl | hk
 ·rw [if_neg (by omega), if_neg (by omega), if_pos rfl] at hr
  clear c1v c2 c3r c4
  refine Run.reg fun K J => ?_
  simp
  refine J _ _ _ (nv ?_); clear J
  refine cf (by simp) ?_
  refine Run.reg fun K J => ?_
  simp
  refine J _ _ _ (nv ?_); clear J
  refine cf (by simp) (nv ?_)
  refine Run.reg fun K J => ?_
  simp
  refine J _ _ _ (nv ?_); clear J
  refine cf (by simp) (nv ?_)
  refine Run.reg fun K J => ?_
  simp
  refine J _ _ _ (nv ?_); clear J
  refine ct (by simp) (nv ?_)
  refine Run.reg fun K J => ?_
  simp
  refine J _ _ _ (nv ?_); clear J
  refine Run.loopS [0, 3, 5] (fun j : Nat => j ≤ fs.length ∧ firstE ((fs.map fun c => O1 c.ty).take j) = 0) (fun j => fs.length - j) (fun j => [(13, iA j)]) (fun _ => _) 0 (by simp [firstE]) ?_ rfl ?_
  ·simp
   repeat' first | exact wn | apply wc | exact wj _ | exact wr _ | exact wz _ | exact wo _ _ _ | exact wi (by omega)
  rintro j ⟨hj, hall⟩ IH
  simp
  refine nv ?_
  refine Run.reg fun K J => ?_
  simp
  refine J _ _ _ (nv ?_); clear J
  by_cases hjl : j < fs.length
  ·have hg : fs[j]? = some fs[j] := List.getElem?_eq_getElem hjl
   have c1 := c1 _ (hfs _ (List.getElem_mem hjl)).1
   have hstop := firstE_map_stop (f := fun c : Fu => O1 c.ty) hg hall
   have hgo := firstE_map_go (f := fun c : Fu => O1 c.ty) hg hall
   generalize O1 fs[j].ty = e at c1 hstop hgo
   generalize fs[j] = c at hg c1
   obtain ⟨x, ⟨k4, i4, n4, l4, s4⟩, z, w⟩ := c
   simp only [cells_mk, List.map] at c1
   refine ct (by simp [hjl]) (nv ?_)
   refine Run.draw [0, 0, 0, 0, 0, 0, 0, 0, 0, 0, 1] [0, 0, 0, 0, 0, 0, 0, 0, 0, 0, 0] [0, 0, 2, 0, 14, 30, 62, 0, 128, 511, 1023] [0, 1, 2, 3, 4, 5, 6, 7, 8, 9, 10] (by kernel_rfl) (by kernel_rfl) ?_
   refine DR.go fun K J => ?_
   simp [hg, Fu.cells]
   refine J _ _ _ _ ?_; clear J
   refine DR.call rfl rfl rfl (by simp) rfl (c1 _ (hh.app (by simp))) ?_
   refine DR.go fun K J => ?_
   simp
   refine J _ _ _ _ ?_; clear J
   change Run _ _ _ _ _ _ _ _
   refine nv ?_
   refine Run.reg fun K J => ?_
   simp
   refine J _ _ _ (nv ?_); clear J
   by_cases he : e = 0
   ·skip
    refine cf (by simp [he]) (nv ?_)
    refine Run.reg fun K J => ?_
    simp
    try (simp (disch := omega) only [wrap_id])
    refine J _ _ _ (nv ?_); clear J
    refine IH (j + 1) _ _ ⟨by omega, hgo he⟩ (by omega) ?_ rfl
    simp
    repeat' first | exact wn | apply wc | exact wj _ | exact wr _ | exact wz _ | exact wo _ _ _ | exact wi (by omega)
   ·rw [hstop he, if_pos he] at hr
    refine ct (by simp [he]) (nv ?_)
    repeat (first | refine nw ?_ | (refine Run.reg fun K J => ?_; simp; (try (simp (disch := omega) only [wrap_id])); refine J _ _ _ ?_; clear J) | refine ct rfl ?_ | refine cf rfl ?_ | refine Run.exit rfl ?_ | refine Run.ret ?_)
    exact Fin.ret' (h0 := h) (by simp) rfl hh rfl rfl rfl (Weak.refl _) rfl ⟨by rw [hr]; rfl, rfl⟩
  have hje : j = fs.length := by omega
  subst hje
  rw [List.take_of_length_le (by simp)] at hall
  rw [hall, if_neg (by simp)] at hr
  clear c1
  refine cf (by simp) ?_
  refine Run.exit rfl ?_
  refine nv ?_
  refine Run.reg fun K J => ?_
  simp
  refine J _ _ _ ?_; clear J
  refine rl rfl (by first | rfl | simp) (by simp) rfl (c0 _ (hh.app (by simp))) ?_
  refine Run.ops fun K J => ?_
  simp
  refine J _ _ _ (nv ?_); clear J
  refine Run.reg fun K J => ?_
  simp
  refine J _ _ _ (nv ?_); clear J
  refine Run.loopS [0, 3, 5] (fun j : Nat => j ≤ fs.length ∧ firstE ((fs.map O5).take j) = 0) (fun j => fs.length - j) (fun j => [(15, iA j)]) (fun _ => _) 0 (by simp [firstE]) ?_ rfl ?_
  ·simp
   repeat' first | exact wn | apply wc | exact wj _ | exact wr _ | exact wz _ | exact wo _ _ _ | exact wi (by omega)
  rintro j ⟨hj, hall⟩ IH
  simp
  refine nv ?_
  refine Run.reg fun K J => ?_
  simp
  refine J _ _ _ (nv ?_); clear J
  by_cases hjl : j < fs.length
  ·have hg : fs[j]? = some fs[j] := List.getElem?_eq_getElem hjl
   have c5 := c5 _ (hfs _ (List.getElem_mem hjl))
   have hstop := firstE_map_stop (f := O5) hg hall
   have hgo := firstE_map_go (f := O5) hg hall
   generalize O5 fs[j] = e at c5 hstop hgo
   generalize fs[j] = c at hg c5
   obtain ⟨x, ⟨k4, i4, n4, l4, s4⟩, z, ⟨w1, ⟨w2, w3, w4, w5, w6⟩, w7, w8⟩⟩ := c
   simp only [Tr.av, Tr.cells, cells_mk, List.map, List.cons_append, List.nil_append, brPs_eq] at c5
   refine ct (by simp [hjl]) (nv ?_)
   refine Run.draw [0, 0, 0, 0, 0, 0, 0, 0, 0, 0, 0, 0, 0, 0, 1] [0, 0, 0, 0, 0, 0, 0, 0, 0, 0, 0, 0, 0, 0, 0] [0, 0, 2, 0, 14, 30, 62, 0, 128, 0, 896, 1920, 3968, 8191, 16383] [0, 1, 2, 3, 4, 5, 6, 7, 8, 9, 10, 11, 12, 13, 14] (by kernel_rfl) (by kernel_rfl) ?_
   refine DR.go fun K J => ?_
   simp [hg, Fu.cells, Tr.cells, brPs_eq]
   refine J _ _ _ _ ?_; clear J
   refine DR.call rfl rfl rfl (by simp) rfl (c5 _ (hh.app (by simp))) ?_
   refine DR.go fun K J => ?_
   simp
   refine J _ _ _ _ ?_; clear J
   change Run _ _ _ _ _ _ _ _
   refine nv ?_
   refine Run.reg fun K J => ?_
   simp
   refine J _ _ _ (nv ?_); clear J
   by_cases he : e = 0
   ·skip
    refine cf (by simp [he]) (nv ?_)
    refine Run.reg fun K J => ?_
    simp
    try (simp (disch := omega) only [wrap_id])
    refine J _ _ _ (nv ?_); clear J
    refine IH (j + 1) _ _ ⟨by omega, hgo he⟩ (by omega) ?_ rfl
    simp
    repeat' first | exact wn | apply wc | exact wj _ | exact wr _ | exact wz _ | exact wo _ _ _ | exact wi (by omega)
   ·rw [hstop he] at hr
    refine ct (by simp [he]) (nv ?_)
    repeat (first | refine nw ?_ | (refine Run.reg fun K J => ?_; simp; (try (simp (disch := omega) only [wrap_id])); refine J _ _ _ ?_; clear J) | refine ct rfl ?_ | refine cf rfl ?_ | refine Run.exit rfl ?_ | refine Run.ret ?_)
    exact Fin.ret' (h0 := h) (by simp) rfl hh rfl rfl rfl (Weak.refl _) rfl ⟨by rw [hr]; rfl, rfl⟩
  have hje : j = fs.length := by omega
  subst hje
  rw [List.take_of_length_le (by simp)] at hall
  rw [hall] at hr
  refine cf (by simp) ?_
  refine Run.exit rfl ?_
  refine nv ?_
  repeat (first | refine nw ?_ | (refine Run.reg fun K J => ?_; simp; (try (simp (disch := omega) only [wrap_id])); refine J _ _ _ ?_; clear J) | refine ct rfl ?_ | refine cf rfl ?_ | refine Run.exit rfl ?_ | refine Run.ret ?_)
  exact Fin.ret' (h0 := h) (by simp) rfl hh rfl rfl rfl (Weak.refl _) rfl ⟨by rw [hr]; rfl, rfl⟩
 obtain ⟨z0, z1, z2, z3, z4⟩ := hk
 rw [if_neg (by simp at z1 z2; omega), if_neg (by simpa using z3), if_neg (by simpa using z4)] at hr
 refine Run.reg fun K J => ?_
 simp [z1]
 refine J _ _ _ (nv ?_); clear J
 refine cf (by simp) ?_
 refine Run.reg fun K J => ?_
 simp [z2]
 refine J _ _ _ (nv ?_); clear J
 refine cf (by simp) (nv ?_)
 refine Run.reg fun K J => ?_
 simp [z3]
 refine J _ _ _ (nv ?_); clear J
 refine cf (by simp) (nv ?_)
 refine Run.reg fun K J => ?_
 simp [z4]
 refine J _ _ _ (nv ?_); clear J
 refine cf (by simp) (nv ?_)
 repeat (first | refine nw ?_ | (refine Run.reg fun K J => ?_; simp; (try (simp (disch := omega) only [wrap_id])); refine J _ _ _ ?_; clear J) | refine ct rfl ?_ | refine cf rfl ?_ | refine Run.exit rfl ?_ | refine Run.ret ?_)
 exact Fin.ret' (h0 := h) (by simp) rfl hh rfl rfl rfl (Weak.refl _) rfl ⟨by rw [hr]; rfl, rfl⟩

end Go.Proofs.YtcfcolkbeelegaaGreat
