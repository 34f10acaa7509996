import Derived.Test.YtcfcolkbeelegaaGreatOPJ
import Derived.Test.YtcfcolkbeelegaaGreatOG1
import Derived.Test.YtcfcolkbeelegaaGreatOFU
import Derived.Test.YtcfcolkbeelegaaGreatOLB
import Derived.Test.YtcfcolkbeelegaaGreatOFS
import Derived.Test.YtcfcolkbeelegaaGreatOX23
import Derived.Test.YtcfcolkbeelegaaGreatOX8
import Derived.Test.YtcfcolkbeelegaaGreatOPC
import Derived.Test.YtcfcolkbeelegaaGreatOPD
import Derived.Test.YtcfcolkbeelegaaGreatOFF
set_option maxRecDepth 8000
set_option maxHeartbeats 32000000

namespace Go.Proofs.YtcfcolkbeelegaaGreat

open Go Go.AI
abbrev zPt : List PV := [iP 0, sP [], .prim (.slice none 0 0)]
theorem zrow (m : Nat) : (List.replicate m [iA 0, AV.p (sP []), AV.p (.prim (.slice none 0 0))]).flatten = buf 3 (List.replicate m zPt) 0 := by
 unfold buf
 simp only [Nat.zero_mul, List.replicate_zero, List.append_nil]
 induction m with
 | zero => rfl
 | succ m ih => rw [List.replicate_succ, List.flatten_cons, ih, List.replicate_succ, List.flatten_cons]; rfl
theorem zPs_weak (m : Nat) : WeakPs (List.replicate m zPt) (ptPs (List.replicate m varPt)) := by
 induction m with
 | zero => simp only [List.replicate_zero, ptPs]; exact WeakPs.nil
 | succ m ih =>
  rw [List.replicate_succ, List.replicate_succ]
  simp only [ptPs]
  refine WeakPs.cons ?_ ih
  simp only [varPt, pcells_mk, ptPs]
  exact WeakPL.cons (WeakP.refl _) (WeakPL.cons (WeakP.refl _) (WeakPL.cons (WeakP.nil _) WeakPL.nil))
theorem zPt_len3 (m : Nat) : ∀ e ∈ List.replicate m zPt, e.length = 3 := by
 intro e he; rw [(List.mem_replicate.1 he).2]; rfl
theorem dc_fields (d : Dc) : ∃ dc : List AV, d.av = .agg dc ∧ dc.length = 23 ∧ dc.all oneA = true ∧ (∀ n, AV.underL n dc = true) ∧ dc[14]? = some (.p (.sl 6 (d.cs.map Ct.cells))) ∧ dc[13]? = some (iA d.fx) := by
 refine ⟨d.cells.map .p, rfl, by simp [dc_cells_len d], dc_one d, fun n => by simp, ?_, ?_⟩
 ·obtain ⟨a0, a1, a2, a3, a4, a5, a6, a7, a8, a9, a10, a11, a12, b0, b1, b2, b3, b4, b5, b6, b7, hsp⟩ := dc_split d
  rw [hsp]; rfl
 ·obtain ⟨a0, a1, a2, a3, a4, a5, a6, a7, a8, a9, a10, a11, a12, b0, b1, b2, b3, b4, b5, b6, b7, hsp⟩ := dc_split d
  rw [hsp]; rfl
theorem pcovered_any (env : List Dc) (hf : EnvFine env) (hg : Env.good env) (cls : List Cl) : ∀ (n : Nat) (v : List Pt), CovOk env cls v → openC cls v < n → ∀ h, WF h →
  ACalls Tryz.prog 77 [envA env, .p (.sl 6 (clPs cls)), .p (.sl 3 (ptPs v))] h fun o h' => o = .ret (bA (covF env cls n v)) ∧ h' = h := by
 intro n
 induction n with
 | zero => intro v _ h; omega
 | succ n ihn =>
 intro v hok hlt h hh
 have hfl := fld_le hf hg
 have hcl := hok.cl
 simp only [covF]
 refine ACalls.of_run Tryz.func77 rfl ?_
 simp only [Tryz.ntmps77, List.length_cons, List.length_nil]
 refine nv ?_
 refine Run.reg fun K hK => ?_
 simp
 refine hK _ _ _ (nv ?_); clear hK
 refine Run.reg fun K hK => ?_
 simp
 refine hK _ _ _ (nv ?_); clear hK
 refine Run.loopS [0, 1, 2, 21, 22] (fun j : Nat => j ≤ cls.length ∧ ∀ c ∈ cls.take j, (cmpPs 0 c.ps v).v = 1) (fun j => cls.length - j) (fun j => [(23, iA j)]) (fun _ => h) 0 (by simp) ?_ rfl ?_
 ·simp
  repeat' first | exact wn | apply wc | exact wj _ | exact wr _ | exact wz _ | exact wo _ _ _ | exact wi (by omega)
 rintro j ⟨hj, hall⟩ IH
 simp
 refine nv ?_
 refine Run.reg fun K hK => ?_
 simp
 refine hK _ _ _ (nv ?_); clear hK
 by_cases hjl : j < cls.length
 ·have hgj : cls[j]? = some cls[j] := List.getElem?_eq_getElem hjl
  have hmem := List.getElem_mem hjl
  have hsk := covC_skip (covF env cls n) env v cls j hall
  rw [drop_of_get hgj, covC] at hsk
  have htk : cls.take (j + 1) = cls.take j ++ [cls[j]] := List.take_succ_eq_append_getElem hjl
  generalize cls[j] = c at hgj hmem hsk htk
  obtain ⟨hc1, hc2, hc3⟩ := hok.cs c hmem
  have c1 := fun (g : Heap) (hw : WF g) => pcompare_any env hfl _ c.ps v (Nat.le_refl _) hc2 ⟨hc3, hc1, hok.vc⟩ g hw
  have hvv := cmpPs_v 0 c.ps v
  have h2 := cmp_two (l := c.ps) (vs := v)
  have hput := fun nm w hp jj x hx => CovOk.put hok hf hmem (nm := nm) (w := w) hp (j := jj) (x := x) hx
  have hnm := fun nm w (hp : PathC nm w c.ps v) => hp.name (env := env) hc1
  have hlast : (cmpPs 0 c.ps v).v = 1 → ∀ x ∈ cls.take (j + 1), (cmpPs 0 x.ps v).v = 1 := by
   intro e x hx
   rw [htk] at hx
   rcases List.mem_append.1 hx with hx | hx
   ·exact hall x hx
   ·simp at hx; subst hx; exact e
  obtain ⟨ps, ⟨k, i, nmt, ls, ks⟩⟩ := c
  simp only at c1 hvv h2 hsk hlast
  generalize cmpPs 0 ps v = r at c1 hvv h2 hsk hlast
  obtain ⟨e, w, nm⟩ := r
  simp only [vxA] at c1 hvv h2 hsk hlast
  rw [hsk]
  refine ct (by simp [hjl]) (nv ?_)
  refine Run.reg fun K hK => ?_
  simp [hgj, Cl.cells]
  refine hK _ _ _ (nv ?_); clear hK
  refine Run.reg fun K hK => ?_
  simp
  refine hK _ _ _ ?_; clear hK
  refine rc rfl (by first | rfl | simp) (by simp) rfl (c1 _ (hh.app (by simp))) ?_
  refine Run.ops fun K hK => ?_
  simp
  refine hK _ _ _ (nv ?_); clear hK
  refine Run.reg fun K hK => ?_
  simp
  refine hK _ _ _ (nv ?_); clear hK
  rcases hvv with rfl | rfl | rfl
  ·skip
   refine ct (by simp) (nv ?_)
   refine Run.reg fun K hK => ?_
   simp
   refine hK _ _ _ (nv ?_); clear hK
   refine Run.ret ?_
   exact Fin.ret' (h0 := h) (by simp) rfl hh rfl (by simp; rfl) rfl (Weak.refl _) (by simp) ⟨by simp, rfl⟩
  ·skip
   refine cf (by simp) (nv ?_)
   refine Run.reg fun K hK => ?_
   simp
   refine hK _ _ _ (nv ?_); clear hK
   refine ct (by simp) ?_
   refine Run.exit rfl ?_
   refine Run.keep [0, 1, 2, 21, 22, 23] ?_
   simp only [keepT, keepT.go, List.contains_cons]
   simp
   refine Run.cutAt 0 hh rfl (by omega) (by simp) (by simp) (by simp) rfl ?_
   simp
   have hsk1 : covC (covF env cls n) env v cls = covC (covF env cls n) env v (cls.drop (j + 1)) := by simpa using hsk
   rw [← hsk1]
   refine Run.reg fun K hK => ?_
   simp
   try (simp (disch := omega) only [wrap_id])
   refine hK _ _ _ (nv ?_); clear hK
   refine IH (j + 1) _ _ ⟨by omega, hlast rfl⟩ (by omega) ?_ (by simp)
   simp
   repeat' first | exact wn | apply wc | exact wj _ | exact wr _ | exact wz _ | exact wo _ _ _ | exact wi (by omega)
  ·have hp := h2 rfl
   have hput := hput nm w hp
   have hn := hnm nm w hp
   have hpo := hp.v.ok hfl hok.vl hok.vc
   have c2 := fun (g : Heap) (hw : WF g) => pfields_any g hw env nm hg hf.1
   have hff := fun (jj : Nat) (x : Ct) (hx : (fieldsZ env nm).1.cs[jj]? = some x) => fields_found hf hn hx
   have hdl : (fieldsZ env nm).1.cs.length ≤ 1048576 := by
    unfold fieldsZ
    split
    ·rcases famZ_cases hf nm with e | ⟨d, a, e, hm, _⟩
     ·rw [e]; simp [zDc]
     ·rw [e]; exact (hg.2 d hm).csl
    ·simp [zDc]
   simp only [show ¬ ((2 : Int) = 0) by omega, show ¬ ((2 : Int) = 1) by omega, if_false] at hsk ⊢
   generalize fieldsZ env nm = fz at c2 hff hput hdl
   obtain ⟨d, m, ok⟩ := fz
   simp only at c2 hff hput hdl
   obtain ⟨dc, hdc, hdcl, hone, hdu, hd14, _⟩ := dc_fields d
   have hd14' : ∀ q : 14 < dc.length, dc[14] = .p (.sl 6 (d.cs.map Ct.cells)) := fun q => by rw [List.getElem?_eq_getElem q] at hd14; exact Option.some.inj hd14
   have htd : List.take 23 dc = dc := List.take_of_length_le (by omega)
   have hpa : ∀ l : List AV, l.length = 23 → patch l 0 dc = dc := fun l hl' => by
    have := patch_full dc l [] (by rw [hl', hdcl])
    simpa only [List.append_nil] using this
   rw [hdc] at c2
   refine cf (by simp) (nv ?_)
   refine Run.reg fun K hK => ?_
   simp
   refine hK _ _ _ (nv ?_); clear hK
   refine cf (by simp) (nv ?_)
   refine Run.reg fun K hK => ?_
   simp
   refine hK _ _ _ ?_; clear hK
   refine rc rfl (by first | rfl | simp) (by simp) rfl (c2 _ (hh.app (by simp))) ?_
   refine Run.ops fun K hK => ?_
   simp [hdcl, hone, hpa]
   refine hK _ _ _ (nv ?_); clear hK
   refine Run.reg fun K hK => ?_
   simp [hd14', hdcl]
   refine hK _ _ _ (nv ?_); clear hK
   refine Run.loopS [0, 1, 2, 10, 47, 48] (fun jj : Nat => jj ≤ d.cs.length ∧ allTo (allCs (covF env cls n) d w v) jj = true) (fun jj => d.cs.length - jj) (fun jj => [(49, iA jj)])
    (fun _ => h ++ [some (.cells [.p (.sl 3 (ptPs ps)), iA k, iA i, .p (sP nmt), .p (.sl 2 (lvPs ls)), .p (.sl 5 (tmPs ks))]), some (.cells dc)]) 0 (by simp [allTo]) ?_ (by simp) ?_
   ·simp
    repeat' first | exact wn | apply wc | exact wj _ | exact wr _ | exact wz _ | exact wo _ _ _ | exact wi (by omega)
   rintro jj ⟨hjj, hallj⟩ IH2
   simp
   refine nv ?_
   refine Run.reg fun K hK => ?_
   simp
   refine hK _ _ _ (nv ?_); clear hK
   by_cases hjjl : jj < d.cs.length
   ·have hgx : d.cs[jj]? = some d.cs[jj] := List.getElem?_eq_getElem hjjl
    have hfx := hff jj _ hgx
    have hpx := hput jj _ hgx
    have hac : allCs (covF env cls n) d w v jj = covF env cls n (putPs w v (newPt d.cs[jj].nm (fldZ d jj).toNat)) := by unfold allCs; rw [hgx]
    generalize d.cs[jj] = x at hgx hfx hpx hac
    obtain ⟨xn, ⟨xk, xi, xm, xl, xs⟩⟩ := x
    simp only at hfx hpx hac
    have c3 := fun (g : Heap) (hw : WF g) => pfields_any g hw env xn hg hf.1
    have hmb := hfl xn
    rw [hfx] at c3 hmb
    simp only [hdc] at c3 hmb
    obtain ⟨mm, hmm⟩ : ∃ mm : Nat, fldZ d jj = mm := ⟨(fldZ d jj).toNat, by have := fldZ_nn d jj; omega⟩
    rw [hmm] at c3 hpx hac hmb
    simp only [Int.toNat_natCast] at hpx hac
    have c4 := fun (g : Heap) (hw : WF g) => prefined_any (newPt xn mm) w v hpo g hw
    have c5 := fun (g : Heap) (hw : WF g) => ihn _ hpx.1 (by omega) g hw
    rw [← hac] at c5
    generalize putPs w v (newPt xn mm) = v2 at c4 c5
    obtain ⟨b2, hb2⟩ : ∃ b2, allCs (covF env cls n) d w v jj = b2 := ⟨_, rfl⟩
    rw [hb2] at c5
    simp only [newPt, Pt.av, pcells_mk, List.map] at c4
    have hmb1 : mm * 48 ≤ 140737488355328 := by omega
    have hmb2 : mm ≤ 1099511627776 := by omega
    refine ct (by simp [hjjl]) (nv ?_)
    refine Run.reg fun K hK => ?_
    simp [hgx, Ct.cells]
    refine hK _ _ _ (nv ?_); clear hK
    refine Run.reg fun K hK => ?_
    simp
    refine hK _ _ _ ?_; clear hK
    refine rc rfl (by first | rfl | simp) (by simp) rfl (c3 _ (hh.app (by simp [hdu]))) ?_
    refine Run.ops fun K hK => ?_
    simp [hdcl, hone, hpa]
    refine hK _ _ _ (nv ?_); clear hK
    refine PC.Run.draw2 (pc := []) 3 5 [0, 0, 0, 0, 1, 1, 2] [0, 0, 0, 0, 0, 1, 2] [0, 1, 0, 4, 15, 12, 63] [2, 3, 5, 0, 1, 4, 6] [0, 0, 0, 1, 2, 0, 2] [0, 0, 0, 1, 0, 0, 2] [0, 1, 0, 36, 47, 0, 63] [5, 2, 3, 0, 1, 4, 6] (by kernel_rfl) (by kernel_rfl) (by kernel_rfl) (by kernel_rfl) ?_ ?_
    ·refine PC.DR.go fun K hK => ?_
     simp [hmb1, hmb2]
     refine hK _ _ _ _ ?_; clear hK
     change Run _ _ _ _ _ _ _ _
     refine nv ?_
     rw [zrow]
     refine Run.freezeAt (h.length + 5) 2 (id := h.length + 4) (n := mm) (cap := mm) (sz := 3) (m := 0) (es := List.replicate mm zPt) (by simp; rfl) (by simp) (by simp) (by omega) (zPt_len3 mm) (by simp) (by omega) ?_
     refine Run.weakH (h.length + 5) (cs := [iA 1, .p (sP xn), .p (.sl 3 (List.replicate mm zPt))]) (cs' := [iA 1, .p (sP xn), .p (.sl 3 (ptPs (List.replicate mm varPt)))]) (by simp) ?_ ?_
     ·exact WeakL.cons (Weak.refl _) (WeakL.cons (Weak.refl _) (WeakL.cons (WeakP.sl (zPs_weak mm)).av WeakL.nil))
     simp
     refine Run.reg fun K hK => ?_
     simp
     refine hK _ _ _ ?_; clear hK
     refine rc rfl (by first | rfl | simp) (by simp) rfl (c4 _ (hh.app (by simp [hdu]))) ?_
     refine Run.ops fun K hK => ?_
     simp
     refine hK _ _ _ ?_; clear hK
     refine rc rfl (by first | rfl | simp) (by simp) rfl (c5 _ (hh.app (by simp [hdu]))) ?_
     refine Run.ops fun K hK => ?_
     simp
     refine hK _ _ _ (nv ?_); clear hK
     cases b2 with
     | false =>
      rw [allTo_false hjjl hb2]
      refine ct (by simp) (nv ?_)
      refine Run.reg fun K hK => ?_
      simp
      refine hK _ _ _ (nv ?_); clear hK
      refine Run.ret ?_
      exact Fin.ret' (h0 := h) (by simp) rfl hh rfl (by simp; rfl) rfl (Weak.refl _) (by simp) ⟨by simp, rfl⟩
     | true =>
      refine cf (by simp) (nv ?_)
      refine Run.reg fun K hK => ?_
      simp
      try (simp (disch := omega) only [wrap_id])
      refine hK _ _ _ (nv ?_); clear hK
      refine Run.keep [0, 1, 2, 10, 47, 48, 49] ?_
      simp only [keepT, keepT.go, List.contains_cons]
      simp
      refine Run.cutAt 2 hh rfl (by omega) (by simp) (by simp) (by simp; exact hdu _) (by simp [underD]) ?_
      simp
      refine IH2 (jj + 1) _ _ ⟨by omega, by rw [allTo_succ, hallj, hb2]; rfl⟩ (by omega) ?_ (by simp)
      simp
      repeat' first | exact wn | apply wc | exact wj _ | exact wr _ | exact wz _ | exact wo _ _ _ | exact wi (by omega)
    ·refine PC.DR.go fun K hK => ?_
     simp [hmb1, hmb2]
     refine hK _ _ _ _ ?_; clear hK
     change Run _ _ _ _ _ _ _ _
     refine nv ?_
     rw [zrow]
     refine Run.freezeAt (h.length + 4) 2 (id := h.length + 5) (n := mm) (cap := mm) (sz := 3) (m := 0) (es := List.replicate mm zPt) (by simp; rfl) (by simp) (by simp) (by omega) (zPt_len3 mm) (by simp) (by omega) ?_
     refine Run.weakH (h.length + 4) (cs := [iA 1, .p (sP xn), .p (.sl 3 (List.replicate mm zPt))]) (cs' := [iA 1, .p (sP xn), .p (.sl 3 (ptPs (List.replicate mm varPt)))]) (by simp) ?_ ?_
     ·exact WeakL.cons (Weak.refl _) (WeakL.cons (Weak.refl _) (WeakL.cons (WeakP.sl (zPs_weak mm)).av WeakL.nil))
     simp
     refine Run.reg fun K hK => ?_
     simp
     refine hK _ _ _ ?_; clear hK
     refine rc rfl (by first | rfl | simp) (by simp) rfl (c4 _ (hh.app (by simp [hdu]))) ?_
     refine Run.ops fun K hK => ?_
     simp
     refine hK _ _ _ ?_; clear hK
     refine rc rfl (by first | rfl | simp) (by simp) rfl (c5 _ (hh.app (by simp [hdu]))) ?_
     refine Run.ops fun K hK => ?_
     simp
     refine hK _ _ _ (nv ?_); clear hK
     cases b2 with
     | false =>
      rw [allTo_false hjjl hb2]
      refine ct (by simp) (nv ?_)
      refine Run.reg fun K hK => ?_
      simp
      refine hK _ _ _ (nv ?_); clear hK
      refine Run.ret ?_
      exact Fin.ret' (h0 := h) (by simp) rfl hh rfl (by simp; rfl) rfl (Weak.refl _) (by simp) ⟨by simp, rfl⟩
     | true =>
      refine cf (by simp) (nv ?_)
      refine Run.reg fun K hK => ?_
      simp
      try (simp (disch := omega) only [wrap_id])
      refine hK _ _ _ (nv ?_); clear hK
      refine Run.keep [0, 1, 2, 10, 47, 48, 49] ?_
      simp only [keepT, keepT.go, List.contains_cons]
      simp
      refine Run.cutAt 2 hh rfl (by omega) (by simp) (by simp) (by simp; exact hdu _) (by simp [underD]) ?_
      simp
      refine IH2 (jj + 1) _ _ ⟨by omega, by rw [allTo_succ, hallj, hb2]; rfl⟩ (by omega) ?_ (by simp)
      simp
      repeat' first | exact wn | apply wc | exact wj _ | exact wr _ | exact wz _ | exact wo _ _ _ | exact wi (by omega)
   ·have hje : jj = d.cs.length := by omega
    subst hje
    rw [hallj]
    refine cf (by simp) ?_
    refine Run.exit rfl ?_
    refine nv ?_
    refine Run.reg fun K hK => ?_
    simp
    refine hK _ _ _ (nv ?_); clear hK
    refine Run.ret ?_
    exact Fin.ret' (h0 := h) (by simp) rfl hh rfl (by simp; rfl) rfl (Weak.refl _) (by simp) ⟨by simp, rfl⟩
 ·have hje : j = cls.length := by omega
  subst hje
  rw [List.take_length] at hall
  have hsk := covC_skip (covF env cls n) env v cls cls.length (by rw [List.take_length]; exact hall)
  rw [List.drop_length] at hsk
  rw [hsk]
  refine cf (by simp) ?_
  refine Run.exit rfl ?_
  refine nv ?_
  refine Run.reg fun K hK => ?_
  simp
  refine hK _ _ _ (nv ?_); clear hK
  refine Run.ret ?_
  exact Fin.ret' (by simp) rfl hh (List.append_nil _).symm rfl rfl (Weak.refl _) rfl ⟨rfl, rfl⟩


open Go Go.AI
def clBad (env : List Dc) (n : Nat) (c : Cl) : Bool := decide (c.ps.length ≠ n) || (chkPs env c.ps != 0)
def clOk (env : List Dc) (n : Nat) (cls : List Cl) (j : Nat) : Bool := match cls[j]? with | some c => !clBad env n c | none => true
def coversB (env : List Dc) (cls : List Cl) (v : List Pt) : Bool :=
 if (decide (chkPs env v ≠ 0) || hasKs 3 v) = true then false else if allTo (clOk env v.length cls) cls.length = false then false else covF env cls (openC cls v + 1) v
theorem clOk_at {env : List Dc} {n : Nat} {cls : List Cl} {j : Nat} {c : Cl} (h : cls[j]? = some c) : clOk env n cls j = !clBad env n c := by unfold clOk; rw [h]

structure PSmall (cls : List Cl) (v : List Pt) : Prop where
 cl : cls.length ≤ 1048576
 cs : ∀ c ∈ cls, Pt.sizes c.ps ≤ 1048576
 vs : Pt.sizes v ≤ 1048576
theorem psz_len : ∀ l : List Pt, l.length ≤ Pt.sizes l
 | [] => by simp
 | p :: l => by have := psz_len l; have := p.size_pos; simp only [Pt.sizes, List.length_cons]; omega
theorem cov76_any (env : List Dc) (hg : Env.good env) (hn : Env.short env) (v : List Pt) (_hv : v.length ≤ 1048576) (c : Cl) (hc : Pt.sizes c.ps ≤ 1048576) (h : Heap) (hh : WF h) (p q : Nat) (hp : h[p]? = some (some (.cells [.p (.sl 3 (ptPs v))]))) (hq : h[q]? = some (some (.cells [envA env]))) :
  ACalls Tryz.prog 76 [c.av, .ptr p 0, .ptr q 0] h fun o h' => o = .ret (bA (clBad env v.length c)) ∧ h' = h := by
 have hpl := (List.getElem?_eq_some_iff.1 hp).1
 have hql := (List.getElem?_eq_some_iff.1 hq).1
 have hp' : ∀ l : List (Option AO), (h ++ l)[p]? = some (some (.cells [.p (.sl 3 (ptPs v))])) := fun l => by rw [List.getElem?_append_left hpl]; exact hp
 have hq' : ∀ l : List (Option AO), (h ++ l)[q]? = some (some (.cells [envA env])) := fun l => by rw [List.getElem?_append_left hql]; exact hq
 have c1 := fun (g : Heap) (hw : WF g) => pcheck_any env hg hn _ c.ps (Nat.le_refl _) hc g hw
 have hcl := psz_len c.ps
 obtain ⟨ps, ⟨k, i, nm, ls, ks⟩⟩ := c
 simp only at c1 hc hcl
 obtain ⟨e, he⟩ : ∃ e, chkPs env ps = e := ⟨_, rfl⟩
 rw [he] at c1
 simp only [Cl.av, Cl.cells, cells_mk, List.map]
 refine ACalls.of_run Tryz.func76 rfl ?_
 simp only [Tryz.ntmps76, List.length_cons, List.length_nil]
 refine nv ?_
 refine Run.reg fun K hK => ?_
 simp
 refine hK _ _ _ (nv ?_); clear hK
 by_cases h1 : ps.length = v.length
 ·have hr : clBad env v.length ⟨ps, .mk k i nm ls ks⟩ = (e != 0) := by simp [clBad, h1, he]
  rw [hr]
  refine Run.reg fun K hK => ?_
  simp [hp', hq', h1]
  refine hK _ _ _ ?_; clear hK
  refine rc rfl (by first | rfl | simp) (by simp) rfl (c1 _ (hh.app (by simp))) ?_
  refine Run.ops fun K hK => ?_
  simp
  refine hK _ _ _ (nv ?_); clear hK
  refine Run.ret ?_
  exact Fin.ret' (h0 := h) (by simp) rfl hh rfl (by simp; rfl) rfl (Weak.refl _) (by simp) ⟨rfl, rfl⟩
 ·have hr : clBad env v.length ⟨ps, .mk k i nm ls ks⟩ = true := by simp [clBad, h1]
  rw [hr]
  have h1b : ((ps.length : Int) != (v.length : Int)) = true := by simp; omega
  refine Run.reg fun K hK => ?_
  simp [hp', h1b]
  refine hK _ _ _ (nv ?_); clear hK
  refine Run.ret ?_
  exact Fin.ret' (h0 := h) (by simp) rfl hh rfl (by simp; rfl) rfl (Weak.refl _) (by simp) ⟨by simp, rfl⟩
def anyBad (env : List Dc) (n : Nat) (cls : List Cl) : Bool := !allTo (clOk env n cls) cls.length
theorem ix129_any (env : List Dc) (hg : Env.good env) (hn : Env.short env) (v : List Pt) (cls : List Cl) (hs : PSmall cls v) (h : Heap) (hh : WF h) (p q : Nat) (hp : h[p]? = some (some (.cells [.p (.sl 3 (ptPs v))]))) (hq : h[q]? = some (some (.cells [envA env]))) :
  ACalls Tryz.prog 129 [.p (.sl 6 (clPs cls)), .fn (.func 76) [] [.ptr p 0, .ptr q 0]] h fun o h' => ∃ r : Int, o = .ret (iA r) ∧ h' = h ∧ decide (0 ≤ r) = anyBad env v.length cls := by
 have hcl := hs.cl
 have hvl := psz_len v
 have hvs := hs.vs
 refine ACalls.of_run Tryz.func129 rfl ?_
 simp only [Tryz.ntmps129, List.length_cons, List.length_nil]
 refine nv ?_
 refine Run.reg fun K hK => ?_
 simp
 refine hK _ _ _ (nv ?_); clear hK
 refine Run.reg fun K hK => ?_
 simp
 refine hK _ _ _ (nv ?_); clear hK
 refine Run.loopS [0, 1, 6, 7] (fun j : Nat => j ≤ cls.length ∧ allTo (clOk env v.length cls) j = true) (fun j => cls.length - j) (fun j => [(8, iA j)]) (fun _ => _) 0 (by simp [allTo]) ?_ rfl ?_
 ·simp
  repeat' first | exact wn | apply wc | exact wj _ | exact wr _ | exact wz _ | exact wo _ _ _ | exact wi (by omega)
 ·rintro j ⟨hj, hall⟩ IH
  simp
  refine nv ?_
  refine Run.reg fun K hK => ?_
  simp
  refine hK _ _ _ (nv ?_); clear hK
  by_cases hjl : j < cls.length
  ·have hgj : cls[j]? = some cls[j] := List.getElem?_eq_getElem hjl
   have hmem := List.getElem_mem hjl
   generalize cls[j] = c at hgj hmem
   have c1 := cov76_any env hg hn v (by omega) c (hs.cs c hmem) h hh p q hp hq
   have hok := clOk_at (env := env) (n := v.length) hgj
   obtain ⟨b, hb⟩ : ∃ b, clBad env v.length c = b := ⟨_, rfl⟩
   rw [hb] at c1 hok
   obtain ⟨ps, ⟨k, i, nm, ls, ks⟩⟩ := c
   simp only [Cl.av, Cl.cells, cells_mk, List.map] at c1
   refine ct (by simp [hjl]) (nv ?_)
   refine Run.reg fun K hK => ?_
   simp
   refine hK _ _ _ (nv ?_); clear hK
   refine Run.reg fun K hK => ?_
   simp [hgj, Cl.cells]
   refine hK _ _ _ ?_; clear hK
   refine Run.call rfl (by first | rfl | simp) (by simp) rfl (c1) ?_ ?_
   rotate_left
   ·rintro v h' ⟨hv, _⟩; cases hv
   rintro v h' ⟨hv, rfl⟩
   simp only [AOut.ret.injEq] at hv
   subst hv
   refine Run.ops fun K hK => ?_
   simp
   refine hK _ _ _ (nv ?_); clear hK
   cases b with
   | true =>
    refine ct (by simp) (nv ?_)
    repeat (first | refine nw ?_ | (refine Run.reg fun K hK => ?_; simp; (try (simp (disch := omega) only [wrap_id])); refine hK _ _ _ ?_; clear hK) | refine ct rfl ?_ | refine cf rfl ?_ | refine Run.exit rfl ?_ | refine Run.ret ?_)
    have := allTo_false hjl hok
    exact Fin.ret' (by simp) rfl hh (List.append_nil _).symm rfl rfl (Weak.refl _) rfl ⟨j, rfl, rfl, by simp [anyBad, this]⟩
   | false =>
    refine cf (by simp) (nv ?_)
    refine Run.reg fun K hK => ?_
    simp
    try (simp (disch := omega) only [wrap_id])
    refine hK _ _ _ (nv ?_); clear hK
    refine IH (j + 1) _ _ ⟨by omega, by rw [allTo_succ, hall, hok]; rfl⟩ (by omega) ?_ rfl
    simp
    repeat' first | exact wn | apply wc | exact wj _ | exact wr _ | exact wz _ | exact wo _ _ _ | exact wi (by omega)
  ·have hje : j = cls.length := by omega
   subst hje
   refine cf (by simp) ?_
   refine Run.exit rfl ?_
   refine nv ?_
   repeat (first | refine nw ?_ | (refine Run.reg fun K hK => ?_; simp; (try (simp (disch := omega) only [wrap_id])); refine hK _ _ _ ?_; clear hK) | refine ct rfl ?_ | refine cf rfl ?_ | refine Run.exit rfl ?_ | refine Run.ret ?_)
   exact Fin.ret' (by simp) rfl hh (List.append_nil _).symm rfl rfl (Weak.refl _) rfl ⟨-1, rfl, rfl, by simp [anyBad, hall]⟩
theorem cf75_any (env : List Dc) (hg : Env.good env) (hn : Env.short env) (v : List Pt) (cls : List Cl) (hs : PSmall cls v) (h : Heap) (hh : WF h) (p q : Nat) (hp : h[p]? = some (some (.cells [.p (.sl 3 (ptPs v))]))) (hq : h[q]? = some (some (.cells [envA env]))) :
  ACalls Tryz.prog 75 [.p (.sl 6 (clPs cls)), .fn (.func 76) [] [.ptr p 0, .ptr q 0]] h fun o h' => o = .ret (bA (anyBad env v.length cls)) ∧ h' = h := by
 refine ACalls.of_run Tryz.func75 rfl ?_
 simp only [Tryz.ntmps75, List.length_cons, List.length_nil]
 refine nv ?_
 refine Run.reg fun K hK => ?_
 simp
 refine hK _ _ _ (nv ?_); clear hK
 refine Run.reg fun K hK => ?_
 simp
 refine hK _ _ _ ?_; clear hK
 refine Run.call rfl rfl (by simp) rfl (ix129_any env hg hn v cls hs h hh p q hp hq) ?_ ?_
 ·rintro v h' ⟨r, hv, rfl, hr⟩
  simp only [AOut.ret.injEq] at hv
  subst hv
  refine Run.ops fun K hK => ?_
  simp
  refine hK _ _ _ (nv ?_); clear hK
  refine Run.ret ?_
  exact Fin.ret' (by simp) rfl hh (List.append_nil _).symm rfl rfl (Weak.of_eq (by simp [← hr])) rfl ⟨rfl, rfl⟩
 ·rintro v h' ⟨r, hv, _⟩; cases hv
theorem CovOk.of {env : List Dc} {cls : List Cl} {v : List Pt} (hs : PSmall cls v) (h1 : chkPs env v = 0) (h2 : allTo (clOk env v.length cls) cls.length = true) : CovOk env cls v := by
 refine ⟨hs.cl, fun c hc => ?_, Nat.le_trans (psz_len v) hs.vs, h1⟩
 obtain ⟨j, hj, rfl⟩ := List.mem_iff_getElem.1 hc
 have := allTo_at h2 hj
 rw [clOk_at (List.getElem?_eq_getElem hj)] at this
 simp [clBad] at this
 exact ⟨this.2, hs.cs _ hc, this.1⟩
theorem covers_any (env : List Dc) (hf : EnvFine env) (hg : Env.good env) (cls : List Cl) (v : List Pt) (hs : PSmall cls v) (h : Heap) (hh : WF h) :
  ACalls Tryz.prog 26 [envA env, .p (.sl 6 (clPs cls)), .p (.sl 3 (ptPs v))] h fun o h' => o = .ret (bA (coversB env cls v)) ∧ h' = h := by
 have c1 := fun (g : Heap) (hw : WF g) => pcheck_any env hg hf.1 _ v (Nat.le_refl _) hs.vs g hw
 have c2 := fun (g : Heap) (hw : WF g) => pcontains_any 3 _ v (Nat.le_refl _) hs.vs g hw
 have c3 := cf75_any env hg hf.1 v cls hs (h ++ [some (.cells [envA env]), some (.cells [.p (.sl 3 (ptPs v))])]) (hh.app (by simp)) (h.length + 1) h.length (by simp) (by simp)
 have c4 := fun h1 h2 (g : Heap) (hw : WF g) => pcovered_any env hf hg cls (openC cls v + 1) v (CovOk.of hs h1 h2) (Nat.lt_succ_self _) g hw
 obtain ⟨r, hr⟩ : ∃ r, coversB env cls v = r := ⟨_, rfl⟩
 rw [hr]
 unfold coversB at hr
 generalize chkPs env v = e at c1 c4 hr
 generalize hasKs 3 v = b1 at c2 hr
 unfold anyBad at c3
 generalize allTo (clOk env v.length cls) cls.length = b2 at c3 c4 hr
 generalize covF env cls (openC cls v + 1) v = b3 at c4 hr
 refine ACalls.of_run Tryz.func26 rfl ?_
 simp only [Tryz.ntmps26, List.length_cons, List.length_nil]
 refine nv ?_
 refine Run.reg fun K hK => ?_
 simp
 refine hK _ _ _ (nv ?_); clear hK
 refine Run.reg fun K hK => ?_
 simp
 refine hK _ _ _ ?_; clear hK
 refine rc rfl (by first | rfl | simp) (by simp) rfl (c1 _ (hh.app (by simp))) ?_
 by_cases h1 : e = 0
 ·subst h1
  refine Run.ops fun K hK => ?_
  simp
  refine hK _ _ _ ?_; clear hK
  refine rc rfl (by first | rfl | simp) (by simp) rfl (c2 _ (hh.app (by simp))) ?_
  refine Run.ops fun K hK => ?_
  simp
  refine hK _ _ _ (nv ?_); clear hK
  cases b1 with
  | true =>
   simp at hr
   rw [hr]
   refine ct (by simp) (nv ?_)
   refine Run.reg fun K hK => ?_
   simp
   refine hK _ _ _ (nv ?_); clear hK
   refine Run.ret ?_
   exact Fin.ret' (h0 := h) (by simp) rfl hh rfl (by simp; rfl) rfl (Weak.refl _) (by simp) ⟨by simp, rfl⟩
  | false =>
   refine cf (by simp) (nv ?_)
   refine Run.reg fun K hK => ?_
   simp
   refine hK _ _ _ ?_; clear hK
   refine Run.call rfl (by first | rfl | simp) (by simp) rfl (c3) ?_ ?_
   rotate_left
   ·rintro v h' ⟨hv, _⟩; cases hv
   rintro v h' ⟨hv, rfl⟩
   simp only [AOut.ret.injEq] at hv
   subst hv
   refine Run.ops fun K hK => ?_
   simp
   refine hK _ _ _ (nv ?_); clear hK
   cases b2 with
   | false =>
    simp at hr
    rw [hr]
    refine Run.reg fun K hK => ?_
    simp
    refine hK _ _ _ (nv ?_); clear hK
    refine Run.ret ?_
    exact Fin.ret' (h0 := h) (by simp) rfl hh rfl (by simp; rfl) rfl (Weak.refl _) (by simp) ⟨by simp, rfl⟩
   | true =>
    simp at hr
    subst hr
    refine Run.reg fun K hK => ?_
    simp
    refine hK _ _ _ ?_; clear hK
    refine rc rfl (by first | rfl | simp) (by simp) rfl (c4 rfl rfl _ (hh.app (by simp))) ?_
    refine Run.ops fun K hK => ?_
    simp
    refine hK _ _ _ (nv ?_); clear hK
    refine Run.ret ?_
    exact Fin.ret' (h0 := h) (by simp) rfl hh rfl (by simp; rfl) rfl (Weak.refl _) (by simp) ⟨by simp, rfl⟩
 ·simp [h1] at hr
  rw [hr]
  have h1b : (e != (0 : Int)) = true := by simpa using h1
  refine Run.ops fun K hK => ?_
  simp [h1b]
  refine hK _ _ _ (nv ?_); clear hK
  refine ct (by simp) (nv ?_)
  refine Run.reg fun K hK => ?_
  simp
  refine hK _ _ _ (nv ?_); clear hK
  refine Run.ret ?_
  exact Fin.ret' (h0 := h) (by simp) rfl hh rfl (by simp; rfl) rfl (Weak.refl _) (by simp) ⟨by simp, rfl⟩


open Go Go.AI

open Rows (uptoBulk uptoBulkAll)

open Go.ChangeShapes Go.WideShapes Go.ChangeAt Go.RowKit

section

variable {H : Type} {enc : TypeId × Value → H} {W : World} {sp : Nat → Bool} {held : Bool}
theorem cells53 : Tryz.prog.cellsOf 53 = 6 := by kernel_rfl
theorem cells74 : Tryz.prog.cellsOf 74 = 3 := by kernel_rfl
theorem ptPs_eq' (l : List Pt) : ptPs l = l.map Pt.cells := by
 induction l with
 | nil => rfl
 | cons p l ih => simp only [ptPs, ih, List.map_cons]

end

end Go.Proofs.YtcfcolkbeelegaaGreat
