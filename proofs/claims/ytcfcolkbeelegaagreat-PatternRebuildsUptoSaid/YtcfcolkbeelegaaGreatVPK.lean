import Derived.Test.YtcfcolkbeelegaaGreatVPJ
import Derived.Test.YtcfcolkbeelegaaGreatVX0
import Derived.Test.YtcfcolkbeelegaaGreatVFU

namespace Go.Proofs.YtcfcolkbeelegaaGreat

open Go Go.AI
abbrev zPt : List PV := [iP 0, sP [], .prim (.slice none 0 0)]
theorem zrow (m : Nat) : (List.replicate m [iA 0, AV.p (sP []), AV.p (.prim (.slice none 0 0))]).flatten = buf 3 (List.replicate m zPt) 0 := by
 unfold buf
 simp only [Nat.zero_mul, List.replicate_zero, List.append_nil]
 induction m with
 | zero => rfl
 | succ m ih => rw [List.replicate_succ, List.flatten_cons, ih, List.replicate_succ, List.flatten_cons]; rfl
theorem zPs_weak (m : Nat) : WeakPs (List.replicate m zPt) (ptPs (List.replicate m varPt)) := by
 induction m with
 | zero => simp only [List.replicate_zero, ptPs]; exact WeakPs.nil
 | succ m ih =>
  rw [List.replicate_succ, List.replicate_succ]
  simp only [ptPs]
  refine WeakPs.cons ?_ ih
  simp only [varPt, pcells_mk, ptPs]
  exact WeakPL.cons (WeakP.refl _) (WeakPL.cons (WeakP.refl _) (WeakPL.cons (WeakP.nil _) WeakPL.nil))
theorem zPt_len3 (m : Nat) : ∀ e ∈ List.replicate m zPt, e.length = 3 := by
 intro e he; rw [(List.mem_replicate.1 he).2]; rfl
theorem dc_fields (d : Dc) : ∃ dc : List AV, d.av = .agg dc ∧ dc.length = 23 ∧ dc.all oneA = true ∧ (∀ n, AV.underL n dc = true) ∧ dc[14]? = some (.p (.sl 6 (d.cs.map Ct.cells))) ∧ dc[13]? = some (iA d.fx) := by
 refine ⟨d.cells.map .p, rfl, by simp [dc_cells_len d], dc_one d, fun n => by simp, ?_, ?_⟩
 ·obtain ⟨a0, a1, a2, a3, a4, a5, a6, a7, a8, a9, a10, a11, a12, b0, b1, b2, b3, b4, b5, b6, b7, hsp⟩ := dc_split d
  rw [hsp]; rfl
 ·obtain ⟨a0, a1, a2, a3, a4, a5, a6, a7, a8, a9, a10, a11, a12, b0, b1, b2, b3, b4, b5, b6, b7, hsp⟩ := dc_split d
  rw [hsp]; rfl
set_option maxRecDepth 8000 in
set_option maxHeartbeats 32000000 in
theorem pcovered_any (env : List Dc) (hf : EnvFine env) (hg : Env.good env) (cls : List Cl) : ∀ (n : Nat) (v : List Pt), CovOk env cls v → openC cls v < n → ∀ h, WF h →
  ACalls Tryz.prog 77 [envA env, .p (.sl 6 (clPs cls)), .p (.sl 3 (ptPs v))] h fun o h' => o = .ret (bA (covF env cls n v)) ∧ h' = h := by
 intro n
 induction n with
 | zero => intro v _ h; omega
 | succ n ihn =>
 intro v hok hlt h hh
 have hfl := fld_le hf hg
 have hcl := hok.cl
 simp only [covF]
 refine ACalls.of_run Tryz.func77 rfl ?_
 simp only [Tryz.ntmps77, List.length_cons, List.length_nil]
 refine nv ?_
 refine Run.reg fun K J => ?_
 simp
 refine J _ _ _ (nv ?_); clear J
 refine Run.reg fun K J => ?_
 simp
 refine J _ _ _ (nv ?_); clear J
 refine Run.loopS [0, 1, 2, 21, 22] (fun j : Nat => j ≤ cls.length ∧ ∀ c ∈ cls.take j, (cmpPs 0 c.ps v).v = 1) (fun j => cls.length - j) (fun j => [(23, iA j)]) (fun _ => h) 0 (by simp) ?_ rfl ?_
 ·simp
  repeat' first | exact wn | apply wc | exact wj _ | exact wr _ | exact wz _ | exact wo _ _ _ | exact wi (by omega)
 rintro j ⟨hj, hall⟩ IH
 simp
 refine nv ?_
 refine Run.reg fun K J => ?_
 simp
 refine J _ _ _ (nv ?_); clear J
 by_cases hjl : j < cls.length
 ·have hgj : cls[j]? = some cls[j] := List.getElem?_eq_getElem hjl
  have hmem := List.getElem_mem hjl
  have hsk := covC_skip (covF env cls n) env v cls j hall
  rw [drop_of_get hgj, covC] at hsk
  have htk : cls.take (j + 1) = cls.take j ++ [cls[j]] := List.take_succ_eq_append_getElem hjl
  generalize cls[j] = c at hgj hmem hsk htk
  obtain ⟨hc1, hc2, hc3⟩ := hok.cs c hmem
  have c1 := fun (g : Heap) (hw : WF g) => pcompare_any env hfl _ c.ps v (Nat.le_refl _) hc2 ⟨hc3, hc1, hok.vc⟩ g hw
  have hvv := cmpPs_v 0 c.ps v
  have h2 := cmp_two (l := c.ps) (vs := v)
  have hput := fun nm w hp jj x hx => CovOk.put hok hf hmem (nm := nm) (w := w) hp (j := jj) (x := x) hx
  have hnm := fun nm w (hp : PathC nm w c.ps v) => hp.name (env := env) hc1
  have hlast : (cmpPs 0 c.ps v).v = 1 → ∀ x ∈ cls.take (j + 1), (cmpPs 0 x.ps v).v = 1 := by
   intro e x hx
   rw [htk] at hx
   rcases List.mem_append.1 hx with hx | hx
   ·exact hall x hx
   ·simp at hx; subst hx; exact e
  obtain ⟨ps, ⟨k, i, nmt, ls, ks⟩⟩ := c
  simp only at c1 hvv h2 hsk hlast
  generalize cmpPs 0 ps v = r at c1 hvv h2 hsk hlast
  obtain ⟨e, w, nm⟩ := r
  simp only [vxA] at c1 hvv h2 hsk hlast
  rw [hsk]
  refine ct (by simp [hjl]) (nv ?_)
  refine Run.reg fun K J => ?_
  simp [hgj, Cl.cells]
  refine J _ _ _ (nv ?_); clear J
  refine Run.reg fun K J => ?_
  simp
  refine J _ _ _ ?_; clear J
  refine rl rfl (by first | rfl | simp) (by simp) rfl (c1 _ (hh.app (by simp))) ?_
  refine Run.ops fun K J => ?_
  simp
  refine J _ _ _ (nv ?_); clear J
  refine Run.reg fun K J => ?_
  simp
  refine J _ _ _ (nv ?_); clear J
  rcases hvv with rfl | rfl | rfl
  ·skip
   refine ct (by simp) (nv ?_)
   refine Run.reg fun K J => ?_
   simp
   refine J _ _ _ (nv ?_); clear J
   refine Run.ret ?_
   exact Fin.ret' (h0 := h) (by simp) rfl hh rfl (by simp; rfl) rfl (Weak.refl _) (by simp) ⟨by simp, rfl⟩
  ·skip
   refine cf (by simp) (nv ?_)
   refine Run.reg fun K J => ?_
   simp
   refine J _ _ _ (nv ?_); clear J
   refine ct (by simp) ?_
   refine Run.exit rfl ?_
   refine Run.keep [0, 1, 2, 21, 22, 23] ?_
   simp only [keepT, keepT.go, List.contains_cons]
   simp
   refine Run.cutAt 0 hh rfl (by omega) (by simp) (by simp) (by simp) rfl ?_
   simp
   have hsk1 : covC (covF env cls n) env v cls = covC (covF env cls n) env v (cls.drop (j + 1)) := by simpa using hsk
   rw [← hsk1]
   refine Run.reg fun K J => ?_
   simp
   try (simp (disch := omega) only [wrap_id])
   refine J _ _ _ (nv ?_); clear J
   refine IH (j + 1) _ _ ⟨by omega, hlast rfl⟩ (by omega) ?_ (by simp)
   simp
   repeat' first | exact wn | apply wc | exact wj _ | exact wr _ | exact wz _ | exact wo _ _ _ | exact wi (by omega)
  ·have hp := h2 rfl
   have hput := hput nm w hp
   have hn := hnm nm w hp
   have hpo := hp.v.ok hfl hok.vl hok.vc
   have c2 := fun (g : Heap) (hw : WF g) => pfields_any g hw env nm hg hf.1
   have hff := fun (jj : Nat) (x : Ct) (hx : (fieldsZ env nm).1.cs[jj]? = some x) => fields_found hf hn hx
   have hdl : (fieldsZ env nm).1.cs.length ≤ 1048576 := by
    unfold fieldsZ
    split
    ·rcases famZ_cases hf nm with e | ⟨d, a, e, hm, _⟩
     ·rw [e]; simp [zDc]
     ·rw [e]; exact (hg.2 d hm).csl
    ·simp [zDc]
   simp only [show ¬ ((2 : Int) = 0) by omega, show ¬ ((2 : Int) = 1) by omega, if_false] at hsk ⊢
   generalize fieldsZ env nm = fz at c2 hff hput hdl
   obtain ⟨d, m, ok⟩ := fz
   simp only at c2 hff hput hdl
   obtain ⟨dc, hdc, hdcl, hone, hdu, hd14, _⟩ := dc_fields d
   have hd14' : ∀ q : 14 < dc.length, dc[14] = .p (.sl 6 (d.cs.map Ct.cells)) := fun q => by rw [List.getElem?_eq_getElem q] at hd14; exact Option.some.inj hd14
   have htd : List.take 23 dc = dc := List.take_of_length_le (by omega)
   have hpa : ∀ l : List AV, l.length = 23 → patch l 0 dc = dc := fun l hl' => by
    have := patch_full dc l [] (by rw [hl', hdcl])
    simpa only [List.append_nil] using this
   rw [hdc] at c2
   refine cf (by simp) (nv ?_)
   refine Run.reg fun K J => ?_
   simp
   refine J _ _ _ (nv ?_); clear J
   refine cf (by simp) (nv ?_)
   refine Run.reg fun K J => ?_
   simp
   refine J _ _ _ ?_; clear J
   refine rl rfl (by first | rfl | simp) (by simp) rfl (c2 _ (hh.app (by simp))) ?_
   refine Run.ops fun K J => ?_
   simp [hdcl, hone, hpa]
   refine J _ _ _ (nv ?_); clear J
   refine Run.reg fun K J => ?_
   simp [hd14', hdcl]
   refine J _ _ _ (nv ?_); clear J
   refine Run.loopS [0, 1, 2, 10, 47, 48] (fun jj : Nat => jj ≤ d.cs.length ∧ allTo (allCs (covF env cls n) d w v) jj = true) (fun jj => d.cs.length - jj) (fun jj => [(49, iA jj)])
    (fun _ => h ++ [some (.cells [.p (.sl 3 (ptPs ps)), iA k, iA i, .p (sP nmt), .p (.sl 2 (lvPs ls)), .p (.sl 5 (tmPs ks))]), some (.cells dc)]) 0 (by simp [allTo]) ?_ (by simp) ?_
   ·simp
    repeat' first | exact wn | apply wc | exact wj _ | exact wr _ | exact wz _ | exact wo _ _ _ | exact wi (by omega)
   rintro jj ⟨hjj, hallj⟩ IH2
   simp
   refine nv ?_
   refine Run.reg fun K J => ?_
   simp
   refine J _ _ _ (nv ?_); clear J
   by_cases hjjl : jj < d.cs.length
   ·have hgx : d.cs[jj]? = some d.cs[jj] := List.getElem?_eq_getElem hjjl
    have hfx := hff jj _ hgx
    have hpx := hput jj _ hgx
    have hac : allCs (covF env cls n) d w v jj = covF env cls n (putPs w v (newPt d.cs[jj].nm (fldZ d jj).toNat)) := by unfold allCs; rw [hgx]
    generalize d.cs[jj] = x at hgx hfx hpx hac
    obtain ⟨xn, ⟨xk, xi, xm, xl, xs⟩⟩ := x
    simp only at hfx hpx hac
    have c3 := fun (g : Heap) (hw : WF g) => pfields_any g hw env xn hg hf.1
    have hmb := hfl xn
    rw [hfx] at c3 hmb
    simp only [hdc] at c3 hmb
    obtain ⟨mm, hmm⟩ : ∃ mm : Nat, fldZ d jj = mm := ⟨(fldZ d jj).toNat, by have := fldZ_nn d jj; omega⟩
    rw [hmm] at c3 hpx hac hmb
    simp only [Int.toNat_natCast] at hpx hac
    have c4 := fun (g : Heap) (hw : WF g) => prefined_any (newPt xn mm) w v hpo g hw
    have c5 := fun (g : Heap) (hw : WF g) => ihn _ hpx.1 (by omega) g hw
    rw [← hac] at c5
    generalize putPs w v (newPt xn mm) = v2 at c4 c5
    obtain ⟨b2, hb2⟩ : ∃ b2, allCs (covF env cls n) d w v jj = b2 := ⟨_, rfl⟩
    rw [hb2] at c5
    simp only [newPt, Pt.av, pcells_mk, List.map] at c4
    have hmb1 : mm * 48 ≤ 140737488355328 := by omega
    have hmb2 : mm ≤ 1099511627776 := by omega
    refine ct (by simp [hjjl]) (nv ?_)
    refine Run.reg fun K J => ?_
    simp [hgx, Ct.cells]
    refine J _ _ _ (nv ?_); clear J
    refine Run.reg fun K J => ?_
    simp
    refine J _ _ _ ?_; clear J
    refine rl rfl (by first | rfl | simp) (by simp) rfl (c3 _ (hh.app (by simp [hdu]))) ?_
    refine Run.ops fun K J => ?_
    simp [hdcl, hone, hpa]
    refine J _ _ _ (nv ?_); clear J
    refine PC.Run.draw2 (pc := []) 3 5 [0, 0, 0, 0, 1, 1, 2] [0, 0, 0, 0, 0, 1, 2] [0, 1, 0, 4, 15, 12, 63] [2, 3, 5, 0, 1, 4, 6] [0, 0, 0, 1, 2, 0, 2] [0, 0, 0, 1, 0, 0, 2] [0, 1, 0, 36, 47, 0, 63] [5, 2, 3, 0, 1, 4, 6] (by kernel_rfl) (by kernel_rfl) (by kernel_rfl) (by kernel_rfl) ?_ ?_
    ·refine PC.DR.go fun K J => ?_
     simp [hmb1, hmb2]
     refine J _ _ _ _ ?_; clear J
     change Run _ _ _ _ _ _ _ _
     refine nv ?_
     rw [zrow]
     refine Run.freezeAt (h.length + 5) 2 (id := h.length + 4) (n := mm) (cap := mm) (sz := 3) (m := 0) (es := List.replicate mm zPt) (by simp; rfl) (by simp) (by simp) (by omega) (zPt_len3 mm) (by simp) (by omega) ?_
     refine Run.weakH (h.length + 5) (cs := [iA 1, .p (sP xn), .p (.sl 3 (List.replicate mm zPt))]) (cs' := [iA 1, .p (sP xn), .p (.sl 3 (ptPs (List.replicate mm varPt)))]) (by simp) ?_ ?_
     ·exact WeakL.cons (Weak.refl _) (WeakL.cons (Weak.refl _) (WeakL.cons (WeakP.sl (zPs_weak mm)).av WeakL.nil))
     simp
     refine Run.reg fun K J => ?_
     simp
     refine J _ _ _ ?_; clear J
     refine rl rfl (by first | rfl | simp) (by simp) rfl (c4 _ (hh.app (by simp [hdu]))) ?_
     refine Run.ops fun K J => ?_
     simp
     refine J _ _ _ ?_; clear J
     refine rl rfl (by first | rfl | simp) (by simp) rfl (c5 _ (hh.app (by simp [hdu]))) ?_
     refine Run.ops fun K J => ?_
     simp
     refine J _ _ _ (nv ?_); clear J
     cases b2 with
     | false =>
      rw [allTo_false hjjl hb2]
      refine ct (by simp) (nv ?_)
      refine Run.reg fun K J => ?_
      simp
      refine J _ _ _ (nv ?_); clear J
      refine Run.ret ?_
      exact Fin.ret' (h0 := h) (by simp) rfl hh rfl (by simp; rfl) rfl (Weak.refl _) (by simp) ⟨by simp, rfl⟩
     | true =>
      refine cf (by simp) (nv ?_)
      refine Run.reg fun K J => ?_
      simp
      try (simp (disch := omega) only [wrap_id])
      refine J _ _ _ (nv ?_); clear J
      refine Run.keep [0, 1, 2, 10, 47, 48, 49] ?_
      simp only [keepT, keepT.go, List.contains_cons]
      simp
      refine Run.cutAt 2 hh rfl (by omega) (by simp) (by simp) (by simp; exact hdu _) (by simp [underD]) ?_
      simp
      refine IH2 (jj + 1) _ _ ⟨by omega, by rw [allTo_succ, hallj, hb2]; rfl⟩ (by omega) ?_ (by simp)
      simp
      repeat' first | exact wn | apply wc | exact wj _ | exact wr _ | exact wz _ | exact wo _ _ _ | exact wi (by omega)
    ·refine PC.DR.go fun K J => ?_
     simp [hmb1, hmb2]
     refine J _ _ _ _ ?_; clear J
     change Run _ _ _ _ _ _ _ _
     refine nv ?_
     rw [zrow]
     refine Run.freezeAt (h.length + 4) 2 (id := h.length + 5) (n := mm) (cap := mm) (sz := 3) (m := 0) (es := List.replicate mm zPt) (by simp; rfl) (by simp) (by simp) (by omega) (zPt_len3 mm) (by simp) (by omega) ?_
     refine Run.weakH (h.length + 4) (cs := [iA 1, .p (sP xn), .p (.sl 3 (List.replicate mm zPt))]) (cs' := [iA 1, .p (sP xn), .p (.sl 3 (ptPs (List.replicate mm varPt)))]) (by simp) ?_ ?_
     ·exact WeakL.cons (Weak.refl _) (WeakL.cons (Weak.refl _) (WeakL.cons (WeakP.sl (zPs_weak mm)).av WeakL.nil))
     simp
     refine Run.reg fun K J => ?_
     simp
     refine J _ _ _ ?_; clear J
     refine rl rfl (by first | rfl | simp) (by simp) rfl (c4 _ (hh.app (by simp [hdu]))) ?_
     refine Run.ops fun K J => ?_
     simp
     refine J _ _ _ ?_; clear J
     refine rl rfl (by first | rfl | simp) (by simp) rfl (c5 _ (hh.app (by simp [hdu]))) ?_
     refine Run.ops fun K J => ?_
     simp
     refine J _ _ _ (nv ?_); clear J
     cases b2 with
     | false =>
      rw [allTo_false hjjl hb2]
      refine ct (by simp) (nv ?_)
      refine Run.reg fun K J => ?_
      simp
      refine J _ _ _ (nv ?_); clear J
      refine Run.ret ?_
      exact Fin.ret' (h0 := h) (by simp) rfl hh rfl (by simp; rfl) rfl (Weak.refl _) (by simp) ⟨by simp, rfl⟩
     | true =>
      refine cf (by simp) (nv ?_)
      refine Run.reg fun K J => ?_
      simp
      try (simp (disch := omega) only [wrap_id])
      refine J _ _ _ (nv ?_); clear J
      refine Run.keep [0, 1, 2, 10, 47, 48, 49] ?_
      simp only [keepT, keepT.go, List.contains_cons]
      simp
      refine Run.cutAt 2 hh rfl (by omega) (by simp) (by simp) (by simp; exact hdu _) (by simp [underD]) ?_
      simp
      refine IH2 (jj + 1) _ _ ⟨by omega, by rw [allTo_succ, hallj, hb2]; rfl⟩ (by omega) ?_ (by simp)
      simp
      repeat' first | exact wn | apply wc | exact wj _ | exact wr _ | exact wz _ | exact wo _ _ _ | exact wi (by omega)
   ·have hje : jj = d.cs.length := by omega
    subst hje
    rw [hallj]
    refine cf (by simp) ?_
    refine Run.exit rfl ?_
    refine nv ?_
    refine Run.reg fun K J => ?_
    simp
    refine J _ _ _ (nv ?_); clear J
    refine Run.ret ?_
    exact Fin.ret' (h0 := h) (by simp) rfl hh rfl (by simp; rfl) rfl (Weak.refl _) (by simp) ⟨by simp, rfl⟩
 ·have hje : j = cls.length := by omega
  subst hje
  rw [List.take_length] at hall
  have hsk := covC_skip (covF env cls n) env v cls cls.length (by rw [List.take_length]; exact hall)
  rw [List.drop_length] at hsk
  rw [hsk]
  refine cf (by simp) ?_
  refine Run.exit rfl ?_
  refine nv ?_
  refine Run.reg fun K J => ?_
  simp
  refine J _ _ _ (nv ?_); clear J
  refine Run.ret ?_
  exact Fin.ret' (by simp) rfl hh (List.append_nil _).symm rfl rfl (Weak.refl _) rfl ⟨rfl, rfl⟩

end Go.Proofs.YtcfcolkbeelegaaGreat
