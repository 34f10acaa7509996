/-
  Covered vectors: the reference's walk.
-/
import Derived.Test.YtcfcolkbeelegaaGreatMPK
import Derived.Test.YtcfcolkbeelegaaGreatMLB
import Derived.Test.YtcfcolkbeelegaaGreatMX23
import Derived.Test.YtcfcolkbeelegaaGreatMX8

namespace Go.Proofs.YtcfcolkbeelegaaGreat

open Go Go.AI
theorem fam_of_fields {env : List Dc} {nm : List UInt8} (h : (fieldsZ env nm).2.2 = true) : ∃ a : Int, famZ env nm = ((fieldsZ env nm).1, a, true) := by
 unfold fieldsZ at h ⊢
 split at h
 ·rename_i hc
  rw [if_pos hc]
  exact ⟨(famZ env nm).2.1, by rw [← hc.1]⟩
 ·simp at h
theorem fieldsZ_good {env : List Dc} {nm : List UInt8} (hg : Env.good env) (h : (fieldsZ env nm).2.2 = true) : (fieldsZ env nm).1.good := by
 obtain ⟨a, e⟩ := fam_of_fields h
 rcases famZ_ok (env := env) nm with e2 | ⟨d, b, e2, hm, _⟩
 ·rw [e2] at e; simp at e
 ·rw [e2] at e
  simp only [Prod.mk.injEq] at e
  rw [← e.1]
  exact hg.2 d hm
set_option maxRecDepth 8000 in
set_option maxHeartbeats 32000000 in
theorem rcovered_any (env : List Dc) (hf : EnvFine env) (hg : Env.good env) (cls : List Cl) : ∀ (n : Nat) (v : List Pt), CovOk env cls v → openC cls v < n → ∀ h, WF h →
  ACalls Tryz.prog 79 [envA env, .p (.sl 6 (clPs cls)), .p (.sl 3 (ptPs v))] h fun o h' => o = .ret (bA (covF env cls n v)) ∧ h' = h := by
 intro n
 induction n with
 | zero => intro v _ h; omega
 | succ n ihn =>
 intro v hok hlt h hh
 have hfl := fld_le hf hg
 have hcl := hok.cl
 simp only [covF]
 refine ACalls.of_run Tryz.func79 rfl ?_
 simp only [Tryz.ntmps79, List.length_cons, List.length_nil]
 refine nv ?_
 refine Run.reg fun K hK => ?_
 simp
 try (simp (disch := omega) only [wrap_id])
 refine hK _ _ _ (nv ?_); clear hK K
 refine Run.reg fun K hK => ?_
 simp
 try (simp (disch := omega) only [wrap_id])
 refine hK _ _ _ (nv ?_); clear hK K
 refine Run.loopS [0, 1, 2] (fun j : Nat => j ≤ cls.length ∧ ∀ c ∈ cls.take j, (cmpPs 0 c.ps v).v = 1) (fun j => cls.length - j) (fun j => [(7, iA j)]) (fun _ => h) 0 (by simp) ?_ rfl ?_
 ·simp
  repeat' (first | exact WeakL.nil | apply WeakL.cons)
  all_goals first | exact Weak.junk _ | exact Weak.refl _ | exact Weak.nil _ | exact Weak.own _ _ _ | exact Weak.int (by omega)
 rintro j ⟨hj, hall⟩ IH
 simp
 refine nv ?_
 refine Run.reg fun K hK => ?_
 simp
 try (simp (disch := omega) only [wrap_id])
 refine hK _ _ _ (nv ?_); clear hK K
 by_cases hjl : j < cls.length
 ·have hgj : cls[j]? = some cls[j] := List.getElem?_eq_getElem hjl
  have hmem := List.getElem_mem hjl
  have hsk := covC_skip (covF env cls n) env v cls j hall
  rw [drop_of_get hgj, covC] at hsk
  have htk : cls.take (j + 1) = cls.take j ++ [cls[j]] := List.take_succ_eq_append_getElem hjl
  generalize cls[j] = c at hgj hmem hsk htk
  obtain ⟨hc1, hc2, hc3⟩ := hok.cs c hmem
  have c1 := fun (g : Heap) (hw : WF g) => rcompare_any env hfl _ c.ps v (Nat.le_refl _) hc2 ⟨hc3, hc1, hok.vc⟩ g hw
  have hvv := cmpPs_v 0 c.ps v
  have h2 := cmp_two (l := c.ps) (vs := v)
  have hput := fun nm w hp jj x hx => CovOk.put hok hf hmem (nm := nm) (w := w) hp (j := jj) (x := x) hx
  have hnm := fun nm w (hp : PathC nm w c.ps v) => hp.name (env := env) hc1
  have hlast : (cmpPs 0 c.ps v).v = 1 → ∀ x ∈ cls.take (j + 1), (cmpPs 0 x.ps v).v = 1 := by
   intro e x hx
   rw [htk] at hx
   rcases List.mem_append.1 hx with hx | hx
   ·exact hall x hx
   ·simp at hx; subst hx; exact e
  obtain ⟨ps, ⟨k, i, nmt, ls, ks⟩⟩ := c
  simp only at c1 hvv h2 hsk hlast
  generalize cmpPs 0 ps v = r at c1 hvv h2 hsk hlast
  obtain ⟨e, w, nm⟩ := r
  simp only [vxA] at c1 hvv h2 hsk hlast
  rw [hsk]
  refine nv ?_
  refine ct (by simp [hjl]) (nv ?_)
  refine Run.reg fun K hK => ?_
  simp [hgj, Cl.cells]
  try (simp (disch := omega) only [wrap_id])
  refine hK _ _ _ (nv ?_); clear hK K
  refine Run.call rfl (by first | rfl | simp) (by simp) rfl (c1 _ hh) ?_ ?_
  rotate_left
  ·rintro v h' ⟨hv, _⟩; cases hv
  rintro v h' ⟨hv, rfl⟩
  simp only [AOut.ret.injEq] at hv
  subst hv
  refine Run.ops fun K hK => ?_
  simp
  try (simp (disch := omega) only [wrap_id])
  refine hK _ _ _ (nv ?_); clear hK K
  refine Run.reg fun K hK => ?_
  simp
  try (simp (disch := omega) only [wrap_id])
  refine hK _ _ _ (nv ?_); clear hK K
  rcases hvv with rfl | rfl | rfl
  ·refine nv ?_
   refine cf (by simp) (nv ?_)
   refine Run.reg fun K hK => ?_
   simp
   try (simp (disch := omega) only [wrap_id])
   refine hK _ _ _ (nv ?_); clear hK K
   refine ct (by simp) (nv ?_)
   refine Run.reg fun K hK => ?_
   simp
   try (simp (disch := omega) only [wrap_id])
   refine hK _ _ _ (nv ?_); clear hK K
   refine Run.ret ?_
   exact Fin.ret' (by simp) rfl hh (List.append_nil _).symm (by simp; rfl) rfl (Weak.refl _) (by simp) ⟨by simp, rfl⟩
  ·refine nv ?_
   refine ct (by simp) (nv ?_)
   refine Run.exit rfl ?_
   refine nv ?_
   refine Run.keep [0, 1, 2, 7] ?_
   simp only [keepT, keepT.go, List.contains_cons]
   simp
   have hsk1 : covC (covF env cls n) env v cls = covC (covF env cls n) env v (cls.drop (j + 1)) := by simpa using hsk
   rw [← hsk1]
   refine nv ?_
   refine Run.reg fun K hK => ?_
   simp
   try (simp (disch := omega) only [wrap_id])
   refine hK _ _ _ (nv ?_); clear hK K
   refine IH (j + 1) _ _ ⟨by omega, hlast rfl⟩ (by omega) ?_ (by simp)
   simp
   repeat' (first | exact WeakL.nil | apply WeakL.cons)
   all_goals first | exact Weak.junk _ | exact Weak.refl _ | exact Weak.nil _ | exact Weak.own _ _ _ | exact Weak.int (by omega)
  ·have hp := h2 rfl
   have hput := hput nm w hp
   have hn := hnm nm w hp
   have hpo := hp.v.ok hfl hok.vl hok.vc
   obtain ⟨a, hfam⟩ := fam_of_fields hn
   have hdg := fieldsZ_good hg hn
   have c2 := fun (g : Heap) (hw : WF g) => refFamily_any g hw env nm hg hf.1
   rw [hfam] at c2
   have hff := fun (jj : Nat) (x : Ct) (hx : (fieldsZ env nm).1.cs[jj]? = some x) => fields_found hf hn hx
   simp only [show ¬ ((2 : Int) = 0) by omega, show ¬ ((2 : Int) = 1) by omega, if_false] at hsk ⊢
   generalize fieldsZ env nm = fz at c2 hff hput hdg
   obtain ⟨d, m, ok⟩ := fz
   simp only at c2 hff hput hdg
   have hdl := hdg.csl
   obtain ⟨dc, hdc, hdcl, hone, hdu, hd14, _⟩ := dc_fields d
   have hd14' : ∀ q : 14 < dc.length, dc[14] = .p (.sl 6 (d.cs.map Ct.cells)) := fun q => by rw [List.getElem?_eq_getElem q] at hd14; exact Option.some.inj hd14
   have htd : List.take 23 dc = dc := List.take_of_length_le (by omega)
   have hpa : ∀ l : List AV, l.length = 23 → patch l 0 dc = dc := fun l hl' => by
    have := patch_full dc l [] (by rw [hl', hdcl])
    simpa only [List.append_nil] using this
   have c5 := fun (jj : Nat) (hjj : jj < d.cs.length) (g : Heap) (hw : WF g) => fields_any g hw d hdg jj hjj
   rw [hdc] at c2 c5
   refine nv ?_
   refine cf (by simp) (nv ?_)
   refine Run.reg fun K hK => ?_
   simp
   try (simp (disch := omega) only [wrap_id])
   refine hK _ _ _ (nv ?_); clear hK K
   refine cf (by simp) (nv ?_)
   refine Run.reg fun K hK => ?_
   simp
   try (simp (disch := omega) only [wrap_id])
   refine hK _ _ _ (nv ?_); clear hK K
   refine Run.call rfl (by first | rfl | simp) (by simp) rfl (c2 _ hh) ?_ ?_
   rotate_left
   ·rintro v h' ⟨hv, _⟩; cases hv
   rintro v h' ⟨hv, rfl⟩
   simp only [AOut.ret.injEq] at hv
   subst hv
   refine Run.ops fun K hK => ?_
   simp [hdcl, hone, hpa]
   try (simp (disch := omega) only [wrap_id])
   refine hK _ _ _ (nv ?_); clear hK K
   refine Run.reg fun K hK => ?_
   simp
   try (simp (disch := omega) only [wrap_id])
   refine hK _ _ _ (nv ?_); clear hK K
   refine Run.loopS [0, 1, 2, 9, 11] (fun jj : Nat => jj ≤ d.cs.length ∧ allTo (allCs (covF env cls n) d w v) jj = true) (fun jj => d.cs.length - jj) (fun jj => [(14, iA jj)])
    (fun _ => h' ++ [some (.cells dc)]) 0 (by simp [allTo]) ?_ (by simp) ?_
   ·simp
    repeat' (first | exact WeakL.nil | apply WeakL.cons)
    all_goals first | exact Weak.junk _ | exact Weak.refl _ | exact Weak.nil _ | exact Weak.own _ _ _ | exact Weak.int (by omega)
   rintro jj ⟨hjj, hallj⟩ IH2
   simp
   refine nv ?_
   refine Run.reg fun K hK => ?_
   simp [hd14', hdcl]
   try (simp (disch := omega) only [wrap_id])
   refine hK _ _ _ (nv ?_); clear hK K
   by_cases hjjl : jj < d.cs.length
   ·have hgx : d.cs[jj]? = some d.cs[jj] := List.getElem?_eq_getElem hjjl
    have hpx := hput jj _ hgx
    have hac : allCs (covF env cls n) d w v jj = covF env cls n (putPs w v (newPt d.cs[jj].nm (fldZ d jj).toNat)) := by unfold allCs; rw [hgx]
    have hfx := hff jj _ hgx
    have c5 := c5 jj hjjl
    generalize d.cs[jj] = x at hgx hpx hac hfx
    obtain ⟨xn, ⟨xk, xi, xm, xl, xs⟩⟩ := x
    simp only at hpx hac hfx
    have hmb := hfl xn
    rw [hfx] at hmb
    simp only at hmb
    obtain ⟨mm, hmm⟩ : ∃ mm : Nat, fldZ d jj = mm := ⟨(fldZ d jj).toNat, by have := fldZ_nn d jj; omega⟩
    rw [hmm] at c5 hpx hac hmb
    simp only [Int.toNat_natCast] at hpx hac
    have c3 := fun (g : Heap) (hw : WF g) => rput_any (newPt xn mm) w v hpo g hw
    have c4 := fun (g : Heap) (hw : WF g) => ihn _ hpx.1 (by omega) g hw
    rw [← hac] at c4
    generalize putPs w v (newPt xn mm) = v2 at c3 c4
    obtain ⟨b2, hb2⟩ : ∃ b2, allCs (covF env cls n) d w v jj = b2 := ⟨_, rfl⟩
    rw [hb2] at c4
    simp only [newPt, Pt.av, pcells_mk, List.map] at c3
    refine nv ?_
    refine ct (by simp [hjjl]) (nv ?_)
    refine Run.reg fun K hK => ?_
    simp [hd14', hdcl, hgx, Ct.cells]
    try (simp (disch := omega) only [wrap_id])
    refine hK _ _ _ (nv ?_); clear hK K
    refine Run.reg fun K hK => ?_
    simp
    try (simp (disch := omega) only [wrap_id])
    refine hK _ _ _ (nv ?_); clear hK K
    refine Run.tokAt (h'.length + 1) 2 3 (by simp; rfl) (by simp) ?_
    simp
    refine Run.loopS [0, 1, 2, 9, 11, 14, 15] (fun q : Nat => q ≤ mm) (fun q => mm - q) (fun q => [(16, iA q)])
     (fun q => h' ++ [some (.cells dc), some (.cells [iA 1, .p (sP xn), .own (h'.length + 2) 3 (List.replicate q zPt)]), some (.tok q 3)]) 0 (by simp) ?_ (by simp) ?_
    ·simp
     repeat' (first | exact WeakL.nil | apply WeakL.cons)
     all_goals first | exact Weak.junk _ | exact Weak.refl _ | exact Weak.nil _ | exact Weak.own _ _ _ | exact Weak.int (by omega)
    rintro q hq IH3
    simp
    refine nv ?_
    refine Run.reg fun K hK => ?_
    simp [hdcl, htd]
    try (simp (disch := omega) only [wrap_id])
    refine hK _ _ _ (nv ?_); clear hK K
    refine rc rfl (by first | rfl | simp) (by simp) rfl (c5 _ (hh.app (by simp [hdu]))) ?_
    refine Run.ops fun K hK => ?_
    simp
    try (simp (disch := omega) only [wrap_id])
    refine hK _ _ _ (nv ?_); clear hK K
    by_cases hql : q < mm
    ·have hb3 : (q + 1) * 48 ≤ 140737488355328 := by omega
     have hb4 : q + 1 ≤ 9223372036854775807 := by omega
     refine nv ?_
     refine ct (by simp [hql]) (nv ?_)
     refine Run.reg fun K hK => ?_
     simp [hb3, hb4]
     try (simp (disch := omega) only [wrap_id])
     refine hK _ _ _ (nv ?_); clear hK K
     refine Run.reg fun K hK => ?_
     simp
     try (simp (disch := omega) only [wrap_id])
     refine hK _ _ _ (nv ?_); clear hK K
     refine Run.keep [0, 1, 2, 9, 11, 14, 15, 16] ?_
     simp only [keepT, keepT.go, List.contains_cons]
     simp
     refine IH3 (q + 1) _ _ (by omega) (by omega) ?_ ?_
     ·simp
      repeat' (first | exact WeakL.nil | apply WeakL.cons)
      all_goals first | exact Weak.junk _ | exact Weak.refl _ | exact Weak.nil _ | exact Weak.own _ _ _ | exact Weak.int (by omega)
     ·simp [List.replicate_succ']
    have hqe : q = mm := by omega
    subst hqe
    refine nv ?_
    refine cf (by simp) (nv ?_)
    refine Run.exit rfl ?_
    refine nv ?_
    refine Run.weakH (h'.length + 1) (cs := [iA 1, .p (sP xn), .own (h'.length + 2) 3 (List.replicate q zPt)]) (cs' := [iA 1, .p (sP xn), .p (.sl 3 (ptPs (List.replicate q varPt)))]) (by simp) ?_ ?_
    ·exact WeakL.cons (Weak.refl _) (WeakL.cons (Weak.refl _) (WeakL.cons (fun E w v r => (WeakP.sl (zPs_weak q)).av E w v (Weak.own _ _ _ E w v r)) WeakL.nil))
    simp
    refine nv ?_
    refine Run.reg fun K hK => ?_
    simp
    try (simp (disch := omega) only [wrap_id])
    refine hK _ _ _ (nv ?_); clear hK K
    refine rc rfl (by first | rfl | simp) (by simp) rfl (c3 _ (hh.app (by simp [hdu]))) ?_
    refine Run.ops fun K hK => ?_
    simp
    try (simp (disch := omega) only [wrap_id])
    refine hK _ _ _ (nv ?_); clear hK K
    refine rc rfl (by first | rfl | simp) (by simp) rfl (c4 _ (hh.app (by simp [hdu]))) ?_
    refine Run.ops fun K hK => ?_
    simp
    try (simp (disch := omega) only [wrap_id])
    refine hK _ _ _ (nv ?_); clear hK K
    cases b2 with
    | false =>
     rw [allTo_false hjjl hb2]
     refine nv ?_
     refine ct (by simp) (nv ?_)
     refine Run.reg fun K hK => ?_
     simp
     try (simp (disch := omega) only [wrap_id])
     refine hK _ _ _ (nv ?_); clear hK K
     refine Run.ret ?_
     exact Fin.ret' (h0 := h') (by simp) rfl hh rfl (by simp; rfl) rfl (Weak.refl _) (by simp) ⟨by simp, rfl⟩
    | true =>
     refine nv ?_
     refine cf (by simp) (nv ?_)
     refine Run.reg fun K hK => ?_
     simp
     try (simp (disch := omega) only [wrap_id])
     refine hK _ _ _ (nv ?_); clear hK K
     refine Run.keep [0, 1, 2, 9, 11, 14] ?_
     simp only [keepT, keepT.go, List.contains_cons]
     simp
     refine Run.cutAt 1 hh rfl (by omega) (by simp) (by simp) (by simp; exact hdu _) (by simp [underD]) ?_
     simp
     refine IH2 (jj + 1) _ _ ⟨by omega, by rw [allTo_succ, hallj, hb2]; rfl⟩ (by omega) ?_ (by simp)
     simp
     repeat' (first | exact WeakL.nil | apply WeakL.cons)
     all_goals first | exact Weak.junk _ | exact Weak.refl _ | exact Weak.nil _ | exact Weak.own _ _ _ | exact Weak.int (by omega)
   ·have hje : jj = d.cs.length := by omega
    subst hje
    rw [hallj]
    refine nv ?_
    refine cf (by simp) (nv ?_)
    refine Run.exit rfl ?_
    refine nv ?_
    refine Run.reg fun K hK => ?_
    simp
    try (simp (disch := omega) only [wrap_id])
    refine hK _ _ _ (nv ?_); clear hK K
    refine Run.ret ?_
    exact Fin.ret' (h0 := h') (by simp) rfl hh rfl (by simp; rfl) rfl (Weak.refl _) (by simp) ⟨by simp, rfl⟩
 ·have hje : j = cls.length := by omega
  subst hje
  rw [List.take_length] at hall
  have hsk := covC_skip (covF env cls n) env v cls cls.length (by rw [List.take_length]; exact hall)
  rw [List.drop_length] at hsk
  rw [hsk]
  refine nv ?_
  refine cf (by simp) (nv ?_)
  refine Run.exit rfl ?_
  refine nv ?_
  refine Run.reg fun K hK => ?_
  simp
  try (simp (disch := omega) only [wrap_id])
  refine hK _ _ _ (nv ?_); clear hK K
  refine Run.ret ?_
  exact Fin.ret' (by simp) rfl hh (List.append_nil _).symm rfl rfl (Weak.refl _) rfl ⟨rfl, rfl⟩

end Go.Proofs.YtcfcolkbeelegaaGreat
