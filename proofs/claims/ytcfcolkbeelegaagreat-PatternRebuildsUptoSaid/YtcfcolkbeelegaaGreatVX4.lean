import Derived.Test.YtcfcolkbeelegaaGreatVX3
set_option maxRecDepth 8000
set_option maxHeartbeats 16000000

namespace Go.Proofs.YtcfcolkbeelegaaGreat

open Go Go.AI
theorem ctEn_skip (d : Dc) (a : Int) (s : List UInt8) : ∀ (l : List Ct) (i j : Nat), (∀ c ∈ l.take j, c.nm ≠ s) → ctEn d a s l i = ctEn d a s (l.drop j) (i + j)
 | l, i, 0, _ => by simp
 | [], i, j + 1, _ => by simp [ctEn]
 | c :: l, i, j + 1, h => by
  simp only [ctEn, List.drop_succ_cons]
  rw [if_neg (h c (by simp)), ctEn_skip d a s l (i + 1) j (fun x hx => h x (by simp [hx]))]
  congr 1; omega
theorem fuEn_skip (d : Dc) (a : Int) (s : List UInt8) : ∀ (l : List Fu) (i j : Nat), (∀ c ∈ l.take j, c.nm ≠ s) → fuEn d a s l i = fuEn d a s (l.drop j) (i + j)
 | l, i, 0, _ => by simp
 | [], i, j + 1, _ => by simp [fuEn]
 | c :: l, i, j + 1, h => by
  simp only [fuEn, List.drop_succ_cons]
  rw [if_neg (h c (by simp)), fuEn_skip d a s l (i + 1) j (fun x hx => h x (by simp [hx]))]
  congr 1; omega
theorem ctEn_hit {d : Dc} {a : Int} {s : List UInt8} {l : List Ct} {j : Nat} {c : Ct} (h : ∀ c ∈ l.take j, c.nm ≠ s) (hg : l[j]? = some c) (hc : c.nm = s) : ctEn d a s l 0 = some ⟨4, a, j, d.ps, c.ty⟩ := by
 obtain ⟨hj, e⟩ := List.getElem?_eq_some_iff.1 hg
 rw [ctEn_skip d a s l 0 j h, List.drop_eq_getElem_cons hj, e, ctEn, if_pos hc]
 simp
theorem fuEn_hit {d : Dc} {a : Int} {s : List UInt8} {l : List Fu} {j : Nat} {c : Fu} (h : ∀ c ∈ l.take j, c.nm ≠ s) (hg : l[j]? = some c) (hc : c.nm = s) : fuEn d a s l 0 = some ⟨6, a, j, d.ps, c.ty⟩ := by
 obtain ⟨hj, e⟩ := List.getElem?_eq_some_iff.1 hg
 rw [fuEn_skip d a s l 0 j h, List.drop_eq_getElem_cons hj, e, fuEn, if_pos hc]
 simp
theorem ctEn_miss {d : Dc} {a : Int} {s : List UInt8} {l : List Ct} (h : ∀ c ∈ l, c.nm ≠ s) : ctEn d a s l 0 = none := by
 rw [ctEn_skip d a s l 0 l.length (by simpa using h)]
 simp [ctEn]
theorem fuEn_miss {d : Dc} {a : Int} {s : List UInt8} {l : List Fu} (h : ∀ c ∈ l, c.nm ≠ s) : fuEn d a s l 0 = none := by
 rw [fuEn_skip d a s l 0 l.length (by simpa using h)]
 simp [fuEn]
theorem entry_any (h : Heap) (hh : WF h) (d : Dc) (a : Int) (s : List UInt8) (hc : d.cs.length ≤ 1048576) (hf : d.fs.length ≤ 1048576) : ACalls Tryz.prog 219 [d.av, iA a, .p (sP s)] h fun o h' => o = .ret (entZ d a s).av ∧ h' = h := by
 have hk := kcase d.k
 obtain ⟨r, hr⟩ : ∃ r, r = entZ d a s := ⟨_, rfl⟩
 rw [← hr]
 unfold entZ at hr
 have hit := fun (j : Nat) (c : Ct) h1 h2 h3 => ctEn_hit (d := d) (a := a) (s := s) (l := d.cs) (j := j) (c := c) h1 h2 h3
 have fit := fun (j : Nat) (c : Fu) h1 h2 h3 => fuEn_hit (d := d) (a := a) (s := s) (l := d.fs) (j := j) (c := c) h1 h2 h3
 have mis := fun h1 => ctEn_miss (d := d) (a := a) (s := s) (l := d.cs) h1
 have fis := fun h1 => fuEn_miss (d := d) (a := a) (s := s) (l := d.fs) h1
 obtain ⟨ce, hce⟩ : ∃ ce, ctEn d a s d.cs 0 = ce := ⟨_, rfl⟩
 obtain ⟨fe, hfe⟩ : ∃ fe, fuEn d a s d.fs 0 = fe := ⟨_, rfl⟩
 rw [hce] at hr hit mis
 rw [hfe] at hr fit fis
 clear hce hfe
 obtain ⟨k, nm, ps, ⟨k1, i1, n1, l1, s1⟩, ⟨k2, i2, n2, l2, s2⟩, fx, cs, rp, ⟨k3, i3, n3, l3, s3⟩, rr, fs⟩ := d
 simp only at hc hf hr hk hit fit mis fis
 simp only [Dc.av, Dc.cells, cells_mk, List.map, List.cons_append, List.nil_append]
 refine ACalls.of_run Tryz.func219 rfl ?_
 simp only [Tryz.ntmps219, List.length_cons, List.length_nil]
 refine nv ?_
 refine Run.reg fun K J => ?_
 simp
 refine J _ _ _ (nv ?_); clear J
 refine Run.reg fun K J => ?_
 simp
 refine J _ _ _ (nv ?_); clear J
 refine Run.reg fun K J => ?_
 simp
 refine J _ _ _ (nv ?_); clear J
 rcases hk with rfl | rfl | rfl | rfl | hk
 ·rw [if_pos (by omega)] at hr
  refine Run.reg fun K J => ?_
  simp
  refine J _ _ _ (nv ?_); clear J
  refine ct (by simp) ?_
  refine Run.reg fun K J => ?_
  simp
  refine J _ _ _ (nv ?_); clear J
  refine Run.reg fun K J => ?_
  simp
  refine J _ _ _ (nv ?_); clear J
  refine Run.ret ?_
  exact Fin.ret' (h0 := h) (by simp) rfl hh rfl (by simp; rfl) rfl (Weak.refl _) (by simp) ⟨by rw [hr]; rfl, rfl⟩
 ·rw [if_pos (by omega)] at hr
  refine Run.reg fun K J => ?_
  simp
  refine J _ _ _ (nv ?_); clear J
  refine cf (by simp) (nv ?_)
  refine Run.reg fun K J => ?_
  simp
  refine J _ _ _ (nv ?_); clear J
  refine ct (by simp) ?_
  refine Run.reg fun K J => ?_
  simp
  refine J _ _ _ (nv ?_); clear J
  refine Run.reg fun K J => ?_
  simp
  refine J _ _ _ (nv ?_); clear J
  refine Run.ret ?_
  exact Fin.ret' (h0 := h) (by simp) rfl hh rfl (by simp; rfl) rfl (Weak.refl _) (by simp) ⟨by rw [hr]; rfl, rfl⟩
 ·rw [if_pos (by omega)] at hr
  refine Run.reg fun K J => ?_
  simp
  refine J _ _ _ (nv ?_); clear J
  refine cf (by simp) (nv ?_)
  refine Run.reg fun K J => ?_
  simp
  refine J _ _ _ (nv ?_); clear J
  refine cf (by simp) (nv ?_)
  refine Run.reg fun K J => ?_
  simp
  refine J _ _ _ (nv ?_); clear J
  refine ct (by simp) ?_
  refine Run.reg fun K J => ?_
  simp
  refine J _ _ _ (nv ?_); clear J
  refine Run.reg fun K J => ?_
  simp
  refine J _ _ _ (nv ?_); clear J
  refine Run.ret ?_
  exact Fin.ret' (h0 := h) (by simp) rfl hh rfl (by simp; rfl) rfl (Weak.refl _) (by simp) ⟨by rw [hr]; rfl, rfl⟩
 ·rw [if_neg (by omega), if_pos rfl] at hr
  refine Run.reg fun K J => ?_
  simp
  refine J _ _ _ (nv ?_); clear J
  refine cf (by simp) (nv ?_)
  refine Run.reg fun K J => ?_
  simp
  refine J _ _ _ (nv ?_); clear J
  refine cf (by simp) (nv ?_)
  refine Run.reg fun K J => ?_
  simp
  refine J _ _ _ (nv ?_); clear J
  refine cf (by simp) (nv ?_)
  refine Run.reg fun K J => ?_
  simp
  refine J _ _ _ (nv ?_); clear J
  refine ct (by simp) (nv ?_)
  refine Run.reg fun K J => ?_
  simp
  refine J _ _ _ (nv ?_); clear J
  refine Run.reg fun K J => ?_
  simp
  refine J _ _ _ (nv ?_); clear J
  by_cases hs : s = nm
  ·rw [if_pos hs] at hr
   refine ct (by simp [hs]) (nv ?_)
   refine Run.reg fun K J => ?_
   simp
   refine J _ _ _ (nv ?_); clear J
   refine Run.ret ?_
   exact Fin.ret' (h0 := h) (by simp) rfl hh rfl (by simp; rfl) rfl (Weak.refl _) (by simp) ⟨by rw [hr]; rfl, rfl⟩
  rw [if_neg hs] at hr
  refine cf (by simp [hs]) (nv ?_)
  refine Run.reg fun K J => ?_
  simp
  refine J _ _ _ (nv ?_); clear J
  refine Run.loopS [1, 2, 3, 6] (fun j : Nat => j ≤ cs.length ∧ ∀ c ∈ cs.take j, c.nm ≠ s) (fun j => cs.length - j) (fun j => [(8, iA j)]) (fun _ => _) 0 (by simp) ?_ rfl ?_
  ·simp
   repeat' first | exact wn | apply wc | exact wj _ | exact wr _ | exact wz _ | exact wo _ _ _ | exact wi (by omega)
  rintro j ⟨hj, hall⟩ IH
  simp
  refine nv ?_
  refine Run.reg fun K J => ?_
  simp
  refine J _ _ _ (nv ?_); clear J
  by_cases hjl : j < cs.length
  ·have hg : cs[j]? = some cs[j] := List.getElem?_eq_getElem hjl
   have htk : cs.take (j + 1) = cs.take j ++ [cs[j]] := List.take_succ_eq_append_getElem hjl
   have hcx := fun (h3 : cs[j].nm = s) => hit j cs[j] hall hg h3
   obtain ⟨⟨x, ⟨k4, i4, n4, l4, s4⟩⟩, hxy⟩ : ∃ c, cs[j] = c := ⟨_, rfl⟩
   rw [hxy] at hg htk hcx
   refine ct (by simp [hjl]) (nv ?_)
   refine Run.reg fun K J => ?_
   simp [hg, Ct.cells]
   refine J _ _ _ (nv ?_); clear J
   by_cases hx : x = s
   ·rw [hcx hx] at hr
    refine ct (by simp [hx]) (nv ?_)
    refine Run.draw [0, 0, 0, 0, 0, 0, 0, 0, 0, 0, 0, 0] [0, 0, 0, 0, 0, 0, 0, 0, 0, 0, 0, 0] [0, 0, 0, 4, 0, 16, 0, 112, 240, 496, 1023, 2047] [0, 1, 2, 3, 4, 5, 6, 7, 8, 9, 10, 11] (by kernel_rfl) (by kernel_rfl) ?_
    refine DR.go fun K J => ?_
    simp [hg, Ct.cells]
    refine J _ _ _ _ ?_; clear J
    change Run _ _ _ _ _ _ _ _
    refine Run.ret ?_
    exact Fin.ret' (h0 := h) (by simp) rfl hh rfl (by simp; rfl) rfl (Weak.refl _) (by simp) ⟨by rw [hr]; rfl, rfl⟩
   ·skip
    refine cf (by simp [hx]) (nv ?_)
    refine Run.reg fun K J => ?_
    simp
    try (simp (disch := omega) only [wrap_id])
    refine J _ _ _ (nv ?_); clear J
    refine IH (j + 1) _ _ ⟨by omega, ?_⟩ (by omega) ?_ rfl
    ·rw [htk]
     intro c hc'
     rcases List.mem_append.1 hc' with h1 | h1
     ·exact hall c h1
     ·simp at h1; rw [h1]; exact hx
    ·simp
     repeat' first | exact wn | apply wc | exact wj _ | exact wr _ | exact wz _ | exact wo _ _ _ | exact wi (by omega)
  ·have hje : j = cs.length := by omega
   subst hje
   rw [List.take_length] at hall
   rw [mis hall] at hr
   refine cf (by simp) ?_
   refine Run.exit rfl ?_
   refine nv ?_
   refine Run.reg fun K J => ?_
   simp
   refine J _ _ _ (nv ?_); clear J
   refine Run.ret ?_
   exact Fin.ret' (h0 := h) (by simp) rfl hh rfl (by simp; rfl) rfl (Weak.refl _) (by simp) ⟨by rw [hr]; rfl, rfl⟩
 ·have hk' : (k == 0) = false ∧ (k == 1) = false ∧ (k == 2) = false ∧ (k == 3) = false := by
   rcases hk with rfl | h5
   ·decide
   ·exact ⟨h5.1, h5.2.1, h5.2.2.1, h5.2.2.2.1⟩
  obtain ⟨e0, e1, e2, e3⟩ := hk'
  rw [if_neg (by simp at e0 e1 e2; omega), if_neg (by simpa using e3)] at hr
  refine Run.reg fun K J => ?_
  simp [e0]
  refine J _ _ _ (nv ?_); clear J
  refine cf (by simp) (nv ?_)
  refine Run.reg fun K J => ?_
  simp [e1]
  refine J _ _ _ (nv ?_); clear J
  refine cf (by simp) (nv ?_)
  refine Run.reg fun K J => ?_
  simp [e2]
  refine J _ _ _ (nv ?_); clear J
  refine cf (by simp) (nv ?_)
  refine Run.reg fun K J => ?_
  simp [e3]
  refine J _ _ _ (nv ?_); clear J
  refine cf (by simp) (nv ?_)
  refine Run.reg fun K J => ?_
  simp
  refine J _ _ _ (nv ?_); clear J
  refine Run.loopS [1, 2, 3, 6, 7] (fun j : Nat => j ≤ fs.length ∧ ∀ c ∈ fs.take j, c.nm ≠ s) (fun j => fs.length - j) (fun j => [(9, iA j)]) (fun _ => _) 0 (by simp) ?_ rfl ?_
  ·simp
   repeat' first | exact wn | apply wc | exact wj _ | exact wr _ | exact wz _ | exact wo _ _ _ | exact wi (by omega)
  rintro j ⟨hj, hall⟩ IH
  simp
  refine nv ?_
  refine Run.reg fun K J => ?_
  simp
  refine J _ _ _ (nv ?_); clear J
  by_cases hjl : j < fs.length
  ·have hg : fs[j]? = some fs[j] := List.getElem?_eq_getElem hjl
   have htk : fs.take (j + 1) = fs.take j ++ [fs[j]] := List.take_succ_eq_append_getElem hjl
   have hcx := fun (h3 : fs[j].nm = s) => fit j fs[j] hall hg h3
   obtain ⟨⟨x, ⟨k4, i4, n4, l4, s4⟩, z, w⟩, hxy⟩ : ∃ c, fs[j] = c := ⟨_, rfl⟩
   rw [hxy] at hg htk hcx
   refine ct (by simp [hjl]) (nv ?_)
   refine Run.reg fun K J => ?_
   simp [hg, Fu.cells]
   refine J _ _ _ (nv ?_); clear J
   by_cases hx : x = s
   ·rw [hcx hx] at hr
    refine ct (by simp [hx]) (nv ?_)
    refine Run.draw [0, 0, 0, 0, 0, 0, 0, 0, 0, 0, 0, 0] [0, 0, 0, 0, 0, 0, 0, 0, 0, 0, 0, 0] [0, 0, 0, 4, 0, 16, 0, 112, 240, 496, 1023, 2047] [0, 1, 2, 3, 4, 5, 6, 7, 8, 9, 10, 11] (by kernel_rfl) (by kernel_rfl) ?_
    refine DR.go fun K J => ?_
    simp [hg, Fu.cells]
    refine J _ _ _ _ ?_; clear J
    change Run _ _ _ _ _ _ _ _
    refine Run.ret ?_
    exact Fin.ret' (h0 := h) (by simp) rfl hh rfl (by simp; rfl) rfl (Weak.refl _) (by simp) ⟨by rw [hr]; rfl, rfl⟩
   ·skip
    refine cf (by simp [hx]) (nv ?_)
    refine Run.reg fun K J => ?_
    simp
    try (simp (disch := omega) only [wrap_id])
    refine J _ _ _ (nv ?_); clear J
    refine IH (j + 1) _ _ ⟨by omega, ?_⟩ (by omega) ?_ rfl
    ·rw [htk]
     intro c hc'
     rcases List.mem_append.1 hc' with h1 | h1
     ·exact hall c h1
     ·simp at h1; rw [h1]; exact hx
    ·simp
     repeat' first | exact wn | apply wc | exact wj _ | exact wr _ | exact wz _ | exact wo _ _ _ | exact wi (by omega)
  ·have hje : j = fs.length := by omega
   subst hje
   rw [List.take_length] at hall
   rw [fis hall] at hr
   refine cf (by simp) ?_
   refine Run.exit rfl ?_
   refine nv ?_
   refine Run.reg fun K J => ?_
   simp
   refine J _ _ _ (nv ?_); clear J
   refine Run.ret ?_
   exact Fin.ret' (h0 := h) (by simp) rfl hh rfl (by simp; rfl) rfl (Weak.refl _) (by simp) ⟨by rw [hr]; rfl, rfl⟩
def resFind (env : List Dc) (s : List UInt8) : En × Int := match findZ s env 0 with
 | some e => (e, 0)
 | none => (zEn, 9)
def Env.short (env : List Dc) : Prop := ∀ d ∈ env, d.nm.length ≤ 200
theorem findZ_skip (s : List UInt8) : ∀ (env : List Dc) (i j : Nat), (∀ d ∈ env.take j, s ∉ namesZ d) → findZ s env i = findZ s (env.drop j) (i + j)
 | env, i, 0, _ => by simp
 | [], i, j + 1, _ => by simp [findZ]
 | d :: env, i, j + 1, h => by
  simp only [findZ, List.drop_succ_cons]
  rw [if_neg (h d (by simp)), findZ_skip s env (i + 1) j (fun x hx => h x (by simp [hx]))]
  congr 1; omega
theorem findZ_hit {s : List UInt8} {env : List Dc} {j : Nat} {d : Dc} (h : ∀ c ∈ env.take j, s ∉ namesZ c) (hg : env[j]? = some d) (hc : s ∈ namesZ d) : findZ s env 0 = some (entZ d j s) := by
 obtain ⟨hj, e⟩ := List.getElem?_eq_some_iff.1 hg
 rw [findZ_skip s env 0 j h, List.drop_eq_getElem_cons hj, e, findZ, if_pos hc]
 simp
theorem findZ_miss {s : List UInt8} {env : List Dc} (h : ∀ c ∈ env, s ∉ namesZ c) : findZ s env 0 = none := by
 rw [findZ_skip s env 0 env.length (by simpa using h)]
 simp [findZ]
theorem namesZ_len (d : Dc) (hc : d.cs.length ≤ 1048576) (hf : d.fs.length ≤ 1048576) : (namesZ d).length ≤ 1048578 := by
 unfold namesZ
 split
 ·simp
 ·split
  ·simp; omega
  ·split
   ·simp; omega
   ·simp
theorem en_weak0 : Weak (.agg [iA 0, iA 0, iA 0, iA 0, iA 0, iA 0, .p (sP []), .p (.prim (.slice none 0 0)), .p (.prim (.slice none 0 0))]) zEn.av := by
 simp only [zEn, En.av, En.cells, zT, cells_mk, List.map, lvPs, tmPs]
 refine Weak.agg ?_
 repeat' first | exact wn | apply wc
 all_goals first | exact Weak.refl _ | exact Weak.nil _
theorem refFind_any (h : Heap) (hh : WF h) (env : List Dc) (s : List UInt8) (hg : Env.good env) (hn : Env.short env) : ACalls Tryz.prog 180 [envA env, .p (sP s)] h fun o h' => o = .ret (.tup [(resFind env s).1.av, iA (resFind env s).2]) ∧ h' = h := by
 obtain ⟨hl, hg⟩ := hg
 obtain ⟨r, hr⟩ : ∃ r, r = resFind env s := ⟨_, rfl⟩
 rw [← hr]
 unfold resFind at hr
 refine ACalls.of_run Tryz.func180 rfl ?_
 simp only [Tryz.ntmps180, List.length_cons, List.length_nil]
 refine nv ?_
 refine Run.reg fun K J => ?_
 simp
 refine J _ _ _ (nv ?_); clear J
 refine Run.reg fun K J => ?_
 simp
 refine J _ _ _ (nv ?_); clear J
 refine Run.loopS [0, 1, 4] (fun j : Nat => j ≤ env.length ∧ ∀ d ∈ env.take j, s ∉ namesZ d) (fun j => env.length - j) (fun j => [(6, iA j)]) (fun _ => _) 0 (by simp) ?_ rfl ?_
 ·simp
  repeat' first | exact wn | apply wc | exact wj _ | exact wr _ | exact wz _ | exact wo _ _ _ | exact wi (by omega)
 rintro j ⟨hj, hall⟩ IH
 simp
 refine nv ?_
 refine Run.reg fun K J => ?_
 simp
 refine J _ _ _ (nv ?_); clear J
 by_cases hjl : j < env.length
 ·have hge : env[j]? = some env[j] := List.getElem?_eq_getElem hjl
  have hmem : env[j] ∈ env := List.getElem_mem hjl
  have htk : env.take (j + 1) = env.take j ++ [env[j]] := List.take_succ_eq_append_getElem hjl
  have hhit := fun (hc : s ∈ namesZ env[j]) => findZ_hit hall hge hc
  have hd := hg _ hmem
  have hdn := hn _ hmem
  have hdl := dc_cells_len env[j]
  generalize env[j] = d at hge htk hhit hd hdn hdl
  clear hmem
  have hnl := namesZ_len d hd.csl hd.fsl
  have c1 := fun (g : Heap) (hw : WF g) => names_any g hw d (by omega) hd.csl hd.fsl
  have c2 := fun (g : Heap) (hw : WF g) => has_any g hw (namesZ d) s (by omega)
  have c3 := fun (g : Heap) (hw : WF g) => entry_any g hw d j s hd.csl hd.fsl
  have htd : List.take 23 (d.cells.map AV.p) = d.cells.map .p := List.take_of_length_le (by simp [hdl])
  simp only [Dc.av] at c1 c3
  refine ct (by simp [hjl]) (nv ?_)
  refine Run.reg fun K J => ?_
  simp [hge, hdl, htd]
  refine J _ _ _ ?_; clear J
  refine rl rfl (by first | rfl | simp) (by simp) rfl (c1 _ (hh.app (by simp))) ?_
  refine Run.ops fun K J => ?_
  simp
  refine J _ _ _ ?_; clear J
  refine rl rfl (by first | rfl | simp) (by simp) rfl (c2 _ (hh.app (by simp))) ?_
  by_cases hs : s ∈ namesZ d
  ·rw [hhit hs] at hr
   obtain ⟨e, he⟩ : ∃ e, e = entZ d j s := ⟨_, rfl⟩
   rw [← he] at c3 hr
   obtain ⟨a1, a2, a3, a4, ⟨k, i, n, ls, ks⟩⟩ := e
   simp only [En.av, En.cells, cells_mk, List.map] at c3
   refine Run.ops fun K J => ?_
   simp [hs]
   refine J _ _ _ (nv ?_); clear J
   refine ct (by simp) (nv ?_)
   refine Run.reg fun K J => ?_
   simp [hge, hdl, htd]
   refine J _ _ _ ?_; clear J
   refine rl rfl (by first | rfl | simp) (by simp) rfl (c3 _ (hh.app (by simp))) ?_
   refine Run.ops fun K J => ?_
   simp
   refine J _ _ _ (nv ?_); clear J
   refine Run.ret ?_
   refine Fin.ret' (h0 := h) (by simp) rfl hh rfl (by simp; rfl) rfl (Weak.refl _) (by simp) ⟨by rw [hr]; rfl, rfl⟩
  ·refine Run.ops fun K J => ?_
   simp [hs]
   refine J _ _ _ (nv ?_); clear J
   refine cf (by simp) (nv ?_)
   refine Run.reg fun K J => ?_
   simp
   try (simp (disch := omega) only [wrap_id])
   refine J _ _ _ (nv ?_); clear J
   refine IH (j + 1) _ _ ⟨by omega, ?_⟩ (by omega) ?_ rfl
   ·rw [htk]
    intro c hc'
    rcases List.mem_append.1 hc' with h1 | h1
    ·exact hall c h1
    ·simp at h1; rw [h1]; exact hs
   ·simp
    repeat' first | exact wn | apply wc | exact wj _ | exact wr _ | exact wz _ | exact wo _ _ _ | exact wi (by omega)
 ·have hje : j = env.length := by omega
  subst hje
  rw [List.take_length] at hall
  rw [findZ_miss hall] at hr
  refine cf (by simp) ?_
  refine Run.exit rfl ?_
  refine nv ?_
  refine Run.reg fun K J => ?_
  simp
  refine J _ _ _ (nv ?_); clear J
  refine Run.ret ?_
  refine Fin.ret' (h0 := h) (xs := [.agg [iA 0, iA 0, iA 0, iA 0, iA 0, iA 0, .p (sP []), .p (.prim (.slice none 0 0)), .p (.prim (.slice none 0 0))], iA 9]) (by simp) rfl hh rfl (by simp) rfl (Weak.tup (WeakL.cons en_weak0 (WeakL.refl _))) (by simp [zEn, En.av, En.cells, zT]) ⟨by rw [hr], rfl⟩

end Go.Proofs.YtcfcolkbeelegaaGreat
