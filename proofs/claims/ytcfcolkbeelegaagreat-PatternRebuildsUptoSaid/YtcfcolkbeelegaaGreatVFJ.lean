import Derived.Test.YtcfcolkbeelegaaGreatVPN
import Derived.Test.YtcfcolkbeelegaaGreatVX0
import Derived.Test.YtcfcolkbeelegaaGreatVFE
set_option maxRecDepth 8000
set_option maxHeartbeats 16000000

namespace Go.Proofs.YtcfcolkbeelegaaGreat

open Go Go.AI
theorem tests1_any (N : Nat) : ∀ (l : List Pt) (s : Int) (B : Int → Heap) (n q f : Nat), Pt.sizes l ≤ N → Pt.sizes l ≤ 1048576 → (∀ s, (B s).length = n) → (∀ s, WF (B s)) → (∀ s, (B s)[q]? = some (some (.cells [iA s]))) →
  (∀ s s', (B s).set q (some (.cells [iA s'])) = B s') → (∀ s, (B s)[f]? = some (some (.cells [.fn (.func 118) [] [.ptr q 0, .ptr f 0]]))) →
  ACalls Tryz.prog 118 [.p (.sl 3 (ptPs l)), .ptr q 0, .ptr f 0] (B s) fun o h' => o = .ret (.tup []) ∧ ∃ s', h' = B s' := by
 have key : ∀ (l : List Pt) (s : Int) (B : Int → Heap) (n q f : Nat), Pt.sizes l ≤ 1048576 → (∀ s, (B s).length = n) → (∀ s, WF (B s)) → (∀ s, (B s)[q]? = some (some (.cells [iA s]))) →
  (∀ s s', (B s).set q (some (.cells [iA s'])) = B s') → (∀ s, (B s)[f]? = some (some (.cells [.fn (.func 118) [] [.ptr q 0, .ptr f 0]]))) →
  (∀ p ∈ l, ∀ s, ACalls Tryz.prog 118 [.p (.sl 3 (ptPs p.args)), .ptr q 0, .ptr f 0] (B s ++ [some (.cells (p.cells.map .p))]) fun o h' => o = .ret (.tup []) ∧ ∃ s', h' = B s' ++ [some (.cells (p.cells.map .p))]) →
  ACalls Tryz.prog 118 [.p (.sl 3 (ptPs l)), .ptr q 0, .ptr f 0] (B s) fun o h' => o = .ret (.tup []) ∧ ∃ s', h' = B s' := by
  intro l s B n q f hB hlen hwf hq hset hf ih
  have hll := psz_len l
  have hqlt := (List.getElem?_eq_some_iff.1 (hq s)).1
  have hflt := (List.getElem?_eq_some_iff.1 (hf s)).1
  rw [hlen] at hqlt hflt
  have cq : ∀ s (x : List (Option AO)), (B s ++ x)[q]? = some (some (.cells [iA s])) := fun s x => by rw [List.getElem?_append_left (by rw [hlen]; exact hqlt)]; exact hq s
  have cF : ∀ s (x : List (Option AO)), (B s ++ x)[f]? = some (some (.cells [.fn (.func 118) [] [.ptr q 0, .ptr f 0]])) := fun s x => by rw [List.getElem?_append_left (by rw [hlen]; exact hflt)]; exact hf s
  have cs : ∀ s s' (x : List (Option AO)), (B s ++ x).set q (some (.cells [iA s'])) = B s' ++ x := fun s s' x => by rw [List.set_append_left _ _ (by rw [hlen]; exact hqlt), hset]
  have gl : ∀ s (x : List (Option AO)) (k : Nat), (B s ++ x)[n + k]? = x[k]? := fun s x k => get_lastN (hlen s)
  have gl0 : ∀ s (x : List (Option AO)), (B s ++ x)[n]? = x[0]? := fun s x => get_lastN0 (hlen s)
  have wfl : ∀ s (x : List (Option AO)), x.all (AO.under (n + x.length)) = true → WF (B s ++ x) := fun s x hl => (hwf s).app (by rw [hlen]; exact hl)
  refine ACalls.of_run Tryz.func118 rfl ?_
  simp only [Tryz.ntmps118, List.length_cons, List.length_nil]
  refine nv ?_
  rw [hlen s]
  refine Run.reg fun K J => ?_
  simp
  refine J _ _ _ (nv ?_); clear J
  refine Run.loopS (ι := Nat × Int) [1, 2, 6, 7] (fun p => p.1 ≤ l.length) (fun p => l.length - p.1) (fun p => [(8, iA p.1)]) (fun p => B p.2) (0, s) (by simp) ?_ (by simp) ?_
  ·simp
   repeat' first | exact wn | apply wc | exact wj _ | exact wr _ | exact wz _ | exact wo _ _ _ | exact wi (by omega)
  rintro ⟨j, s1⟩ hj IH
  simp only at hj
  simp
  refine nv ?_
  refine Run.reg fun K J => ?_
  simp
  refine J _ _ _ (nv ?_); clear J
  by_cases hjl : j < l.length
  ·have hg : l[j]? = some l[j] := List.getElem?_eq_getElem hjl
   have hmem := List.getElem_mem hjl
   generalize l[j] = x at hg hmem
   have ihx := fun s => ih x hmem s
   obtain ⟨pk, pn, qs⟩ := x
   simp only [Pt.args, pcells_mk, List.map] at ihx
   refine ct (by simp [hjl]) (nv ?_)
   refine Run.reg fun K J => ?_
   simp [hg, pcells_mk, hlen]
   refine J _ _ _ (nv ?_); clear J
   by_cases hk : pk = 1
   ·subst hk
    refine Run.reg fun K J => ?_
    simp [hlen]
    refine J _ _ _ (nv ?_); clear J
    refine ct (by simp) ?_
    refine Run.reg fun K J => ?_
    simp [cq, cs]
    refine J _ _ _ (nv ?_); clear J
    refine Run.reg fun K J => ?_
    simp [hlen, cF]
    refine J _ _ _ ?_; clear J
    refine Run.call (f := 118) (args := [.p (.sl 3 (ptPs qs)), .ptr q 0, .ptr f 0]) rfl rfl (by simp) rfl (ihx _) ?_ ?_
    rotate_left
    ·rintro v h' ⟨hv, _⟩; cases hv
    rintro v h' ⟨hv, s2, rfl⟩
    simp only [AOut.ret.injEq] at hv
    subst hv
    refine Run.ops fun K J => ?_
    simp
    refine J _ _ _ (nv ?_); clear J
    refine Run.reg fun K J => ?_
    simp
    try (simp (disch := omega) only [wrap_id])
    refine J _ _ _ (nv ?_); clear J
    refine Run.keep [1, 2, 6, 7, 8] ?_
    simp
    refine Run.cutAt 0 (hwf s2) rfl (by rw [hlen]; omega) (by simp) (by simp [hlen]; omega) (by simp) rfl ?_
    simp
    refine IH (j + 1, s2) _ _ (by simp only; omega) (by simp only; omega) ?_ (by simp)
    simp
    repeat' first | exact wn | apply wc | exact wj _ | exact wr _ | exact wz _ | exact wo _ _ _ | exact wi (by omega)
   ·skip
    refine Run.reg fun K J => ?_
    simp [hlen]
    refine J _ _ _ (nv ?_); clear J
    refine Go.AI.cf (by simp [hk]) (nv ?_)
    refine Run.reg fun K J => ?_
    simp [hlen, cF]
    refine J _ _ _ ?_; clear J
    refine Run.call (f := 118) (args := [.p (.sl 3 (ptPs qs)), .ptr q 0, .ptr f 0]) rfl rfl (by simp) rfl (ihx _) ?_ ?_
    rotate_left
    ·rintro v h' ⟨hv, _⟩; cases hv
    rintro v h' ⟨hv, s2, rfl⟩
    simp only [AOut.ret.injEq] at hv
    subst hv
    refine Run.ops fun K J => ?_
    simp
    refine J _ _ _ (nv ?_); clear J
    refine Run.reg fun K J => ?_
    simp
    try (simp (disch := omega) only [wrap_id])
    refine J _ _ _ (nv ?_); clear J
    refine Run.keep [1, 2, 6, 7, 8] ?_
    simp
    refine Run.cutAt 0 (hwf s2) rfl (by rw [hlen]; omega) (by simp) (by simp [hlen]; omega) (by simp) rfl ?_
    simp
    refine IH (j + 1, s2) _ _ (by simp only; omega) (by simp only; omega) ?_ (by simp)
    simp
    repeat' first | exact wn | apply wc | exact wj _ | exact wr _ | exact wz _ | exact wo _ _ _ | exact wi (by omega)
  ·have hje : l.length ≤ j := by omega
   refine Go.AI.cf (by simp [hje]) ?_
   refine Run.exit rfl ?_
   refine Run.nil ?_
   exact Fin.ret' (h0 := B s1) (by simp) (by rw [hlen]) (hwf s1) (List.append_nil _).symm rfl rfl (Weak.refl _) rfl ⟨rfl, s1, rfl⟩
 induction N with
 | zero =>
  intro l s B n q f hl hB
  cases l with
  | nil => exact fun a b c d e => key [] s B n q f hB a b c d e (by simp)
  | cons p l => have := p.size_pos; simp only [Pt.sizes] at hl; omega
 | succ N ih =>
  intro l s B n q f hl hB hlen hwf hq hset hf
  refine key l s B n q f hB hlen hwf hq hset hf fun p hp s1 => ?_
  have h2 := Pt.size_at hp
  obtain ⟨pk, pn, qs⟩ := p
  simp only [Pt.size] at h2
  have hqlt := (List.getElem?_eq_some_iff.1 (hq s)).1
  have hflt := (List.getElem?_eq_some_iff.1 (hf s)).1
  rw [hlen] at hqlt hflt
  simp only [Pt.args, pcells_mk, List.map]
  exact ih qs s1 (fun s => B s ++ [some (.cells [iA pk, .p (sP pn), .p (.sl 3 (ptPs qs))])]) (n + 1) q f (by omega) (by omega) (fun s => by simp [hlen]) (fun s => (hwf s).app (by simp))
   (fun s => by rw [List.getElem?_append_left (by rw [hlen]; exact hqlt)]; exact hq s) (fun s s' => by rw [List.set_append_left _ _ (by rw [hlen]; exact hqlt), hset])
   (fun s => by rw [List.getElem?_append_left (by rw [hlen]; exact hflt)]; exact hf s)
theorem tests_any (cls : List Cl) (hs : cls.length ≤ 1048576) (hc : ∀ c ∈ cls, Pt.sizes c.ps ≤ 1048576) (h : Heap) (hh : WF h) : ACalls Tryz.prog 61 [.p (.sl 6 (clPs cls))] h fun o h' => RetI (fun _ => True) o ∧ h' = h := by
 refine ACalls.of_run Tryz.func61 rfl ?_
 simp only [Tryz.ntmps61, List.length_cons, List.length_nil]
 refine nv ?_
 refine Run.reg fun K J => ?_
 simp
 refine J _ _ _ (nv ?_); clear J
 refine Run.reg fun K J => ?_
 simp
 refine J _ _ _ (nv ?_); clear J
 refine Run.reg fun K J => ?_
 simp
 refine J _ _ _ (nv ?_); clear J
 refine Run.reg fun K J => ?_
 simp
 refine J _ _ _ (nv ?_); clear J
 refine Run.reg fun K J => ?_
 simp
 refine J _ _ _ (nv ?_); clear J
 refine Run.loopS (ι := Nat × Int) [3, 4, 8, 9] (fun p => p.1 ≤ cls.length) (fun p => cls.length - p.1) (fun p => [(10, iA p.1)])
  (fun p => h ++ [some (.cells [iA p.2]), some (.cells [.fn (.func 118) [] [.ptr h.length 0, .ptr (h.length + 1) 0]])]) (0, 0) (by simp) ?_ (by simp) ?_
 ·simp
  repeat' first | exact wn | apply wc | exact wj _ | exact wr _ | exact wz _ | exact wo _ _ _ | exact wi (by omega)
 rintro ⟨j, s⟩ hj IH
 simp only at hj
 simp
 refine nv ?_
 refine Run.reg fun K J => ?_
 simp
 refine J _ _ _ (nv ?_); clear J
 by_cases hjl : j < cls.length
 ·have hgj : cls[j]? = some cls[j] := List.getElem?_eq_getElem hjl
  have hmem := List.getElem_mem hjl
  generalize cls[j] = c at hgj hmem
  have hcz := hc c hmem
  obtain ⟨ps, ⟨k, i, nm, ls, ks⟩⟩ := c
  have c1 := tests1_any _ ps s (fun s => h ++ [some (.cells [iA s]), some (.cells [.fn (.func 118) [] [.ptr h.length 0, .ptr (h.length + 1) 0]]), some (.cells [.p (.sl 3 (ptPs ps)), iA k, iA i, .p (sP nm), .p (.sl 2 (lvPs ls)), .p (.sl 5 (tmPs ks))])]) (h.length + 3) h.length (h.length + 1) (Nat.le_refl _) hcz
   (fun s => by simp) (fun s => hh.app (by simp)) (fun s => by simp) (fun s s' => by simp) (fun s => by simp)
  refine ct (by simp [hjl]) (nv ?_)
  refine Run.reg fun K J => ?_
  simp [hgj, Cl.cells]
  refine J _ _ _ (nv ?_); clear J
  refine Run.reg fun K J => ?_
  simp
  refine J _ _ _ ?_; clear J
  refine Run.call rfl (by first | rfl | simp) (by simp) rfl c1 ?_ ?_
  rotate_left
  ·rintro v h' ⟨hv, _⟩; cases hv
  rintro v h' ⟨hv, s2, rfl⟩
  simp only [AOut.ret.injEq] at hv
  subst hv
  refine Run.ops fun K J => ?_
  simp
  refine J _ _ _ (nv ?_); clear J
  refine Run.reg fun K J => ?_
  simp
  try (simp (disch := omega) only [wrap_id])
  refine J _ _ _ (nv ?_); clear J
  refine Run.keep [3, 4, 8, 9, 10] ?_
  simp
  refine Run.cutAt 2 hh rfl (by omega) (by simp) (by simp) (by simp) rfl ?_
  simp
  refine IH (j + 1, s2) _ _ (by simp only; omega) (by simp only; omega) ?_ (by simp)
  simp
  repeat' first | exact wn | apply wc | exact wj _ | exact wr _ | exact wz _ | exact wo _ _ _ | exact wi (by omega)
 ·have hje : cls.length ≤ j := by omega
  refine Go.AI.cf (by simp [hje]) ?_
  refine Run.exit rfl ?_
  refine nv ?_
  refine Run.reg fun K J => ?_
  simp
  refine J _ _ _ (nv ?_); clear J
  refine Run.ret ?_
  exact Fin.ret' (h0 := h) (by simp) rfl hh rfl (by simp; rfl) rfl (Weak.refl _) (by simp) ⟨⟨s, rfl, trivial⟩, rfl⟩
theorem most_any (env : List Dc) (hg : Env.good env) (h : Heap) (hh : WF h) : ACalls Tryz.prog 62 [envA env] h fun o h' => RetI (fun _ => True) o ∧ h' = h := by
 have hel := hg.1
 refine ACalls.of_run Tryz.func62 rfl ?_
 simp only [Tryz.ntmps62, List.length_cons, List.length_nil]
 refine nv ?_
 refine Run.reg fun K J => ?_
 simp
 refine J _ _ _ (nv ?_); clear J
 refine Run.reg fun K J => ?_
 simp
 refine J _ _ _ (nv ?_); clear J
 refine Run.reg fun K J => ?_
 simp
 refine J _ _ _ (nv ?_); clear J
 refine Run.loopS (ι := Nat × Int) [6, 7] (fun p => p.1 ≤ env.length) (fun p => env.length - p.1) (fun p => [(3, iA p.2), (8, iA p.1)]) (fun _ => h) (0, 0) (by simp) ?_ rfl ?_
 ·simp
  repeat' first | exact wn | apply wc | exact wj _ | exact wr _ | exact wz _ | exact wo _ _ _ | exact wi (by omega)
 rintro ⟨j, s⟩ hj IH
 simp only at hj
 simp
 refine nv ?_
 refine Run.reg fun K J => ?_
 simp
 refine J _ _ _ (nv ?_); clear J
 by_cases hjl : j < env.length
 ·have hgj : env[j]? = some env[j] := List.getElem?_eq_getElem hjl
  have hmem := List.getElem_mem hjl
  generalize env[j] = d at hgj hmem
  have hdg := (hg.2 d hmem).csl
  have hdcl : d.cells.length = 23 := dc_cells_len d
  obtain ⟨dc, hdc, hdl, hone, hdu, hd14, _⟩ := dc_fields d
  have hd14' : ∀ q : 14 < dc.length, dc[14] = .p (.sl 6 (d.cs.map Ct.cells)) := fun q => by rw [List.getElem?_eq_getElem q] at hd14; exact Option.some.inj hd14
  have htd : List.take 23 dc = dc := List.take_of_length_le (by omega)
  have hpa : ∀ l : List AV, l.length = 23 → patch l 0 dc = dc := fun l hl' => by
   have := patch_full dc l [] (by rw [hl', hdl])
   simpa only [List.append_nil] using this
  have hdm : d.cells.map AV.p = dc := by simpa [Dc.av] using hdc
  refine ct (by simp [hjl]) (nv ?_)
  refine Run.reg fun K J => ?_
  simp [hgj, hdcl, hdm, hdl, htd, hone, hpa]
  refine J _ _ _ (nv ?_); clear J
  refine Run.reg fun K J => ?_
  simp [hd14', hdl]
  refine J _ _ _ (nv ?_); clear J
  refine Run.reg fun K J => ?_
  simp
  try (simp (disch := omega) only [wrap_id])
  refine J _ _ _ (nv ?_); clear J
  refine Run.keep [3, 6, 7, 8] ?_
  simp
  refine Run.cutAt 0 hh rfl (by omega) (by simp) (by simp) (by simp) rfl ?_
  simp
  refine IH (j + 1, if s < (d.cs.length : Int) then (d.cs.length : Int) else s) _ _ (by simp only; omega) (by simp only; omega) ?_ (by simp)
  simp
  repeat' first | exact wn | apply wc | exact wj _ | exact wr _ | exact wz _ | exact wo _ _ _ | exact wi (by omega)
 ·have hje : env.length ≤ j := by omega
  refine Go.AI.cf (by simp [hje]) ?_
  refine Run.exit rfl ?_
  refine nv ?_
  refine Run.reg fun K J => ?_
  simp
  refine J _ _ _ (nv ?_); clear J
  by_cases h6 : 6 < s
  ·skip
   refine ct (by simp [h6]) (nv ?_)
   refine Run.reg fun K J => ?_
   simp
   refine J _ _ _ (nv ?_); clear J
   refine Run.ret ?_
   exact Fin.ret' (by simp) rfl hh (List.append_nil _).symm (by simp; rfl) rfl (Weak.refl _) (by simp) ⟨⟨_, rfl, trivial⟩, rfl⟩
  ·skip
   refine Go.AI.cf (by simp [h6]) (nv ?_)
   refine Run.reg fun K J => ?_
   simp
   refine J _ _ _ (nv ?_); clear J
   by_cases h3 : 3 < s
   ·skip
    refine ct (by simp [h3]) (nv ?_)
    refine Run.reg fun K J => ?_
    simp
    refine J _ _ _ (nv ?_); clear J
    refine Run.ret ?_
    exact Fin.ret' (by simp) rfl hh (List.append_nil _).symm (by simp; rfl) rfl (Weak.refl _) (by simp) ⟨⟨_, rfl, trivial⟩, rfl⟩
   ·skip
    refine Go.AI.cf (by simp [h3]) (nv ?_)
    refine Run.reg fun K J => ?_
    simp
    refine J _ _ _ (nv ?_); clear J
    refine Run.ret ?_
    exact Fin.ret' (by simp) rfl hh (List.append_nil _).symm (by simp; rfl) rfl (Weak.refl _) (by simp) ⟨⟨_, rfl, trivial⟩, rfl⟩


open Go Go.AI
theorem few18_any (env : List Dc) (hg : Env.good env) (cls : List Cl) (v : List Pt) (hs : PSmall cls v) (h : Heap) (hh : WF h) :
  ACalls Tryz.prog 19 [envA env, .p (.sl 6 (clPs cls)), .p (.sl 3 (ptPs v))] h fun o h' => RetB (fun b => b = true → EnvFine env) o ∧ h' = h := by
 have hcl := hs.cl
 have hvl := psz_len v
 have hvs := hs.vs
 have c1 := fun (g : Heap) (hw : WF g) => psmall_any _ v 16 (Nat.le_refl _) hs.vs (by omega) (by omega) g hw
 have c2 := fun (c : Cl) (hc : c ∈ cls) (g : Heap) (hw : WF g) => psmall_any _ c.ps 16 (Nat.le_refl _) (hs.cs c hc) (by omega) (by omega) g hw
 have c3 : ∀ (g : Heap) (hw : WF g), ACalls Tryz.prog 20 [envA env, .p (.prim (.slice none 0 0))] g fun o h' => RetB (fun b => b = true → EnvFine env) o ∧ h' = g := fun g hw => by
  refine ACalls.weak (args' := [envA env, .p (.sl 5 (tmPs []))]) (WeakL.cons (Weak.refl _) (WeakL.cons (Weak.nil _) WeakL.nil)) ?_
  refine (small08_any g hw env [] hg (by simp [Tm.sizes]) (by simp [Tm.lvss]) (by simp [Tm.fits]) (by simp)).mono ?_
  rintro o h' ⟨⟨b, hb, hb2⟩, e⟩
  exact ⟨⟨b, hb, fun hb => (hb2 hb).1⟩, e⟩
 have c4 := fun (g : Heap) (hw : WF g) => tests_any cls hs.cl hs.cs g hw
 have c5 := fun (g : Heap) (hw : WF g) => most_any env hg g hw
 refine ACalls.of_run Tryz.func19 rfl ?_
 simp only [Tryz.ntmps19, List.length_cons, List.length_nil]
 refine nv ?_
 refine Run.reg fun K J => ?_
 simp
 refine J _ _ _ (nv ?_); clear J
 refine Run.reg fun K J => ?_
 simp
 refine J _ _ _ ?_; clear J
 refine Run.call rfl (by first | rfl | simp) (by simp) rfl (c1 _ hh) ?_ ?_
 rotate_left
 ·rintro v h' ⟨hv, _⟩; cases hv
 rintro v h' ⟨hv, rfl⟩
 simp only [AOut.ret.injEq] at hv
 subst hv
 obtain ⟨sm, hsm⟩ : ∃ sm, smPs 16 v = sm := ⟨_, rfl⟩
 rw [hsm]
 obtain ⟨k0, b0, hk0⟩ : ∃ k b, smA sm = .tup [iA k, bA b] := by cases sm <;> exact ⟨_, _, rfl⟩
 rw [hk0]
 clear hk0 hsm
 refine Run.ops fun K J => ?_
 simp
 refine J _ _ _ (nv ?_); clear J
 refine Run.reg fun K J => ?_
 simp
 refine J _ _ _ (nv ?_); clear J
 refine Run.loopS (ι := Nat × Bool) [0, 1, 2, 18, 19] (fun p => p.1 ≤ cls.length) (fun p => cls.length - p.1) (fun p => [(8, bA p.2), (20, iA p.1)]) (fun _ => h') (0, b0) (by simp) ?_ rfl ?_
 ·simp
  repeat' first | exact wn | apply wc | exact wj _ | exact wr _ | exact wz _ | exact wo _ _ _ | exact wi (by omega)
 rintro ⟨j, b⟩ hj IH
 simp only at hj
 simp
 refine nv ?_
 refine Run.reg fun K J => ?_
 simp
 refine J _ _ _ (nv ?_); clear J
 by_cases hjl : j < cls.length
 ·have hgj : cls[j]? = some cls[j] := List.getElem?_eq_getElem hjl
  have hmem := List.getElem_mem hjl
  generalize cls[j] = c at hgj hmem
  have c2 := c2 c hmem
  obtain ⟨ps, ⟨k, i, nm, ls, ks⟩⟩ := c
  simp only at c2
  refine ct (by simp [hjl]) (nv ?_)
  refine Run.reg fun K J => ?_
  simp [hgj, Cl.cells]
  refine J _ _ _ (nv ?_); clear J
  refine Run.reg fun K J => ?_
  simp
  refine J _ _ _ ?_; clear J
  refine rl rfl (by first | rfl | simp) (by simp) rfl (c2 _ (hh.app (by simp))) ?_
  obtain ⟨sm, hsm⟩ : ∃ sm, smPs 16 ps = sm := ⟨_, rfl⟩
  rw [hsm]
  obtain ⟨k1, b1, hk1⟩ : ∃ k b, smA sm = .tup [iA k, bA b] := by cases sm <;> exact ⟨_, _, rfl⟩
  rw [hk1]
  clear hk1 hsm
  refine Run.ops fun K J => ?_
  simp
  refine J _ _ _ (nv ?_); clear J
  cases b with
  | false =>
   refine Run.reg fun K J => ?_
   simp
   refine J _ _ _ (nv ?_); clear J
   refine Run.reg fun K J => ?_
   simp
   try (simp (disch := omega) only [wrap_id])
   refine J _ _ _ (nv ?_); clear J
   refine Run.keep [0, 1, 2, 8, 18, 19, 20] ?_
   simp
   refine Run.cutAt 0 hh rfl (by omega) (by simp) (by simp) (by simp) rfl ?_
   simp
   refine IH (j + 1, false) _ _ (by simp only; omega) (by simp only; omega) ?_ (by simp)
   simp
   repeat' first | exact wn | apply wc | exact wj _ | exact wr _ | exact wz _ | exact wo _ _ _ | exact wi (by omega)
  | true =>
   cases b1 with
   | false =>
    refine Run.reg fun K J => ?_
    simp
    refine J _ _ _ (nv ?_); clear J
    refine Run.reg fun K J => ?_
    simp
    try (simp (disch := omega) only [wrap_id])
    refine J _ _ _ (nv ?_); clear J
    refine Run.keep [0, 1, 2, 8, 18, 19, 20] ?_
    simp
    refine Run.cutAt 0 hh rfl (by omega) (by simp) (by simp) (by simp) rfl ?_
    simp
    refine IH (j + 1, false) _ _ (by simp only; omega) (by simp only; omega) ?_ (by simp)
    simp
    repeat' first | exact wn | apply wc | exact wj _ | exact wr _ | exact wz _ | exact wo _ _ _ | exact wi (by omega)
   | true =>
    by_cases h4 : (ps.length : Int) ≤ 4
    ·have h4' : ps.length ≤ 4 := by omega
     refine Run.reg fun K J => ?_
     simp [h4]
     refine J _ _ _ (nv ?_); clear J
     refine Run.reg fun K J => ?_
     simp
     try (simp (disch := omega) only [wrap_id])
     refine J _ _ _ (nv ?_); clear J
     refine Run.keep [0, 1, 2, 8, 18, 19, 20] ?_
     simp
     refine Run.cutAt 0 hh rfl (by omega) (by simp) (by simp) (by simp) rfl ?_
     simp
     refine IH (j + 1, true) _ _ (by simp only; omega) (by simp only; omega) ?_ (by simp)
     simp
     repeat' first | exact wn | apply wc | exact wj _ | exact wr _ | exact wz _ | exact wo _ _ _ | exact wi (by omega)
    ·have h4' : ¬ ps.length ≤ 4 := by omega
     refine Run.reg fun K J => ?_
     simp [h4]
     refine J _ _ _ (nv ?_); clear J
     refine Run.reg fun K J => ?_
     simp
     try (simp (disch := omega) only [wrap_id])
     refine J _ _ _ (nv ?_); clear J
     refine Run.keep [0, 1, 2, 8, 18, 19, 20] ?_
     simp
     refine Run.cutAt 0 hh rfl (by omega) (by simp) (by simp) (by simp) rfl ?_
     simp
     refine IH (j + 1, false) _ _ (by simp only; omega) (by simp only; omega) ?_ (by simp)
     simp
     repeat' first | exact wn | apply wc | exact wj _ | exact wr _ | exact wz _ | exact wo _ _ _ | exact wi (by omega)
 ·have hje : cls.length ≤ j := by omega
  refine Go.AI.cf (by simp [hje]) ?_
  refine Run.exit rfl ?_
  refine nv ?_
  cases b with
  | false =>
   refine Run.reg fun K J => ?_
   simp
   refine J _ _ _ (nv ?_); clear J
   refine Run.ret ?_
   exact Fin.ret' (by simp) rfl hh (List.append_nil _).symm (by simp; rfl) rfl (Weak.refl _) (by simp) ⟨⟨_, rfl, fun h => by cases h⟩, rfl⟩
  | true =>
  by_cases h4 : (v.length : Int) ≤ 4
  rotate_left
  ·have h4' : ¬ v.length ≤ 4 := by omega
   refine Run.reg fun K J => ?_
   simp [h4]
   refine J _ _ _ (nv ?_); clear J
   refine Run.ret ?_
   exact Fin.ret' (by simp) rfl hh (List.append_nil _).symm (by simp; rfl) rfl (Weak.refl _) (by simp) ⟨⟨_, rfl, fun h => by cases h⟩, rfl⟩
  have h4' : v.length ≤ 4 := by omega
  by_cases h6 : (cls.length : Int) ≤ 6
  rotate_left
  ·have h6' : ¬ cls.length ≤ 6 := by omega
   refine Run.reg fun K J => ?_
   simp [h4, h6]
   refine J _ _ _ (nv ?_); clear J
   refine Run.ret ?_
   exact Fin.ret' (by simp) rfl hh (List.append_nil _).symm (by simp; rfl) rfl (Weak.refl _) (by simp) ⟨⟨_, rfl, fun h => by cases h⟩, rfl⟩
  have h6' : cls.length ≤ 6 := by omega
  refine Run.reg fun K J => ?_
  simp [h4, h6]
  refine J _ _ _ ?_; clear J
  refine Run.call rfl (by first | rfl | simp) (by simp) rfl (c3 _ hh) ?_ ?_
  rotate_left
  ·rintro v h' ⟨⟨_, hv, _⟩, _⟩; cases hv
  rintro v h' ⟨⟨b, hv, hb⟩, rfl⟩
  simp only [AOut.ret.injEq] at hv
  subst hv
  cases b with
  | false =>
   refine Run.ops fun K J => ?_
   simp
   refine J _ _ _ (nv ?_); clear J
   refine Run.ret ?_
   exact Fin.ret' (by simp) rfl hh (List.append_nil _).symm (by simp; rfl) rfl (Weak.refl _) (by simp) ⟨⟨_, rfl, fun h => by cases h⟩, rfl⟩
  | true =>
   have he := hb rfl
   refine Run.ops fun K J => ?_
   simp
   refine J _ _ _ ?_; clear J
   refine Run.call rfl (by first | rfl | simp) (by simp) rfl (c4 _ hh) ?_ ?_
   rotate_left
   ·rintro v h' ⟨⟨_, hv, _⟩, _⟩; cases hv
   rintro v h' ⟨⟨n1, hv, hn1⟩, rfl⟩
   simp only [AOut.ret.injEq] at hv
   subst hv
   refine Run.ops fun K J => ?_
   simp
   refine J _ _ _ ?_; clear J
   refine Run.call rfl (by first | rfl | simp) (by simp) rfl (c5 _ hh) ?_ ?_
   rotate_left
   ·rintro v h' ⟨⟨_, hv, _⟩, _⟩; cases hv
   rintro v h' ⟨⟨n2, hv, hn2⟩, rfl⟩
   simp only [AOut.ret.injEq] at hv
   subst hv
   refine Run.ops fun K J => ?_
   simp
   refine J _ _ _ (nv ?_); clear J
   refine Run.ret ?_
   exact Fin.ret' (by simp) rfl hh (List.append_nil _).symm (by simp; rfl) rfl (Weak.refl _) (by simp) ⟨⟨_, rfl, fun _ => he⟩, rfl⟩

end Go.Proofs.YtcfcolkbeelegaaGreat

namespace Go.AI

open Go

section

variable {P : Program} {rd : Option Nat} {nb : Nat} {all : Array Oper} {k : List It} {T : List AV} {h : Heap} {D : List AD} {Q : AX → List AV → Heap → List AD → Prop} {o : Oper} {rest : List Oper}
theorem fnil_run {P : Program} {w : World} {t : TypeId} {ox : Operand} {a b c} (ht : P.underlying t = some (.func a b c)) (x : Value) (r : Bool) (hx : (x = .nilFunc ∧ r = true) ∨ (∃ f u v, x = .func f u v) ∧ r = false) :
  (do eqGuard .eql t ox (.const .nilFunc) x .nilFunc; binOp .eql t x .nilFunc : Sem Value).run P w = .ok (.bool r) w := by
 have h1 : ∀ d, (Op.equalIn (d + 1) t .nilFunc .nilFunc).run P w = .ok true w := by
  intro d; simp only [Op.equalIn, Sem.run_bind, run_underlying ht, Result.andThen_ok]; rfl
 have h2 : ∀ d f u v, (Op.equalIn (d + 1) t (.func f u v) .nilFunc).run P w = .ok false w := by
  intro d f u v; simp only [Op.equalIn, Sem.run_bind, run_underlying ht, Result.andThen_ok]; rfl
 have e1 : (Op.equal t .nilFunc .nilFunc).run P w = .ok true w := h1 9999
 have e2 : ∀ f u v, (Op.equal t (.func f u v) .nilFunc).run P w = .ok false w := h2 9999
 have g1 : (eqGuard .eql t ox (.const .nilFunc) .nilFunc .nilFunc).run P w = .ok () w := by
  unfold eqGuard; simp
 have g2 : ∀ f u v, (eqGuard .eql t ox (.const .nilFunc) (.func f u v) .nilFunc).run P w = .ok () w := by
  intro f u v; unfold eqGuard; rfl
 rcases hx with ⟨rfl, rfl⟩ | ⟨⟨f, u, v, rfl⟩, rfl⟩
 ·simp [g1, binOp, e1]
 ·simp [g2, binOp, e2]
theorem Run.funcNil (r : Bool) {t t2 : TypeId} {x : Operand} (ho : o.op = .binOp .eql t x (.const .nilFunc) t2) (hw : awanted all T o = some true) (ht : ∃ a b c, P.underlying t = some (.func a b c))
  (hx : (aev T x = .p (.prim .nilFunc) ∧ r = true) ∨ (∃ f u v, aev T x = .fn f u v) ∧ r = false)
  (n : Run P rd nb (.ops all rest :: k) (tput T o.dst (.p (.prim (.bool r)))) h D Q) : Run P rd nb (.ops all (o :: rest) :: k) T h D Q := by
 refine Run.opR (R := fun y h' => y = .p (.prim (.bool r)) ∧ h' = h) hw (fun c hc => by rw [hc] at ho; cases ho) ?_ (by rintro y h' ⟨rfl, rfl⟩; exact n)
 obtain ⟨a, b, c, ht⟩ := ht
 intro E w ac s
 have hr := aev_rep s x
 refine ⟨_, _, E, w, .bool r, ⟨rfl, rfl⟩, ?_, s.rel, s.fresh, by simp [Rep, RepP, isPrim], Fr.refl _ _ _⟩
 have : ((do eqGuard .eql t x (.const .nilFunc) (ac.eval x) .nilFunc; binOp .eql t (ac.eval x) .nilFunc : Sem Value)).run P w = .ok (.bool r) w := by
  refine fnil_run ht _ _ ?_
  rcases hx with ⟨e, rfl⟩ | ⟨⟨f, u, v, e⟩, rfl⟩
  ·rw [e] at hr
   simp only [Rep, RepP] at hr
   exact .inl ⟨hr.1, rfl⟩
  ·rw [e] at hr
   simp only [Rep] at hr
   obtain ⟨vs, us, e2, _, _⟩ := hr
   exact .inr ⟨⟨_, _, _, e2⟩, rfl⟩
 have hq : ac.eval (.const .nilFunc) = .nilFunc := rfl
 simp only [execOp, ho, hq]
 rw [Sem.run_bind, this]
 rfl

end


open Go

section

variable {P : Program} {rd : Option Nat} {nb : Nat} {all : Array Oper} {k : List It} {T : List AV} {h : Heap} {D : List AD} {Q : AX → List AV → Heap → List AD → Prop} {o : Oper} {rest : List Oper}
theorem Run.assertHit {t xT : TypeId} {x : Operand} {y : AV} (ho : o.op = .typeAssert x xT t true) (hw : awanted all T o = some true) {fs} (ht : P.underlying t = some (.struct fs)) (hx : aev T x = .ifc t y)
  (n : Run P rd nb (.ops all rest :: k) (tput T o.dst (.tup [y, .p (.prim (.bool true))])) h D Q) : Run P rd nb (.ops all (o :: rest) :: k) T h D Q := by
 refine Run.opR (R := fun z h' => z = .tup [y, .p (.prim (.bool true))] ∧ h' = h) hw (fun c hc => by rw [hc] at ho; cases ho) ?_ (by rintro z h' ⟨rfl, rfl⟩; exact n)
 intro E w ac s
 have hr := aev_rep s x
 rw [hx] at hr
 simp only [Rep] at hr
 obtain ⟨u, e, hu⟩ := hr
 refine ⟨_, _, E, w, .tuple #[u, .bool true], ⟨rfl, rfl⟩, ?_, s.rel, s.fresh, ?_, Fr.refl _ _ _⟩
 ·simp [execOp, ho, e, Instr.typeAssert, run_underlying ht]
 ·simp only [Rep, RepL, RepP]
  exact ⟨[u, .bool true], rfl, u, [.bool true], rfl, hu, .bool true, [], rfl, ⟨rfl, rfl⟩, rfl⟩
theorem Run.assertMiss {t t0 xT : TypeId} {x : Operand} {y : AV} {z : List Value} (ho : o.op = .typeAssert x xT t true) (hw : awanted all T o = some true) {fs} (ht : P.underlying t = some (.struct fs)) (hx : aev T x = .ifc t0 y) (hne : t0 ≠ t)
  (hz : ∀ w, (zeroValue t).run P w = .ok (.agg z.toArray) w) (hzp : z.all isPrim = true)
  (n : Run P rd nb (.ops all rest :: k) (tput T o.dst (.tup [.agg (prims z), .p (.prim (.bool false))])) h D Q) : Run P rd nb (.ops all (o :: rest) :: k) T h D Q := by
 refine Run.opR (R := fun v h' => v = .tup [.agg (prims z), .p (.prim (.bool false))] ∧ h' = h) hw (fun c hc => by rw [hc] at ho; cases ho) ?_ (by rintro v h' ⟨rfl, rfl⟩; exact n)
 intro E w ac s
 have hr := aev_rep s x
 rw [hx] at hr
 simp only [Rep] at hr
 obtain ⟨u, e, hu⟩ := hr
 refine ⟨_, _, E, w, .tuple #[.agg z.toArray, .bool false], ⟨rfl, rfl⟩, ?_, s.rel, s.fresh, ?_, Fr.refl _ _ _⟩
 ·simp [execOp, ho, e, Instr.typeAssert, run_underlying ht, hne, hz]
 ·have hp : ∀ l : List Value, l.all isPrim = true → RepL E w (prims l) l := by
   intro l
   induction l with
   | nil => intro _; rfl
   | cons a l ih =>
    intro hl
    simp only [List.all_cons, Bool.and_eq_true] at hl
    exact ⟨_, _, rfl, ⟨rfl, hl.1⟩, ih hl.2⟩
  simp only [Rep, RepL, RepP]
  exact ⟨[.agg z.toArray, .bool false], rfl, .agg z.toArray, [.bool false], rfl, ⟨z, rfl, hp z hzp⟩, .bool false, [], rfl, ⟨rfl, rfl⟩, rfl⟩

end

end Go.AI
