import Derived.Test.YtcfcolkbeelegaaGreatVPZa
import Derived.Test.YtcfcolkbeelegaaGreatVQQ
import Derived.Test.YtcfcolkbeelegaaGreatVQH
import Derived.Test.YtcfcolkbeelegaaGreatVPR
import Derived.Test.YtcfcolkbeelegaaGreatVFJ
import Derived.Test.YtcfcolkbeelegaaGreatVPN
set_option linter.unusedSectionVars false

namespace Go.Proofs.YtcfcolkbeelegaaGreat

open Go Go.AI
set_option maxRecDepth 16000 in
set_option maxHeartbeats 4000000 in
theorem awake18_any (h : Heap) (hh : WF h) : ACalls Tryz.prog 21 [] h fun o h' => o = .ret (bA true) ∧ h' = h := by
 have n1 := fun (g : Heap) (hw : WF g) => naturals_any g hw
 have k1 := k1_any
 have k2 := k2_any
 simp only [zeroB, succB] at k1 k2
 obtain ⟨NE, hNE⟩ : ∃ NE, natE.map Dc.cells = NE := ⟨_, rfl⟩
 simp only [envA, hNE] at n1
 have m1 := m1_any
 have m2 := m2_any
 have v1 := v1_any
 have v2 := v2_any
 have v3 := v3_any
 have v4 := v4_any
 have s3 := s69_any 3
 have s5 := s69_any 5
 have q1 := q25_any
 have c3 := c68_any
 have t1 := t39_any
 simp only [hNE, mtA, zRaw, sRaw, rc, rT, rZ, zeroB, succB, sPn, vPt, Pt.av, pcells_mk, ptPs, sucT, appT, vr, Tm.av, tmPs, cells_mk, lvPs, List.map] at m1 m2 v1 v2 v3 v4 s3 s5 q1 c3 t1
 refine ACalls.of_run Tryz.func21 rfl ?_
 simp only [Tryz.ntmps21, List.length_nil]
 refine nv ?_
 refine Run.reg fun K J => ?_
 simp
 refine J _ _ _ (nv ?_); clear J
 refine Run.reg fun K J => ?_
 simp
 refine J _ _ _ ?_; clear J
 refine Run.call rfl (by first | rfl | simp) (by simp) rfl (n1 _ hh) ?_ ?_
 rotate_left
 ·rintro v h' ⟨hv, _⟩; cases hv
 rintro v h' ⟨hv, rfl⟩
 simp only [AOut.ret.injEq] at hv
 subst hv
 refine Run.ops fun K J => ?_
 simp
 refine J _ _ _ (nv ?_); clear J
 refine PC.Run.draw2 (pc := [0, 3]) 4 5 [0, 0, 0, 0, 0, 1, 2, 3] [0, 0, 0, 0, 0, 1, 2, 3] [0, 0, 2, 7, 0, 16, 63, 127] [4, 5, 0, 1, 2, 3, 6, 7] [0, 0, 0, 0, 1, 0, 2, 3] [0, 0, 0, 0, 1, 0, 2, 3] [0, 0, 2, 7, 32, 0, 63, 127] [5, 4, 0, 1, 2, 3, 6, 7] (by kernel_rfl) (by kernel_rfl) (by kernel_rfl) (by kernel_rfl) ?_ ?_
 all_goals
  refine PC.DR.go fun K J => ?_
  simp
  refine J _ _ _ _ ?_; clear J
  refine PC.DR.pcall rfl rfl rfl (by simp) rfl rfl (fun g hg => k1 g ?_) ?_
  ·simp at hg
   (first | (rcases hg with rfl | rfl | rfl | rfl) | (rcases hg with rfl | rfl | rfl) | (rcases hg with rfl | rfl) | subst hg) <;> exact hh.app (by simp)
  refine PC.DR.go fun K J => ?_
  simp
  refine J _ _ _ _ ?_; clear J
  refine PC.DR.pcall rfl rfl rfl (by simp) rfl rfl (fun g hg => k2 g ?_) ?_
  ·simp at hg
   (first | (rcases hg with rfl | rfl | rfl | rfl) | (rcases hg with rfl | rfl | rfl) | (rcases hg with rfl | rfl) | subst hg) <;> exact hh.app (by simp)
  simp only [zPn, sPn, vPt, zeroB, succB, Pt.av, pcells_mk, ptPs, List.map]
  refine PC.DR.go fun K J => ?_
  simp
  refine J _ _ _ _ ?_; clear J
  change Run _ _ _ _ _ _ _ _
  refine nv ?_
  refine Run.reg fun K J => ?_
  simp
  refine J _ _ _ (nv ?_); clear J
  refine Run.reg fun K J => ?_
  simp
  refine J _ _ _ (nv ?_); clear J
  refine Run.reg fun K J => ?_
  simp
  refine J _ _ _ (nv ?_); clear J
  refine PC.Run.drawP (pc := [4, 7, 9]) [0, 0, 0, 0, 0, 0, 0, 0, 0, 0, 0, 0, 0, 0, 0, 0, 0] [0, 0, 0, 0, 0, 0, 0, 0, 0, 0, 0, 0, 0, 0, 0, 0, 0] [0, 0, 0, 0, 12, 0, 0, 124, 252, 511, 1023, 2047, 2047, 2047, 4095, 24575, 65535] [0, 1, 2, 3, 4, 5, 6, 7, 8, 9, 10, 11, 12, 13, 14, 15, 16] (by kernel_rfl) (by kernel_rfl) ?_
  refine PC.DR.go fun K J => ?_
  simp
  refine J _ _ _ _ ?_; clear J
  refine PC.DR.pcall rfl rfl rfl (by simp) rfl rfl (fun g hg => s3 g ?_) ?_
  ·simp at hg
   (first | (rcases hg with rfl | rfl | rfl | rfl) | (rcases hg with rfl | rfl | rfl) | (rcases hg with rfl | rfl) | subst hg) <;> exact hh.app (by simp)
  refine PC.DR.go fun K J => ?_
  simp
  refine J _ _ _ _ ?_; clear J
  refine PC.DR.pcall rfl rfl rfl (by simp) rfl rfl (fun g hg => s5 g ?_) ?_
  ·simp at hg
   (first | (rcases hg with rfl | rfl | rfl | rfl) | (rcases hg with rfl | rfl | rfl) | (rcases hg with rfl | rfl) | subst hg) <;> exact hh.app (by simp)
  refine PC.DR.go fun K J => ?_
  simp
  refine J _ _ _ _ ?_; clear J
  refine PC.DR.pcall rfl rfl rfl (by simp) rfl rfl (fun g hg => m1 g ?_) ?_
  ·simp at hg
   (first | (rcases hg with rfl | rfl | rfl | rfl) | (rcases hg with rfl | rfl | rfl) | (rcases hg with rfl | rfl) | subst hg) <;> exact hh.app (by simp)
  refine PC.DR.go fun K J => ?_
  simp
  refine J _ _ _ _ ?_; clear J
  change Run _ _ _ _ _ _ _ _
  refine nv ?_
  refine Run.reg fun K J => ?_
  simp
  refine J _ _ _ ?_; clear J
  refine rl rfl (by first | rfl | simp) (by simp) rfl (m2 _ (hh.app (by simp))) ?_
  refine Run.ops fun K J => ?_
  simp
  refine J _ _ _ (nv ?_); clear J
  refine Run.draw [0, 0, 0, 0, 0, 0, 0, 0] [0, 0, 0, 0, 0, 0, 0, 0] [0, 1, 3, 0, 8, 24, 63, 127] [0, 1, 2, 3, 4, 5, 6, 7] (by kernel_rfl) (by kernel_rfl) ?_
  refine DR.go fun K J => ?_
  simp
  refine J _ _ _ _ ?_; clear J
  change Run _ _ _ _ _ _ _ _
  refine nv ?_
  refine Run.reg fun K J => ?_
  simp
  refine J _ _ _ ?_; clear J
  refine rl rfl (by first | rfl | simp) (by simp) rfl (q1 _ (hh.app (by simp))) ?_
  refine Run.ops fun K J => ?_
  simp
  refine J _ _ _ ?_; clear J
  refine rl rfl (by first | rfl | simp) (by simp) rfl (v1 _ (hh.app (by simp))) ?_
  refine Run.ops fun K J => ?_
  simp
  refine J _ _ _ ?_; clear J
  refine rl rfl (by first | rfl | simp) (by simp) rfl (v2 _ (hh.app (by simp))) ?_
  refine Run.ops fun K J => ?_
  simp
  refine J _ _ _ ?_; clear J
  refine rl rfl (by first | rfl | simp) (by simp) rfl (v3 _ (hh.app (by simp))) ?_
  refine Run.ops fun K J => ?_
  simp
  refine J _ _ _ ?_; clear J
  refine rl rfl (by first | rfl | simp) (by simp) rfl (v4 _ (hh.app (by simp))) ?_
  refine Run.ops fun K J => ?_
  simp
  refine J _ _ _ ?_; clear J
  refine rl rfl (by first | rfl | simp) (by simp) rfl (c3 _ (hh.app (by simp))) ?_
  refine Run.ops fun K J => ?_
  simp
  refine J _ _ _ ?_; clear J
  refine rl rfl (by first | rfl | simp) (by simp) rfl (t1 _ (hh.app (by simp))) ?_
  refine Run.ops fun K J => ?_
  simp
  refine J _ _ _ (nv ?_); clear J
  refine Run.ret ?_
  exact Fin.ret' (h0 := h') (by simp) rfl hh rfl (by simp; rfl) rfl (Weak.refl _) (by simp) ⟨by simp, rfl⟩


open Go Go.AI
def St3 (env : List Dc) (s : Dc × Bool) : Prop := s.2 = true → s.1 ∈ env ∧ s.1.k = 3

mutual
theorem famP_st {env : List Dc} (hf : EnvFine env) : ∀ (p : Pt) (s : Dc × Bool), St3 env s → St3 env (famP env s p).1 ∧ ((famP env s p).2 = true → pureP p)
 | .mk k n qs, s, h => by
  simp only [famP, pureP]
  by_cases h23 : k = 3 ∨ k = 2
  ·rw [if_pos h23]; exact ⟨h, fun h => by cases h⟩
  rw [if_neg h23]
  by_cases h1 : k = 1
  ·rw [if_pos h1]
   split
   ·exact ⟨h, fun h => by cases h⟩
   ·rename_i hc
    have hst : St3 env ((famZ env n).1, true) := fun _ => by
     rcases famZ_cases hf n with e | ⟨d, a, e, hm, hk, _⟩
     ·rw [e] at hc; simp at hc
     ·rw [e]; exact ⟨hm, hk⟩
    obtain ⟨a, b⟩ := famPs_st hf qs _ hst
    exact ⟨a, fun hx => ⟨by omega, by omega, b hx⟩⟩
  ·rw [if_neg h1]
   obtain ⟨a, b⟩ := famPs_st hf qs s h
   exact ⟨a, fun hx => ⟨by omega, by omega, b hx⟩⟩
theorem famPs_st {env : List Dc} (hf : EnvFine env) : ∀ (l : List Pt) (s : Dc × Bool), St3 env s → St3 env (famPs env s l).1 ∧ ((famPs env s l).2 = true → purePs l)
 | [], s, h => ⟨h, fun _ => by simp [purePs]⟩
 | p :: l, s, h => by
  obtain ⟨a, b⟩ := famP_st hf p s h
  simp only [famPs, purePs]
  split
  ·rename_i hc
   obtain ⟨a2, b2⟩ := famPs_st hf l _ a
   exact ⟨a2, fun hx => ⟨b hc, b2 hx⟩⟩
  ·rename_i hc
   exact ⟨a, fun hx => absurd hx hc⟩
end
theorem simF_st {env : List Dc} (hf : EnvFine env) : ∀ (l : List Cl) (s : (Dc × Bool) × Bool), St3 env s.1 → St3 env (simF env s l).1 ∧ ((simF env s l).2 = true → s.2 = true ∧ ∀ c ∈ l, purePs c.ps)
 | [], s, h => ⟨h, fun hx => ⟨hx, by simp⟩⟩
 | c :: l, s, h => by
  obtain ⟨a, b⟩ := famPs_st hf c.ps s.1 h
  obtain ⟨a2, b2⟩ := simF_st hf l ((famPs env s.1 c.ps).1, s.2 && (famPs env s.1 c.ps).2) a
  simp only [simF]
  refine ⟨a2, fun hx => ?_⟩
  obtain ⟨e1, e2⟩ := b2 hx
  simp only [Bool.and_eq_true] at e1
  refine ⟨e1.1, fun x hx => ?_⟩
  rcases List.mem_cons.1 hx with rfl | hx
  ·exact b e1.2
  ·exact e2 x hx
theorem simple_is {env : List Dc} (hf : EnvFine env) {cls : List Cl} {v : List Pt} {d : Dc} {a : Int} (h : simZ (simS env cls v) = (d, a, true)) :
  ∃ (i j : Nat), env[i]? = some d ∧ d.k = 3 ∧ a = j ∧ j < d.cs.length ∧ fldZ d j = 0 ∧ (∀ c ∈ cls, ofMs env d.nm c.ps ∧ purePs c.ps) ∧ ofMs env d.nm v ∧ purePs v := by
 unfold simZ at h
 by_cases hc : (simS env cls v).2 = true ∧ (simS env cls v).1.2 = true
 rotate_left
 ·rw [if_neg hc] at h; simp at h
 rw [if_pos hc] at h
 split at h
 rotate_left
 ·simp at h
 rename_i j hj
 simp only [Prod.mk.injEq, and_true] at h
 obtain ⟨hd, rfl⟩ := h
 obtain ⟨s1, s2⟩ := famPs_st hf v (zDc, false) (fun h => by cases h)
 obtain ⟨s3, s4⟩ := simF_st hf cls (famPs env (zDc, false) v) s1
 obtain ⟨s5, s6⟩ := s4 hc.1
 obtain ⟨h1, h2⟩ := s3 hc.2
 obtain ⟨a1, a2, a3⟩ := simF_of cls _ _ rfl hc.1
 obtain ⟨b1, b2⟩ := famPs_of v (zDc, false) (famPs env (zDc, false) v).1 (by rw [← a1])
 have e1 : (simF env (famPs env (zDc, false) v) cls).1.1 = d := hd
 rw [e1] at h1 h2
 obtain ⟨i, hi⟩ := List.getElem?_of_mem h1
 have hfj := List.find?_some hj
 have hjm := List.mem_range.1 (List.mem_of_find?_eq_some hj)
 rw [hd] at hfj hjm
 refine ⟨i, j, hi, h2, rfl, hjm, by simpa [fld0] using hfj, fun c hc' => ⟨a3 _ (fun _ => by rw [e1]) c hc', s6 c hc'⟩, b2 _ fun hs => ?_, s2 s5⟩
 obtain ⟨_, l2⟩ := a2 hs
 rw [← l2, e1]
theorem fam_small {env : List Dc} (hf : EnvFine env) {i : Nat} {d : Dc} (hi : env[i]? = some d) (hk : d.k = 3) : d.cs.length ≤ 32 ∧ (∀ c ∈ d.cs, c.ty.size ≤ 4096) := by
 have h0 := hf.2 i d hi
 unfold declZ at h0
 split at h0
 ·simp at h0
 split at h0
 ·simp at h0
 split at h0
 ·rename_i hc; exact absurd h0 hc
 rename_i hc
 split at h0
 ·rename_i hc; exact absurd h0 hc
 have hc : countsZ d = 0 := by simpa using hc
 constructor
 ·unfold countsZ at hc
  split at hc
  ·simp at hc
  split at hc
  ·simp at hc
  rename_i h1
  simp only [Bool.or_eq_true, decide_eq_true_eq, not_or] at h1
  omega
 ·unfold termsZ at h0
  split at h0
  ·rename_i hc; exact absurd h0 hc.2
  split at h0
  ·rename_i hc; omega
  try rw [if_pos hk] at h0
  split at h0
  ·rename_i hc; exact absurd h0 hc
  rename_i h1
  have h1 : firstE (d.cs.map fun c => ofTermZ (env.take i) [d.nm] d c.ty 0 d.ps) = 0 := by simpa using h1
  intro c hcm
  obtain ⟨j, hj⟩ := List.getElem?_of_mem hcm
  have hz : ofTermZ (env.take i) [d.nm] d c.ty 0 d.ps = 0 := firstE_zero h1 _ (List.mem_map.2 ⟨c, hcm, rfl⟩)
  unfold ofTermZ at hz
  have hz2 : checkZ 0 d.ps 0 0 c.ty = 0 := by
   by_cases h : checkZ 0 d.ps 0 0 c.ty = 0
   ·exact h
   ·rw [if_neg h] at hz; exact absurd hz h
  refine Decidable.byContradiction fun hn => ?_
  have h4 : 4096 < (c.ty.size : Int) := by omega
  simp only [checkZ, h4, if_true] at hz2
  generalize chk (if (0 : Int) < 0 then 0 else 0) d.ps 0 0 0 c.ty = e at hz2
  by_cases he : e = 0
  ·rw [if_neg (by simpa using he)] at hz2; cases hz2
  ·rw [if_pos he] at hz2; exact he hz2
theorem fam_bounds {env : List Dc} (hf : EnvFine env) {i : Nat} {d : Dc} (hi : env[i]? = some d) (hk : d.k = 3) {last : Nat} (hl : last < d.cs.length) : d.cs.length ≤ 32 ∧ (∀ c ∈ d.cs, c.ty.size ≤ 4096) ∧ d.fx ≤ 4096 ∧ ∀ j, fldZ d j ≤ 4096 := by
 obtain ⟨h1, h2⟩ := fam_small hf hi hk
 have hok := dcOk_of hf.2 hi
 have hb := hok.fix hk
 simp only [fixB, Bool.and_eq_true, decide_eq_true_eq, List.all_eq_true] at hb
 have h3 := hb.2 _ (List.getElem_mem hl)
 have h4 := leadN_le _ d.cs[last].ty (Nat.le_refl _)
 have h5 := h2 _ (List.getElem_mem hl)
 refine ⟨h1, h2, by omega, fun j => ?_⟩
 unfold fldZ
 split
 ·rename_i c hc
  have h6 := leadN_le _ c.ty (Nat.le_refl _)
  rw [← lead_all] at h6
  have h7 := h2 c (List.mem_of_getElem? hc)
  have h8 := hok.fx0
  unfold fldC
  split
  ·rw [wrap_id (by omega) (by omega)]; omega
  ·omega
 ·omega

section

variable {env : List Dc} (hf : EnvFine env) {i : Nat} {d : Dc} (hi : env[i]? = some d) (hk : d.k = 3) {last : Nat} (hla : last < d.cs.length)
include hf hi hk hla

mutual
theorem inP_size : ∀ (p : Pt) (n : Int), Tm.sizes (inP d last p n).1 + (inP d last p n).1.length ≤ p.size * (gB 2 + 1)
 | .mk k nm qs, n => by
  obtain ⟨_, _, hfx, hfl⟩ := fam_bounds hf hi hk hla
  simp only [inP, Pt.size, Nat.add_mul, Nat.one_mul]
  have hg2 : gB 2 = 137506078721 := by decide
  by_cases h1 : k = 1
  ·rw [if_pos h1]
   obtain ⟨j, hu⟩ : ∃ j, ∀ i, i < d.cs.length → nmC d i = nm → i = j := by
    by_cases hex : ∃ j, j < d.cs.length ∧ nmC d j = nm
    ·obtain ⟨j, hj, hn⟩ := hex
     refine ⟨j, fun i' hi' hn' => ?_⟩
     have hc : d.cs[j]? = some d.cs[j] := List.getElem?_eq_getElem hj
     refine ct_uniq hf hi hk hc hi' ?_
     rw [hn', ← hn]; unfold nmC; rw [hc]
    ·exact ⟨0, fun i' hi' hn' => absurd ⟨i', hi', hn'⟩ hex⟩
   have := ct_size hfx (f := inPs d last qs) (n := n) (fun n => inPs_size qs n) hu d.cs.length (Nat.le_refl _)
   split at this <;> omega
  ·rw [if_neg h1]
   have := gt_size hfx hfl last 2 n
   simp only [Tm.sizes, List.length_singleton]
   omega
theorem inPs_size : ∀ (l : List Pt) (n : Int), Tm.sizes (inPs d last l n).1 + (inPs d last l n).1.length ≤ Pt.sizes l * (gB 2 + 1)
 | [], n => by simp [inPs, Tm.sizes]
 | p :: l, n => by
  have h1 := inP_size p n
  have h2 := inPs_size l (inP d last p n).2
  simp only [inPs, sizes_app, List.length_append, Pt.sizes, Nat.add_mul]
  omega
end

end
def btG (d : Dc) (t : Tm) : Prop := t = propT ∨ ((∃ p, btP d p t) ∧ t.size ≤ 200)
theorem res_k4 {env : List Dc} {s : List UInt8} {d : Dc} {j : Nat} (h : famZ env s = (d, (j : Int), true)) : (resFind env s).1.k = 4 := by
 unfold famZ at h
 unfold resFind
 cases hz : findZ s env 0 with
 | none => rw [hz] at h; simp at h
 | some e =>
  rw [hz] at h
  simp only at h ⊢
  split at h
  ·simp at h
  ·split at h
   ·assumption
   ·split at h
    ·simp at h
    ·simp at h
theorem bt_stuck {env : List Dc} (hf : EnvFine env) {i : Nat} {d : Dc} (hi : env[i]? = some d) (hk : d.k = 3) {t : Tm} (h : btG d t) : stuckT env t := by
 rcases h with rfl | ⟨⟨p, hp⟩, hs⟩
 ·exact ⟨by decide, by decide, by decide, by decide, by decide, by decide, fun h => absurd h (by decide)⟩
 ·obtain ⟨k, n, qs⟩ := p
  simp only [btP] at hp
  obtain ⟨_, j, c, us, a1, rfl, a3, rfl, a5⟩ := hp
  have hs2 := hs
  rw [bT_size] at hs2
  refine ⟨by omega, ?_, ?_⟩
  ·rw [bT_spine]
   have := length_le_sizes us
   simp
   omega
  ·rw [bT_spine]
   exact ⟨by decide, by decide, by decide, by decide, fun _ => .inr (.inr (.inr (.inr (res_k4 (ctor_found hf hi hk a1)))))⟩
theorem btW {env : List Dc} (hg : Env.good env) (hf : EnvFine env) {i : Nat} {d : Dc} (hi : env[i]? = some d) (hk : d.k = 3) : WOk env (fun t => (t, 0)) (btG d) := by
 refine ⟨fun t ht h hh => ?_, fun t ht _ => ?_, fun t ht _ a ha => ?_⟩
 ·refine whnf173_any env t t 20000 (fun H q hw hq => ?_) h hh
  refine (whnfStuck_any env hg hf.1 t (bt_stuck hf hi hk ht) q 20000 H hw hq).mono ?_
  rintro o h' ⟨rfl, rfl⟩
  refine ⟨rfl, ?_⟩
  obtain ⟨hl, e⟩ := List.getElem?_eq_some_iff.1 hq
  rw [← e, List.set_getElem_self]
 ·have := (bt_stuck hf hi hk ht).1
  simp only
  omega
 ·simp only at ha
  rcases ht with rfl | ⟨⟨p, hp⟩, hs⟩
  ·simp [show resSpine propT = (propT, []) from rfl] at ha
  ·obtain ⟨k, n, qs⟩ := p
   simp only [btP] at hp
   obtain ⟨_, j, c, us, a1, rfl, a3, rfl, a5⟩ := hp
   rw [bT_spine] at ha
   rcases List.mem_append.1 ha with ha | ha
   ·exact .inl (List.mem_replicate.1 ha).2
   ·refine .inr ⟨btPs_at a5 a ha, ?_⟩
    have := Tm.sizes_mem ha
    rw [bT_size] at hs
    omega
theorem matM_bt {env : List Dc} (hf : EnvFine env) {i : Nat} {d : Dc} (hi : env[i]? = some d) (hk : d.k = 3) (B : Nat) {ps : List Pt} {us : List Tm} (hb : btPs d ps us) (hB : ∀ u ∈ us, u.size ≤ B) (cls : List Cl) (hp : ∀ c ∈ cls, purePs c.ps) :
  (∃ (j : Nat) (c : Cl) (zs : List (Pt × Tm)), cls[j]? = some c ∧ (∀ z ∈ zs, btP d z.1 z.2 ∧ z.2.size ≤ B) ∧ matchM (fun t => (t, 0)) env cls us = ((j : Int), zs.map (·.2), 0) ∧ filPs c.ps zs = some (ps, [])) ∨
  (matchM (fun t => (t, 0)) env cls us = (0, [], 9) ∧ ∀ c ∈ cls, (cmpPs 0 c.ps ps).v = 1) ∨ (matchM (fun t => (t, 0)) env cls us = (0, [], 6) ∧ ¬ ∀ c ∈ cls, clBad env us.length c = false) := by
 unfold matchM
 by_cases h : ∀ c ∈ cls, clBad env us.length c = false
 ·have hall : allTo (clOk env us.length cls) cls.length = true := by
   rw [allTo_iff]
   intro j hj
   rw [clOk_at (List.getElem?_eq_getElem hj), h _ (List.getElem_mem hj)]
   rfl
  rw [if_neg (by rw [hall]; simp)]
  have hl := btPs_len hb
  rcases matR_bt hf hi hk (dcOk_of hf.2 hi).fx0 B hb hB cls 0 (fun c hc => by
   have := h c hc
   simp only [clBad, Bool.or_eq_false_iff, decide_eq_false_iff_not, bne_eq_false_iff_eq] at this
   exact ⟨by omega, this.2, hp c hc⟩) with ⟨j, c, zs, e1, e2, e3, e4⟩ | ⟨e1, e2⟩
  ·exact .inl ⟨j, c, zs, e1, e2, by rw [e3]; simp, e4⟩
  ·exact .inr (.inl ⟨e1, e2⟩)
 ·refine .inr (.inr ⟨?_, h⟩)
  rw [if_pos]
  cases hall : allTo (clOk env us.length cls) cls.length with
  | false => rfl
  | true =>
   exfalso
   refine h fun c hc => ?_
   obtain ⟨j, hj⟩ := List.getElem?_of_mem hc
   have := allTo_at hall (List.getElem?_eq_some_iff.1 hj).1
   rw [clOk_at hj] at this
   simpa using this

end Go.Proofs.YtcfcolkbeelegaaGreat

namespace Go.Proofs.YtcfcolkbeelegaaGreat

open Go Go.AI
theorem inst_facts {env : List Dc} (hf : EnvFine env) {i : Nat} {d : Dc} (hi : env[i]? = some d) (hk : d.k = 3) {last : Nat} (hla : last < d.cs.length) (hf0 : fldZ d last = 0) {v : List Pt} (hv : Pt.sizes v ≤ 1048576) (hc : chkPs env v = 0) (ho : ofMs env d.nm v) (n : Int) :
  ∃ ps, btPs d ps (inPs d last v n).1 ∧ refPs v ps ∧ (inPs d last v n).1.length = v.length ∧ Tm.sizes (inPs d last v n).1 ≤ 1152921504606846976 ∧ Tm.lvss (inPs d last v n).1 ∧ Tm.fits (inPs d last v n).1 := by
 obtain ⟨ps, h1, h2⟩ := inPs_bt hf hi hk hla hf0 v n hc ho
 obtain ⟨h3, h4⟩ := bts_ok ps _ h1
 refine ⟨ps, h1, h2, ?_, ?_, h3, h4⟩
 ·rw [← btPs_len h1, refPs_len h2]
 ·have h5 := inPs_size hf hi hk hla v n
  have h6 : Pt.sizes v * (gB 2 + 1) ≤ 1048576 * (gB 2 + 1) := Nat.mul_le_mul_right _ hv
  have hg2 : gB 2 = 137506078721 := by decide
  omega

end Go.Proofs.YtcfcolkbeelegaaGreat
