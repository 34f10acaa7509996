import Derived.Test.YtcfcolkbeelegaaGreatVFZ
import Derived.Test.YtcfcolkbeelegaaGreatVPK
import Derived.Test.YtcfcolkbeelegaaGreatVX23

namespace Go.Proofs.YtcfcolkbeelegaaGreat

open Go Go.AI

mutual
def refP : Pt → Pt → Prop
 | .mk k n qs, v => k = 1 → v.kind = 1 ∧ v.name = n ∧ refPs qs v.args
def refPs : List Pt → List Pt → Prop
 | [], vs => vs = []
 | _ :: _, [] => False
 | p :: ps, v :: vs => refP p v ∧ refPs ps vs
end

mutual
def ofM (env : List Dc) (m : List UInt8) : Pt → Prop
 | .mk k n qs => (k = 1 → (fieldsZ env n).1.nm = m) ∧ ofMs env m qs
def ofMs (env : List Dc) (m : List UInt8) : List Pt → Prop
 | [] => True
 | p :: ps => ofM env m p ∧ ofMs env m ps
end
theorem ctEn_some (d : Dc) (a : Int) (s : List UInt8) : ∀ (l : List Ct) (i : Nat) (e : En), ctEn d a s l i = some e → ∃ j c, l[j]? = some c ∧ c.nm = s ∧ e = ⟨4, a, ((i + j : Nat) : Int), d.ps, c.ty⟩
 | [], _, _, h => by simp [ctEn] at h
 | x :: l, i, e, h => by
  simp only [ctEn] at h
  split at h
  ·rename_i hn
   exact ⟨0, x, by simp, hn, by simpa using h.symm⟩
  ·obtain ⟨j, c, h1, h2, h3⟩ := ctEn_some d a s l (i + 1) e h
   exact ⟨j + 1, c, by simpa using h1, h2, by rw [h3]; congr 1; omega⟩
theorem fuEn_k (d : Dc) (a : Int) (s : List UInt8) : ∀ (l : List Fu) (i : Nat) (e : En), fuEn d a s l i = some e → e.k = 6
 | [], _, _, h => by simp [fuEn] at h
 | x :: l, i, e, h => by
  simp only [fuEn] at h
  split at h
  ·cases h; rfl
  ·exact fuEn_k d a s l (i + 1) e h
theorem findZ_ent {s : List UInt8} : ∀ {env : List Dc} {i : Nat} {e : En}, findZ s env i = some e → ∃ j d, env[j]? = some d ∧ s ∈ namesZ d ∧ e = entZ d ((i + j : Nat) : Int) s
 | [], _, _, h => by simp [findZ] at h
 | d :: env, i, e, h => by
  simp only [findZ] at h
  split at h
  ·rename_i hs
   cases h
   exact ⟨0, d, by simp, hs, by simp⟩
  ·obtain ⟨j, d', h1, h2, h3⟩ := findZ_ent h
   exact ⟨j + 1, d', by simpa using h1, h2, by rw [h3]; congr 1; omega⟩
theorem fields_nm {env : List Dc} {y : List UInt8} (h : (fieldsZ env y).2.2 = true) : ∃ (i j : Nat) (c : Ct), env[i]? = some (fieldsZ env y).1 ∧ (fieldsZ env y).1.k = 3 ∧ (fieldsZ env y).1.cs[j]? = some c ∧ c.nm = y ∧ (fieldsZ env y).2.1 = fldZ (fieldsZ env y).1 j := by
 unfold fieldsZ at h ⊢
 by_cases c : (famZ env y).2.2 = true ∧ 0 ≤ (famZ env y).2.1
 rotate_left
 ·rw [if_neg c] at h; cases h
 rw [if_pos c]
 simp only
 unfold famZ at c ⊢
 cases hz : findZ y env 0 with
 | none => rw [hz] at c; simp at c
 | some e =>
  rw [hz] at c
  simp only at c ⊢
  obtain ⟨i, d, h1, h2, h3⟩ := findZ_ent hz
  by_cases e3 : e.k = 3
  ·rw [if_pos e3] at c; simp at c
  rw [if_neg e3] at c ⊢
  by_cases e4 : e.k = 4
  rotate_left
  ·rw [if_neg e4] at c
   split at c <;> simp at c
  rw [if_pos e4] at c ⊢
  simp only
  have hat : e.at_.toNat = i ∧ d.k = 3 ∧ ∃ (j : Nat) (c : Ct), d.cs[j]? = some c ∧ c.nm = y ∧ e.it = j := by
   unfold entZ at h3
   split at h3
   ·rename_i hk; rw [h3] at e4; simp only at e4; omega
   split at h3
   ·rename_i hk
    split at h3
    ·rw [h3] at e4; simp at e4
    ·cases hc : ctEn d ((0 + i : Nat) : Int) y d.cs 0 with
     | none => rw [hc] at h3; simp only [Option.getD_none] at h3; rw [h3] at e4; simp at e4
     | some e' =>
      rw [hc] at h3
      simp only [Option.getD_some] at h3
      obtain ⟨j, cc, g1, g2, g3⟩ := ctEn_some _ _ _ _ _ _ hc
      subst h3
      subst g3
      exact ⟨by simp, hk, j, cc, g1, g2, by simp⟩
   ·cases hc : fuEn d ((0 + i : Nat) : Int) y d.fs 0 with
    | none => rw [hc] at h3; simp only [Option.getD_none] at h3; rw [h3] at e4; simp at e4
    | some e' =>
     rw [hc] at h3
     simp only [Option.getD_some] at h3
     have := fuEn_k _ _ _ _ _ _ hc
     subst h3
     omega
  obtain ⟨ha, hk, j, c, g1, g2, g3⟩ := hat
  rw [ha, h1]
  simp only [Option.getD_some]
  exact ⟨i, j, c, h1, hk, g1, g2, by rw [g3]; simp⟩
theorem fam_unique {env : List Dc} (hf : EnvFine env) {i j : Nat} {d e : Dc} (hi : env[i]? = some d) (hj : env[j]? = some e) (hd : d.k = 3) (he : e.k = 3) (hn : d.nm = e.nm) : d = e := by
 have key : ∀ (i j : Nat) (d e : Dc), env[i]? = some d → env[j]? = some e → d.k = 3 → e.k = 3 → d.nm = e.nm → i < j → False := by
  intro i j d e hi hj hd he hn hij
  have hdn := dnZ_of hf.2 hj
  have hnz : namesZ e = e.nm :: (e.cs.map Ct.nm ++ [e.nm ++ recB]) := by
   unfold namesZ; rw [if_neg (by omega), if_pos he]
  have hnd : namesZ d = d.nm :: (d.cs.map Ct.nm ++ [d.nm ++ recB]) := by
   unfold namesZ; rw [if_neg (by omega), if_pos hd]
  obtain ⟨h1, _⟩ := names_new hdn 0 e.nm (by rw [hnz]; rfl)
  have hm : d ∈ env.take j := List.mem_of_getElem? (i := i) (by rw [List.getElem?_take_of_lt hij]; exact hi)
  refine findZ_none h1 d hm ?_
  rw [hnd, hn]
  exact List.mem_cons_self
 rcases Nat.lt_trichotomy i j with h | h | h
 ·exact (key i j d e hi hj hd he hn h).elim
 ·subst h; rw [hi] at hj; exact Option.some.inj hj
 ·exact (key j i e d hj hi he hd hn.symm h).elim

section

variable {env : List Dc} {m : List UInt8} {cls : List Cl}

end

end Go.Proofs.YtcfcolkbeelegaaGreat

namespace Go.Proofs.YtcfcolkbeelegaaGreat

open Go Go.AI
def Dc.row (d : Dc) : List AV := d.cells.map .p
theorem Dc.av_row (d : Dc) : d.av = .agg d.row := rfl
theorem Dc.row_len (d : Dc) : d.row.length = 23 := by simp [Dc.row, dc_cells_len d]
theorem Dc.row_take (d : Dc) : List.take 23 d.row = d.row := List.take_of_length_le (by rw [d.row_len]; omega)
theorem Dc.row_one (d : Dc) : d.row.all oneA = true := dc_one d
theorem Dc.row_under (n : Nat) (d : Dc) : AV.underL n d.row = true := by simp [Dc.row]
theorem Dc.row_patch (d : Dc) (l : List AV) (h : l.length = 23) : patch l 0 d.row = d.row := by
 have := patch_full d.row l [] (by rw [h, d.row_len])
 simpa only [List.append_nil] using this
theorem Dc.row_nm (d : Dc) : d.row[1]? = some (.p (sP d.nm)) := by
 obtain ⟨k, nm, ps, ⟨k1, i1, n1, l1, s1⟩, ⟨k2, i2, n2, l2, s2⟩, fx, cs, rp, ⟨k3, i3, n3, l3, s3⟩, rr, fs⟩ := d
 simp [Dc.row, Dc.cells, cells_mk]
theorem Dc.row_cs (d : Dc) : d.row[14]? = some (.p (.sl 6 (d.cs.map Ct.cells))) := by
 obtain ⟨k, nm, ps, ⟨k1, i1, n1, l1, s1⟩, ⟨k2, i2, n2, l2, s2⟩, fx, cs, rp, ⟨k3, i3, n3, l3, s3⟩, rr, fs⟩ := d
 simp [Dc.row, Dc.cells, cells_mk]
theorem Dc.row_fx (d : Dc) : d.row[13]? = some (iA d.fx) := by
 obtain ⟨k, nm, ps, ⟨k1, i1, n1, l1, s1⟩, ⟨k2, i2, n2, l2, s2⟩, fx, cs, rp, ⟨k3, i3, n3, l3, s3⟩, rr, fs⟩ := d
 simp [Dc.row, Dc.cells, cells_mk]

attribute [simp] Dc.row_len Dc.row_take Dc.row_under Dc.row_nm Dc.row_cs Dc.row_fx

mutual
def famP (env : List Dc) (s : Dc × Bool) : Pt → (Dc × Bool) × Bool
 | .mk k n qs => if k = 3 ∨ k = 2 then (s, false) else if k = 1 then (if (famZ env n).2.2 = false ∨ (famZ env n).2.1 < 0 ∨ (s.2 = true ∧ (famZ env n).1.nm ≠ s.1.nm) then (s, false) else famPs env ((famZ env n).1, true) qs) else famPs env s qs
def famPs (env : List Dc) (s : Dc × Bool) : List Pt → (Dc × Bool) × Bool
 | [] => (s, true)
 | p :: ps => if (famP env s p).2 = true then famPs env (famP env s p).1 ps else famP env s p
end
theorem famPs_drop {env : List Dc} {s t : Dc × Bool} {l : List Pt} {j : Nat} (h : famPs env s l = famPs env t (l.drop j)) {x : Pt} (hg : l[j]? = some x) : famPs env s l = if (famP env t x).2 = true then famPs env (famP env t x).1 (l.drop (j + 1)) else famP env t x := by
 rw [h, drop_of_get hg, famPs]
def fmA (r : (Dc × Bool) × Bool) : AV := .tup [.agg r.1.1.row, bA r.1.2, bA r.2]

mutual
theorem famP_of {env : List Dc} : ∀ (p : Pt) (s s' : Dc × Bool), famP env s p = (s', true) → (s.2 = true → s'.2 = true ∧ s'.1.nm = s.1.nm) ∧ ∀ m, (s'.2 = true → m = s'.1.nm) → ofM env m p
 | .mk k n qs, s, s', h => by
  simp only [famP] at h
  split at h
  ·simp at h
  rename_i h23
  split at h
  ·rename_i h1
   split at h
   ·simp at h
   rename_i hc
   simp only [not_or, not_and, Bool.not_eq_false, Int.not_lt, ne_eq, Decidable.not_not] at hc
   obtain ⟨a, b, c⟩ := hc
   have ih := famPs_of qs _ _ h
   have h2 := ih.1 rfl
   refine ⟨fun hs => ⟨h2.1, by rw [h2.2]; exact c hs⟩, fun m hm => ?_⟩
   simp only [ofM]
   refine ⟨fun _ => ?_, ih.2 m hm⟩
   rw [hm h2.1, h2.2]
   unfold fieldsZ
   rw [if_pos ⟨a, b⟩]
  ·rename_i h1
   have ih := famPs_of qs _ _ h
   refine ⟨ih.1, fun m hm => ?_⟩
   simp only [ofM]
   exact ⟨fun e => absurd e h1, ih.2 m hm⟩
theorem famPs_of {env : List Dc} : ∀ (l : List Pt) (s s' : Dc × Bool), famPs env s l = (s', true) → (s.2 = true → s'.2 = true ∧ s'.1.nm = s.1.nm) ∧ ∀ m, (s'.2 = true → m = s'.1.nm) → ofMs env m l
 | [], s, s', h => by
  simp only [famPs, Prod.mk.injEq, and_true] at h
  subst h
  exact ⟨fun h => ⟨h, rfl⟩, fun m _ => by simp [ofMs]⟩
 | p :: l, s, s', h => by
  simp only [famPs] at h
  split at h
  ·rename_i hp
   have h1 := famP_of p s (famP env s p).1 (by rw [← hp])
   have h2 := famPs_of l _ _ h
   refine ⟨fun hs => ?_, fun m hm => ?_⟩
   ·have a := h1.1 hs
    have b := h2.1 a.1
    exact ⟨b.1, by rw [b.2, a.2]⟩
   ·simp only [ofMs]
    refine ⟨h1.2 m fun hs => ?_, h2.2 m hm⟩
    have b := h2.1 hs
    rw [hm b.1, b.2]
  ·rename_i hp
   rw [h] at hp
   simp at hp
end
set_option maxRecDepth 8000 in
set_option maxHeartbeats 16000000 in
theorem fam81_any (env : List Dc) (hg : Env.good env) (hn : Env.short env) (N : Nat) : ∀ (l : List Pt) (s : Dc × Bool), Pt.sizes l ≤ N → Pt.sizes l ≤ 1048576 → ∀ h, WF h → ACalls Tryz.prog 81 [envA env, .p (.sl 3 (ptPs l)), s.1.av, bA s.2] h fun o h' => o = .ret (fmA (famPs env s l)) ∧ h' = h := by
 have key : ∀ (l : List Pt) (s : Dc × Bool), Pt.sizes l ≤ 1048576 → (∀ p ∈ l, ∀ s g, WF g → ACalls Tryz.prog 81 [envA env, .p (.sl 3 (ptPs p.args)), s.1.av, bA s.2] g fun o h' => o = .ret (fmA (famPs env s p.args)) ∧ h' = g) →
   ∀ h, WF h → ACalls Tryz.prog 81 [envA env, .p (.sl 3 (ptPs l)), s.1.av, bA s.2] h fun o h' => o = .ret (fmA (famPs env s l)) ∧ h' = h := by
  intro l s hB ih h hh
  have hll := psz_len l
  obtain ⟨D, f⟩ := s
  simp only [Dc.av_row] at ih ⊢
  refine ACalls.of_run Tryz.func81 rfl ?_
  simp only [Tryz.ntmps81, List.length_cons, List.length_nil]
  refine nv ?_
  refine Run.reg fun K J => ?_
  simp
  refine J _ _ _ (nv ?_); clear J
  refine Run.reg fun K J => ?_
  simp
  refine J _ _ _ (nv ?_); clear J
  refine Run.loopS (ι := Nat × (Dc × Bool)) [0, 6, 8, 17, 18] (fun p => p.1 ≤ l.length ∧ famPs env (D, f) l = famPs env p.2 (l.drop p.1)) (fun p => l.length - p.1) (fun p => [(3, bA p.2.2), (19, iA p.1)]) (fun p => h ++ [some (.cells p.2.1.row), some (.cells zDcA)]) (0, (D, f)) ⟨by simp, by simp⟩ ?_ (by simp) ?_
  ·simp
   repeat' first | exact wn | apply wc | exact wj _ | exact wr _ | exact wz _ | exact wo _ _ _ | exact wi (by omega)
  rintro ⟨j, ⟨E, b⟩⟩ ⟨hj, hd⟩ IH
  simp only at hj hd
  simp
  refine nv ?_
  refine Run.reg fun K J => ?_
  simp
  refine J _ _ _ (nv ?_); clear J
  by_cases hjl : j < l.length
  rotate_left
  ·have hje : l.length ≤ j := by omega
   rw [List.drop_of_length_le hje, famPs] at hd
   refine cf (by simp [hje]) ?_
   refine Run.exit rfl ?_
   refine nv ?_
   refine Run.reg fun K J => ?_
   simp [Dc.row_one, Dc.row_patch]
   refine J _ _ _ (nv ?_); clear J
   refine Run.ret ?_
   exact Fin.ret' (h0 := h) (by simp) rfl hh rfl (by simp; rfl) rfl (Weak.refl _) (by simp) ⟨by rw [hd]; rfl, rfl⟩
  have hgp : l[j]? = some l[j] := List.getElem?_eq_getElem hjl
  have hmem := List.getElem_mem hjl
  have hst := famPs_drop hd hgp
  generalize l[j] = p at hgp hmem hst
  have ih := ih p hmem
  obtain ⟨k, n, qs⟩ := p
  simp only [Pt.args] at ih
  obtain ⟨fp, hfp⟩ : ∃ fp, famP env (E, b) (Pt.mk k n qs) = fp := ⟨_, rfl⟩
  rw [hfp] at hst
  simp only [famP] at hfp
  refine ct (by simp [hjl]) (nv ?_)
  refine Run.reg fun K J => ?_
  simp [hgp, pcells_mk]
  refine J _ _ _ (nv ?_); clear J
  by_cases h23 : k = 3 ∨ k = 2
  ·rw [if_pos h23] at hfp
   subst hfp
   simp only [Bool.false_eq_true, if_false] at hst
   rcases h23 with rfl | rfl
   all_goals
    refine Run.reg fun K J => ?_
    simp
    refine J _ _ _ (nv ?_); clear J
    refine ct (by simp) (nv ?_)
    refine Run.reg fun K J => ?_
    simp [Dc.row_one, Dc.row_patch]
    refine J _ _ _ (nv ?_); clear J
    refine Run.ret ?_
    exact Fin.ret' (h0 := h) (by simp) rfl hh rfl (by simp; rfl) rfl (Weak.refl _) (by simp) ⟨by rw [hst]; rfl, rfl⟩
  rw [if_neg h23] at hfp
  have k3 : (k == (3 : Int)) = false := by simp; omega
  have k2 : (k == (2 : Int)) = false := by simp; omega
  have k3' : ¬ k = 3 := by omega
  have k2' : ¬ k = 2 := by omega
  refine Run.reg fun K J => ?_
  simp [k3, k2]
  refine J _ _ _ (nv ?_); clear J
  refine cf (by simp) (nv ?_)
  by_cases k1 : k = 1
  ·subst k1
   rw [if_pos rfl] at hfp
   have c1 := fun (g : Heap) (hw : WF g) => refFamily_any g hw env n hg hn
   obtain ⟨⟨e, a, ok⟩, hfz⟩ : ∃ r, r = famZ env n := ⟨_, rfl⟩
   rw [← hfz] at hfp c1
   simp only [Dc.av_row] at c1 hfp
   refine Run.reg fun K J => ?_
   simp
   refine J _ _ _ (nv ?_); clear J
   refine ct (by simp) (nv ?_)
   refine Run.reg fun K J => ?_
   simp
   refine J _ _ _ ?_; clear J
   refine rl rfl (by first | rfl | simp) (by simp) rfl (c1 _ (hh.app (by simp))) ?_
   refine Run.ops fun K J => ?_
   simp [Dc.row_one, Dc.row_patch]
   refine J _ _ _ (nv ?_); clear J
   cases ok with
   | false =>
    rw [if_pos (.inl rfl)] at hfp
    subst hfp
    simp only [Bool.false_eq_true, if_false] at hst
    refine Run.reg fun K J => ?_
    simp
    refine J _ _ _ (nv ?_); clear J
    refine ct (by simp) (nv ?_)
    refine Run.reg fun K J => ?_
    simp [Dc.row_one, Dc.row_patch]
    refine J _ _ _ (nv ?_); clear J
    refine Run.ret ?_
    exact Fin.ret' (h0 := h) (by simp) rfl hh rfl (by simp; rfl) rfl (Weak.refl _) (by simp) ⟨by rw [hst]; rfl, rfl⟩
   | true =>
   by_cases ha : a < 0
   ·rw [if_pos (.inr (.inl ha))] at hfp
    subst hfp
    simp only [Bool.false_eq_true, if_false] at hst
    refine Run.reg fun K J => ?_
    simp [ha]
    refine J _ _ _ (nv ?_); clear J
    refine ct (by simp) (nv ?_)
    refine Run.reg fun K J => ?_
    simp [Dc.row_one, Dc.row_patch]
    refine J _ _ _ (nv ?_); clear J
    refine Run.ret ?_
    exact Fin.ret' (h0 := h) (by simp) rfl hh rfl (by simp; rfl) rfl (Weak.refl _) (by simp) ⟨by rw [hst]; rfl, rfl⟩
   cases b with
   | false =>
    rw [if_neg (by simp [ha])] at hfp
    refine Run.reg fun K J => ?_
    simp [ha]
    refine J _ _ _ (nv ?_); clear J
    refine cf (by simp) (nv ?_)
    refine Run.reg fun K J => ?_
    simp [Dc.row_one, Dc.row_patch]
    refine J _ _ _ (nv ?_); clear J
    have c2 := fun (g : Heap) (hw : WF g) => ih (e, true) g hw
    rw [hfp] at c2
    obtain ⟨⟨E2, b2⟩, ok2⟩ := fp
    simp only [fmA] at c2 hst
    refine Run.reg fun K J => ?_
    simp
    refine J _ _ _ (nv ?_); clear J
    refine Run.reg fun K J => ?_
    simp
    refine J _ _ _ ?_; clear J
    refine rl rfl (by first | rfl | simp) (by simp) rfl (c2 _ (hh.app (by simp))) ?_
    refine Run.ops fun K J => ?_
    simp [Dc.row_one, Dc.row_patch]
    refine J _ _ _ (nv ?_); clear J
    cases ok2 with
    | false =>
     simp only [Bool.false_eq_true, if_false] at hst
     refine Run.reg fun K J => ?_
     simp
     refine J _ _ _ (nv ?_); clear J
     refine ct (by simp) (nv ?_)
     refine Run.reg fun K J => ?_
     simp [Dc.row_one, Dc.row_patch]
     refine J _ _ _ (nv ?_); clear J
     refine Run.ret ?_
     exact Fin.ret' (h0 := h) (by simp) rfl hh rfl (by simp; rfl) rfl (Weak.refl _) (by simp) ⟨by rw [hst]; rfl, rfl⟩
    | true =>
     simp only [if_true] at hst
     refine Run.reg fun K J => ?_
     simp
     refine J _ _ _ (nv ?_); clear J
     refine cf (by simp) (nv ?_)
     refine Run.reg fun K J => ?_
     simp
     try (simp (disch := omega) only [wrap_id])
     refine J _ _ _ (nv ?_); clear J
     refine Run.keep [0, 3, 6, 8, 17, 18, 19] ?_
     simp only [keepT, keepT.go, List.contains_cons]
     simp
     refine Run.cutAt 2 hh rfl (by omega) (by simp) (by simp) (by simp) rfl ?_
     simp
     refine IH (j + 1, (E2, b2)) _ _ ⟨by simp only; omega, hst⟩ (by simp only; omega) ?_ (by simp)
     simp
     repeat' first | exact wn | apply wc | exact wj _ | exact wr _ | exact wz _ | exact wo _ _ _ | exact wi (by omega)
   | true =>
   by_cases hnm : e.nm = E.nm
   ·rw [if_neg (by simp [ha, hnm])] at hfp
    refine Run.reg fun K J => ?_
    simp [ha]
    refine J _ _ _ (nv ?_); clear J
    refine cf (by simp [hnm]) (nv ?_)
    refine Run.reg fun K J => ?_
    simp [Dc.row_one, Dc.row_patch]
    refine J _ _ _ (nv ?_); clear J
    have c2 := fun (g : Heap) (hw : WF g) => ih (e, true) g hw
    rw [hfp] at c2
    obtain ⟨⟨E2, b2⟩, ok2⟩ := fp
    simp only [fmA] at c2 hst
    refine Run.reg fun K J => ?_
    simp
    refine J _ _ _ (nv ?_); clear J
    refine Run.reg fun K J => ?_
    simp
    refine J _ _ _ ?_; clear J
    refine rl rfl (by first | rfl | simp) (by simp) rfl (c2 _ (hh.app (by simp))) ?_
    refine Run.ops fun K J => ?_
    simp [Dc.row_one, Dc.row_patch]
    refine J _ _ _ (nv ?_); clear J
    cases ok2 with
    | false =>
     simp only [Bool.false_eq_true, if_false] at hst
     refine Run.reg fun K J => ?_
     simp
     refine J _ _ _ (nv ?_); clear J
     refine ct (by simp) (nv ?_)
     refine Run.reg fun K J => ?_
     simp [Dc.row_one, Dc.row_patch]
     refine J _ _ _ (nv ?_); clear J
     refine Run.ret ?_
     exact Fin.ret' (h0 := h) (by simp) rfl hh rfl (by simp; rfl) rfl (Weak.refl _) (by simp) ⟨by rw [hst]; rfl, rfl⟩
    | true =>
     simp only [if_true] at hst
     refine Run.reg fun K J => ?_
     simp
     refine J _ _ _ (nv ?_); clear J
     refine cf (by simp) (nv ?_)
     refine Run.reg fun K J => ?_
     simp
     try (simp (disch := omega) only [wrap_id])
     refine J _ _ _ (nv ?_); clear J
     refine Run.keep [0, 3, 6, 8, 17, 18, 19] ?_
     simp only [keepT, keepT.go, List.contains_cons]
     simp
     refine Run.cutAt 2 hh rfl (by omega) (by simp) (by simp) (by simp) rfl ?_
     simp
     refine IH (j + 1, (E2, b2)) _ _ ⟨by simp only; omega, hst⟩ (by simp only; omega) ?_ (by simp)
     simp
     repeat' first | exact wn | apply wc | exact wj _ | exact wr _ | exact wz _ | exact wo _ _ _ | exact wi (by omega)
   ·rw [if_pos (.inr (.inr ⟨rfl, hnm⟩))] at hfp
    subst hfp
    simp only [Bool.false_eq_true, if_false] at hst
    refine Run.reg fun K J => ?_
    simp [ha]
    refine J _ _ _ (nv ?_); clear J
    refine ct (by simp [hnm]) (nv ?_)
    refine Run.reg fun K J => ?_
    simp [Dc.row_one, Dc.row_patch]
    refine J _ _ _ (nv ?_); clear J
    refine Run.ret ?_
    exact Fin.ret' (h0 := h) (by simp) rfl hh rfl (by simp; rfl) rfl (Weak.refl _) (by simp) ⟨by rw [hst]; rfl, rfl⟩
  ·rw [if_neg k1] at hfp
   have k1b : (k == (1 : Int)) = false := by simpa using k1
   refine Run.reg fun K J => ?_
   simp [k1b]
   refine J _ _ _ (nv ?_); clear J
   refine cf (by simp) (nv ?_)
   have c2 := fun (g : Heap) (hw : WF g) => ih (E, b) g hw
   rw [hfp] at c2
   obtain ⟨⟨E2, b2⟩, ok2⟩ := fp
   simp only [fmA] at c2 hst
   refine Run.reg fun K J => ?_
   simp
   refine J _ _ _ (nv ?_); clear J
   refine Run.reg fun K J => ?_
   simp
   refine J _ _ _ ?_; clear J
   refine rl rfl (by first | rfl | simp) (by simp) rfl (c2 _ (hh.app (by simp))) ?_
   refine Run.ops fun K J => ?_
   simp [Dc.row_one, Dc.row_patch]
   refine J _ _ _ (nv ?_); clear J
   cases ok2 with
   | false =>
    simp only [Bool.false_eq_true, if_false] at hst
    refine Run.reg fun K J => ?_
    simp
    refine J _ _ _ (nv ?_); clear J
    refine ct (by simp) (nv ?_)
    refine Run.reg fun K J => ?_
    simp [Dc.row_one, Dc.row_patch]
    refine J _ _ _ (nv ?_); clear J
    refine Run.ret ?_
    exact Fin.ret' (h0 := h) (by simp) rfl hh rfl (by simp; rfl) rfl (Weak.refl _) (by simp) ⟨by rw [hst]; rfl, rfl⟩
   | true =>
    simp only [if_true] at hst
    refine Run.reg fun K J => ?_
    simp
    refine J _ _ _ (nv ?_); clear J
    refine cf (by simp) (nv ?_)
    refine Run.reg fun K J => ?_
    simp
    try (simp (disch := omega) only [wrap_id])
    refine J _ _ _ (nv ?_); clear J
    refine Run.keep [0, 3, 6, 8, 17, 18, 19] ?_
    simp only [keepT, keepT.go, List.contains_cons]
    simp
    refine Run.cutAt 2 hh rfl (by omega) (by simp) (by simp) (by simp) rfl ?_
    simp
    refine IH (j + 1, (E2, b2)) _ _ ⟨by simp only; omega, hst⟩ (by simp only; omega) ?_ (by simp)
    simp
    repeat' first | exact wn | apply wc | exact wj _ | exact wr _ | exact wz _ | exact wo _ _ _ | exact wi (by omega)
 induction N with
 | zero =>
  intro l s hN hB
  exact key l s hB fun p hp => by have := Pt.size_at hp; have := p.size_pos; omega
 | succ N ihN =>
  intro l s hN hB
  refine key l s hB fun p hp s g hw => ihN p.args s ?_ ?_ g hw
  ·have := Pt.size_at hp; obtain ⟨k, n, qs⟩ := p; simp only [Pt.size, Pt.args] at this ⊢; omega
  ·have := Pt.size_at hp; obtain ⟨k, n, qs⟩ := p; simp only [Pt.size, Pt.args] at this ⊢; omega

end Go.Proofs.YtcfcolkbeelegaaGreat
