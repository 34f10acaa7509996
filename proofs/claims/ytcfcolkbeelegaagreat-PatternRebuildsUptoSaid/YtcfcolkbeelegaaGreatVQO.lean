import Derived.Test.YtcfcolkbeelegaaGreatVQM
import Derived.Test.YtcfcolkbeelegaaGreatVPX
import Derived.Test.YtcfcolkbeelegaaGreatVPN
import Derived.Test.YtcfcolkbeelegaaGreatVFJ
set_option linter.unusedSectionVars false
set_option maxRecDepth 8000
set_option maxHeartbeats 8000000

namespace Go.Proofs.YtcfcolkbeelegaaGreat

open Go Go.AI

mutual
def btP (d : Dc) : Pt → Tm → Prop
 | .mk k n qs, t => k = 1 ∧ ∃ (j : Nat) (c : Ct) (us : List Tm), d.cs[j]? = some c ∧ c.nm = n ∧ (us.length : Int) = fldZ d j ∧ t = bT d.fx n us ∧ btPs d qs us
def btPs (d : Dc) : List Pt → List Tm → Prop
 | [], us => us = []
 | p :: ps, us => ∃ u us', us = u :: us' ∧ btP d p u ∧ btPs d ps us'
end
theorem btPs_len {d : Dc} : ∀ {ps : List Pt} {us : List Tm}, btPs d ps us → ps.length = us.length
 | [], us, h => by simp only [btPs] at h; subst h; rfl
 | p :: ps, us, h => by
  simp only [btPs] at h
  obtain ⟨u, us', rfl, _, h2⟩ := h
  simp [btPs_len h2]
theorem btPs_app {d : Dc} {qs : List Pt} {vs : List Tm} (h2 : btPs d qs vs) : ∀ {ps : List Pt} {us : List Tm}, btPs d ps us → btPs d (ps ++ qs) (us ++ vs)
 | [], us, h => by simp only [btPs] at h; subst h; simpa using h2
 | p :: ps, us, h => by
  simp only [btPs] at h
  obtain ⟨u, us', rfl, h3, h4⟩ := h
  simp only [List.cons_append, btPs]
  exact ⟨u, us' ++ vs, rfl, h3, btPs_app h2 h4⟩
theorem btPs_one {d : Dc} {p : Pt} {u : Tm} (h : btP d p u) : btPs d [p] [u] := by
 simp only [btPs]; exact ⟨u, [], rfl, h, rfl⟩
theorem btPs_at {d : Dc} : ∀ {ps : List Pt} {us : List Tm}, btPs d ps us → ∀ u ∈ us, ∃ p, btP d p u
 | [], us, h, u, hu => by simp only [btPs] at h; subst h; cases hu
 | p :: ps, us, h, u, hu => by
  simp only [btPs] at h
  obtain ⟨v, us', rfl, h3, h4⟩ := h
  rcases List.mem_cons.1 hu with rfl | hu
  ·exact ⟨p, h3⟩
  ·exact btPs_at h4 u hu
theorem btPs_get {d : Dc} : ∀ {ps : List Pt} {us : List Tm}, btPs d ps us → ∀ (j : Nat) (u : Tm), us[j]? = some u → ∃ p, ps[j]? = some p ∧ btP d p u
 | [], us, h, j, u, hu => by simp only [btPs] at h; subst h; simp at hu
 | p :: ps, us, h, j, u, hu => by
  simp only [btPs] at h
  obtain ⟨v, us', rfl, h3, h4⟩ := h
  cases j with
  | zero => simp at hu; subst hu; exact ⟨p, rfl, h3⟩
  | succ j => simpa using btPs_get h4 j u (by simpa using hu)
theorem seq_bt {d : Dc} {f : Int → Tm × Int} (hf : ∀ n, ∃ p, btP d p (f n).1) (n : Int) : ∀ c, ∃ ps, btPs d ps (seqZ f c n).1
 | 0 => ⟨[], rfl⟩
 | c + 1 => by
  obtain ⟨ps, h⟩ := seq_bt hf n c
  obtain ⟨p, hp⟩ := hf (seqZ f c n).2
  exact ⟨ps ++ [p], btPs_app (btPs_one hp) h⟩
theorem gt_bt {d : Dc} {last : Nat} (hla : last < d.cs.length) (hf0 : fldZ d last = 0) : ∀ (k : Nat) (n : Int), ∃ p, btP d p (gtZ d last k n).1 := by
 have hnm : ∀ j, j < d.cs.length → ∃ c, d.cs[j]? = some c ∧ nmC d j = c.nm := fun j hj => by
  refine ⟨d.cs[j], List.getElem?_eq_getElem hj, ?_⟩
  unfold nmC; rw [List.getElem?_eq_getElem hj]
 intro k
 induction k with
 | zero =>
  intro n
  obtain ⟨c, hc, e⟩ := hnm last hla
  refine ⟨.mk 1 c.nm [], ?_⟩
  simp only [btP, btPs, gtZ]
  exact ⟨trivial, last, c, [], hc, rfl, by simp [hf0], by rw [e], rfl⟩
 | succ k ih =>
  intro n
  obtain ⟨p1, _⟩ := gpick_bd (d := d) n hla
  obtain ⟨c, hc, e⟩ := hnm _ p1
  obtain ⟨ps, h⟩ := seq_bt ih (seedN n) (fldZ d (gpick d n)).toNat
  refine ⟨.mk 1 c.nm ps, ?_⟩
  simp only [btP, gtZ]
  refine ⟨trivial, _, c, _, hc, rfl, ?_, by rw [e], h⟩
  rw [seqZ_len]
  have := fldZ_nn d (gpick d n)
  omega

mutual
def pureP : Pt → Prop
 | .mk k _ qs => k ≠ 2 ∧ k ≠ 3 ∧ purePs qs
def purePs : List Pt → Prop
 | [] => True
 | p :: ps => pureP p ∧ purePs ps
end
theorem refPs_len : ∀ {l vs : List Pt}, refPs l vs → l.length = vs.length
 | [], vs, h => by simp only [refPs] at h; subst h; rfl
 | p :: l, [], h => by simp only [refPs] at h
 | p :: l, v :: vs, h => by simp only [refPs] at h; simp [refPs_len h.2]
theorem ctZ_one {d : Dc} {nm : List UInt8} {f : Int → List Tm × Int} {n : Int} {j : Nat} (hj : nmC d j = nm) (hu : ∀ i, i < d.cs.length → nmC d i = nm → i = j) : ∀ k, k ≤ d.cs.length → ctZ d nm f k n = if j < k then ([bT d.fx nm (f n).1], (f n).2) else ([], n)
 | 0, _ => by simp [ctZ]
 | k + 1, hk => by
  have ih := ctZ_one (f := f) (n := n) hj hu k (by omega)
  rw [ctZ, ih]
  by_cases h : nmC d k = nm
  ·have := hu k (by omega) h
   subst this
   rw [if_pos h, if_neg (by omega), if_pos (by omega)]
   rfl
  ·rw [if_neg h]
   by_cases hjk : j < k
   ·rw [if_pos hjk, if_pos (by omega)]
   ·rw [if_neg hjk, if_neg]
    intro hlt
    have : j = k := by omega
    subst this
    exact h hj
theorem fields_of {env : List Dc} (hf : EnvFine env) {i : Nat} {d : Dc} (hi : env[i]? = some d) (hk : d.k = 3) {j : Nat} {c : Ct} (hc : d.cs[j]? = some c) : fieldsZ env c.nm = (d, fldZ d j, true) := by
 unfold fieldsZ
 rw [ctor_found hf hi hk hc]
 simp

section

variable {env : List Dc} (hf : EnvFine env) {i : Nat} {d : Dc} (hi : env[i]? = some d) (hk : d.k = 3)
include hf hi hk
theorem ctor_of {k : Int} {n : List UInt8} {qs : List Pt} (hc : chkP env (.mk k n qs) = 0) (h1 : k = 1) (ho : (fieldsZ env n).1.nm = d.nm) : ∃ (j : Nat) (c : Ct), d.cs[j]? = some c ∧ c.nm = n ∧ (qs.length : Int) = fldZ d j ∧ chkPs env qs = 0 := by
 subst h1
 simp only [chkP] at hc
 rw [if_neg (by decide), if_pos trivial] at hc
 split at hc
 ·cases hc
 rename_i h2
 split at hc
 rotate_left
 ·cases hc
 rename_i h3
 obtain ⟨i', j, c, a1, a2, a3, a4, a5⟩ := fields_nm (by simpa using h2)
 have he := fam_unique hf a1 hi a2 hk ho
 rw [he] at a3 a5
 exact ⟨j, c, a3, a4, by rw [h3, a5], hc⟩
theorem ct_uniq {j : Nat} {c : Ct} (hc : d.cs[j]? = some c) {i' : Nat} (hl : i' < d.cs.length) (hn : nmC d i' = c.nm) : i' = j := by
 have h1 : d.cs[i']? = some d.cs[i'] := List.getElem?_eq_getElem hl
 have h2 : d.cs[i'].nm = c.nm := by rw [← hn]; unfold nmC; rw [h1]
 have h3 := ctor_found hf hi hk h1
 have h4 := ctor_found hf hi hk hc
 rw [h2, h4] at h3
 simp at h3
 omega

mutual
theorem inP_bt {last : Nat} (hla : last < d.cs.length) (hf0 : fldZ d last = 0) : ∀ (p : Pt) (n : Int), chkP env p = 0 → ofM env d.nm p → ∃ (q : Pt) (t : Tm), (inP d last p n).1 = [t] ∧ btP d q t ∧ refP p q
 | .mk k nm qs, n, hc, ho => by
  simp only [ofM] at ho
  by_cases h1 : k = 1
  ·obtain ⟨j, c, a1, a2, a3, a4⟩ := ctor_of hf hi hk hc h1 (ho.1 h1)
   have hj := (List.getElem?_eq_some_iff.1 a1).1
   have e := ctZ_one (d := d) (nm := nm) (f := inPs d last qs) (n := n) (j := j) (by unfold nmC; rw [a1]; exact a2) (fun i' hl hn => ct_uniq hf hi hk a1 hl (by rw [hn, a2])) d.cs.length (Nat.le_refl _)
   rw [if_pos hj] at e
   obtain ⟨ps, b1, b2⟩ := inPs_bt hla hf0 qs n a4 ho.2
   refine ⟨.mk 1 nm ps, bT d.fx nm (inPs d last qs n).1, ?_, ?_, ?_⟩
   ·rw [inP, if_pos h1, e]
   ·simp only [btP]
    refine ⟨trivial, j, c, _, a1, a2, ?_, rfl, b1⟩
    rw [← btPs_len b1, ← refPs_len b2, a3]
   ·simp only [refP]
    exact fun _ => ⟨rfl, rfl, b2⟩
  ·obtain ⟨p, hp⟩ := gt_bt hla hf0 2 n
   refine ⟨p, (gtZ d last 2 n).1, ?_, hp, ?_⟩
   ·rw [inP, if_neg h1]
   ·simp only [refP]
    exact fun h => absurd h h1
theorem inPs_bt {last : Nat} (hla : last < d.cs.length) (hf0 : fldZ d last = 0) : ∀ (l : List Pt) (n : Int), chkPs env l = 0 → ofMs env d.nm l → ∃ ps, btPs d ps (inPs d last l n).1 ∧ refPs l ps
 | [], n, _, _ => ⟨[], by simp [inPs, btPs], by simp [refPs]⟩
 | p :: l, n, hc, ho => by
  simp only [ofMs] at ho
  have hc1 : chkP env p = 0 ∧ chkPs env l = 0 := by
   simp only [chkPs] at hc
   split at hc
   ·exact ⟨by assumption, hc⟩
   ·contradiction
  obtain ⟨q, t, a1, a2, a3⟩ := inP_bt hla hf0 p n hc1.1 ho.1
  obtain ⟨ps, b1, b2⟩ := inPs_bt hla hf0 l (inP d last p n).2 hc1.2 ho.2
  refine ⟨q :: ps, ?_, ?_⟩
  ·simp only [inPs, a1]
   exact btPs_app b1 (btPs_one a2)
  ·simp only [refPs]
   exact ⟨a3, b2⟩
end

end

mutual
def filP : Pt → List (Pt × Tm) → Option (Pt × List (Pt × Tm))
 | .mk k n qs, zs => if k = 1 then (match filPs qs zs with | some (ps, r) => some (.mk 1 n ps, r) | none => none) else match zs with | [] => none | z :: r => some (z.1, r)
def filPs : List Pt → List (Pt × Tm) → Option (List Pt × List (Pt × Tm))
 | [], zs => some ([], zs)
 | q :: qs, zs => match filP q zs with
  | none => none
  | some (p, r) => match filPs qs r with
   | none => none
   | some (ps, r') => some (p :: ps, r')
end

end Go.Proofs.YtcfcolkbeelegaaGreat

namespace Go.Proofs.YtcfcolkbeelegaaGreat

open Go Go.AI
theorem Tm.sizes_mem {l : List Tm} {u : Tm} (h : u ∈ l) : u.size ≤ Tm.sizes l := by
 induction l with
 | nil => cases h
 | cons x l ih =>
  simp only [Tm.sizes]
  rcases List.mem_cons.1 h with rfl | h
  ·omega
  ·have := ih h; omega
theorem nodesB_any (N : Nat) : ∀ (l : List Tm) (most : Int) (h : Heap), Tm.sizes l ≤ N → Tm.sizes l ≤ 1152921504606846976 → -1152921504606846976 ≤ most → most ≤ 1152921504606846976 → WF h →
  ACalls Tryz.prog 63 [iA most, .p (.sl 5 (tmPs l))] h fun o h' => o = .ret (iA (nd most 0 l)) ∧ h' = h := by
 induction N with
 | zero =>
  intro l most h hN hsz hm1 hm2 hh
  cases l with
  | cons x l => have := x.size_pos; simp only [Tm.sizes] at hN; omega
  | nil =>
  refine ACalls.of_run Tryz.func63 rfl ?_
  simp only [Tryz.ntmps63, List.length_cons, List.length_nil]
  refine nv ?_
  refine Run.reg fun K J => ?_
  simp
  refine J _ _ _ (nv ?_); clear J
  refine Run.reg fun K J => ?_
  simp
  refine J _ _ _ (nv ?_); clear J
  refine Run.reg fun K J => ?_
  simp
  refine J _ _ _ (nv ?_); clear J
  refine Run.loopS [0, 1, 5, 8, 9] (fun _ : Unit => True) (fun _ => 0) (fun _ => [(10, iA 0)]) (fun _ => _) () trivial ?_ rfl ?_
  ·simp [tmPs]
   repeat' first | exact wn | apply wc | exact wj _ | exact wr _ | exact wz _ | exact wo _ _ _ | exact wi (by omega)
  ·intro _ _ _
   simp
   repeat (first | refine nw ?_ | (refine Run.reg fun K J => ?_; simp; (try (simp (disch := omega) only [wrap_id])); refine J _ _ _ ?_; clear J) | refine ct rfl ?_ | refine cf rfl ?_ | refine Run.exit rfl ?_ | refine Run.ret ?_)
   exact Fin.ret' (by simp) rfl hh (List.append_nil _).symm rfl rfl (Weak.refl _) rfl ⟨rfl, rfl⟩
 | succ N ih =>
 intro l most h hN hsz hm1 hm2 hh
 have hll := length_le_sizes l
 refine ACalls.of_run Tryz.func63 rfl ?_
 simp only [Tryz.ntmps63, List.length_cons, List.length_nil]
 refine nv ?_
 refine Run.reg fun K J => ?_
 simp
 refine J _ _ _ (nv ?_); clear J
 refine Run.reg fun K J => ?_
 simp
 refine J _ _ _ (nv ?_); clear J
 refine Run.reg fun K J => ?_
 simp
 refine J _ _ _ (nv ?_); clear J
 refine Run.loopS (ι := Nat × Int) [0, 1, 8, 9] (fun p => p.1 ≤ l.length ∧ 0 ≤ p.2 ∧ p.2 ≤ Tm.sizes (l.take p.1) ∧ nd most 0 l = nd most p.2 (l.drop p.1)) (fun p => l.length - p.1) (fun p => [(5, iA p.2), (10, iA p.1)]) (fun _ => _) (0, 0) (by simp [Tm.sizes]) ?_ rfl ?_
 ·simp
  repeat' first | exact wn | apply wc | exact wj _ | exact wr _ | exact wz _ | exact wo _ _ _ | exact wi (by omega)
 ·rintro ⟨j, n⟩ ⟨hj, hn0, hn1, hnd⟩ IH
  simp only at hj hn0 hn1 hnd
  have hst := sizes_take_le l j
  simp
  refine nv ?_
  refine Run.reg fun K J => ?_
  simp
  refine J _ _ _ (nv ?_); clear J
  by_cases hjl : j < l.length
  ·have hg : l[j]? = some l[j] := List.getElem?_eq_getElem hjl
   have hst2 := sizes_take l j _ hg
   have hst3 := sizes_take_le l (j + 1)
   rw [drop_at hg] at hnd
   generalize l[j] = u at hg hst2 hnd
   obtain ⟨k, i, nm, ls, ks⟩ := u
   simp only [Tm.size] at hst2
   refine ct (by simp [hjl]) (nv ?_)
   refine Run.reg fun K J => ?_
   simp [hg]
   refine J _ _ _ (nv ?_); clear J
   refine Run.reg fun K J => ?_
   simp
   refine J _ _ _ (nv ?_); clear J
   by_cases hmn : most < n
   ·skip
    refine ct (by simp [hmn]) (nv ?_)
    repeat (first | refine nw ?_ | (refine Run.reg fun K J => ?_; simp; (try (simp (disch := omega) only [wrap_id])); refine J _ _ _ ?_; clear J) | refine ct rfl ?_ | refine cf rfl ?_ | refine Run.exit rfl ?_ | refine Run.ret ?_)
    refine Fin.ret' (by simp) rfl hh rfl rfl rfl (Weak.refl _) rfl ⟨?_, rfl⟩
    rw [hnd, nd, if_pos hmn]; rfl
   ·skip
    refine cf (by simp [hmn]) (nv ?_)
    refine Run.reg fun K J => ?_
    simp
    try (simp (disch := omega) only [wrap_id])
    refine J _ _ _ ?_; clear J
    have hb := nd_bound ks (most - n) 0
    refine Run.call (args := [iA (most - n), .p (.sl 5 (tmPs ks))]) rfl rfl (by simp) rfl (ih ks (most - n) _ (by omega) (by omega) (by omega) (by omega) (hh.app (by simp))) ?_ ?_
    ·rintro v h' ⟨hv, rfl⟩
     simp only [AOut.ret.injEq] at hv
     subst hv
     refine Run.ops fun K J => ?_
     simp
     try (simp (disch := omega) only [wrap_id])
     refine J _ _ _ (nv ?_); clear J
     refine Run.reg fun K J => ?_
     simp
     try (simp (disch := omega) only [wrap_id])
     refine J _ _ _ (nv ?_); clear J
     refine Run.keep [0, 1, 5, 8, 9, 10] ?_
     simp
     refine Run.cutAt 0 hh rfl (by omega) (by simp) (by simp) (by simp) rfl ?_
     refine IH (j + 1, n + (1 + nd (most - n) 0 ks)) _ _ ⟨by simp only; omega, by simp only; omega, by simp only; omega, ?_⟩ (by simp only; omega) ?_ (by simp)
     ·rw [hnd, nd, if_neg hmn]; rfl
     ·simp
      repeat' first | exact wn | apply wc | exact wj _ | exact wr _ | exact wz _ | exact wo _ _ _ | exact wi (by omega)
    ·rintro v h' ⟨hv, _⟩; cases hv
  ·have hje : j = l.length := by omega
   subst hje
   refine cf (by simp) ?_
   refine Run.exit rfl ?_
   refine nv ?_
   repeat (first | refine nw ?_ | (refine Run.reg fun K J => ?_; simp; (try (simp (disch := omega) only [wrap_id])); refine J _ _ _ ?_; clear J) | refine ct rfl ?_ | refine cf rfl ?_ | refine Run.exit rfl ?_ | refine Run.ret ?_)
   refine Fin.ret' (by simp) rfl hh (List.append_nil _).symm rfl rfl (Weak.refl _) rfl ⟨?_, rfl⟩
   rw [hnd, List.drop_length]; rfl
theorem goodB_size {l : List Tm} (h : goodB l = true) : Tm.sizes l ≤ 200 := by
 simp only [goodB, fews, Bool.and_eq_true, Bool.not_eq_true', decide_eq_false_iff_not] at h
 have h1 := nd_exact l 200 0 (by omega)
 omega
theorem small08B_any (h : Heap) (hh : WF h) (env : List Dc) (l : List Tm) (hg : Env.good env) (hsz : Tm.sizes l ≤ 1152921504606846976) (hlv : Tm.lvss l) (hf : Tm.fits l) :
  ACalls Tryz.prog 20 [envA env, .p (.sl 5 (tmPs l))] h fun o h' => RetB (fun b => b = true → EnvFine env ∧ goodB l = true) o ∧ h' = h := by
 have c1 := fun (g : Heap) (hw : WF g) => nodesB_any (Tm.sizes l) l 60 g (Nat.le_refl _) (by omega) (by omega) (by omega) hw
 have c3 := fun (g : Heap) (hw : WF g) => goodEnv_any g hw env hg
 have hne := nd_exact l 60 0
 obtain ⟨n, hn⟩ : ∃ n, nd 60 0 l = n := ⟨_, rfl⟩
 rw [hn] at c1 hne
 have c2 := fun (hs : Tm.sizes l ≤ 60) (g : Heap) (hw : WF g) => good_any g hw l (by omega) hlv hf
 have c4 := fun (hs : Tm.sizes l ≤ 60) (g : Heap) (hw : WF g) => containsF_any g hw l (by have := length_le_sizes l; omega) (fun t ht => ⟨by have := Tm.sizes_mem ht; omega, Tm.fits_at hf t ht, Tm.lvss_at hlv t ht⟩)
 generalize goodB l = gb at c2 ⊢
 refine ACalls.of_run Tryz.func20 rfl ?_
 simp only [Tryz.ntmps20, List.length_cons, List.length_nil]
 refine nv ?_
 refine Run.reg fun K J => ?_
 simp
 refine J _ _ _ (nv ?_); clear J
 refine Run.reg fun K J => ?_
 simp
 refine J _ _ _ ?_; clear J
 refine Run.call rfl (by first | rfl | simp) (by simp) rfl (c1 _ hh) ?_ ?_
 rotate_left
 ·rintro v h' ⟨hv, _⟩; cases hv
 rintro v h' ⟨hv, rfl⟩
 simp only [AOut.ret.injEq] at hv
 subst hv
 by_cases e1 : n ≤ 60
 rotate_left
 ·refine Run.ops fun K J => ?_
  simp [e1]
  refine J _ _ _ (nv ?_); clear J
  refine Run.ret ?_
  exact Fin.ret' (by simp) rfl hh (List.append_nil _).symm (by simp; rfl) rfl (Weak.refl _) (by simp) ⟨⟨_, rfl, fun h => by cases h⟩, rfl⟩
 have hs60 : Tm.sizes l ≤ 60 := by have := hne (by omega); omega
 refine Run.ops fun K J => ?_
 simp [e1]
 refine J _ _ _ ?_; clear J
 refine Run.call rfl (by first | rfl | simp) (by simp) rfl (c2 hs60 _ hh) ?_ ?_
 rotate_left
 ·rintro v h' ⟨hv, _⟩; cases hv
 rintro v h' ⟨hv, rfl⟩
 simp only [AOut.ret.injEq] at hv
 subst hv
 cases gb with
 | false =>
  refine Run.ops fun K J => ?_
  simp
  refine J _ _ _ (nv ?_); clear J
  refine Run.ret ?_
  exact Fin.ret' (by simp) rfl hh (List.append_nil _).symm (by simp; rfl) rfl (Weak.refl _) (by simp) ⟨⟨_, rfl, fun h => by cases h⟩, rfl⟩
 | true =>
 refine Run.ops fun K J => ?_
 simp
 refine J _ _ _ ?_; clear J
 refine Run.call rfl (by first | rfl | simp) (by simp) rfl (c3 _ hh) ?_ ?_
 rotate_left
 ·rintro v h' ⟨⟨_, hv, _⟩, _⟩; cases hv
 rintro v h' ⟨⟨b, hv, hb⟩, rfl⟩
 simp only [AOut.ret.injEq] at hv
 subst hv
 cases b with
 | false =>
  refine Run.ops fun K J => ?_
  simp
  refine J _ _ _ (nv ?_); clear J
  refine Run.ret ?_
  exact Fin.ret' (by simp) rfl hh (List.append_nil _).symm (by simp; rfl) rfl (Weak.refl _) (by simp) ⟨⟨_, rfl, fun h => by cases h⟩, rfl⟩
 | true =>
  have he := hb rfl
  refine Run.ops fun K J => ?_
  simp
  refine J _ _ _ ?_; clear J
  refine Run.call rfl (by first | rfl | simp) (by simp) rfl (c4 hs60 _ hh) ?_ ?_
  rotate_left
  ·rintro v h' ⟨⟨_, hv, _⟩, _⟩; cases hv
  rintro v h' ⟨⟨b, hv, hb⟩, rfl⟩
  simp only [AOut.ret.injEq] at hv
  subst hv
  refine Run.ops fun K J => ?_
  simp
  refine J _ _ _ (nv ?_); clear J
  refine Run.ret ?_
  exact Fin.ret' (by simp) rfl hh (List.append_nil _).symm (by simp; rfl) rfl (Weak.refl _) (by simp) ⟨⟨_, rfl, fun _ => ⟨he, rfl⟩⟩, rfl⟩


open Go Go.AI
theorem sizes_app : ∀ (a b : List Tm), Tm.sizes (a ++ b) = Tm.sizes a + Tm.sizes b
 | [], b => by simp [Tm.sizes]
 | x :: a, b => by simp only [List.cons_append, Tm.sizes, sizes_app a b]; omega
theorem applyT_size (l : List Tm) : ∀ (t : Tm), (applyT t l).size = t.size + (Tm.sizes l + l.length) := by
 induction l with
 | nil => intro t; simp [applyT, Tm.sizes]
 | cons a l ih =>
  intro t
  have : applyT t (a :: l) = applyT (appT t a) l := rfl
  rw [this, ih]
  simp only [appT, Tm.size, Tm.sizes, List.length_cons]
  omega
theorem prop_sizes : ∀ k : Nat, Tm.sizes (List.replicate k propT) = k
 | 0 => rfl
 | k + 1 => by
  have := prop_sizes k
  simp only [List.replicate_succ, Tm.sizes]
  rw [this]
  simp only [propT, Tm.size, Tm.sizes]
  omega
theorem bT_size (fx : Int) (nm : List UInt8) (l : List Tm) : (bT fx nm l).size = 1 + 2 * fx.toNat + (Tm.sizes l + l.length) := by
 unfold bT hdT
 rw [applyT_size, applyT_size, prop_sizes]
 simp only [Tm.size, Tm.sizes, List.length_replicate]
 omega
theorem applyT_lvs (l : List Tm) : ∀ (t : Tm), t.lvs → Tm.lvss l → (applyT t l).lvs := by
 induction l with
 | nil => intro t h _; exact h
 | cons a l ih =>
  intro t h hl
  simp only [Tm.lvss] at hl
  exact ih (appT t a) (by simp [appT, Tm.lvs, Tm.lvss, h, hl.1]) hl.2
theorem applyT_fit (l : List Tm) : ∀ (t : Tm), t.fit → Tm.fits l → (applyT t l).fit := by
 induction l with
 | nil => intro t h _; exact h
 | cons a l ih =>
  intro t h hl
  simp only [Tm.fits] at hl
  exact ih (appT t a) (by simp [appT, Tm.fit, Tm.fits, h, hl.1]) hl.2
theorem props_ok : ∀ k : Nat, Tm.lvss (List.replicate k propT) ∧ Tm.fits (List.replicate k propT)
 | 0 => by simp [Tm.lvss, Tm.fits]
 | k + 1 => by
  have h := props_ok k
  have h1 : propT.lvs ∧ propT.fit := by simp [propT, Tm.lvs, Tm.fit, Tm.lvss, Tm.fits]
  simp only [List.replicate_succ, Tm.lvss, Tm.fits]
  exact ⟨⟨h1.1, h.1⟩, h1.2, h.2⟩
theorem bT_ok (fx : Int) (nm : List UInt8) {l : List Tm} (h1 : Tm.lvss l) (h2 : Tm.fits l) : (bT fx nm l).lvs ∧ (bT fx nm l).fit := by
 unfold bT hdT
 refine ⟨applyT_lvs _ _ (applyT_lvs _ _ (by simp [Tm.lvs, Tm.lvss]) (props_ok _).1) h1, applyT_fit _ _ (applyT_fit _ _ (by simp [Tm.fit, Tm.fits]) (props_ok _).2) h2⟩

mutual
theorem bt_ok {d : Dc} : ∀ (p : Pt) (t : Tm), btP d p t → t.lvs ∧ t.fit
 | .mk k n qs, t, h => by
  simp only [btP] at h
  obtain ⟨_, j, c, us, _, _, _, rfl, a5⟩ := h
  obtain ⟨b1, b2⟩ := bts_ok qs us a5
  exact bT_ok _ _ b1 b2
theorem bts_ok {d : Dc} : ∀ (ps : List Pt) (us : List Tm), btPs d ps us → Tm.lvss us ∧ Tm.fits us
 | [], us, h => by simp only [btPs] at h; subst h; simp [Tm.lvss, Tm.fits]
 | p :: ps, us, h => by
  simp only [btPs] at h
  obtain ⟨u, us', rfl, h3, h4⟩ := h
  obtain ⟨b1, b2⟩ := bt_ok p u h3
  obtain ⟨b3, b4⟩ := bts_ok ps us' h4
  exact ⟨by simp only [Tm.lvss]; exact ⟨b1, b3⟩, by simp only [Tm.fits]; exact ⟨b2, b4⟩⟩
end
def gB : Nat → Nat
 | 0 => 8193
 | k + 1 => 8193 + 4096 * (gB k + 1)
theorem seq_size {f : Int → Tm × Int} {B : Nat} (hf : ∀ n, (f n).1.size ≤ B) (n : Int) : ∀ c, Tm.sizes (seqZ f c n).1 + (seqZ f c n).1.length ≤ c * (B + 1)
 | 0 => by simp [seqZ, Tm.sizes]
 | c + 1 => by
  have := seq_size hf n c
  have := hf (seqZ f c n).2
  simp only [seqZ, sizes_app, List.length_append, Tm.sizes, List.length_singleton, Nat.succ_mul]
  omega
theorem gt_size {d : Dc} (hfx : d.fx ≤ 4096) (hfl : ∀ j, fldZ d j ≤ 4096) (last : Nat) : ∀ (k : Nat) (n : Int), (gtZ d last k n).1.size ≤ gB k
 | 0, n => by simp only [gtZ, bT_size, gB, Tm.sizes, List.length_nil]; omega
 | k + 1, n => by
  simp only [gtZ, bT_size, gB]
  have h1 := seq_size (gt_size hfx hfl last k) (seedN n) (fldZ d (gpick d n)).toNat
  have h2 : (fldZ d (gpick d n)).toNat * (gB k + 1) ≤ 4096 * (gB k + 1) := Nat.mul_le_mul_right _ (by have := hfl (gpick d n); omega)
  omega
theorem ct_size {d : Dc} (hfx : d.fx ≤ 4096) {nm : List UInt8} {f : Int → List Tm × Int} {n : Int} {B : Nat} (hf : ∀ n, Tm.sizes (f n).1 + (f n).1.length ≤ B) {j : Nat} (hu : ∀ i, i < d.cs.length → nmC d i = nm → i = j) : ∀ k, k ≤ d.cs.length → Tm.sizes (ctZ d nm f k n).1 + (ctZ d nm f k n).1.length ≤ if j < k then B + 8194 else 0
 | 0, _ => by simp [ctZ, Tm.sizes]
 | k + 1, hk => by
  have ih := ct_size (n := n) hfx hf hu k (by omega)
  unfold ctZ
  split
  ·rename_i h
   have := hu k (by omega) h
   subst this
   rw [if_neg (by omega)] at ih
   rw [if_pos (by omega)]
   have := hf (ctZ d nm f k n).2
   simp only [sizes_app, List.length_append, Tm.sizes, List.length_singleton, bT_size]
   omega
  ·by_cases hjk : j < k
   ·rw [if_pos hjk] at ih; rw [if_pos (by omega)]; exact ih
   ·rw [if_neg hjk] at ih; split <;> omega
theorem bT_spine (fx : Int) (nm : List UInt8) (l : List Tm) : resSpine (bT fx nm l) = (.mk 3 0 nm [] [], List.replicate fx.toNat propT ++ l) := by
 have : bT fx nm l = applyT (.mk 3 0 nm [] []) (List.replicate fx.toNat propT ++ l) := by
  unfold bT hdT applyT; rw [List.foldl_append]
 rw [this]
 exact apply_spine (by rfl) _

section

variable {env : List Dc} (hf : EnvFine env) {i : Nat} {d : Dc} (hi : env[i]? = some d) (hk : d.k = 3) (hfx : 0 ≤ d.fx)
include hf hi hk hfx

mutual
theorem one_bt (B : Nat) : ∀ (q p : Pt) (t : Tm) (i0 : Nat), chkP env q = 0 → pureP q → btP d p t → t.size ≤ B →
  ((cmpP i0 q p).v = 0 ∧ ∃ zs : List (Pt × Tm), (∀ z ∈ zs, btP d z.1 z.2 ∧ z.2.size ≤ B) ∧ oneO (fun t => (t, 0)) env q t = .mat (zs.map (·.2)) ∧ ∀ r, filP q (zs ++ r) = some (p, r)) ∨ ((cmpP i0 q p).v = 1 ∧ oneO (fun t => (t, 0)) env q t = .failed)
 | .mk k n qs, p, t, i0, hc, hp, hb, hB => by
  simp only [pureP] at hp
  obtain ⟨p2, p3, p4⟩ := hp
  by_cases h1 : k = 1
  rotate_left
  ·have h0 : k = 0 := by
    simp only [chkP] at hc
    by_cases h0 : k = 0
    ·exact h0
    ·rw [if_neg (by omega), if_neg h1] at hc; cases hc
   subst h0
   refine .inl ⟨by simp [cmpP], [(p, t)], by simpa using ⟨hb, hB⟩, by simp [oneO], fun r => by simp [filP]⟩
  subst h1
  obtain ⟨m, ps, rfl⟩ : ∃ m ps, p = .mk 1 m ps := by
   obtain ⟨k', m, ps⟩ := p
   have := hb
   simp only [btP] at this
   obtain ⟨rfl, _⟩ := this
   exact ⟨m, ps, rfl⟩
  simp only [btP] at hb
  obtain ⟨-, j, c, us, a1, rfl, a3, rfl, a5⟩ := hb
  have hfo := fields_of hf hi hk a1
  have hone : oneO (fun t => (t, 0)) env (.mk 1 n qs) (bT d.fx c.nm us) = if c.nm ≠ n then .failed else matO (fun t => (t, 0)) env qs us := by
   simp only [oneO, bT_spine, headO, Tm.kind, Tm.name, hfo]
   rw [if_neg (by decide), if_neg (by decide), if_neg (by decide), if_neg (by decide), if_neg (by decide), if_neg (by simp; omega)]
   by_cases hn : c.nm = n
   ·subst hn
    rw [if_neg (by simp), if_neg (by simp)]
    simp only [hfo]
    rw [List.drop_append_of_le_length (by simp), List.drop_of_length_le (by simp), List.nil_append]
   ·rw [if_pos hn, if_pos hn]
  rw [hone]
  by_cases hn : c.nm = n
  rotate_left
  ·rw [if_pos hn]
   exact .inr ⟨by simp [cmpP, Pt.kind, Pt.name, hn], rfl⟩
  rw [if_neg (by simpa using hn)]
  subst hn
  have hcv : (cmpP i0 (.mk 1 c.nm qs) (.mk 1 c.nm ps)).v = (cmpPs 0 qs ps).v := by simp [cmpP, Pt.kind, Pt.name, Pt.args]
  rw [hcv]
  simp only [chkP, hfo] at hc
  rw [if_neg (by decide), if_pos trivial, if_neg (by simp)] at hc
  split at hc
  rotate_left
  ·cases hc
  rename_i hql
  have hus : ∀ u ∈ us, u.size ≤ B := fun u hu => by
   have := Tm.sizes_mem hu
   rw [bT_size] at hB
   omega
  rcases mats_bt B qs ps us 0 hc p4 a5 hus (by have := btPs_len a5; omega) with ⟨b1, zs, b2, b3, b4⟩ | ⟨b1, b2⟩
  ·refine .inl ⟨b1, zs, b2, b3, fun r => ?_⟩
   simp only [filP, if_true, b4 r]
  ·exact .inr ⟨b1, b2⟩
theorem mats_bt (B : Nat) : ∀ (qs ps : List Pt) (us : List Tm) (i0 : Nat), chkPs env qs = 0 → purePs qs → btPs d ps us → (∀ u ∈ us, u.size ≤ B) → qs.length = ps.length →
  ((cmpPs i0 qs ps).v = 0 ∧ ∃ zs : List (Pt × Tm), (∀ z ∈ zs, btP d z.1 z.2 ∧ z.2.size ≤ B) ∧ matO (fun t => (t, 0)) env qs us = .mat (zs.map (·.2)) ∧ ∀ r, filPs qs (zs ++ r) = some (ps, r)) ∨ ((cmpPs i0 qs ps).v = 1 ∧ matO (fun t => (t, 0)) env qs us = .failed)
 | [], ps, us, i0, _, _, hb, _, hl => by
  have : ps = [] := List.length_eq_zero_iff.1 hl.symm
  subst this
  exact .inl ⟨by simp [cmpPs], [], by simp, by simp [matO], fun r => by simp [filPs]⟩
 | q :: qs, [], us, i0, _, _, hb, _, hl => by simp at hl
 | q :: qs, p :: ps, us, i0, hc, hp, hb, hB, hl => by
  simp only [btPs] at hb
  obtain ⟨u, us', rfl, h3, h4⟩ := hb
  simp only [purePs] at hp
  have hc1 : chkP env q = 0 ∧ chkPs env qs = 0 := by
   simp only [chkPs] at hc
   split at hc
   ·exact ⟨by assumption, hc⟩
   ·contradiction
  rcases one_bt B q p u i0 hc1.1 hp.1 h3 (hB u (by simp)) with ⟨b1, zs, b2, b3, b4⟩ | ⟨b1, b2⟩
  rotate_left
  ·exact .inr ⟨by simp [cmpPs, b1], by simp [matO, b2]⟩
  rcases mats_bt B qs ps us' (i0 + 1) hc1.2 hp.2 h4 (fun x hx => hB x (by simp [hx])) (by simpa using hl) with ⟨d1, ys, d2, d3, d4⟩ | ⟨d1, d2⟩
  ·refine .inl ⟨by simp [cmpPs, b1, d1], zs ++ ys, ?_, ?_, fun r => ?_⟩
   ·intro z hz
    rcases List.mem_append.1 hz with hz | hz
    ·exact b2 z hz
    ·exact d2 z hz
   ·simp [matO, b3, d3, Oc.join]
   ·rw [List.append_assoc, filPs, b4]
    simp only
    rw [d4]
  ·exact .inr ⟨by simp [cmpPs, b1, d1], by simp [matO, b3, d2, Oc.join]⟩
end
theorem matR_bt (B : Nat) {ps : List Pt} {us : List Tm} (hb : btPs d ps us) (hB : ∀ u ∈ us, u.size ≤ B) : ∀ (cls : List Cl) (i0 : Nat), (∀ c ∈ cls, c.ps.length = ps.length ∧ chkPs env c.ps = 0 ∧ purePs c.ps) →
  (∃ (j : Nat) (c : Cl) (zs : List (Pt × Tm)), cls[j]? = some c ∧ (∀ z ∈ zs, btP d z.1 z.2 ∧ z.2.size ≤ B) ∧ matchR (fun t => (t, 0)) env us i0 cls = (((i0 + j : Nat) : Int), zs.map (·.2), 0) ∧ filPs c.ps zs = some (ps, [])) ∨
  (matchR (fun t => (t, 0)) env us i0 cls = (0, [], 9) ∧ ∀ c ∈ cls, (cmpPs 0 c.ps ps).v = 1)
 | [], i0, _ => .inr ⟨rfl, by simp⟩
 | c :: cls, i0, h => by
  obtain ⟨h1, h2, h3⟩ := h c (by simp)
  simp only [matchR]
  rcases mats_bt hf hi hk hfx B c.ps ps us 0 h2 h3 hb hB h1 with ⟨b1, zs, b2, b3, b4⟩ | ⟨b1, b2⟩
  ·refine .inl ⟨0, c, zs, rfl, b2, by simp [b3], ?_⟩
   have := b4 []
   simpa using this
  ·simp only [b2]
   rcases matR_bt B hb hB cls (i0 + 1) (fun x hx => h x (by simp [hx])) with ⟨j, c', zs, e1, e2, e3, e4⟩ | ⟨e1, e2⟩
   ·exact .inl ⟨j + 1, c', zs, by simpa using e1, e2, by rw [e3]; congr 2; omega, e4⟩
   ·refine .inr ⟨e1, fun x hx => ?_⟩
    rcases List.mem_cons.1 hx with rfl | hx
    ·exact b1
    ·exact e2 x hx

end

end Go.Proofs.YtcfcolkbeelegaaGreat
