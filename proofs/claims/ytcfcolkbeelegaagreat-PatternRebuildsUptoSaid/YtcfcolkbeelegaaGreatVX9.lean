import Derived.Test.YtcfcolkbeelegaaGreatVX4
set_option maxRecDepth 8000
set_option maxHeartbeats 16000000

namespace Go.Proofs.YtcfcolkbeelegaaGreat

open Go Go.AI
def recB0 (d : Dc) : Bool := d.rp == 0 && sameT d.rt zT && (d.rr.length : Int) == 0
def famB0 (d : Dc) : Bool := d.fx == 0 && (d.cs.length : Int) == 0 && recB0 d
def unusedB (d : Dc) : Bool :=
 if d.k = 0 then sameT d.va zT && famB0 d && (d.fs.length : Int) == 0
 else if d.k = 1 ∨ d.k = 2 then famB0 d && (d.fs.length : Int) == 0
 else if d.k = 3 then sameT d.va zT && (d.fs.length : Int) == 0
 else decide (d.nm = []) && sameT d.ty zT && sameT d.va zT && famB0 d
theorem unused_any (h : Heap) (hh : WF h) (d : Dc) (hd : d.good) : ACalls Tryz.prog 203 [d.av] h fun o h' => o = .ret (bA (unusedB d)) ∧ h' = h := by
 have c1 := fun (g : Heap) (hw : WF g) => zero_any g hw d.ty hd.ty
 have c2 := fun (g : Heap) (hw : WF g) => zero_any g hw d.va hd.va
 have c3 := fun (g : Heap) (hw : WF g) => zero_any g hw d.rt hd.rt
 obtain ⟨r, hr⟩ : ∃ r, r = unusedB d := ⟨_, rfl⟩
 rw [← hr]
 unfold unusedB famB0 recB0 at hr
 have hk := kcase d.k
 generalize sameT d.ty zT = b1 at c1 hr
 generalize sameT d.va zT = b2 at c2 hr
 generalize sameT d.rt zT = b3 at c3 hr
 obtain ⟨k, nm, ps, ⟨k1, i1, n1, l1, s1⟩, ⟨k2, i2, n2, l2, s2⟩, fx, cs, rp, ⟨k3, i3, n3, l3, s3⟩, rr, fs⟩ := d
 clear hd
 simp only at hr hk
 simp only [Dc.av, Dc.cells, Tm.av, cells_mk, List.map, List.cons_append, List.nil_append] at c1 c2 c3 ⊢
 obtain ⟨rb, hrb⟩ : ∃ rb, rb = (rp == 0 && b3 && (rr.length : Int) == 0) := ⟨_, rfl⟩
 rw [← hrb] at hr
 obtain ⟨fb, hfb⟩ : ∃ fb, fb = (fx == 0 && (cs.length : Int) == 0 && rb) := ⟨_, rfl⟩
 rw [← hfb] at hr
 refine ACalls.of_run Tryz.func203 rfl ?_
 simp only [Tryz.ntmps203, List.length_cons, List.length_nil]
 refine nv ?_
 refine Run.reg fun K J => ?_
 simp
 refine J _ _ _ ?_; clear J
 repeat (first | refine Run.skip ?_ | refine Run.opsNil ?_ | refine Run.inBlock ?_)
 refine Run.seq ?_
 refine Run.joinA [1] [(3, bA rb)] (fun hJ => ?_) ?_
 ·by_cases h1 : rp = 0
  ·subst h1
   refine Run.reg fun K J => ?_
   simp
   refine J _ _ _ ?_; clear J
   refine rl rfl (by first | rfl | simp) (by simp) rfl (c3 _ (hh.app (by simp))) ?_
   cases b3 with
   | false =>
    have hrb : rb = false := by rw [hrb]; rfl
    refine Run.ops fun K J => ?_
    simp
    refine J _ _ _ ?_; clear J
    repeat (first | refine Run.skip ?_ | refine Run.opsNil ?_ | refine Run.inBlock ?_)
    refine hJ _ ?_
    rw [hrb]
    simp
    repeat' first | exact wn | apply wc | exact wj _ | exact wr _ | exact wz _ | exact wo _ _ _ | exact wi (by omega)
   | true =>
    have hrb : rb = ((rr.length : Int) == 0) := by rw [hrb]; simp
    refine Run.ops fun K J => ?_
    simp
    refine J _ _ _ ?_; clear J
    repeat (first | refine Run.skip ?_ | refine Run.opsNil ?_ | refine Run.inBlock ?_)
    refine hJ _ ?_
    rw [hrb]
    simp
    repeat' first | exact wn | apply wc | exact wj _ | exact wr _ | exact wz _ | exact wo _ _ _ | exact wi (by omega)
  ·have h1' : (rp == 0) = false := by simp [h1]
   have hrb : rb = false := by rw [hrb, h1']; rfl
   refine Run.reg fun K J => ?_
   simp [h1']
   refine J _ _ _ ?_; clear J
   repeat (first | refine Run.skip ?_ | refine Run.opsNil ?_ | refine Run.inBlock ?_)
   refine hJ _ ?_
   rw [hrb]
   simp
   repeat' first | exact wn | apply wc | exact wj _ | exact wr _ | exact wz _ | exact wo _ _ _ | exact wi (by omega)
 simp only [setMany, keepT, keepT.go, List.contains_cons, List.set_cons_succ, List.set_cons_zero]
 simp
 refine nv ?_
 refine Run.regJ [1, 3] 4 (fx == 0 && (cs.length : Int) == 0 && rb) (fun K J => ?_) ?_
 ·simp
  repeat' (first | apply And.intro | intro _)
  all_goals
   refine J _ ?_
   simp
   repeat' first | exact wn | apply wc
   all_goals first | exact Weak.junk _ | (refine Weak.bool ?_; clear J; rw [Bool.eq_iff_iff]; simp; done) | (refine Weak.bool ?_; clear J; rw [Bool.eq_iff_iff]; simp; omega) | (refine Weak.bool ?_; clear J; simp_all; done) | (refine Weak.bool ?_; clear J; simp [*]; done) | (refine Weak.bool ?_; clear J; rw [Bool.eq_iff_iff]; simp [*]; omega) | exact Weak.refl _
 simp only [setMany, keepT, keepT.go, List.contains_cons, List.set_cons_succ, List.set_cons_zero]
 simp
 rw [← hfb]
 refine nv ?_
 refine Run.reg fun K J => ?_
 simp
 refine J _ _ _ (nv ?_); clear J
 clear hrb hfb c3
 rcases hk with rfl | hk
 ·rw [if_pos rfl] at hr
  refine Run.reg fun K J => ?_
  simp
  refine J _ _ _ (nv ?_); clear J
  refine ct (by simp) (nv ?_)
  refine Run.reg fun K J => ?_
  simp
  refine J _ _ _ ?_; clear J
  refine rl rfl (by first | rfl | simp) (by simp) rfl (c2 _ (hh.app (by simp))) ?_
  cases b2 <;> cases fb <;> (
   refine Run.ops fun K J => ?_
   simp
   refine J _ _ _ (nv ?_); clear J
   refine Run.ret ?_
   exact Fin.ret' (h0 := h) (by simp) rfl hh rfl (by simp; rfl) rfl (Weak.refl _) (by simp) ⟨by rw [hr]; simp, rfl⟩)
 rcases hk with rfl | hk
 ·rw [if_neg (by omega), if_pos (by omega)] at hr
  refine Run.reg fun K J => ?_
  simp
  refine J _ _ _ (nv ?_); clear J
  refine cf (by simp) (nv ?_)
  refine Run.reg fun K J => ?_
  simp
  refine J _ _ _ (nv ?_); clear J
  refine ct (by simp) (nv ?_)
  refine ct (by simp) (nv ?_)
  cases fb <;> (
   refine Run.reg fun K J => ?_
   simp
   refine J _ _ _ (nv ?_); clear J
   refine Run.ret ?_
   exact Fin.ret' (h0 := h) (by simp) rfl hh rfl (by simp; rfl) rfl (Weak.refl _) (by simp) ⟨by rw [hr]; simp, rfl⟩)
 rcases hk with rfl | hk
 ·rw [if_neg (by omega), if_pos (by omega)] at hr
  refine Run.reg fun K J => ?_
  simp
  refine J _ _ _ (nv ?_); clear J
  refine cf (by simp) (nv ?_)
  refine Run.reg fun K J => ?_
  simp
  refine J _ _ _ (nv ?_); clear J
  refine cf (by simp) ?_
  refine Run.reg fun K J => ?_
  simp
  refine J _ _ _ (nv ?_); clear J
  refine ct (by simp) (nv ?_)
  cases fb <;> (
   refine Run.reg fun K J => ?_
   simp
   refine J _ _ _ (nv ?_); clear J
   refine Run.ret ?_
   exact Fin.ret' (h0 := h) (by simp) rfl hh rfl (by simp; rfl) rfl (Weak.refl _) (by simp) ⟨by rw [hr]; simp, rfl⟩)
 rcases hk with rfl | hk
 ·rw [if_neg (by omega), if_neg (by omega), if_pos rfl] at hr
  refine Run.reg fun K J => ?_
  simp
  refine J _ _ _ (nv ?_); clear J
  refine cf (by simp) (nv ?_)
  refine Run.reg fun K J => ?_
  simp
  refine J _ _ _ (nv ?_); clear J
  refine cf (by simp) ?_
  refine Run.reg fun K J => ?_
  simp
  refine J _ _ _ (nv ?_); clear J
  refine cf (by simp) (nv ?_)
  refine Run.reg fun K J => ?_
  simp
  refine J _ _ _ (nv ?_); clear J
  refine ct (by simp) (nv ?_)
  refine Run.reg fun K J => ?_
  simp
  refine J _ _ _ ?_; clear J
  refine rl rfl (by first | rfl | simp) (by simp) rfl (c2 _ (hh.app (by simp))) ?_
  cases b2 <;> (
   refine Run.ops fun K J => ?_
   simp
   refine J _ _ _ (nv ?_); clear J
   refine Run.ret ?_
   exact Fin.ret' (h0 := h) (by simp) rfl hh rfl (by simp; rfl) rfl (Weak.refl _) (by simp) ⟨by rw [hr]; simp, rfl⟩)
 have hk' : (k == 0) = false ∧ (k == 1) = false ∧ (k == 2) = false ∧ (k == 3) = false := by
  rcases hk with rfl | h5
  ·decide
  ·exact ⟨h5.1, h5.2.1, h5.2.2.1, h5.2.2.2.1⟩
 obtain ⟨e0, e1, e2, e3⟩ := hk'
 rw [if_neg (by simpa using e0), if_neg (by simp at e1 e2; omega), if_neg (by simpa using e3)] at hr
 refine Run.reg fun K J => ?_
 simp [e0]
 refine J _ _ _ (nv ?_); clear J
 refine cf (by simp) (nv ?_)
 refine Run.reg fun K J => ?_
 simp [e1]
 refine J _ _ _ (nv ?_); clear J
 refine cf (by simp) ?_
 refine Run.reg fun K J => ?_
 simp [e2]
 refine J _ _ _ (nv ?_); clear J
 refine cf (by simp) (nv ?_)
 refine Run.reg fun K J => ?_
 simp [e3]
 refine J _ _ _ (nv ?_); clear J
 refine cf (by simp) (nv ?_)
 by_cases hn : nm = []
 ·subst hn
  refine Run.reg fun K J => ?_
  simp
  refine J _ _ _ ?_; clear J
  refine rl rfl (by first | rfl | simp) (by simp) rfl (c1 _ (hh.app (by simp))) ?_
  cases b1 with
  | false =>
   refine Run.ops fun K J => ?_
   simp
   refine J _ _ _ (nv ?_); clear J
   refine Run.ret ?_
   exact Fin.ret' (h0 := h) (by simp) rfl hh rfl (by simp; rfl) rfl (Weak.refl _) (by simp) ⟨by rw [hr]; simp, rfl⟩
  | true =>
   refine Run.ops fun K J => ?_
   simp
   refine J _ _ _ ?_; clear J
   refine rl rfl (by first | rfl | simp) (by simp) rfl (c2 _ (hh.app (by simp))) ?_
   cases b2 <;> cases fb <;> (
    refine Run.ops fun K J => ?_
    simp
    refine J _ _ _ (nv ?_); clear J
    refine Run.ret ?_
    exact Fin.ret' (h0 := h) (by simp) rfl hh rfl (by simp; rfl) rfl (Weak.refl _) (by simp) ⟨by rw [hr]; simp, rfl⟩)
 ·have hn1 : nm.isEmpty = false := by simp [hn]
  have hn2 : (nm == []) = false := by simp [hn]
  refine Run.reg fun K J => ?_
  simp [hn2]
  refine J _ _ _ (nv ?_); clear J
  refine Run.ret ?_
  exact Fin.ret' (h0 := h) (by simp) rfl hh rfl (by simp; rfl) rfl (Weak.refl _) (by simp) ⟨by rw [hr]; simp [hn], rfl⟩
def dnE (env : List Dc) (l : List (List UInt8)) (j : Nat) : Int := match l[j]? with
 | some s => if nameB s = false then 29 else if (findZ s env 0).isSome = true ∨ s ∈ l.take j then 8 else 0
 | none => 0
def dnZ (env : List Dc) (d : Dc) : Int := firstE ((List.range (namesZ d).length).map (dnE env (namesZ d)))
theorem declNames_any (h : Heap) (hh : WF h) (env : List Dc) (d : Dc) (hd : d.good) (hn : d.nm.length ≤ 1099511627776) (hg : Env.good env) (hs : Env.short env) : ACalls Tryz.prog 205 [envA env, d.av] h fun o h' => o = .ret (iA (dnZ env d)) ∧ h' = h := by
 have c1 := fun (g : Heap) (hw : WF g) => names_any g hw d hn hd.csl hd.fsl
 have c2 := fun (s : List UInt8) (g : Heap) (hw : WF g) => refFind_any g hw env s hg hs
 have hnl := namesZ_len d hd.csl hd.fsl
 obtain ⟨r, hr⟩ : ∃ r, r = dnZ env d := ⟨_, rfl⟩
 rw [← hr]
 unfold dnZ at hr
 generalize namesZ d = l at c1 hr hnl
 have hat : ∀ j, j < l.length → ((List.range l.length).map (dnE env l)).take (j + 1) = ((List.range l.length).map (dnE env l)).take j ++ [dnE env l j] := fun j hj => by
  rw [List.take_add_one]
  simp [hj]
 obtain ⟨k, nm, ps, ⟨k1, i1, n1, l1, s1⟩, ⟨k2, i2, n2, l2, s2⟩, fx, cs, rp, ⟨k3, i3, n3, l3, s3⟩, rr, fs⟩ := d
 clear hd
 simp only [Dc.av, Dc.cells, cells_mk, List.map, List.cons_append, List.nil_append] at c1 ⊢
 refine ACalls.of_run Tryz.func205 rfl ?_
 simp only [Tryz.ntmps205, List.length_cons, List.length_nil]
 refine nv ?_
 refine Run.reg fun K J => ?_
 simp
 refine J _ _ _ (nv ?_); clear J
 refine Run.reg fun K J => ?_
 simp
 refine J _ _ _ ?_; clear J
 refine rl rfl (by first | rfl | simp) (by simp) rfl (c1 _ (hh.app (by simp))) ?_
 refine Run.ops fun K J => ?_
 simp
 refine J _ _ _ (nv ?_); clear J
 refine Run.reg fun K J => ?_
 simp
 refine J _ _ _ (nv ?_); clear J
 refine Run.loopS [0, 3, 5] (fun j : Nat => j ≤ l.length ∧ firstE (((List.range l.length).map (dnE env l)).take j) = 0) (fun j => l.length - j) (fun j => [(6, iA j)]) (fun _ => _) 0 (by simp [firstE]) ?_ rfl ?_
 ·simp
  repeat' first | exact wn | apply wc | exact wj _ | exact wr _ | exact wz _ | exact wo _ _ _ | exact wi (by omega)
 rintro j ⟨hj, hall⟩ IH
 simp
 refine nv ?_
 refine Run.reg fun K J => ?_
 simp
 refine J _ _ _ (nv ?_); clear J
 by_cases hjl : j < l.length
 ·have hge : l[j]? = some l[j] := List.getElem?_eq_getElem hjl
  have hat := hat j hjl
  have hee : dnE env l j = if nameB l[j] = false then 29 else if (findZ l[j] env 0).isSome = true ∨ l[j] ∈ l.take j then 8 else 0 := by
   simp only [dnE, hge]
  rw [hee] at hat
  generalize l[j] = s at hge hat
  clear hee
  have c2 := c2 s
  have c3 := fun (g : Heap) (hw : WF g) => name_any g hw s
  have c4 := fun (g : Heap) (hw : WF g) => has_any g hw (l.take j) s (by simp; omega)
  unfold resFind at c2
  have hstop : ∀ e : Int, ((List.range l.length).map (dnE env l)).take (j + 1) = ((List.range l.length).map (dnE env l)).take j ++ [e] → e ≠ 0 → r = e := fun e h1 h2 => by
   have e1 : firstE (((List.range l.length).map (dnE env l)).take (j + 1)) = e := by rw [h1, firstE_snoc, hall, if_pos rfl]
   rw [hr, firstE_stop (j := j + 1) (by rw [e1]; exact h2), e1]
  have hgo : ∀ e : Int, ((List.range l.length).map (dnE env l)).take (j + 1) = ((List.range l.length).map (dnE env l)).take j ++ [e] → e = 0 → firstE (((List.range l.length).map (dnE env l)).take (j + 1)) = 0 := fun e h1 h2 => by rw [h1, firstE_snoc, hall, if_pos rfl, h2]
  have htp : (strPs l).take j = strPs (l.take j) := by simp [strPs]
  have hnj : ¬ ((j : Int) < 0) := by omega
  refine ct (by simp [hjl]) (nv ?_)
  refine Run.reg fun K J => ?_
  simp [hge]
  refine J _ _ _ ?_; clear J
  refine rl rfl (by first | rfl | simp) (by simp) rfl (c3 _ (hh.app (by simp))) ?_
  cases hnb : nameB s with
  | false =>
   rw [hnb, if_pos rfl] at hat
   have := hstop _ hat (by omega)
   refine Run.ops fun K J => ?_
   simp
   refine J _ _ _ (nv ?_); clear J
   refine ct (by simp) (nv ?_)
   repeat (first | refine nw ?_ | (refine Run.reg fun K J => ?_; simp; (try (simp (disch := omega) only [wrap_id])); refine J _ _ _ ?_; clear J) | refine ct rfl ?_ | refine cf rfl ?_ | refine Run.exit rfl ?_ | refine Run.ret ?_)
   exact Fin.ret' (h0 := h) (by simp) rfl hh rfl rfl rfl (Weak.refl _) rfl ⟨by rw [this]; rfl, rfl⟩
  | true =>
  rw [hnb, if_neg (by simp)] at hat
  refine Run.ops fun K J => ?_
  simp
  refine J _ _ _ (nv ?_); clear J
  refine cf (by simp) (nv ?_)
  refine Run.reg fun K J => ?_
  simp [hge]
  refine J _ _ _ ?_; clear J
  cases hfz : findZ s env 0 with
  | some e =>
   rw [hfz] at c2 hat
   rw [if_pos (by simp)] at hat
   have := hstop _ hat (by omega)
   obtain ⟨x1, x2, x3, x4, ⟨x5, x6, x7, x8, x9⟩⟩ := e
   simp only [En.av, En.cells, cells_mk, List.map] at c2
   refine rl rfl (by first | rfl | simp) (by simp) rfl (c2 _ (hh.app (by simp))) ?_
   refine Run.ops fun K J => ?_
   simp
   refine J _ _ _ (nv ?_); clear J
   refine Run.draw [0, 0, 0, 0, 0, 0, 0, 0, 0, 0, 0, 1] [0, 0, 0, 0, 0, 0, 0, 0, 0, 0, 0, 0] [0, 1, 3, 7, 7, 31, 7, 7, 199, 455, 1023, 2047] [0, 1, 2, 3, 4, 5, 6, 7, 8, 9, 10, 11] (by kernel_rfl) (by kernel_rfl) ?_
   refine DR.go fun K J => ?_
   simp
   refine J _ _ _ _ ?_; clear J
   change Run _ _ _ _ _ _ _ _
   refine ct (by simp) (nv ?_)
   repeat (first | refine nw ?_ | (refine Run.reg fun K J => ?_; simp; (try (simp (disch := omega) only [wrap_id])); refine J _ _ _ ?_; clear J) | refine ct rfl ?_ | refine cf rfl ?_ | refine Run.exit rfl ?_ | refine Run.ret ?_)
   exact Fin.ret' (h0 := h) (by simp) rfl hh rfl rfl rfl (Weak.refl _) rfl ⟨by rw [this]; rfl, rfl⟩
  | none =>
   rw [hfz] at c2 hat
   simp only [zEn, zT, En.av, En.cells, cells_mk, List.map] at c2
   refine rl rfl (by first | rfl | simp) (by simp) rfl (c2 _ (hh.app (by simp))) ?_
   refine Run.ops fun K J => ?_
   simp
   refine J _ _ _ (nv ?_); clear J
   refine Run.draw [0, 0, 0, 0, 0, 0, 0, 0, 0, 0, 0, 1] [0, 0, 0, 0, 0, 0, 0, 0, 0, 0, 0, 0] [0, 1, 3, 7, 7, 31, 7, 7, 199, 455, 1023, 2047] [0, 1, 2, 3, 4, 5, 6, 7, 8, 9, 10, 11] (by kernel_rfl) (by kernel_rfl) ?_
   refine DR.go fun K J => ?_
   simp [hge, htp, hnj, hj]
   refine J _ _ _ _ ?_; clear J
   refine DR.call rfl rfl rfl (by simp) rfl (c4 _ (hh.app (by simp))) ?_
   by_cases hm : s ∈ l.take j
   ·rw [if_pos (by simp [hm])] at hat
    have := hstop _ hat (by omega)
    refine DR.go fun K J => ?_
    simp [hm]
    refine J _ _ _ _ ?_; clear J
    change Run _ _ _ _ _ _ _ _
    refine ct (by simp) (nv ?_)
    repeat (first | refine nw ?_ | (refine Run.reg fun K J => ?_; simp; (try (simp (disch := omega) only [wrap_id])); refine J _ _ _ ?_; clear J) | refine ct rfl ?_ | refine cf rfl ?_ | refine Run.exit rfl ?_ | refine Run.ret ?_)
    exact Fin.ret' (h0 := h) (by simp) rfl hh rfl rfl rfl (Weak.refl _) rfl ⟨by rw [this]; rfl, rfl⟩
   ·rw [if_neg (by simp [hm])] at hat
    have hgo := hgo _ hat rfl
    refine DR.go fun K J => ?_
    simp [hm]
    refine J _ _ _ _ ?_; clear J
    change Run _ _ _ _ _ _ _ _
    refine cf (by simp) (nv ?_)
    refine Run.reg fun K J => ?_
    simp
    try (simp (disch := omega) only [wrap_id])
    refine J _ _ _ (nv ?_); clear J
    refine Run.keep [0, 3, 5, 6] ?_
    simp
    refine Run.cutAt 1 hh rfl (by omega) (by simp) (by simp) (by simp) rfl ?_
    refine IH (j + 1) _ _ ⟨by omega, hgo⟩ (by omega) ?_ (by simp)
    simp
    repeat' first | exact wn | apply wc | exact wj _ | exact wr _ | exact wz _ | exact wo _ _ _ | exact wi (by omega)
 ·have hje : j = l.length := by omega
  subst hje
  rw [List.take_of_length_le (by simp)] at hall
  refine cf (by simp) ?_
  refine Run.exit rfl ?_
  refine nv ?_
  repeat (first | refine nw ?_ | (refine Run.reg fun K J => ?_; simp; (try (simp (disch := omega) only [wrap_id])); refine J _ _ _ ?_; clear J) | refine ct rfl ?_ | refine cf rfl ?_ | refine Run.exit rfl ?_ | refine Run.ret ?_)
  exact Fin.ret' (h0 := h) (by simp) rfl hh rfl rfl rfl (Weak.refl _) rfl ⟨by rw [hr, hall]; rfl, rfl⟩

end Go.Proofs.YtcfcolkbeelegaaGreat
