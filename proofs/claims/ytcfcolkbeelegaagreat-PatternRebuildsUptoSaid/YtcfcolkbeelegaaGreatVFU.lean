import Derived.Test.YtcfcolkbeelegaaGreatVPD
import Derived.Test.YtcfcolkbeelegaaGreatVT6
import Derived.Test.YtcfcolkbeelegaaGreatVX1
import Derived.Test.YtcfcolkbeelegaaGreatVC
import Derived.Test.YtcfcolkbeelegaaGreatVX0
import Derived.Test.YtcfcolkbeelegaaGreatVFE
import Derived.Test.YtcfcolkbeelegaaGreatVD
import Derived.Scope

namespace Go.Proofs.YtcfcolkbeelegaaGreat

open Go Go.AI

structure Vx where
 v : Int
 w : List Int
 n : List UInt8

mutual
def cmpP (i : Nat) : Pt → Pt → Vx
 | .mk k n qs, v => if k = 1 then (if v.kind = 1 then (if v.name = n then ⟨(cmpPs 0 qs v.args).v, i :: (cmpPs 0 qs v.args).w, (cmpPs 0 qs v.args).n⟩ else ⟨1, [], []⟩) else ⟨2, [i], n⟩) else ⟨0, [], []⟩
def cmpPs (i : Nat) : List Pt → List Pt → Vx
 | [], _ => ⟨0, [], []⟩
 | _ :: _, [] => ⟨0, [], []⟩
 | p :: ps, v :: vs => if (cmpP i p v).v = 0 then cmpPs (i + 1) ps vs else cmpP i p v
end
theorem cmpPs_at : ∀ (l vs : List Pt) (i j : Nat) (p v : Pt), (cmpPs i (l.take j) (vs.take j)).v = 0 → l[j]? = some p → vs[j]? = some v → (cmpP (i + j) p v).v ≠ 0 → cmpPs i l vs = cmpP (i + j) p v
 | [], _, _, j, _, _, _, h, _, _ => by simp at h
 | _ :: _, [], _, j, _, _, _, _, h, _ => by simp at h
 | x :: l, y :: vs, i, 0, p, v, _, h1, h2, he => by
  simp at h1 h2; subst h1 h2
  simp only [cmpPs, Nat.add_zero] at he ⊢
  rw [if_neg he]
 | x :: l, y :: vs, i, j + 1, p, v, h0, h1, h2, he => by
  simp only [List.take_succ_cons, cmpPs] at h0 ⊢
  by_cases c : (cmpP i x y).v = 0
  ·rw [if_pos c] at h0 ⊢
   have := cmpPs_at l vs (i + 1) j p v h0 (by simpa using h1) (by simpa using h2) (by rw [show i + 1 + j = i + (j + 1) by omega]; exact he)
   rw [this, show i + 1 + j = i + (j + 1) by omega]
  ·rw [if_neg c] at h0; exact absurd h0 c
theorem cmpPs_snoc : ∀ (l vs : List Pt) (i j : Nat) (p v : Pt), (cmpPs i (l.take j) (vs.take j)).v = 0 → l[j]? = some p → vs[j]? = some v → (cmpP (i + j) p v).v = 0 → (cmpPs i (l.take (j + 1)) (vs.take (j + 1))).v = 0
 | [], _, _, j, _, _, _, h, _, _ => by simp at h
 | _ :: _, [], _, j, _, _, _, _, h, _ => by simp at h
 | x :: l, y :: vs, i, 0, p, v, _, h1, h2, he => by
  simp at h1 h2; subst h1 h2
  simp only [Nat.add_zero] at he
  simp [cmpPs, he]
 | x :: l, y :: vs, i, j + 1, p, v, h0, h1, h2, he => by
  simp only [List.take_succ_cons, cmpPs] at h0 ⊢
  by_cases c : (cmpP i x y).v = 0
  ·rw [if_pos c] at h0 ⊢
   exact cmpPs_snoc l vs (i + 1) j p v h0 (by simpa using h1) (by simpa using h2) (by rw [show i + 1 + j = i + (j + 1) by omega]; exact he)
  ·rw [if_neg c] at h0; exact absurd h0 c
abbrev vxA (x : Vx) : AV := .tup [iA x.v, .p (.sl 1 (ints x.w)), .p (sP x.n)]
def Fit (env : List Dc) (l vs : List Pt) : Prop := l.length = vs.length ∧ chkPs env l = 0 ∧ chkPs env vs = 0
theorem chkPs_mem {env : List Dc} {l : List Pt} (h : chkPs env l = 0) : ∀ p ∈ l, chkP env p = 0 := by
 induction l with
 | nil => intro p hp; cases hp
 | cons x l ih =>
  simp only [chkPs] at h
  by_cases c : chkP env x = 0
  ·rw [if_pos c] at h
   intro p hp
   rcases List.mem_cons.1 hp with rfl | hp
   ·exact c
   ·exact ih h p hp
  ·rw [if_neg c] at h; exact absurd h c
theorem chkPs_of {env : List Dc} {l : List Pt} (h : ∀ p ∈ l, chkP env p = 0) : chkPs env l = 0 := by
 induction l with
 | nil => rfl
 | cons x l ih =>
  simp only [chkPs]
  rw [if_pos (h x (by simp))]
  exact ih fun p hp => h p (by simp [hp])
theorem chkP_ctor {env : List Dc} {n : List UInt8} {qs : List Pt} (h : chkP env (.mk 1 n qs) = 0) : (fieldsZ env n).2.2 = true ∧ (qs.length : Int) = (fieldsZ env n).2.1 ∧ chkPs env qs = 0 := by
 have e : chkP env (.mk 1 n qs) = if (fieldsZ env n).2.2 = false then 9 else if (qs.length : Int) = (fieldsZ env n).2.1 then chkPs env qs else 6 := by
  rw [chkP, if_neg (by omega), if_pos rfl]
 rw [e] at h
 by_cases c : (fieldsZ env n).2.2 = false
 ·rw [if_pos c] at h; exact absurd h (by decide)
 ·rw [if_neg c] at h
  by_cases c2 : (qs.length : Int) = (fieldsZ env n).2.1
  ·rw [if_pos c2] at h; exact ⟨by simpa using c, c2, h⟩
  ·rw [if_neg c2] at h; exact absurd h (by decide)
theorem Fit.inner {env : List Dc} {n : List UInt8} {qs ws : List Pt} (h1 : chkP env (.mk 1 n qs) = 0) (h2 : chkP env (.mk 1 n ws) = 0) : Fit env qs ws := by
 obtain ⟨_, a, b⟩ := chkP_ctor h1
 obtain ⟨_, c, d⟩ := chkP_ctor h2
 exact ⟨by omega, b, d⟩
theorem fld_le {env : List Dc} (hf : EnvFine env) (hg : Env.good env) (n : List UInt8) : (fieldsZ env n).2.1 ≤ 1048576 := by
 unfold fieldsZ
 rcases famZ_cases hf n with e | ⟨d, a, e, hm, hk, hd, hj⟩
 ·rw [e]; simp
 ·rw [e]
  by_cases c : 0 ≤ a
  ·rcases hj with hj | ⟨j, rfl, hj⟩
   ·omega
   simp only [c, and_self, if_true, Int.toNat_natCast]
   have hgj : d.cs[j]? = some d.cs[j] := List.getElem?_eq_getElem hj
   have hgd := (hg.2 d hm).cs _ (List.getElem_mem hj)
   have hl := (resAll_ok d.cs[j].ty hgd.2.2).2.2.2
   have hsz := hgd.1
   have hx0 := hd.fx0
   have hty := (hg.2 d hm).ty
   have hfx : d.fx ≤ 1048576 := by
    have h1 := hd.fix hk
    have hle := leadN_le d.ty.size d.ty (Nat.le_refl _)
    have := hty.1
    simp only [fixB, Bool.and_eq_true, decide_eq_true_eq] at h1
    omega
   unfold fldZ
   rw [hgj]
   simp only [fldC]
   rw [wrap_id (by omega) (by omega)]
   split <;> omega
  ·simp [c]
theorem cmpPs_take (i : Nat) (l vs : List Pt) (h : l.length = vs.length) : cmpPs i (l.take l.length) (vs.take l.length) = cmpPs i l vs := by
 rw [List.take_length, h, List.take_length]

mutual
theorem cmpP_zero : ∀ (i : Nat) (p v : Pt), (cmpP i p v).v = 0 → cmpP i p v = ⟨0, (cmpP i p v).w, (cmpP i p v).n⟩
 | i, p, v, h => by cases hc : cmpP i p v; rw [hc] at h; simp at h; simp [h]
theorem cmpPs_zero {i : Nat} : ∀ {l vs : List Pt}, (cmpPs i l vs).v = 0 → cmpPs i l vs = ⟨0, [], []⟩
 | [], vs, _ => by simp [cmpPs]
 | p :: ps, [], _ => by simp [cmpPs]
 | p :: ps, v :: vs, h => by
  simp only [cmpPs] at h ⊢
  by_cases c : (cmpP i p v).v = 0
  ·rw [if_pos c] at h ⊢
   exact cmpPs_zero h
  ·rw [if_neg c] at h; exact absurd h c
end

mutual
theorem cmpP_len : ∀ (i : Nat) (p v : Pt), (cmpP i p v).w.length ≤ p.size
 | i, .mk k n qs, v => by
  have := cmpPs_len 0 qs v.args
  simp only [cmpP, Pt.size]
  split
  ·split
   ·split
    ·simp only [List.length_cons]; omega
    ·simp
   ·simp
  ·simp
theorem cmpPs_len : ∀ (i : Nat) (l vs : List Pt), (cmpPs i l vs).w.length ≤ Pt.sizes l
 | i, [], vs => by simp [cmpPs]
 | i, p :: ps, [] => by simp [cmpPs]
 | i, p :: ps, v :: vs => by
  have := cmpP_len i p v
  have := cmpPs_len (i + 1) ps vs
  simp only [cmpPs, Pt.sizes]
  split <;> omega
end
set_option maxRecDepth 8000 in
set_option maxHeartbeats 16000000 in
theorem pcompare_any (env : List Dc) (_hfl : ∀ n, (fieldsZ env n).2.1 ≤ 1048576) (N : Nat) : ∀ (l vs : List Pt), Pt.sizes l ≤ N → Pt.sizes l ≤ 1048576 → Fit env l vs → ∀ h, WF h →
  ACalls Tryz.prog 130 [.p (.sl 3 (ptPs l)), .p (.sl 3 (ptPs vs))] h fun o h' => o = .ret (vxA (cmpPs 0 l vs)) ∧ h' = h := by
 have key : ∀ (l vs : List Pt), Pt.sizes l ≤ 1048576 → Fit env l vs → (∀ n qs ws, Pt.mk 1 n qs ∈ l → Fit env qs ws → ∀ g, WF g → ACalls Tryz.prog 130 [.p (.sl 3 (ptPs qs)), .p (.sl 3 (ptPs ws))] g fun o h' => o = .ret (vxA (cmpPs 0 qs ws)) ∧ h' = g) →
   ∀ h, WF h → ACalls Tryz.prog 130 [.p (.sl 3 (ptPs l)), .p (.sl 3 (ptPs vs))] h fun o h' => o = .ret (vxA (cmpPs 0 l vs)) ∧ h' = h := by
  intro l vs hB hfit ih h hh
  have hll := Pt.length_le l
  obtain ⟨hlen, hcl, hcv⟩ := hfit
  refine ACalls.of_run Tryz.func130 rfl ?_
  simp only [Tryz.ntmps130, List.length_cons, List.length_nil]
  refine nv ?_
  refine Run.reg fun K J => ?_
  simp
  refine J _ _ _ (nv ?_); clear J
  refine Run.reg fun K J => ?_
  simp
  refine J _ _ _ (nv ?_); clear J
  refine Run.loopS [1, 13, 14] (fun j : Nat => j ≤ l.length ∧ (cmpPs 0 (l.take j) (vs.take j)).v = 0) (fun j => l.length - j) (fun j => [(15, iA j)]) (fun _ => h) 0 (by simp [cmpPs]) ?_ rfl ?_
  ·simp
   repeat' first | exact wn | apply wc | exact wj _ | exact wr _ | exact wz _ | exact wo _ _ _ | exact wi (by omega)
  rintro j ⟨hj, hall⟩ IH
  simp
  refine nv ?_
  refine Run.reg fun K J => ?_
  simp
  refine J _ _ _ (nv ?_); clear J
  by_cases hjl : j < l.length
  ·have hg : l[j]? = some l[j] := List.getElem?_eq_getElem hjl
   have hgv : vs[j]? = some vs[j] := List.getElem?_eq_getElem (by omega)
   have hat := cmpPs_at l vs 0 j _ _ hall hg hgv
   have hsn := cmpPs_snoc l vs 0 j _ _ hall hg hgv
   have hmp := List.getElem_mem hjl
   have hcp := chkPs_mem hcl _ hmp
   have hcx := chkPs_mem hcv _ (List.getElem_mem (show j < vs.length by omega))
   rw [Nat.zero_add] at hat hsn
   generalize l[j] = p at hg hat hsn hmp hcp
   generalize vs[j] = x at hgv hat hsn hcx
   obtain ⟨k, n, qs⟩ := p
   obtain ⟨k2, n2, ws⟩ := x
   have hcmp : cmpP j (.mk k n qs) (.mk k2 n2 ws) = if k = 1 then (if k2 = 1 then (if n2 = n then ⟨(cmpPs 0 qs ws).v, j :: (cmpPs 0 qs ws).w, (cmpPs 0 qs ws).n⟩ else ⟨1, [], []⟩) else ⟨2, [(j : Int)], n⟩) else ⟨0, [], []⟩ := by
    rw [cmpP]; rfl
   rw [hcmp] at hat hsn
   clear hcmp
   refine ct (by simp [hjl]) (nv ?_)
   refine Run.reg fun K J => ?_
   simp [hg, pcells_mk]
   refine J _ _ _ (nv ?_); clear J
   refine Run.reg fun K J => ?_
   simp [hgv, pcells_mk]
   refine J _ _ _ (nv ?_); clear J
   by_cases hk : k = 1
   ·subst hk
    simp only [if_true] at hat hsn
    refine Run.reg fun K J => ?_
    simp
    refine J _ _ _ (nv ?_); clear J
    refine cf (by simp) (nv ?_)
    by_cases hk2 : k2 = 1
    ·subst hk2
     simp only [if_true] at hat hsn
     refine Run.reg fun K J => ?_
     simp
     refine J _ _ _ (nv ?_); clear J
     refine cf (by simp) (nv ?_)
     by_cases hn : n2 = n
     ·subst hn
      simp only [if_true] at hat hsn
      have c1 := ih n2 qs ws hmp (Fit.inner hcp hcx)
      have hwl : (cmpPs 0 qs ws).w.length ≤ 1048576 := by
       have h1 := cmpPs_len 0 qs ws
       have h2 := Pt.size_at hmp
       simp only [Pt.size] at h2
       omega
      generalize cmpPs 0 qs ws = r at c1 hat hsn hwl
      obtain ⟨e, w, nm⟩ := r
      simp only [vxA] at c1 hat hsn hwl
      refine Run.reg fun K J => ?_
      simp
      refine J _ _ _ (nv ?_); clear J
      refine cf (by simp) (nv ?_)
      refine Run.reg fun K J => ?_
      simp
      refine J _ _ _ ?_; clear J
      refine rl rfl (by first | rfl | simp) (by simp) rfl (c1 _ (hh.app (by simp))) ?_
      refine Run.ops fun K J => ?_
      simp
      refine J _ _ _ (nv ?_); clear J
      by_cases he : e = 0
      ·skip
       refine Run.reg fun K J => ?_
       simp
       refine J _ _ _ (nv ?_); clear J
       refine cf (by simp [he]) (nv ?_)
       refine Run.keep [1, 13, 14, 15] ?_
       simp only [keepT, keepT.go, List.contains_cons]
       simp
       refine Run.cutAt 0 hh rfl (by omega) (by simp) (by simp) (by simp) rfl ?_
       simp
       refine Run.reg fun K J => ?_
       simp
       try (simp (disch := omega) only [wrap_id])
       refine J _ _ _ (nv ?_); clear J
       refine IH (j + 1) _ _ ⟨by omega, hsn he⟩ (by omega) ?_ (by simp)
       simp
       repeat' first | exact wn | apply wc | exact wj _ | exact wr _ | exact wz _ | exact wo _ _ _ | exact wi (by omega)
      ·rw [hat he]
       refine Run.reg fun K J => ?_
       simp
       refine J _ _ _ (nv ?_); clear J
       refine ct (by simp [he]) (nv ?_)
       by_cases hw : w = []
       ·subst hw
        refine Run.regPre 4 fun K J => ?_
        simp only [List.take_succ_cons, List.take_zero]
        simp
        refine J _ _ _ ?_; clear J
        simp only [List.nil_append, List.drop_succ_cons, List.drop_zero]
        refine Run.appendZ (sz := 1) (sz' := 1) (es := [[iP j]]) (e := 3) rfl (by simp [awanted]) rfl rfl (by simp) (by simp [ints]) ?_
        refine Run.ops fun K J => ?_
        simp
        refine J _ _ _ (nv ?_); clear J
        refine Run.ret ?_
        exact Fin.ret' (h0 := h) (by simp) rfl hh rfl (by simp; rfl) rfl (Weak.refl _) (by simp) ⟨rfl, rfl⟩
       ·have hw0 : 0 < w.length := List.length_pos_iff.2 hw
        refine Run.regPre 2 fun K J => ?_
        simp only [List.take_succ_cons, List.take_zero]
        simp
        refine J _ _ _ ?_; clear J
        simp only [List.nil_append, List.drop_succ_cons, List.drop_zero]
        refine Run.buildV (sz := 1) (es := [[iP j]]) rfl (by simp [awanted]) (by simp) (by simp) ?_
        simp
        refine Run.opsPre 1 fun K J => ?_
        simp only [List.take_succ_cons, List.take_zero]
        simp
        refine J _ _ _ ?_; clear J
        simp only [List.nil_append, List.drop_succ_cons, List.drop_zero]
        have hil : (ints w).length = w.length := ints_length w
        have hi1 : ∀ e ∈ [iP j] :: ints w, e.length = 1 := by
         intro e he
         rcases List.mem_cons.1 he with rfl | he
         ·rfl
         ·exact ints_len w e he
        refine Run.appendV (id := h.length + 2) (es := [[iP j]]) (ys := ints w) (sz := 1) (by_ := 8) (e := 3) rfl (by simp [awanted]) rfl rfl rfl rfl (by simp) (by simp) (by simp) (by simp) (by simp) (by rw [hil]; exact hw0) (by rw [hil]; simp; omega) (by rw [hil]; simp; omega) ?_
        simp [hil]
        refine Run.ops fun K J => ?_
        simp
        refine J _ _ _ (nv ?_); clear J
        refine Run.keep [4, 5, 6] ?_
        simp
        refine Run.freezeV 5 (id := h.length + 2) (n := 1 + w.length) (sz := 1) (es := [iP j] :: ints w) (by simp) (by simp) hi1 (by simp [hil]; omega) ?_
        simp
        refine Run.ret ?_
        exact Fin.ret' (h0 := h) (by simp) rfl hh rfl (by simp; rfl) rfl (Weak.refl _) (by simp) ⟨rfl, rfl⟩
     ·rw [if_neg hn] at hat
      rw [hat (by simp)]
      refine Run.reg fun K J => ?_
      simp
      refine J _ _ _ (nv ?_); clear J
      refine ct (by simp [hn]) (nv ?_)
      refine Run.reg fun K J => ?_
      simp
      refine J _ _ _ (nv ?_); clear J
      refine Run.ret ?_
      exact Fin.ret' (h0 := h) (by simp) rfl hh rfl (by simp) rfl (xs := [iA 1, .p (.prim (.slice none 0 0)), .p (sP [])]) (y := .tup [iA 1, .p (.sl 1 (ints [])), .p (sP [])]) (Weak.tup (WeakL.cons (Weak.refl _) (WeakL.cons (Weak.nil _) (WeakL.refl _)))) (by simp) ⟨rfl, rfl⟩
    ·rw [if_neg hk2] at hat
     rw [hat (by simp)]
     have hk2' : (k2 != 1) = true := by simp [hk2]
     refine Run.reg fun K J => ?_
     simp
     refine J _ _ _ (nv ?_); clear J
     refine ct (by simp [hk2']) (nv ?_)
     refine Run.draw [0, 0, 0, 0, 0, 0, 0] [0, 0, 0, 0, 0, 0, 0] [0, 1, 0, 4, 0, 19, 63] [0, 1, 2, 3, 4, 5, 6] (by kernel_rfl) (by kernel_rfl) ?_
     refine DR.go fun K J => ?_
     simp
     refine J _ _ _ _ ?_; clear J
     change Run _ _ _ _ _ _ _ _
     refine Run.ret ?_
     exact Fin.ret' (h0 := h) (by simp) rfl hh rfl (by simp; rfl) rfl (Weak.refl _) (by simp) ⟨rfl, rfl⟩
   ·rw [if_neg hk] at hsn
    have hk' : (k != 1) = true := by simp [hk]
    refine Run.reg fun K J => ?_
    simp
    refine J _ _ _ (nv ?_); clear J
    refine ct (by simp [hk']) ?_
    refine Run.exit rfl ?_
    refine Run.keep [1, 13, 14, 15] ?_
    simp only [keepT, keepT.go, List.contains_cons]
    simp
    refine Run.cutAt 0 hh rfl (by omega) (by simp) (by simp) (by simp) rfl ?_
    simp
    refine Run.reg fun K J => ?_
    simp
    try (simp (disch := omega) only [wrap_id])
    refine J _ _ _ (nv ?_); clear J
    refine IH (j + 1) _ _ ⟨by omega, hsn rfl⟩ (by omega) ?_ (by simp)
    simp
    repeat' first | exact wn | apply wc | exact wj _ | exact wr _ | exact wz _ | exact wo _ _ _ | exact wi (by omega)
  ·have hje : j = l.length := by omega
   subst hje
   rw [cmpPs_take 0 l vs hlen] at hall
   rw [cmpPs_zero hall]
   refine cf (by simp) ?_
   refine Run.exit rfl ?_
   refine nv ?_
   refine Run.reg fun K J => ?_
   simp
   refine J _ _ _ (nv ?_); clear J
   refine Run.ret ?_
   exact Fin.ret' (h0 := h) (by simp) rfl hh (List.append_nil _).symm (by simp) rfl (xs := [iA 0, .p (.prim (.slice none 0 0)), .p (sP [])]) (y := .tup [iA 0, .p (.sl 1 (ints [])), .p (sP [])]) (Weak.tup (WeakL.cons (Weak.refl _) (WeakL.cons (Weak.nil _) (WeakL.refl _)))) (by simp) ⟨rfl, rfl⟩
 induction N with
 | zero =>
  intro l vs hN hB hf h hh
  refine key l vs hB hf (fun n qs ws hp => ?_) h hh
  have := Pt.size_at hp; have := (Pt.mk 1 n qs).size_pos; omega
 | succ N ih =>
  intro l vs hN hB hf h hh
  refine key l vs hB hf (fun n qs ws hp hf2 g hw => ?_) h hh
  have := Pt.size_at hp
  simp only [Pt.size] at this
  exact ih qs ws (by omega) (by omega) hf2 g hw


open Go Go.AI
def omax : Option Int → Option Int → Option Int
 | none, b => b
 | a, none => a
 | some x, some y => some (max x y)
@[simp] theorem omax_none_left (a : Option Int) : omax none a = a := rfl
@[simp] theorem omax_none_right (a : Option Int) : omax a none = a := by cases a <;> rfl
@[simp] theorem omax_some (x y : Int) : omax (some x) (some y) = some (max x y) := rfl
def mergeL : List (Int × Int) → List (Int × Int) → List (Int × Int)
 | [], b => b
 | a, [] => a
 | (i, p) :: a, (k, q) :: b => if i < k then (i, p) :: mergeL a ((k, q) :: b) else if k < i then (k, q) :: mergeL ((i, p) :: a) b else (i, max p q) :: mergeL a b
termination_by a b => a.length + b.length
@[simp] theorem mergeL_nil_right (a : List (Int × Int)) : mergeL a [] = a := by cases a <;> simp [mergeL]
@[simp] theorem mergeL_nil_left (a : List (Int × Int)) : mergeL [] a = a := by cases a <;> simp [mergeL]


open Go Go.AI
theorem drop_of_get {α : Type} {l : List α} {i : Nat} {x : α} (h : l[i]? = some x) : l.drop i = x :: l.drop (i + 1) := by
 have hj : i < l.length := (List.getElem?_eq_some_iff.1 h).1
 have hg : l[i] = x := (List.getElem?_eq_some_iff.1 h).2
 rw [← hg]; exact List.drop_eq_getElem_cons hj

end Go.Proofs.YtcfcolkbeelegaaGreat

namespace Go.AI

open Go

section

variable {P : Program} {rd : Option Nat} {nb : Nat} {k : List It} {T : List AV} {h : Heap} {D : List AD} {Q : AX → List AV → Heap → List AD → Prop}
theorem Run.freezeAt (cid off : Nat) {id n cap sz m : Nat} {cs : List AV} {es : List (List PV)} (hcid : h.at cid = some (.cells cs)) (hs : cs[off]? = some (.sm id 0 n cap sz)) (hat : h.at id = some (.cells (buf sz es m))) (hne : cid ≠ id) (hes : ∀ e ∈ es, e.length = sz) (hn : es.length = n) (hcap : n ≤ cap)
  (r : Run P rd nb k T ((h.set cid (some (.cells (cs.set off (.p (.sl sz es)))))).set id none) D Q) : Run P rd nb k T h D Q := by
 intro E w a s
 have hlt := lt_of_at hat
 have hltc := lt_of_at hcid
 obtain ⟨b, vals, hg, hrow, hreps⟩ := s.rel.objs id _ hat
 obtain ⟨f1, f2⟩ := s.rel.freeze hat hg
 have s' := s.move f2 f1 (fun i hi => s.fresh i (by simpa using hi))
 have hel : (es.flatten.map AV.p).length = es.length * sz := by rw [List.length_map, flat_length hes]
 have hx : Rep { E with ro := fun b' off => E.ro b' off ∨ b' = b } w (.p (.sl sz es)) (.slice (some ⟨b, 0, none⟩) n cap) := by
  simp only [Rep, RepP]
  refine ⟨_, cap, by rw [hn], by omega, .inr ⟨b, 0, rfl, ?_⟩⟩
  refine RepEs.of_row (vs := vals.take (es.length * sz)) hes (fun j v hj => ⟨.inr rfl, ?_⟩) ?_
  ·rw [hrow.cell, Nat.zero_add]
   rw [List.getElem?_take] at hj
   split at hj
   ·exact hj
   ·cases hj
  ·have := (hreps.ext f2.ext).take (es.length * sz)
   unfold buf at this
   rwa [List.take_append_of_le_length (by omega), List.take_of_length_le (by omega)] at this
 have hid' : Heap.at (h.set id none) cid = some (.cells cs) := by
  unfold Heap.at at hcid ⊢
  rw [List.getElem?_set_ne (fun q => hne q.symm)]; exact hcid
 obtain ⟨bc, vs, hgc, hrowc, hrepsc⟩ := s'.rel.objs cid cs hid'
 have hl := hrepsc.length
 have hoff : off < cs.length := (List.getElem?_eq_some_iff.1 hs).1
 obtain ⟨v, hv⟩ : ∃ v, vs[off]? = some v := ⟨_, List.getElem?_eq_getElem (by omega)⟩
 have hvr : Rep { E with ro := fun b' off => E.ro b' off ∨ b' = b } w (.sm id 0 n cap sz) v := by
  have := hrepsc.get off
  simpa only [List.getD, hs, hv, Option.getD_some] using this
 simp only [Rep] at hvr
 obtain ⟨b2, hb2, rfl⟩ := hvr
 have hb2 : E.g id = some b2 := hb2
 rw [hg] at hb2; cases hb2
 have hsame : vs.set off (.slice (some ⟨b, 0, none⟩) n cap) = vs := by
  apply List.ext_getElem?
  intro j
  rw [List.getElem?_set]
  split
  ·rename_i e; subst e; simp [show off < vs.length by omega] at hv ⊢; exact hv.symm
  ·rfl
 have hset := hrepsc.set hx off
 rw [hsame] at hset
 obtain ⟨w1, w2⟩ := s'.rel.write hid' hgc hrowc (fun _ _ => rfl) rfl rfl rfl hset
 have e : List.set (h.set id none) cid (some (.cells (cs.set off (.p (.sl sz es))))) = (h.set cid (some (.cells (cs.set off (.p (.sl sz es)))))).set id none := by
  rw [List.set_comm _ _ (fun q => hne q.symm)]
 rw [e] at w1 w2
 have s2 := s'.move w2 w1 (fun i hi => s'.fresh i (by simpa using hi))
 exact K_mono (P := P) (rd := rd) (Post.of_fr (Q := Q) (f2.trans w2)) k _ _ _ (r _ w a s2)

end

end Go.AI
