import Derived.Test.YtcfcolkbeelegaaGreatSFZ
import Derived.Test.YtcfcolkbeelegaaGreatSV0

namespace Go.Proofs.YtcfcolkbeelegaaGreat

open Go Go.AI

mutual
def refP : Pt → Pt → Prop
 | .mk k n qs, v => k = 1 → v.kind = 1 ∧ v.name = n ∧ refPs qs v.args
def refPs : List Pt → List Pt → Prop
 | [], vs => vs = []
 | _ :: _, [] => False
 | p :: ps, v :: vs => refP p v ∧ refPs ps vs
end

mutual
theorem refP_refl : ∀ p, refP p p
 | .mk k n qs => by
  simp only [refP]
  intro h
  exact ⟨by simp [h], by simp, by simpa using refPs_refl qs⟩
theorem refPs_refl : ∀ l, refPs l l
 | [] => by simp [refPs]
 | p :: l => by simp only [refPs]; exact ⟨refP_refl p, refPs_refl l⟩
end

mutual
theorem refP_trans : ∀ (a b c : Pt), refP a b → refP b c → refP a c
 | .mk k n qs, .mk k2 n2 qs2, .mk k3 n3 qs3, h1, h2 => by
  simp only [refP, Pt.kind, Pt.name, Pt.args] at h1 h2 ⊢
  intro hk
  obtain ⟨a1, a2, a3⟩ := h1 hk
  obtain ⟨b1, b2, b3⟩ := h2 a1
  exact ⟨b1, by rw [b2, a2], refPs_trans qs qs2 qs3 a3 b3⟩
theorem refPs_trans : ∀ (a b c : List Pt), refPs a b → refPs b c → refPs a c
 | [], b, c, h1, h2 => by simp only [refPs] at h1; subst h1; exact h2
 | p :: a, [], c, h1, _ => by simp only [refPs] at h1
 | p :: a, q :: b, [], _, h2 => by simp only [refPs] at h2
 | p :: a, q :: b, r :: c, h1, h2 => by
  simp only [refPs] at h1 h2 ⊢
  exact ⟨refP_trans p q r h1.1 h2.1, refPs_trans a b c h1.2 h2.2⟩
end
theorem refPs_vars : ∀ (qs : List Pt), refPs (List.replicate qs.length varPt) qs
 | [] => by simp [refPs]
 | q :: qs => by
  simp only [List.length_cons, List.replicate_succ, refPs]
  exact ⟨by simp [varPt, refP], refPs_vars qs⟩
theorem refPs_get : ∀ (l vs : List Pt), refPs l vs → ∀ (i : Nat) (p : Pt), l[i]? = some p → ∃ v, vs[i]? = some v ∧ refP p v
 | [], _, _, i, p, h => by simp at h
 | _ :: _, [], h, _, _, _ => by simp only [refPs] at h
 | q :: l, v :: vs, h, 0, p, hp => by simp at hp; subst hp; simp only [refPs] at h; exact ⟨v, by simp, h.1⟩
 | q :: l, v :: vs, h, i + 1, p, hp => by
  simp only [refPs] at h
  obtain ⟨x, hx, hr⟩ := refPs_get l vs h.2 i p (by simpa using hp)
  exact ⟨x, by simpa using hx, hr⟩
theorem refPs_set : ∀ (l vs : List Pt), refPs l vs → ∀ (i : Nat) (p v : Pt), vs[i]? = some v → refP p v → refPs (l.set i p) vs
 | [], _, h, _, _, _, _, _ => by simpa using h
 | _ :: _, [], h, _, _, _, _, _ => by simp only [refPs] at h
 | q :: l, x :: vs, h, 0, p, v, hv, hr => by simp at hv; subst hv; simp only [refPs] at h; simp only [List.set_cons_zero, refPs]; exact ⟨hr, h.2⟩
 | q :: l, x :: vs, h, i + 1, p, v, hv, hr => by
  simp only [refPs] at h
  simp only [List.set_cons_succ, refPs]
  exact ⟨h.1, refPs_set l vs h.2 i p v (by simpa using hv) hr⟩
theorem refPs_setR : ∀ (l vs : List Pt), refPs l vs → ∀ (i : Nat) (p v : Pt), l[i]? = some p → refP p v → refPs l (vs.set i v)
 | [], _, h, _, _, _, hp, _ => by simp at hp
 | _ :: _, [], h, _, _, _, _, _ => by simp only [refPs] at h
 | q :: l, x :: vs, h, 0, p, v, hv, hr => by simp at hv; subst hv; simp only [refPs] at h; simp only [List.set_cons_zero, refPs]; exact ⟨hr, h.2⟩
 | q :: l, x :: vs, h, i + 1, p, v, hv, hr => by
  simp only [refPs] at h
  simp only [List.set_cons_succ, refPs]
  exact ⟨h.1, refPs_setR l vs h.2 i p v (by simpa using hv) hr⟩
def NodeAt (y : List UInt8) (ys : List Pt) : List Int → List Pt → Prop
 | [], _ => False
 | [i], vs => vs[i.toNat]? = some (.mk 1 y ys)
 | i :: j :: w, vs => ∃ n qs, vs[i.toNat]? = some (.mk 1 n qs) ∧ NodeAt y ys (j :: w) qs
theorem node_put (y : List UInt8) (ys : List Pt) : ∀ (w : List Int) (vs vs' : List Pt), PathV w vs → refPs vs vs' → NodeAt y ys w vs' → refPs (putPs w vs (newPt y ys.length)) vs'
 | [], _, _, h, _, _ => h.elim
 | [i], vs, vs', h, hr, hn => by
  simp only [putPs]
  refine refPs_set vs vs' hr _ _ _ hn ?_
  simp only [newPt, refP, Pt.kind, Pt.name, Pt.args]
  exact fun _ => ⟨by simp, by simp, refPs_vars ys⟩
 | i :: j :: w, vs, vs', h, hr, hn => by
  obtain ⟨_, n, qs, hv, hp⟩ := h
  obtain ⟨n', qs', hv', hn⟩ := hn
  obtain ⟨x, hx, hr'⟩ := refPs_get vs vs' hr _ _ hv
  rw [hv'] at hx
  obtain rfl := Option.some.inj hx
  simp only [refP, Pt.kind, Pt.name, Pt.args] at hr'
  obtain ⟨_, rfl, hq⟩ := hr' trivial
  simp only [putPs, hv]
  refine refPs_set vs vs' hr _ _ _ hv' ?_
  simp only [refP, Pt.kind, Pt.name, Pt.args]
  exact fun _ => ⟨by simp, by simp, node_put y ys (j :: w) qs qs' hp hq hn⟩
theorem put_ref (x : Pt) : ∀ (w : List Int) (vs : List Pt), PathV w vs → refPs vs (putPs w vs x)
 | [], _, h => h.elim
 | [i], vs, h => by
  obtain ⟨_, v, hv, hk⟩ := h
  refine refPs_setR vs vs (refPs_refl vs) _ _ _ hv ?_
  obtain ⟨k, n, qs⟩ := v
  simp only [refP]
  exact fun e => absurd e hk
 | i :: j :: w, vs, h => by
  obtain ⟨_, n, qs, hv, hp⟩ := h
  simp only [putPs, hv]
  refine refPs_setR vs vs (refPs_refl vs) _ _ _ hv ?_
  simp only [refP, Pt.kind, Pt.name, Pt.args]
  exact fun _ => ⟨by simp, by simp, put_ref x (j :: w) qs hp⟩

mutual
theorem cmpP_ref : ∀ (i : Nat) (p v v' : Pt), refP v v' → ((cmpP i p v).v = 0 → (cmpP i p v').v = 0) ∧ ((cmpP i p v).v = 1 → (cmpP i p v').v = 1) ∧
  (∀ w nm, cmpP i p v = ⟨2, w, nm⟩ → (cmpP i p v').v = 2 ∨ ∃ w' y ys, w = (i : Int) :: w' ∧ NodeAt y ys (0 :: w') [v'])
 | i, .mk k n qs, .mk kv nv av, .mk k' n' a', hr => by
  simp only [refP, Pt.kind, Pt.name, Pt.args] at hr
  by_cases hk : k = 1
  rotate_left
  ·have e : ∀ v, cmpP i (.mk k n qs) v = ⟨0, [], []⟩ := fun v => by rw [cmpP, if_neg hk]
   rw [e, e]
   exact ⟨fun _ => rfl, fun h => by simp at h, fun w nm h => by simp at h⟩
  by_cases hv : kv = 1
  ·obtain ⟨h1, h2, h3⟩ := hr hv
   subst hk hv h1 h2
   by_cases hn : n' = n
   ·subst hn
    have e : ∀ a, cmpP i (.mk 1 n' qs) (.mk 1 n' a) = ⟨(cmpPs 0 qs a).v, i :: (cmpPs 0 qs a).w, (cmpPs 0 qs a).n⟩ := fun a => by rw [cmpP]; simp
    rw [e, e]
    have ih := cmpPs_ref 0 qs av a' h3
    refine ⟨ih.1, ih.2.1, fun w nm h => ?_⟩
    simp only [Vx.mk.injEq] at h
    obtain ⟨a, b, c⟩ := h
    rcases ih.2.2 (cmpPs 0 qs av).w (cmpPs 0 qs av).n (by cases hc : cmpPs 0 qs av; rw [hc] at a; simp at a; simp [a]) with h2 | ⟨i2, w2, y, ys, h3, _, h4⟩
    ·exact .inl h2
    ·refine .inr ⟨i2 :: w2, y, ys, by rw [← b, h3], n', a', by simp, by simpa using h4⟩
   ·have e : ∀ a, cmpP i (.mk 1 n qs) (.mk 1 n' a) = ⟨1, [], []⟩ := fun a => by rw [cmpP]; simp [hn]
    rw [e, e]
    exact ⟨fun h => h, fun h => h, fun w nm h => by simp at h⟩
  ·subst hk
   have e : cmpP i (.mk 1 n qs) (.mk kv nv av) = ⟨2, [(i : Int)], n⟩ := by rw [cmpP]; simp [hv]
   rw [e]
   refine ⟨fun h => by simp at h, fun h => by simp at h, fun w nm h => ?_⟩
   simp only [Vx.mk.injEq, true_and] at h
   by_cases hv' : k' = 1
   ·subst hv'
    exact .inr ⟨[], n', a', h.1.symm, by simp [NodeAt]⟩
   ·left
    rw [cmpP]; simp [hv']
theorem cmpPs_ref : ∀ (i0 : Nat) (l vs vs' : List Pt), refPs vs vs' → ((cmpPs i0 l vs).v = 0 → (cmpPs i0 l vs').v = 0) ∧ ((cmpPs i0 l vs).v = 1 → (cmpPs i0 l vs').v = 1) ∧
  (∀ w nm, cmpPs i0 l vs = ⟨2, w, nm⟩ → (cmpPs i0 l vs').v = 2 ∨ ∃ (i : Int) (w' : List Int) (y : List UInt8) (ys : List Pt), w = i :: w' ∧ (i0 : Int) ≤ i ∧ NodeAt y ys ((i - i0) :: w') vs')
 | i0, [], vs, vs', _ => by simp [cmpPs]
 | i0, p :: ps, [], vs', h => by simp only [refPs] at h; subst h; simp [cmpPs]
 | i0, p :: ps, v :: vs, [], h => by simp only [refPs] at h
 | i0, p :: ps, v :: vs, v' :: vs', h => by
  simp only [refPs] at h
  have h1 := cmpP_ref i0 p v v' h.1
  have h2 := cmpPs_ref (i0 + 1) ps vs vs' h.2
  simp only [cmpPs]
  by_cases c : (cmpP i0 p v).v = 0
  ·rw [if_pos c, if_pos (h1.1 c)]
   refine ⟨h2.1, h2.2.1, fun w nm hw => ?_⟩
   rcases h2.2.2 w nm hw with h | ⟨i, w', y, ys, e, hi, hn⟩
   ·exact .inl h
   ·refine .inr ⟨i, w', y, ys, e, by omega, ?_⟩
    obtain ⟨m, hm⟩ : ∃ m : Nat, i - ((i0 + 1 : Nat) : Int) = m := ⟨(i - ((i0 + 1 : Nat) : Int)).toNat, by omega⟩
    have hm2 : i - (i0 : Int) = ((m + 1 : Nat) : Int) := by omega
    rw [hm] at hn
    rw [hm2]
    cases w' with
    | nil => simpa [NodeAt] using hn
    | cons j w' =>
     obtain ⟨n, qs, a, b⟩ := hn
     exact ⟨n, qs, by simpa using a, b⟩
  ·rw [if_neg c]
   refine ⟨fun h => absurd h c, fun h => ?_, fun w nm hw => ?_⟩
   ·have := h1.2.1 h
    rw [if_neg (by omega)]
    exact this
   ·rcases h1.2.2 w nm hw with h | ⟨w', y, ys, e, hn⟩
    ·left; rw [if_neg (by omega)]; exact h
    ·refine .inr ⟨i0, w', y, ys, e, by omega, ?_⟩
     rw [show (i0 : Int) - i0 = 0 by omega]
     cases w' with
     | nil => simpa [NodeAt] using hn
     | cons j w' =>
      obtain ⟨n, qs, a, b⟩ := hn
      exact ⟨n, qs, by simpa using a, b⟩
end

mutual
def ofM (env : List Dc) (m : List UInt8) : Pt → Prop
 | .mk k n qs => (k = 1 → (fieldsZ env n).1.nm = m) ∧ ofMs env m qs
def ofMs (env : List Dc) (m : List UInt8) : List Pt → Prop
 | [] => True
 | p :: ps => ofM env m p ∧ ofMs env m ps
end
theorem ofMs_iff {env : List Dc} {m : List UInt8} : ∀ {l : List Pt}, ofMs env m l ↔ ∀ p ∈ l, ofM env m p
 | [] => by simp [ofMs]
 | p :: l => by simp only [ofMs, List.forall_mem_cons]; rw [ofMs_iff]
theorem ofM_at {env : List Dc} {m : List UInt8} {l : List Pt} (h : ofMs env m l) {i : Nat} {n : List UInt8} {qs : List Pt} (hg : l[i]? = some (.mk 1 n qs)) : (fieldsZ env n).1.nm = m ∧ ofMs env m qs := by
 have := ofMs_iff.1 h _ (List.mem_of_getElem? hg)
 simp only [ofM] at this
 exact ⟨this.1 trivial, this.2⟩
theorem ofM_set {env : List Dc} {m : List UInt8} {l : List Pt} (h : ofMs env m l) (i : Nat) {x : Pt} (hx : ofM env m x) : ofMs env m (l.set i x) := by
 refine ofMs_iff.2 fun p hp => ?_
 rcases List.mem_or_eq_of_mem_set hp with hp | rfl
 ·exact ofMs_iff.1 h p hp
 ·exact hx
theorem ofM_put {env : List Dc} {m : List UInt8} {x : Pt} (hx : ofM env m x) : ∀ (w : List Int) (vs : List Pt), PathV w vs → ofMs env m vs → ofMs env m (putPs w vs x)
 | [], _, h, _ => h.elim
 | [i], vs, _, ho => ofM_set ho _ hx
 | i :: j :: w, vs, h, ho => by
  obtain ⟨_, n, qs, hv, hp⟩ := h
  obtain ⟨a, b⟩ := ofM_at ho hv
  simp only [putPs, hv]
  refine ofM_set ho _ ?_
  simp only [ofM]
  exact ⟨fun _ => a, ofM_put hx (j :: w) qs hp b⟩
theorem PathC.ofM {env : List Dc} {m nm : List UInt8} : ∀ {w : List Int} {l vs : List Pt}, PathC nm w l vs → ofMs env m l → (fieldsZ env nm).1.nm = m
 | [], _, _, h, _ => h.elim
 | [i], l, vs, h, ho => by
  obtain ⟨_, qs, v, h1, _, _⟩ := h
  exact (ofM_at ho h1).1
 | i :: j :: w, l, vs, h, ho => by
  obtain ⟨_, n, qs, ws, h1, _, hp⟩ := h
  exact hp.ofM (ofM_at ho h1).2
theorem node_of {env : List Dc} {m y : List UInt8} {ys : List Pt} : ∀ {w : List Int} {vs : List Pt}, NodeAt y ys w vs → chkPs env vs = 0 → ofMs env m vs → (fieldsZ env y).1.nm = m ∧ (fieldsZ env y).2.2 = true ∧ (ys.length : Int) = (fieldsZ env y).2.1
 | [], _, h, _, _ => h.elim
 | [i], vs, h, hc, ho => by
  have h' : vs[i.toNat]? = some (.mk 1 y ys) := h
  have := chkP_ctor (chkPs_mem hc _ (List.mem_of_getElem? h'))
  exact ⟨(ofM_at ho h').1, this.1, this.2.1⟩
 | i :: j :: w, vs, h, hc, ho => by
  obtain ⟨n, qs, h1, hp⟩ := h
  have := chkP_ctor (chkPs_mem hc _ (List.mem_of_getElem? h1))
  exact node_of hp this.2.2 (ofM_at ho h1).2
theorem ctEn_some (d : Dc) (a : Int) (s : List UInt8) : ∀ (l : List Ct) (i : Nat) (e : En), ctEn d a s l i = some e → ∃ j c, l[j]? = some c ∧ c.nm = s ∧ e = ⟨4, a, ((i + j : Nat) : Int), d.ps, c.ty⟩
 | [], _, _, h => by simp [ctEn] at h
 | x :: l, i, e, h => by
  simp only [ctEn] at h
  split at h
  ·rename_i hn
   exact ⟨0, x, by simp, hn, by simpa using h.symm⟩
  ·obtain ⟨j, c, h1, h2, h3⟩ := ctEn_some d a s l (i + 1) e h
   exact ⟨j + 1, c, by simpa using h1, h2, by rw [h3]; congr 1; omega⟩
theorem fuEn_k (d : Dc) (a : Int) (s : List UInt8) : ∀ (l : List Fu) (i : Nat) (e : En), fuEn d a s l i = some e → e.k = 6
 | [], _, _, h => by simp [fuEn] at h
 | x :: l, i, e, h => by
  simp only [fuEn] at h
  split at h
  ·cases h; rfl
  ·exact fuEn_k d a s l (i + 1) e h
theorem findZ_ent {s : List UInt8} : ∀ {env : List Dc} {i : Nat} {e : En}, findZ s env i = some e → ∃ j d, env[j]? = some d ∧ s ∈ namesZ d ∧ e = entZ d ((i + j : Nat) : Int) s
 | [], _, _, h => by simp [findZ] at h
 | d :: env, i, e, h => by
  simp only [findZ] at h
  split at h
  ·rename_i hs
   cases h
   exact ⟨0, d, by simp, hs, by simp⟩
  ·obtain ⟨j, d', h1, h2, h3⟩ := findZ_ent h
   exact ⟨j + 1, d', by simpa using h1, h2, by rw [h3]; congr 1; omega⟩
theorem fields_nm {env : List Dc} {y : List UInt8} (h : (fieldsZ env y).2.2 = true) : ∃ (i j : Nat) (c : Ct), env[i]? = some (fieldsZ env y).1 ∧ (fieldsZ env y).1.k = 3 ∧ (fieldsZ env y).1.cs[j]? = some c ∧ c.nm = y ∧ (fieldsZ env y).2.1 = fldZ (fieldsZ env y).1 j := by
 unfold fieldsZ at h ⊢
 by_cases c : (famZ env y).2.2 = true ∧ 0 ≤ (famZ env y).2.1
 rotate_left
 ·rw [if_neg c] at h; cases h
 rw [if_pos c]
 simp only
 unfold famZ at c ⊢
 cases hz : findZ y env 0 with
 | none => rw [hz] at c; simp at c
 | some e =>
  rw [hz] at c
  simp only at c ⊢
  obtain ⟨i, d, h1, h2, h3⟩ := findZ_ent hz
  by_cases e3 : e.k = 3
  ·rw [if_pos e3] at c; simp at c
  rw [if_neg e3] at c ⊢
  by_cases e4 : e.k = 4
  rotate_left
  ·rw [if_neg e4] at c
   split at c <;> simp at c
  rw [if_pos e4] at c ⊢
  simp only
  have hat : e.at_.toNat = i ∧ d.k = 3 ∧ ∃ (j : Nat) (c : Ct), d.cs[j]? = some c ∧ c.nm = y ∧ e.it = j := by
   unfold entZ at h3
   split at h3
   ·rename_i hk; rw [h3] at e4; simp only at e4; omega
   split at h3
   ·rename_i hk
    split at h3
    ·rw [h3] at e4; simp at e4
    ·cases hc : ctEn d ((0 + i : Nat) : Int) y d.cs 0 with
     | none => rw [hc] at h3; simp only [Option.getD_none] at h3; rw [h3] at e4; simp at e4
     | some e' =>
      rw [hc] at h3
      simp only [Option.getD_some] at h3
      obtain ⟨j, cc, g1, g2, g3⟩ := ctEn_some _ _ _ _ _ _ hc
      subst h3
      subst g3
      exact ⟨by simp, hk, j, cc, g1, g2, by simp⟩
   ·cases hc : fuEn d ((0 + i : Nat) : Int) y d.fs 0 with
    | none => rw [hc] at h3; simp only [Option.getD_none] at h3; rw [h3] at e4; simp at e4
    | some e' =>
     rw [hc] at h3
     simp only [Option.getD_some] at h3
     have := fuEn_k _ _ _ _ _ _ hc
     subst h3
     omega
  obtain ⟨ha, hk, j, c, g1, g2, g3⟩ := hat
  rw [ha, h1]
  simp only [Option.getD_some]
  exact ⟨i, j, c, h1, hk, g1, g2, by rw [g3]; simp⟩
theorem fam_unique {env : List Dc} (hf : EnvFine env) {i j : Nat} {d e : Dc} (hi : env[i]? = some d) (hj : env[j]? = some e) (hd : d.k = 3) (he : e.k = 3) (hn : d.nm = e.nm) : d = e := by
 have key : ∀ (i j : Nat) (d e : Dc), env[i]? = some d → env[j]? = some e → d.k = 3 → e.k = 3 → d.nm = e.nm → i < j → False := by
  intro i j d e hi hj hd he hn hij
  have hdn := dnZ_of hf.2 hj
  have hnz : namesZ e = e.nm :: (e.cs.map Ct.nm ++ [e.nm ++ recB]) := by
   unfold namesZ; rw [if_neg (by omega), if_pos he]
  have hnd : namesZ d = d.nm :: (d.cs.map Ct.nm ++ [d.nm ++ recB]) := by
   unfold namesZ; rw [if_neg (by omega), if_pos hd]
  obtain ⟨h1, _⟩ := names_new hdn 0 e.nm (by rw [hnz]; rfl)
  have hm : d ∈ env.take j := List.mem_of_getElem? (i := i) (by rw [List.getElem?_take_of_lt hij]; exact hi)
  refine findZ_none h1 d hm ?_
  rw [hnd, hn]
  exact List.mem_cons_self
 rcases Nat.lt_trichotomy i j with h | h | h
 ·exact (key i j d e hi hj hd he hn h).elim
 ·subst h; rw [hi] at hj; exact Option.some.inj hj
 ·exact (key j i e d hj hi he hd hn.symm h).elim

section

variable {env : List Dc} {m : List UInt8} {cls : List Cl}
theorem new_of {nm : List UInt8} (hf : EnvFine env) (hn : (fieldsZ env nm).2.2 = true) (hm : (fieldsZ env nm).1.nm = m) {j : Nat} {x : Ct} (hx : (fieldsZ env nm).1.cs[j]? = some x) (k : Nat) : ofM env m (newPt x.nm k) := by
 simp only [newPt, ofM]
 refine ⟨fun _ => by rw [fields_found hf hn hx]; exact hm, ofMs_iff.2 fun p hp => ?_⟩
 rw [(List.mem_replicate.1 hp).2]
 simp [varPt, ofM, ofMs]
theorem cov_ref (hf : EnvFine env) (hcs : ∀ c ∈ cls, ofMs env m c.ps) {v' : List Pt} (hc' : chkPs env v' = 0) (ho' : ofMs env m v') :
  ∀ (n : Nat) (v : List Pt), CovOk env cls v → ofMs env m v → refPs v v' → covF env cls n v = true → ∃ c ∈ cls, (cmpPs 0 c.ps v').v ≠ 1 := by
 intro n
 induction n with
 | zero => intro v _ _ _ h; simp [covF] at h
 | succ n ih =>
 intro v hok ho hr h
 simp only [covF] at h
 have key : ∀ l : List Cl, (∀ c ∈ l, c ∈ cls) → covC (covF env cls n) env v l = true → ∃ c ∈ cls, (cmpPs 0 c.ps v').v ≠ 1 := by
  intro l
  induction l with
  | nil => intro _ h; simp [covC] at h
  | cons c l ihl =>
   intro hl h
   have hm := hl c (by simp)
   have hs := cmpPs_ref 0 c.ps v v' hr
   simp only [covC] at h
   by_cases h0 : (cmpPs 0 c.ps v).v = 0
   ·exact ⟨c, hm, by rw [hs.1 h0]; decide⟩
   rw [if_neg h0] at h
   by_cases h1 : (cmpPs 0 c.ps v).v = 1
   ·rw [if_pos h1] at h
    exact ihl (fun x hx => hl x (by simp [hx])) h
   rw [if_neg h1] at h
   have h2 : (cmpPs 0 c.ps v).v = 2 := by rcases cmpPs_v 0 c.ps v with e | e | e <;> omega
   have hp := cmp_two h2
   rcases hs.2.2 (cmpPs 0 c.ps v).w (cmpPs 0 c.ps v).n (by cases hc : cmpPs 0 c.ps v; rw [hc] at h2; simp at h2; simp [h2]) with e | ⟨i, w', y, ys, e1, _, e3⟩
   ·exact ⟨c, hm, by rw [e]; decide⟩
   have hnode : NodeAt y ys (cmpPs 0 c.ps v).w v' := by rw [e1]; simpa using e3
   generalize (cmpPs 0 c.ps v).w = w at hp hnode h
   generalize (cmpPs 0 c.ps v).n = nm at hp h
   have hnm := hp.name (env := env) (hok.cs c hm).1
   have hmm := hp.ofM (hcs c hm)
   obtain ⟨g1, g2, g3⟩ := node_of hnode hc' ho'
   obtain ⟨a, j, cy, k1, k2, k3, k4, k5⟩ := fields_nm g2
   obtain ⟨b, _, _, k6, k7, _⟩ := fields_nm hnm
   have hu := fam_unique hf k1 k6 k2 k7 (by rw [g1, hmm])
   rw [hu] at k3 k5
   have hj := (List.getElem?_eq_some_iff.1 k3).1
   have hall := allTo_at h hj
   unfold allCs at hall
   rw [k3] at hall
   simp only at hall
   have hlen : (fldZ (fieldsZ env nm).1 j).toNat = ys.length := by rw [← k5, ← g3]; simp
   have hput := (CovOk.put hok hf hm hp k3).1
   rw [hlen, k4] at hall hput
   refine ih _ hput (ofM_put (by rw [← k4]; exact new_of hf hnm hmm k3 _) w v hp.v ho) (node_put y ys w v v' hp.v hr hnode) hall
 exact key cls (fun _ h => h) h
theorem cov_leaf (hf : EnvFine env) (hcs : ∀ c ∈ cls, ofMs env m c.ps) :
  ∀ (n : Nat) (v : List Pt), CovOk env cls v → ofMs env m v → openC cls v < n → covF env cls n v = false → ∃ v', refPs v v' ∧ chkPs env v' = 0 ∧ ofMs env m v' ∧ ∀ c ∈ cls, (cmpPs 0 c.ps v').v = 1 := by
 intro n
 induction n with
 | zero => intro v _ _ h; omega
 | succ n ih =>
 intro v hok ho hlt h
 simp only [covF] at h
 have key : ∀ l : List Cl, (∀ c ∈ l, c ∈ cls) → covC (covF env cls n) env v l = false → (∀ c ∈ l, (cmpPs 0 c.ps v).v = 1) ∨ ∃ v', refPs v v' ∧ chkPs env v' = 0 ∧ ofMs env m v' ∧ ∀ c ∈ cls, (cmpPs 0 c.ps v').v = 1 := by
  intro l
  induction l with
  | nil => intro _ _; left; simp
  | cons c l ihl =>
   intro hl h
   have hm := hl c (by simp)
   simp only [covC] at h
   by_cases h0 : (cmpPs 0 c.ps v).v = 0
   ·rw [if_pos h0] at h; cases h
   rw [if_neg h0] at h
   by_cases h1 : (cmpPs 0 c.ps v).v = 1
   ·rw [if_pos h1] at h
    rcases ihl (fun x hx => hl x (by simp [hx])) h with e | e
    ·left
     intro x hx
     rcases List.mem_cons.1 hx with rfl | hx
     ·exact h1
     ·exact e x hx
    ·exact .inr e
   rw [if_neg h1] at h
   have h2 : (cmpPs 0 c.ps v).v = 2 := by rcases cmpPs_v 0 c.ps v with e | e | e <;> omega
   have hp := cmp_two h2
   generalize (cmpPs 0 c.ps v).w = w at hp h
   generalize (cmpPs 0 c.ps v).n = nm at hp h
   have hnm := hp.name (env := env) (hok.cs c hm).1
   have hmm := hp.ofM (hcs c hm)
   rw [allTo, List.all_eq_false] at h
   obtain ⟨j, hj, hjf⟩ := h
   have hj := List.mem_range.1 hj
   have k3 : (fieldsZ env nm).1.cs[j]? = some (fieldsZ env nm).1.cs[j] := List.getElem?_eq_getElem hj
   unfold allCs at hjf
   rw [k3] at hjf
   simp only [Bool.not_eq_true] at hjf
   have hput := CovOk.put hok hf hm hp k3
   have hnew := new_of hf hnm hmm k3 (fldZ (fieldsZ env nm).1 j).toNat
   obtain ⟨v', a, b, c', d⟩ := ih _ hput.1 (ofM_put hnew w v hp.v ho) (by have := hput.2; omega) hjf
   exact .inr ⟨v', refPs_trans _ _ _ (put_ref _ w v hp.v) a, b, c', d⟩
 rcases key cls (fun _ h => h) h with e | e
 ·exact ⟨v, refPs_refl v, hok.vc, ho, e⟩
 ·exact e

end
theorem covF_up {env : List Dc} {cls : List Cl} : ∀ (n : Nat) (v : List Pt), covF env cls n v = true → ∀ k, n ≤ k → covF env cls k v = true := by
 intro n
 induction n with
 | zero => intro v h; simp [covF] at h
 | succ n ih =>
  intro v h k hk
  obtain ⟨k, rfl⟩ : ∃ j, k = j + 1 := ⟨k - 1, by omega⟩
  simp only [covF] at h ⊢
  have key : ∀ l : List Cl, covC (covF env cls n) env v l = true → covC (covF env cls k) env v l = true := by
   intro l
   induction l with
   | nil => intro h; exact h
   | cons c l ihl =>
    intro h
    simp only [covC] at h ⊢
    split
    ·rfl
    ·rename_i h0
     rw [if_neg h0] at h
     split
     ·rename_i h1
      rw [if_pos h1] at h
      exact ihl h
     ·rename_i h1
      rw [if_neg h1] at h
      refine allTo_iff.2 fun j hj => ?_
      have := allTo_at h hj
      unfold allCs at this ⊢
      split
      ·rename_i c hc
       rw [hc] at this
       exact ih _ this k (by omega)
      ·rfl
  exact key cls h
theorem covF_snoc {env : List Dc} {cls : List Cl} (c : Cl) : ∀ (n : Nat) (v : List Pt), covF env cls n v = true → covF env (cls ++ [c]) n v = true := by
 intro n
 induction n with
 | zero => intro v h; simp [covF] at h
 | succ n ih =>
  intro v h
  simp only [covF] at h ⊢
  have key : ∀ l : List Cl, covC (covF env cls n) env v l = true → covC (covF env (cls ++ [c]) n) env v (l ++ [c]) = true := by
   intro l
   induction l with
   | nil => intro h; simp [covC] at h
   | cons c l ihl =>
    intro h
    simp only [covC, List.cons_append] at h ⊢
    split
    ·rfl
    ·rename_i h0
     rw [if_neg h0] at h
     split
     ·rename_i h1
      rw [if_pos h1] at h
      exact ihl h
     ·rename_i h1
      rw [if_neg h1] at h
      refine allTo_iff.2 fun j hj => ?_
      have := allTo_at h hj
      unfold allCs at this ⊢
      split
      ·rename_i c hc
       rw [hc] at this
       exact ih _ this
      ·rfl
  exact key cls h
theorem coversB_iff {env : List Dc} {cls : List Cl} {v : List Pt} : coversB env cls v = true ↔ (chkPs env v = 0 ∧ hasKs 3 v = false) ∧ (∀ c ∈ cls, clBad env v.length c = false) ∧ covF env cls (openC cls v + 1) v = true := by
 have hall : allTo (clOk env v.length cls) cls.length = true ↔ ∀ c ∈ cls, clBad env v.length c = false := by
  rw [allTo_iff]
  constructor
  ·intro h c hc
   obtain ⟨j, hj⟩ := List.getElem?_of_mem hc
   have := h j (List.getElem?_eq_some_iff.1 hj).1
   rw [clOk_at hj] at this
   simpa using this
  ·intro h j hj
   rw [clOk_at (List.getElem?_eq_getElem hj), h _ (List.getElem_mem hj)]
   rfl
 unfold coversB
 by_cases h1 : (decide (chkPs env v ≠ 0) || hasKs 3 v) = true
 ·rw [if_pos h1]
  simp only [Bool.or_eq_true, decide_eq_true_eq] at h1
  constructor
  ·intro h; cases h
  ·rintro ⟨⟨a, b⟩, _⟩
   rcases h1 with h1 | h1
   ·exact absurd a h1
   ·rw [b] at h1; cases h1
 ·rw [if_neg h1]
  have h1' : chkPs env v = 0 ∧ hasKs 3 v = false := by
   simp only [Bool.or_eq_true, decide_eq_true_eq, not_or, Bool.not_eq_true] at h1
   exact ⟨by simpa using h1.1, h1.2⟩
  by_cases h2 : allTo (clOk env v.length cls) cls.length = false
  ·rw [if_pos h2]
   constructor
   ·intro h; cases h
   ·rintro ⟨_, a, _⟩
    rw [hall.2 a] at h2; cases h2
  ·rw [if_neg h2]
   have h2' := hall.1 (by simpa using h2)
   exact ⟨fun h => ⟨h1', h2', h⟩, fun h => h.2.2⟩
theorem covOk_of {env : List Dc} {cls : List Cl} {v : List Pt} (hs : PSmall cls v) (h : coversB env cls v = true) : CovOk env cls v := by
 obtain ⟨h1, h2, _⟩ := coversB_iff.1 h
 refine ⟨hs.cl, fun c hc => ?_, by have := psz_len v; have := hs.vs; omega, h1.1⟩
 have := h2 c hc
 unfold clBad at this
 simp at this
 exact ⟨this.2, hs.cs c hc, this.1⟩

end Go.Proofs.YtcfcolkbeelegaaGreat

namespace Go.Proofs.YtcfcolkbeelegaaGreat

open Go Go.AI

mutual
def Tm.fm : Tm → Prop
 | .mk k i n ls ks => formB (.mk k i n ls ks) = true ∧ Tm.fms ks
def Tm.fms : List Tm → Prop
 | [] => True
 | t :: ts => t.fm ∧ Tm.fms ts
end
theorem fm_two {k i : Int} {n ls ks} (h : (Tm.mk k i n ls ks).fm) (hk : k = 4 ∨ k = 6) : ∃ a b, Tm.mk k i n ls ks = Tm.mk k 0 [] [] [a, b] ∧ a.fm ∧ b.fm := by
 simp only [Tm.fm, formB, formN, Bool.and_eq_true, Bool.not_eq_true', Bool.or_eq_false_iff, bne_eq_false_iff_eq, decide_eq_false_iff_not] at h
 obtain ⟨⟨⟨⟨⟨_, hks⟩, hi⟩, hn⟩, hls⟩, hf⟩ := h
 have h2 : kidsZ k = 2 := by unfold kidsZ; rw [if_pos (by omega)]
 rw [h2] at hks
 match ks, hks, hf with
 | [a, b], _, hf =>
  simp only [Tm.fms] at hf
  refine ⟨a, b, ?_, hf.1, hf.2.1⟩
  rcases hk with rfl | rfl
  ·simp at hi hn hls; rw [hi, hn, hls]
  ·simp at hi hn hls; rw [hi, hn, hls]
 | [], hks, _ => simp at hks
 | [_], hks, _ => simp at hks
 | _ :: _ :: _ :: _, hks, _ => simp at hks; omega
theorem isB_none {k : Int} {t : Tm} (h : t.fm) (hk : k = 4 ∨ k = 6) (hb : isB k t = none) : t.kind ≠ k := by
 obtain ⟨k', i, n, ls, ks⟩ := t
 intro e
 simp only [Tm.kind] at e
 subst e
 obtain ⟨a, b, e, _⟩ := fm_two h hk
 rw [e] at hb
 simp [isB] at hb
theorem isB_one {k : Int} {t a b : Tm} (h : t.fm) (hk : k = 4 ∨ k = 6) (hb : isB k t = some (a, b)) : t = .mk k 0 [] [] [a, b] ∧ a.fm ∧ b.fm := by
 obtain ⟨k', i, n, ls, ks⟩ := t
 match ks, hb with
 | [x, y], hb' =>
  simp only [isB] at hb'
  by_cases e : k' = k
  ·rw [if_pos e] at hb'
   subst e
   injection hb' with hb'; injection hb' with h1 h2
   subst h1; subst h2
   obtain ⟨a, b, e, ha, hbf⟩ := fm_two h hk
   injection e with e1 e2 e3 e4 e5
   injection e5 with e6 e7
   injection e7 with e7 e8
   subst e6; subst e7; subst e2; subst e3; subst e4
   exact ⟨rfl, ha, hbf⟩
  ·rw [if_neg e] at hb'; cases hb'
theorem applyT_snoc (t : Tm) (l : List Tm) (a : Tm) : applyT t (l ++ [a]) = appT (applyT t l) a := by
 simp [applyT]
theorem spG_apply : ∀ (n : Nat) (t : Tm), t.size ≤ n → t.fm → applyT (spG n t).1 (spG n t).2 = t ∧ (spG n t).1.fm ∧ isB 4 (spG n t).1 = none
 | 0, t, hs, _ => by have := t.size_pos; omega
 | n + 1, t, hs, h => by
  simp only [spG]
  cases hb : isB 4 t with
  | none => exact ⟨rfl, h, hb⟩
  | some p =>
   obtain ⟨f, a⟩ := p
   have := isB_size hb
   have := a.size_pos
   obtain ⟨e, hf, _⟩ := isB_one h (.inl rfl) hb
   have ih := spG_apply n f (by omega) hf
   simp only
   rw [applyT_snoc, ih.1]
   exact ⟨e.symm, ih.2⟩
theorem spine_apply {t : Tm} (h : t.fm) : applyT (resSpine t).1 (resSpine t).2 = t ∧ (resSpine t).1.kind ≠ 4 := by
 have := spG_apply t.size t (Nat.le_refl _) h
 exact ⟨this.1, isB_none this.2.1 (.inl rfl) this.2.2⟩
theorem apply_spine {t : Tm} (h : isB 4 t = none) (l : List Tm) : resSpine (applyT t l) = (t, l) := by
 have : ∀ (n : Nat) (l : List Tm), l.length = n → resSpine (applyT t l) = (t, l) := by
  intro n
  induction n with
  | zero => intro l hl; rw [List.length_eq_zero_iff] at hl; subst hl; exact resSpine_end h
  | succ n ih =>
   intro l hl
   obtain ⟨m, a, rfl⟩ : ∃ m a, l = m ++ [a] := ⟨l.dropLast, l.getLast (by intro h0; simp [h0] at hl), (List.dropLast_concat_getLast _).symm⟩
   rw [applyT_snoc, resSpine_step (f := applyT t m) (a := a) (by simp [appT, isB]), ih m (by simpa using hl)]
 exact this _ l rfl
theorem bindT_snoc (k : Int) (l : List Tm) (a t : Tm) : bindT k (l ++ [a]) t = bindT k l (.mk k 0 [] [] [a, t]) := by
 simp [bindT]
theorem allF_bind : ∀ (n : Nat) (acc : List Tm) (t : Tm), t.size ≤ n → t.fm → bindT 6 (allF 6 n acc t).1 (allF 6 n acc t).2 = bindT 6 acc t ∧ (allF 6 n acc t).2.fm ∧ isB 6 (allF 6 n acc t).2 = none
 | 0, acc, t, hs, _ => by have := t.size_pos; omega
 | n + 1, acc, t, hs, h => by
  simp only [allF]
  cases hb : isB 6 t with
  | none => exact ⟨rfl, h, hb⟩
  | some p =>
   obtain ⟨a, b⟩ := p
   have := isB_size hb
   have := a.size_pos
   obtain ⟨e, ha, hb'⟩ := isB_one h (.inr rfl) hb
   have ih := allF_bind n (acc ++ [a]) b (by omega) hb'
   simp only
   rw [ih.1, bindT_snoc, ← e]
   exact ⟨rfl, ih.2⟩
theorem all_bind {t : Tm} (h : t.fm) : bindT 6 (resAll t).1 (resAll t).2 = t ∧ (resAll t).2.kind ≠ 6 := by
 have := allF_bind t.size [] t (Nat.le_refl _) h
 exact ⟨by simpa [bindT, resAll] using this.1, isB_none this.2.1 (.inr rfl) this.2.2⟩

end Go.Proofs.YtcfcolkbeelegaaGreat
