import Derived.Test.YtcfcolkbeelegaaGreatVPR
import Derived.Test.YtcfcolkbeelegaaGreatVPK
import Derived.Test.YtcfcolkbeelegaaGreatVFU
import Derived.Test.YtcfcolkbeelegaaGreatVFJ
import Derived.Test.YtcfcolkbeelegaaGreatVX23
import Derived.Test.YtcfcolkbeelegaaGreatVFZ
set_option maxRecDepth 8000
set_option maxHeartbeats 16000000

namespace Go.Proofs.YtcfcolkbeelegaaGreat

open Go Go.AI

inductive Oc where
 | mat (l : List Tm)
 | stuck
 | given (e : Int)
 | failed
def Oc.av : Oc → AV
 | .mat l => .ifc 121 (.agg [.p (.sl 5 (tmPs l))])
 | .stuck => .ifc 123 (.agg [])
 | .given e => .ifc 125 (.agg [iA e])
 | .failed => .ifc 234 (.agg [])
def Oc.join (l : List Tm) : Oc → Oc
 | .mat m => .mat (l ++ m)
 | o => o

section

variable (W : Tm → Tm × Int) (env : List Dc)
def headO (n : List UInt8) (hd : Tm) (us : List Tm) : Option Oc :=
 if hd.kind ≠ 3 then some .stuck
 else if (fieldsZ env hd.name).2.2 = false ∨ (us.length : Int) ≠ (fieldsZ env hd.name).1.fx + (fieldsZ env hd.name).2.1 then some .stuck
 else if hd.name ≠ n then some .failed else none

mutual
def oneO : Pt → Tm → Oc
 | .mk k n qs, t =>
  if k = 0 then .mat [t] else if k = 2 then .mat [] else if k = 3 then .failed
  else if (W t).2 ≠ 0 then .given (W t).2
  else match headO env n (resSpine (W t).1).1 (resSpine (W t).1).2 with
   | some o => o
   | none => matO qs ((resSpine (W t).1).2.drop (fieldsZ env n).1.fx.toNat)
def matO : List Pt → List Tm → Oc
 | [], _ => .mat []
 | _ :: _, [] => .mat []
 | p :: ps, a :: l => match oneO p a with
  | .mat m => (matO ps l).join m
  | o => o
end

mutual
theorem oneO_len : ∀ (p : Pt) (t : Tm) (l : List Tm), oneO W env p t = .mat l → l.length ≤ p.size
 | .mk k n qs, t, l, h => by
  simp only [oneO] at h
  simp only [Pt.size]
  split at h
  ·simp at h; subst h; simp
  split at h
  ·simp at h; subst h; simp
  split at h
  ·cases h
  split at h
  ·cases h
  split at h
  ·rename_i o ho
   subst h
   simp only [headO] at ho
   split at ho
   ·simp at ho
   split at ho
   ·simp at ho
   split at ho
   ·simp at ho
   ·cases ho
  ·have := matO_len qs _ l h
   omega
theorem matO_len : ∀ (ps : List Pt) (us : List Tm) (l : List Tm), matO W env ps us = .mat l → l.length ≤ Pt.sizes ps
 | [], us, l, h => by simp [matO] at h; subst h; simp
 | p :: ps, [], l, h => by simp [matO] at h; subst h; simp
 | p :: ps, a :: us, l, h => by
  simp only [matO] at h
  simp only [Pt.sizes]
  split at h
  ·rename_i m hm
   have h1 := oneO_len p a m hm
   cases hc : matO W env ps us with
   | mat m2 =>
    have h2 := matO_len ps us m2 hc
    rw [hc] at h
    simp [Oc.join] at h
    subst h
    simp; omega
   | _ => rw [hc] at h; simp [Oc.join] at h
  ·rename_i hno
   exact absurd h (fun e => hno l e)
end

end

structure WOk (env : List Dc) (W : Tm → Tm × Int) (G : Tm → Prop) : Prop where
 run : ∀ t, G t → ∀ h, WF h → ACalls Tryz.prog 173 [envA env, t.av] h fun o h' => o = .ret (.tup [(W t).1.av, iA (W t).2]) ∧ h' = h
 sz : ∀ t, G t → (W t).2 = 0 → (W t).1.size ≤ 1048576
 args : ∀ t, G t → (W t).2 = 0 → ∀ a ∈ (resSpine (W t).1).2, G a
theorem Weak.ifc {t : TypeId} {x y : AV} (h : Weak x y) : Weak (.ifc t x) (.ifc t y) := fun E w v r => by
 simp only [Rep] at r ⊢
 obtain ⟨u, e, hu⟩ := r
 exact ⟨u, e, h E w u hu⟩
theorem matched_nil : Weak (.ifc 121 (.agg [.p (.prim (.slice none 0 0))])) (Oc.mat []).av := Weak.ifc (Weak.agg (WeakL.cons (Weak.nil 5) WeakL.nil))
theorem fields_fx {env : List Dc} (hf : EnvFine env) (hg : Env.good env) {n : List UInt8} (h : (fieldsZ env n).2.2 = true) : 0 ≤ (fieldsZ env n).1.fx ∧ (fieldsZ env n).1.fx ≤ 1048576 := by
 unfold fieldsZ at h ⊢
 split
 ·rcases famZ_cases hf n with e | ⟨d, a, e, hm, hk, hd, hj⟩
  ·rename_i hc; rw [e] at hc; simp at hc
  ·rw [e]
   have h1 := hd.fix hk
   simp only [fixB, Bool.and_eq_true, decide_eq_true_eq] at h1
   have h2 := leadN_le d.ty.size d.ty (Nat.le_refl _)
   have h3 := (hg.2 d hm).ty.1
   exact ⟨hd.fx0, by simp only; omega⟩
 ·rename_i hc
  rw [if_neg hc] at h
  simp at h
theorem fields_nn (env : List Dc) (n : List UInt8) : 0 ≤ (fieldsZ env n).2.1 := by
 unfold fieldsZ
 split
 ·exact fldZ_nn _ _
 ·simp
theorem chkP_bad {env : List Dc} {k : Int} {n : List UInt8} {qs : List Pt} (h0 : ¬ k = 0) (h1 : ¬ k = 1) (h2 : ¬ k = 2) (h3 : ¬ k = 3) : chkP env (.mk k n qs) = 3 := by
 rw [chkP, if_neg (by omega), if_neg h1]
theorem one_any (env : List Dc) (hf : EnvFine env) (hg : Env.good env) (W : Tm → Tm × Int) (G : Tm → Prop) (hW : WOk env W G) (k : Int) (n : List UInt8) (qs : List Pt) (t : Tm) (hG : G t) (hc : chkP env (.mk k n qs) = 0)
  (ih : ∀ us, qs.length ≤ us.length → (∀ a ∈ us, G a) → ∀ h, WF h → ACalls Tryz.prog 71 [envA env, .p (.sl 3 (ptPs qs)), .p (.sl 5 (tmPs us))] h fun o h' => o = .ret (matO W env qs us).av ∧ h' = h) (h : Heap) (hh : WF h) :
  ACalls Tryz.prog 124 [envA env, (Pt.mk k n qs).av, t.av] h fun o h' => o = .ret (oneO W env (.mk k n qs) t).av ∧ h' = h := by
 have c1 := hW.run t hG
 have hsz := hW.sz t hG
 have hGa := hW.args t hG
 have hone : oneO W env (.mk k n qs) t = if k = 0 then .mat [t] else if k = 2 then .mat [] else if k = 3 then .failed
  else if (W t).2 ≠ 0 then .given (W t).2
  else match headO env n (resSpine (W t).1).1 (resSpine (W t).1).2 with
   | some o => o
   | none => matO W env qs ((resSpine (W t).1).2.drop (fieldsZ env n).1.fx.toNat) := by rw [oneO]
 rw [hone]
 generalize W t = wt at c1 hsz hGa
 obtain ⟨⟨k2, i2, n2, l2, s2⟩, e⟩ := wt
 obtain ⟨k1, i1, n1, l1, s1⟩ := t
 simp only [Tm.av, Pt.av, pcells_mk, cells_mk, List.map] at c1 ⊢
 simp only at hsz hGa
 refine ACalls.of_run Tryz.func124 rfl ?_
 simp only [Tryz.ntmps124, List.length_cons, List.length_nil]
 refine nv ?_
 refine Run.reg fun K J => ?_
 simp
 refine J _ _ _ (nv ?_); clear J
 refine Run.reg fun K J => ?_
 simp
 refine J _ _ _ (nv ?_); clear J
 refine Run.reg fun K J => ?_
 simp
 refine J _ _ _ (nv ?_); clear J
 by_cases k0 : k = 0
 ·subst k0
  rw [if_pos rfl]
  refine ct (by simp) (nv ?_)
  refine Run.reg fun K J => ?_
  simp
  refine J _ _ _ (nv ?_); clear J
  refine Run.ret ?_
  exact Fin.ret' (h0 := h) (by simp) rfl hh rfl (by simp; rfl) rfl (Weak.refl _) (by simp) ⟨rfl, rfl⟩
 have k0b : (k == (0 : Int)) = false := by simpa using k0
 rw [if_neg k0]
 refine cf (by simp [k0b]) (nv ?_)
 refine Run.reg fun K J => ?_
 simp
 refine J _ _ _ (nv ?_); clear J
 by_cases k2' : k = 2
 ·subst k2'
  rw [if_pos rfl]
  refine ct (by simp) (nv ?_)
  refine Run.reg fun K J => ?_
  simp
  refine J _ _ _ (nv ?_); clear J
  refine Run.ret ?_
  exact Fin.ret' (h0 := h) (xs := [.ifc 121 (.agg [.p (.prim (.slice none 0 0))])]) (by simp) rfl hh rfl (by simp) rfl matched_nil (by simp [Oc.av]) ⟨rfl, rfl⟩
 have k2b : (k == (2 : Int)) = false := by simpa using k2'
 rw [if_neg k2']
 refine cf (by simp [k2b]) (nv ?_)
 refine Run.reg fun K J => ?_
 simp
 refine J _ _ _ (nv ?_); clear J
 by_cases k3 : k = 3
 ·subst k3
  rw [if_pos rfl]
  refine ct (by simp) (nv ?_)
  refine Run.reg fun K J => ?_
  simp
  refine J _ _ _ (nv ?_); clear J
  refine Run.ret ?_
  exact Fin.ret' (h0 := h) (by simp) rfl hh rfl (by simp; rfl) rfl (Weak.refl _) (by simp [Value.cells]) ⟨rfl, rfl⟩
 have k3b : (k == (3 : Int)) = false := by simpa using k3
 rw [if_neg k3]
 refine cf (by simp [k3b]) (nv ?_)
 refine Run.reg fun K J => ?_
 simp
 refine J _ _ _ ?_; clear J
 refine rl rfl (by first | rfl | simp) (by simp) rfl (c1 _ (hh.app (by simp))) ?_
 refine Run.ops fun K J => ?_
 simp
 refine J _ _ _ (nv ?_); clear J
 refine Run.reg fun K J => ?_
 simp
 refine J _ _ _ (nv ?_); clear J
 by_cases he : e = 0
 rotate_left
 ·have heb : (e != (0 : Int)) = true := by simpa using he
  rw [if_pos he]
  refine ct (by simp [heb]) (nv ?_)
  refine Run.reg fun K J => ?_
  simp
  refine J _ _ _ (nv ?_); clear J
  refine Run.ret ?_
  exact Fin.ret' (h0 := h) (by simp) rfl hh rfl (by simp; rfl) rfl (Weak.refl _) (by simp) ⟨rfl, rfl⟩
 subst he
 rw [if_neg (by simp)]
 have hsz := hsz rfl
 have hGa := hGa rfl
 have c2 := fun (g : Heap) (hw : WF g) => spine72_any g hw (.mk k2 i2 n2 l2 s2) hsz
 generalize resSpine (Tm.mk k2 i2 n2 l2 s2) = sp at c2 hGa ⊢
 obtain ⟨⟨hk, hi, hn, hl, hs⟩, us⟩ := sp
 simp only [Tm.av, cells_mk, List.map] at c2
 simp only at hGa ⊢
 refine cf (by simp) (nv ?_)
 refine Run.reg fun K J => ?_
 simp
 refine J _ _ _ ?_; clear J
 refine rl rfl (by first | rfl | simp) (by simp) rfl (c2 _ (hh.app (by simp))) ?_
 refine Run.ops fun K J => ?_
 simp
 refine J _ _ _ (nv ?_); clear J
 refine Run.reg fun K J => ?_
 simp
 refine J _ _ _ (nv ?_); clear J
 by_cases hk3 : hk = 3
 rotate_left
 ·have hk3b : (hk != (3 : Int)) = true := by simpa using hk3
  have ho : headO env n (.mk hk hi hn hl hs) us = some .stuck := by simp [headO, Tm.kind, hk3]
  rw [ho]
  refine ct (by simp [hk3b]) (nv ?_)
  refine Run.reg fun K J => ?_
  simp
  refine J _ _ _ (nv ?_); clear J
  refine Run.ret ?_
  exact Fin.ret' (h0 := h) (by simp) rfl hh rfl (by simp; rfl) rfl (Weak.refl _) (by simp [Value.cells]) ⟨rfl, rfl⟩
 subst hk3
 have c3 := fun (g : Heap) (hw : WF g) => pfields_any g hw env hn hg hf.1
 have hfx : (fieldsZ env hn).2.2 = true → 0 ≤ (fieldsZ env hn).1.fx ∧ (fieldsZ env hn).1.fx ≤ 1048576 := fields_fx hf hg
 have hfl := fld_le hf hg hn
 have hnn := fields_nn env hn
 have hqf : n = hn → (qs.length : Int) = (fieldsZ env hn).2.1 := fun e => by
  subst e
  by_cases k1' : k = 1
  ·subst k1'; exact (chkP_ctor hc).2.1
  ·rw [chkP_bad k0 k1' k2' k3] at hc; exact absurd hc (by decide)
 have ho : headO env n (.mk 3 hi hn hl hs) us = if (fieldsZ env hn).2.2 = false ∨ (us.length : Int) ≠ (fieldsZ env hn).1.fx + (fieldsZ env hn).2.1 then some .stuck else if hn ≠ n then some .failed else none := by unfold headO; exact if_neg (fun h => h rfl)
 rw [ho]
 have hdr : n = hn → (fieldsZ env n).1.fx.toNat = (fieldsZ env hn).1.fx.toNat := fun e => by rw [e]
 generalize (fieldsZ env n).1.fx.toNat = fxn at hdr ⊢
 generalize fieldsZ env hn = fz at c3 hfx hfl hnn hqf hdr ⊢
 obtain ⟨d, m, ok⟩ := fz
 simp only at c3 hfx hfl hnn hqf hdr ⊢
 obtain ⟨dc, hdc, hdcl, hone', hdu, hd14, hd13⟩ := dc_fields d
 have hd13' : ∀ q : 13 < dc.length, dc[13] = iA d.fx := fun q => by rw [List.getElem?_eq_getElem q] at hd13; exact Option.some.inj hd13
 have htd : List.take 23 dc = dc := List.take_of_length_le (by omega)
 have hpa : ∀ l : List AV, l.length = 23 → patch l 0 dc = dc := fun l hl' => by
  have := patch_full dc l [] (by rw [hl', hdcl])
  simpa only [List.append_nil] using this
 rw [hdc] at c3
 refine cf (by simp) (nv ?_)
 refine Run.reg fun K J => ?_
 simp
 refine J _ _ _ ?_; clear J
 refine rl rfl (by first | rfl | simp) (by simp) rfl (c3 _ (hh.app (by simp))) ?_
 refine Run.ops fun K J => ?_
 simp [hdcl, hone', hpa]
 refine J _ _ _ (nv ?_); clear J
 cases ok with
 | false =>
  rw [if_pos (.inl rfl)]
  refine Run.reg fun K J => ?_
  simp
  refine J _ _ _ (nv ?_); clear J
  refine ct (by simp) (nv ?_)
  refine Run.reg fun K J => ?_
  simp
  refine J _ _ _ (nv ?_); clear J
  refine Run.ret ?_
  exact Fin.ret' (h0 := h) (by simp) rfl hh rfl (by simp; rfl) rfl (Weak.refl _) (by simp [Value.cells]) ⟨rfl, rfl⟩
 | true =>
 obtain ⟨f0, f1⟩ := hfx rfl
 have hw : IntKind.i64.wrap (d.fx + m) = d.fx + m := wrap_id (by omega) (by omega)
 by_cases hlm : (us.length : Int) = d.fx + m
 rotate_left
 ·have hlb : ((us.length : Int) != d.fx + m) = true := by simpa using hlm
  rw [if_pos (.inr hlm)]
  refine Run.reg fun K J => ?_
  simp [hd13', hdcl, hw, hlb]
  refine J _ _ _ (nv ?_); clear J
  refine ct (by simp) (nv ?_)
  refine Run.reg fun K J => ?_
  simp
  refine J _ _ _ (nv ?_); clear J
  refine Run.ret ?_
  exact Fin.ret' (h0 := h) (by simp) rfl hh rfl (by simp; rfl) rfl (Weak.refl _) (by simp [Value.cells]) ⟨rfl, rfl⟩
 have hlb : ((us.length : Int) != d.fx + m) = false := by simpa using hlm
 rw [if_neg (by simp [hlm])]
 refine Run.reg fun K J => ?_
 simp [hd13', hdcl, hw, hlb]
 refine J _ _ _ (nv ?_); clear J
 refine cf (by simp) (nv ?_)
 refine Run.reg fun K J => ?_
 simp
 refine J _ _ _ (nv ?_); clear J
 by_cases hnm : hn = n
 rotate_left
 ·have hnm' : ¬ n = hn := fun e => hnm e.symm
  rw [if_pos hnm]
  refine ct (by simp [hnm]) (nv ?_)
  refine Run.reg fun K J => ?_
  simp
  refine J _ _ _ (nv ?_); clear J
  refine Run.ret ?_
  exact Fin.ret' (h0 := h) (by simp) rfl hh rfl (by simp; rfl) rfl (Weak.refl _) (by simp [Value.cells]) ⟨rfl, rfl⟩
 subst hnm
 rw [if_neg (by simp)]
 refine cf (by simp) (nv ?_)
 have hfe : fxn = d.fx.toNat := hdr rfl
 subst hfe
 have hql := hqf rfl
 have c4 := ih (us.drop d.fx.toNat) (by simp; omega) (fun a ha => hGa a (List.mem_of_mem_drop ha))
 have hlo : ¬ d.fx < 0 := by omega
 have hhi : d.fx ≤ (us.length : Int) := by omega
 have hmd : (tmPs us).drop d.fx.toNat = tmPs (us.drop d.fx.toNat) := by simp
 generalize matO W env qs (us.drop d.fx.toNat) = r at c4 ⊢
 refine PC.Run.drawP (pc := [7]) [0, 0, 0, 0, 0, 0, 0, 0, 0] [0, 0, 0, 0, 0, 0, 0, 0, 0] [0, 0, 2, 0, 0, 16, 56, 127, 255] [0, 1, 2, 3, 4, 5, 6, 7, 8] (by kernel_rfl) (by kernel_rfl) ?_
 refine PC.DR.go fun K J => ?_
 simp [hd13', hdcl, f0, hhi, hmd]
 refine J _ _ _ _ ?_; clear J
 refine PC.DR.pcall rfl rfl rfl (by simp) rfl rfl (fun g hg => c4 g ?_) ?_
 ·simp at hg
  (first | (rcases hg with rfl | rfl | rfl | rfl) | (rcases hg with rfl | rfl | rfl) | (rcases hg with rfl | rfl) | subst hg) <;> exact hh.app (by simp [hdu])
 refine PC.DR.go fun K J => ?_
 simp
 refine J _ _ _ _ ?_; clear J
 change Run _ _ _ _ _ _ _ _
 refine Run.ret ?_
 cases r <;> exact Fin.ret' (h0 := h) (by simp) rfl hh rfl (by simp; rfl) rfl (Weak.refl _) (by simp [Oc.av]) ⟨rfl, rfl⟩


open Go Go.AI
theorem matO_join (W : Tm → Tm × Int) (env : List Dc) (p : Pt) (ps : List Pt) (a : Tm) (l acc m : List Tm) (h : oneO W env p a = .mat m) : (matO W env (p :: ps) (a :: l)).join acc = (matO W env ps l).join (acc ++ m) := by
 simp only [matO, h]
 cases matO W env ps l <;> simp [Oc.join]
theorem matO_stop (W : Tm → Tm × Int) (env : List Dc) (p : Pt) (ps : List Pt) (a : Tm) (l acc : List Tm) {o : Oc} (h : oneO W env p a = o) (hn : ∀ m, o ≠ .mat m) : (matO W env (p :: ps) (a :: l)).join acc = o := by
 simp only [matO, h]
 cases o with
 | mat m => exact absurd rfl (hn m)
 | _ => rfl
theorem match_any (env : List Dc) (hf : EnvFine env) (hg : Env.good env) (W : Tm → Tm × Int) (G : Tm → Prop) (hW : WOk env W G) (N : Nat) : ∀ (ps : List Pt) (ts : List Tm), Pt.sizes ps ≤ N → Pt.sizes ps ≤ 1048576 → chkPs env ps = 0 → ps.length ≤ ts.length → (∀ a ∈ ts, G a) →
  ∀ h, WF h → ACalls Tryz.prog 71 [envA env, .p (.sl 3 (ptPs ps)), .p (.sl 5 (tmPs ts))] h fun o h' => o = .ret (matO W env ps ts).av ∧ h' = h := by
 have key : ∀ (ps : List Pt) (ts : List Tm), Pt.sizes ps ≤ 1048576 → ps.length ≤ ts.length → (∀ p ∈ ps, ∀ a ∈ ts, ∀ g, WF g → ACalls Tryz.prog 124 [envA env, p.av, a.av] g fun o h' => o = .ret (oneO W env p a).av ∧ h' = g) →
   ∀ h, WF h → ACalls Tryz.prog 71 [envA env, .p (.sl 3 (ptPs ps)), .p (.sl 5 (tmPs ts))] h fun o h' => o = .ret (matO W env ps ts).av ∧ h' = h := by
  intro ps ts hB hl ih h hh
  have hll := psz_len ps
  obtain ⟨r, hr⟩ : ∃ r, matO W env ps ts = r := ⟨_, rfl⟩
  rw [hr]
  refine ACalls.of_run Tryz.func71 rfl ?_
  simp only [Tryz.ntmps71, List.length_cons, List.length_nil]
  refine nv ?_
  refine Run.reg fun K J => ?_
  simp
  refine J _ _ _ (nv ?_); clear J
  refine Run.reg fun K J => ?_
  simp
  refine J _ _ _ (nv ?_); clear J
  refine Run.reg fun K J => ?_
  simp
  refine J _ _ _ (nv ?_); clear J
  refine Run.tok 7 5 (by simp) ?_
  simp
  refine Run.loopS (ι := Nat × List Tm) [0, 2, 12, 13] (fun p => p.1 ≤ ps.length ∧ p.2.length + Pt.sizes (ps.drop p.1) ≤ 1048576 ∧ r = (matO W env (ps.drop p.1) (ts.drop p.1)).join p.2) (fun p => ps.length - p.1) (fun p => [(7, .own h.length 5 (tmPs p.2)), (14, iA p.1)])
   (fun p => h ++ [some (.tok p.2.length 5)]) (0, []) (by simp [hB, hr]; cases r <;> simp [Oc.join]) ?_ (by simp) ?_
  ·simp [tmPs]
   repeat' first | exact wn | apply wc | exact wj _ | exact wr _ | exact wz _ | exact wo _ _ _ | exact wi (by omega)
  rintro ⟨j, acc⟩ ⟨hj, hsz, hrr⟩ IH
  simp only at hj hsz hrr
  simp
  refine nv ?_
  refine Run.reg fun K J => ?_
  simp
  refine J _ _ _ (nv ?_); clear J
  by_cases hjl : j < ps.length
  ·have hgj : ps[j]? = some ps[j] := List.getElem?_eq_getElem hjl
   have hga : ts[j]? = some (ts[j]'(by omega)) := List.getElem?_eq_getElem (by omega)
   have hmp := List.getElem_mem hjl
   have hma := List.getElem_mem (show j < ts.length by omega)
   rw [drop_of_get hgj] at hsz
   rw [drop_of_get hgj, drop_of_get hga] at hrr
   generalize ps[j] = p at hgj hmp hsz hrr
   generalize ts[j] = a at hga hma hrr
   have c1 := ih p hmp a hma
   have hlen := oneO_len W env p a
   have hjn := matO_join W env p (ps.drop (j + 1)) a (ts.drop (j + 1)) acc
   have hst := fun o ho => matO_stop W env p (ps.drop (j + 1)) a (ts.drop (j + 1)) acc (o := o) ho
   rw [← hrr] at hjn hst
   simp only [Pt.sizes] at hsz
   have hpp := p.size_pos
   obtain ⟨pk, pn, qs⟩ := p
   obtain ⟨k1, i1, n1, l1, s1⟩ := a
   simp only [Tm.av, Pt.av, pcells_mk, cells_mk, List.map] at c1
   generalize oneO W env (Pt.mk pk pn qs) (Tm.mk k1 i1 n1 l1 s1) = o at c1 hlen hjn hst
   refine ct (by simp [hjl]) (nv ?_)
   refine Run.reg fun K J => ?_
   simp [hgj, pcells_mk]
   refine J _ _ _ (nv ?_); clear J
   refine PC.Run.drawP (pc := [6]) [0, 0, 0, 0, 0, 0, 0] [0, 0, 0, 0, 0, 0, 0] [0, 0, 0, 0, 12, 28, 63] [0, 1, 2, 3, 4, 5, 6] (by kernel_rfl) (by kernel_rfl) ?_
   refine PC.DR.go fun K J => ?_
   simp [hga]
   refine J _ _ _ _ ?_; clear J
   refine PC.DR.pcall rfl rfl rfl (by simp) rfl rfl (fun g hg => (c1) g ?_) ?_
   ·simp at hg; (first | (rcases hg with rfl | rfl | rfl | rfl) | (rcases hg with rfl | rfl | rfl) | (rcases hg with rfl | rfl) | subst hg) <;> exact hh.app (by simp)
   refine PC.DR.go fun K J => ?_
   simp
   refine J _ _ _ _ ?_; clear J
   change Run _ _ _ _ _ _ _ _
   refine nv ?_
   refine Run.region ?_
   cases o with
   | mat m =>
    have hlen := hlen m rfl
    have hjn := hjn m rfl
    refine Run.assertHit rfl (by simp [awanted]) Tryz.underlying121 (by simp [Oc.av]; rfl) ?_
    simp
    refine Run.ops fun K J => ?_
    simp
    refine J _ _ _ (nv ?_); clear J
    refine ct (by simp) (nv ?_)
    refine Run.reg fun K J => ?_
    simp
    refine J _ _ _ (nv ?_); clear J
    have hb3 : (acc.length + m.length) * 80 ≤ 140737488355328 := by omega
    have hb4 : acc.length + m.length ≤ 9223372036854775807 := by omega
    refine Run.reg fun K J => ?_
    simp [hb3, hb4]
    refine J _ _ _ (nv ?_); clear J
    refine Run.keep [0, 2, 7, 12, 13, 14] ?_
    simp only [keepT, keepT.go, List.contains_cons]
    simp
    refine Run.cutAt 1 hh rfl (by omega) (by simp) (by simp) (by simp) rfl ?_
    simp
    refine Run.reg fun K J => ?_
    simp
    try (simp (disch := omega) only [wrap_id])
    refine J _ _ _ (nv ?_); clear J
    refine IH (j + 1, acc ++ m) _ _ ⟨by simp only; omega, by simp only [List.length_append]; have := hlen; omega, hjn⟩ (by simp only; omega) ?_ ?_
    ·have hta : tmPs acc ++ tmPs m = tmPs (acc ++ m) := by simp [tmPs_eq]
     rw [hta]
     simp
     repeat' first | exact wn | apply wc | exact wj _ | exact wr _ | exact wz _ | exact wo _ _ _ | exact wi (by omega)
    ·simp
   | stuck =>
    rw [hst _ rfl (by simp)]
    refine Run.assertMiss (t0 := 123) (y := .agg []) (z := [.slice none 0 0]) rfl (by simp [awanted]) Tryz.underlying121 (by simp [Oc.av]) (by decide) Tryz.zeroValue121 rfl ?_
    simp
    refine Run.ops fun K J => ?_
    simp
    refine J _ _ _ (nv ?_); clear J
    refine cf (by simp) (nv ?_)
    refine Run.reg fun K J => ?_
    simp
    refine J _ _ _ (nv ?_); clear J
    refine Run.reg fun K J => ?_
    simp
    refine J _ _ _ (nv ?_); clear J
    refine Run.ret ?_
    exact Fin.ret' (h0 := h) (by simp) rfl hh rfl (by simp; rfl) rfl (Weak.refl _) (by simp [Oc.av]) ⟨rfl, rfl⟩
   | given e =>
    rw [hst _ rfl (by simp)]
    refine Run.assertMiss (t0 := 125) (y := .agg [iA e]) (z := [.slice none 0 0]) rfl (by simp [awanted]) Tryz.underlying121 (by simp [Oc.av]) (by decide) Tryz.zeroValue121 rfl ?_
    simp
    refine Run.ops fun K J => ?_
    simp
    refine J _ _ _ (nv ?_); clear J
    refine cf (by simp) (nv ?_)
    refine Run.reg fun K J => ?_
    simp
    refine J _ _ _ (nv ?_); clear J
    refine Run.reg fun K J => ?_
    simp
    refine J _ _ _ (nv ?_); clear J
    refine Run.ret ?_
    exact Fin.ret' (h0 := h) (by simp) rfl hh rfl (by simp; rfl) rfl (Weak.refl _) (by simp [Oc.av]) ⟨rfl, rfl⟩
   | failed =>
    rw [hst _ rfl (by simp)]
    refine Run.assertMiss (t0 := 234) (y := .agg []) (z := [.slice none 0 0]) rfl (by simp [awanted]) Tryz.underlying121 (by simp [Oc.av]) (by decide) Tryz.zeroValue121 rfl ?_
    simp
    refine Run.ops fun K J => ?_
    simp
    refine J _ _ _ (nv ?_); clear J
    refine cf (by simp) (nv ?_)
    refine Run.reg fun K J => ?_
    simp
    refine J _ _ _ (nv ?_); clear J
    refine Run.reg fun K J => ?_
    simp
    refine J _ _ _ (nv ?_); clear J
    refine Run.ret ?_
    exact Fin.ret' (h0 := h) (by simp) rfl hh rfl (by simp; rfl) rfl (Weak.refl _) (by simp [Oc.av]) ⟨rfl, rfl⟩
  ·have hje : j = ps.length := by omega
   subst hje
   rw [List.drop_length, matO] at hrr
   simp only [Oc.join, List.append_nil] at hrr
   subst hrr
   refine cf (by simp) ?_
   refine Run.exit rfl ?_
   refine nv ?_
   refine Run.reg fun K J => ?_
   simp
   refine J _ _ _ (nv ?_); clear J
   refine Run.ret ?_
   exact Fin.ret' (h0 := h) (xs := [.ifc 121 (.agg [.own h.length 5 (tmPs acc)])]) (y := (Oc.mat acc).av) (by simp) rfl hh rfl (by simp) rfl (Weak.ifc (Weak.agg (WeakL.cons (Weak.own _ _ _) WeakL.nil))) (by simp [Oc.av]) ⟨rfl, rfl⟩
 induction N with
 | zero =>
  intro ps ts hl hB hc hlt hG
  cases ps with
  | nil => exact key [] ts hB hlt (by simp)
  | cons p l => have := p.size_pos; simp only [Pt.sizes] at hl; omega
 | succ N ih =>
  intro ps ts hl hB hc hlt hG
  refine key ps ts hB hlt fun p hp a ha g hw => ?_
  have h2 := Pt.size_at hp
  have hcp := chkPs_mem hc p hp
  obtain ⟨pk, pn, qs⟩ := p
  simp only [Pt.size] at h2
  refine one_any env hf hg W G hW pk pn qs a (hG a ha) hcp (fun us hu hus g2 hw2 => ?_) g hw
  by_cases k1 : pk = 1
  ·subst k1
   exact ih qs us (by omega) (by omega) (chkP_ctor hcp).2.2 hu hus g2 hw2
  ·have hq : qs = [] := by
    by_cases c : pk = 0 ∨ pk = 2 ∨ pk = 3
    ·rw [chkP, if_pos c] at hcp
     by_cases c2 : pn = [] ∧ qs = []
     ·exact c2.2
     ·rw [if_neg c2] at hcp; exact absurd hcp (by decide)
    ·rw [chkP_bad (by omega) k1 (by omega) (by omega)] at hcp; exact absurd hcp (by decide)
   subst hq
   exact ih [] us (by simp [Pt.sizes]) (by simp [Pt.sizes]) (by simp [chkPs]) hu hus g2 hw2

end Go.Proofs.YtcfcolkbeelegaaGreat
