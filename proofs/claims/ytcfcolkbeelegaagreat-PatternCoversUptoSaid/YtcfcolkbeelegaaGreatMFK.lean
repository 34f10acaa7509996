/-
  strings.Join of this program is the one of the kit's shelf.
-/
import Derived.Test.YtcfcolkbeelegaaGreatMPS
import Derived.Test.YtcfcolkbeelegaaGreatMH8
import Derived.Test.YtcfcolkbeelegaaGreatProg
import Derived.Shelf.Lays
import Derived.Shelf.Strings.BuilderX
import Derived.KernelRfl

namespace Go.Proofs.YtcfcolkbeelegaaGreat

open Go Go.AI
theorem matO_join (W : Tm → Tm × Int) (env : List Dc) (p : Pt) (ps : List Pt) (a : Tm) (l acc m : List Tm) (h : oneO W env p a = .mat m) : (matO W env (p :: ps) (a :: l)).join acc = (matO W env ps l).join (acc ++ m) := by
 simp only [matO, h]
 cases matO W env ps l <;> simp [Oc.join]
theorem matO_stop (W : Tm → Tm × Int) (env : List Dc) (p : Pt) (ps : List Pt) (a : Tm) (l acc : List Tm) {o : Oc} (h : oneO W env p a = o) (hn : ∀ m, o ≠ .mat m) : (matO W env (p :: ps) (a :: l)).join acc = o := by
 simp only [matO, h]
 cases o with
 | mat m => exact absurd rfl (hn m)
 | _ => rfl
set_option maxRecDepth 8000 in
set_option maxHeartbeats 16000000 in
theorem match_any (env : List Dc) (hf : EnvFine env) (hg : Env.good env) (W : Tm → Tm × Int) (G : Tm → Prop) (hW : WOk env W G) (N : Nat) : ∀ (ps : List Pt) (ts : List Tm), Pt.sizes ps ≤ N → Pt.sizes ps ≤ 1048576 → chkPs env ps = 0 → ps.length ≤ ts.length → (∀ a ∈ ts, G a) →
  ∀ h, WF h → ACalls Tryz.prog 71 [envA env, .p (.sl 3 (ptPs ps)), .p (.sl 5 (tmPs ts))] h fun o h' => o = .ret (matO W env ps ts).av ∧ h' = h := by
 have key : ∀ (ps : List Pt) (ts : List Tm), Pt.sizes ps ≤ 1048576 → ps.length ≤ ts.length → (∀ p ∈ ps, ∀ a ∈ ts, ∀ g, WF g → ACalls Tryz.prog 124 [envA env, p.av, a.av] g fun o h' => o = .ret (oneO W env p a).av ∧ h' = g) →
   ∀ h, WF h → ACalls Tryz.prog 71 [envA env, .p (.sl 3 (ptPs ps)), .p (.sl 5 (tmPs ts))] h fun o h' => o = .ret (matO W env ps ts).av ∧ h' = h := by
  intro ps ts hB hl ih h hh
  have hll := psz_len ps
  obtain ⟨r, hr⟩ : ∃ r, matO W env ps ts = r := ⟨_, rfl⟩
  rw [hr]
  refine ACalls.of_run Tryz.func71 rfl ?_
  simp only [Tryz.ntmps71, List.length_cons, List.length_nil]
  refine nv ?_
  refine Run.reg fun K hK => ?_
  simp
  try (simp (disch := omega) only [wrap_id])
  refine hK _ _ _ (nv ?_); clear hK K
  refine Run.reg fun K hK => ?_
  simp
  try (simp (disch := omega) only [wrap_id])
  refine hK _ _ _ (nv ?_); clear hK K
  refine Run.reg fun K hK => ?_
  simp
  try (simp (disch := omega) only [wrap_id])
  refine hK _ _ _ (nv ?_); clear hK K
  refine Run.tok 7 5 (by simp) ?_
  simp
  refine Run.loopS (ι := Nat × List Tm) [0, 2, 12, 13] (fun p => p.1 ≤ ps.length ∧ p.2.length + Pt.sizes (ps.drop p.1) ≤ 1048576 ∧ r = (matO W env (ps.drop p.1) (ts.drop p.1)).join p.2) (fun p => ps.length - p.1) (fun p => [(7, .own h.length 5 (tmPs p.2)), (14, iA p.1)])
   (fun p => h ++ [some (.tok p.2.length 5)]) (0, []) (by simp [hB, hr]; cases r <;> simp [Oc.join]) ?_ (by simp) ?_
  ·simp [tmPs]
   repeat' (first | exact WeakL.nil | apply WeakL.cons)
   all_goals first | exact Weak.junk _ | exact Weak.refl _ | exact Weak.nil _ | exact Weak.own _ _ _ | exact Weak.int (by omega)
  rintro ⟨j, acc⟩ ⟨hj, hsz, hrr⟩ IH
  simp only at hj hsz hrr
  simp
  refine nv ?_
  refine Run.reg fun K hK => ?_
  simp
  try (simp (disch := omega) only [wrap_id])
  refine hK _ _ _ (nv ?_); clear hK K
  by_cases hjl : j < ps.length
  ·have hgj : ps[j]? = some ps[j] := List.getElem?_eq_getElem hjl
   have hga : ts[j]? = some (ts[j]'(by omega)) := List.getElem?_eq_getElem (by omega)
   have hmp := List.getElem_mem hjl
   have hma := List.getElem_mem (show j < ts.length by omega)
   rw [drop_of_get hgj] at hsz
   rw [drop_of_get hgj, drop_of_get hga] at hrr
   generalize ps[j] = p at hgj hmp hsz hrr
   generalize ts[j] = a at hga hma hrr
   have c1 := ih p hmp a hma
   have hlen := oneO_len W env p a
   have hjn := matO_join W env p (ps.drop (j + 1)) a (ts.drop (j + 1)) acc
   have hst := fun o ho => matO_stop W env p (ps.drop (j + 1)) a (ts.drop (j + 1)) acc (o := o) ho
   rw [← hrr] at hjn hst
   simp only [Pt.sizes] at hsz
   have hpp := p.size_pos
   obtain ⟨pk, pn, qs⟩ := p
   obtain ⟨k1, i1, n1, l1, s1⟩ := a
   simp only [Tm.av, Pt.av, pcells_mk, cells_mk, List.map] at c1
   generalize oneO W env (Pt.mk pk pn qs) (Tm.mk k1 i1 n1 l1 s1) = o at c1 hlen hjn hst
   refine nv ?_
   refine ct (by simp [hjl]) (nv ?_)
   refine Run.reg fun K hK => ?_
   simp [hgj, pcells_mk]
   try (simp (disch := omega) only [wrap_id])
   refine hK _ _ _ (nv ?_); clear hK K
   refine PC.Run.drawP (pc := [6]) [0, 0, 0, 0, 0, 0, 0] [0, 0, 0, 0, 0, 0, 0] [0, 0, 0, 0, 12, 28, 63] [0, 1, 2, 3, 4, 5, 6] (by kernel_rfl) (by kernel_rfl) ?_
   refine PC.DR.go fun K hK => ?_
   simp [hga]
   try (simp (disch := omega) only [wrap_id])
   refine hK _ _ _ _ ?_; clear hK K
   refine PC.DR.pcall rfl rfl rfl (by simp) rfl rfl (fun g hg => (c1) g ?_) ?_
   ·simp at hg; (first | (rcases hg with rfl | rfl | rfl | rfl) | (rcases hg with rfl | rfl | rfl) | (rcases hg with rfl | rfl) | subst hg) <;> exact hh.app (by simp)
   refine PC.DR.go fun K hK => ?_
   simp
   try (simp (disch := omega) only [wrap_id])
   refine hK _ _ _ _ ?_; clear hK K
   change Run _ _ _ _ _ _ _ _
   refine nv ?_
   refine Run.region ?_
   cases o with
   | mat m =>
    have hlen := hlen m rfl
    have hjn := hjn m rfl
    refine Run.assertHit rfl (by simp [awanted]) Tryz.underlying121 (by simp [Oc.av]; rfl) ?_
    simp
    refine Run.ops fun K hK => ?_
    simp
    try (simp (disch := omega) only [wrap_id])
    refine hK _ _ _ (nv ?_); clear hK K
    refine ct (by simp) (nv ?_)
    refine Run.reg fun K hK => ?_
    simp
    try (simp (disch := omega) only [wrap_id])
    refine hK _ _ _ (nv ?_); clear hK K
    have hb3 : (acc.length + m.length) * 80 ≤ 140737488355328 := by omega
    have hb4 : acc.length + m.length ≤ 9223372036854775807 := by omega
    refine nv ?_
    refine Run.reg fun K hK => ?_
    simp [hb3, hb4]
    try (simp (disch := omega) only [wrap_id])
    refine hK _ _ _ (nv ?_); clear hK K
    refine Run.keep [0, 2, 7, 12, 13, 14] ?_
    simp only [keepT, keepT.go, List.contains_cons]
    simp
    refine Run.cutAt 1 hh rfl (by omega) (by simp) (by simp) (by simp) rfl ?_
    simp
    refine nv ?_
    refine Run.reg fun K hK => ?_
    simp
    try (simp (disch := omega) only [wrap_id])
    refine hK _ _ _ (nv ?_); clear hK K
    refine IH (j + 1, acc ++ m) _ _ ⟨by simp only; omega, by simp only [List.length_append]; have := hlen; omega, hjn⟩ (by simp only; omega) ?_ ?_
    ·have hta : tmPs acc ++ tmPs m = tmPs (acc ++ m) := by simp [tmPs_eq]
     rw [hta]
     simp
     repeat' (first | exact WeakL.nil | apply WeakL.cons)
     all_goals first | exact Weak.junk _ | exact Weak.refl _ | exact Weak.nil _ | exact Weak.own _ _ _ | exact Weak.int (by omega)
    ·simp
   | stuck =>
    rw [hst _ rfl (by simp)]
    refine Run.assertMiss (t0 := 123) (y := .agg []) (z := [.slice none 0 0]) rfl (by simp [awanted]) Tryz.underlying121 (by simp [Oc.av]) (by decide) Tryz.zeroValue121 rfl ?_
    simp
    refine Run.ops fun K hK => ?_
    simp
    try (simp (disch := omega) only [wrap_id])
    refine hK _ _ _ (nv ?_); clear hK K
    refine cf (by simp) (nv ?_)
    refine Run.reg fun K hK => ?_
    simp
    try (simp (disch := omega) only [wrap_id])
    refine hK _ _ _ (nv ?_); clear hK K
    refine Run.reg fun K hK => ?_
    simp
    try (simp (disch := omega) only [wrap_id])
    refine hK _ _ _ (nv ?_); clear hK K
    refine Run.ret ?_
    exact Fin.ret' (h0 := h) (by simp) rfl hh rfl (by simp; rfl) rfl (Weak.refl _) (by simp [Oc.av]) ⟨rfl, rfl⟩
   | given e =>
    rw [hst _ rfl (by simp)]
    refine Run.assertMiss (t0 := 125) (y := .agg [iA e]) (z := [.slice none 0 0]) rfl (by simp [awanted]) Tryz.underlying121 (by simp [Oc.av]) (by decide) Tryz.zeroValue121 rfl ?_
    simp
    refine Run.ops fun K hK => ?_
    simp
    try (simp (disch := omega) only [wrap_id])
    refine hK _ _ _ (nv ?_); clear hK K
    refine cf (by simp) (nv ?_)
    refine Run.reg fun K hK => ?_
    simp
    try (simp (disch := omega) only [wrap_id])
    refine hK _ _ _ (nv ?_); clear hK K
    refine Run.reg fun K hK => ?_
    simp
    try (simp (disch := omega) only [wrap_id])
    refine hK _ _ _ (nv ?_); clear hK K
    refine Run.ret ?_
    exact Fin.ret' (h0 := h) (by simp) rfl hh rfl (by simp; rfl) rfl (Weak.refl _) (by simp [Oc.av]) ⟨rfl, rfl⟩
   | failed =>
    rw [hst _ rfl (by simp)]
    refine Run.assertMiss (t0 := 234) (y := .agg []) (z := [.slice none 0 0]) rfl (by simp [awanted]) Tryz.underlying121 (by simp [Oc.av]) (by decide) Tryz.zeroValue121 rfl ?_
    simp
    refine Run.ops fun K hK => ?_
    simp
    try (simp (disch := omega) only [wrap_id])
    refine hK _ _ _ (nv ?_); clear hK K
    refine cf (by simp) (nv ?_)
    refine Run.reg fun K hK => ?_
    simp
    try (simp (disch := omega) only [wrap_id])
    refine hK _ _ _ (nv ?_); clear hK K
    refine Run.reg fun K hK => ?_
    simp
    try (simp (disch := omega) only [wrap_id])
    refine hK _ _ _ (nv ?_); clear hK K
    refine Run.ret ?_
    exact Fin.ret' (h0 := h) (by simp) rfl hh rfl (by simp; rfl) rfl (Weak.refl _) (by simp [Oc.av]) ⟨rfl, rfl⟩
  ·have hje : j = ps.length := by omega
   subst hje
   rw [List.drop_length, matO] at hrr
   simp only [Oc.join, List.append_nil] at hrr
   subst hrr
   refine nv ?_
   refine cf (by simp) (nv ?_)
   refine Run.exit rfl ?_
   refine nv ?_
   refine Run.reg fun K hK => ?_
   simp
   try (simp (disch := omega) only [wrap_id])
   refine hK _ _ _ (nv ?_); clear hK K
   refine Run.ret ?_
   exact Fin.ret' (h0 := h) (xs := [.ifc 121 (.agg [.own h.length 5 (tmPs acc)])]) (y := (Oc.mat acc).av) (by simp) rfl hh rfl (by simp) rfl (Weak.ifc (Weak.agg (WeakL.cons (Weak.own _ _ _) WeakL.nil))) (by simp [Oc.av]) ⟨rfl, rfl⟩
 induction N with
 | zero =>
  intro ps ts hl hB hc hlt hG
  cases ps with
  | nil => exact key [] ts hB hlt (by simp)
  | cons p l => have := p.size_pos; simp only [Pt.sizes] at hl; omega
 | succ N ih =>
  intro ps ts hl hB hc hlt hG
  refine key ps ts hB hlt fun p hp a ha g hw => ?_
  have h2 := Pt.size_at hp
  have hcp := chkPs_mem hc p hp
  obtain ⟨pk, pn, qs⟩ := p
  simp only [Pt.size] at h2
  refine one_any env hf hg W G hW pk pn qs a (hG a ha) hcp (fun us hu hus g2 hw2 => ?_) g hw
  by_cases k1 : pk = 1
  ·subst k1
   exact ih qs us (by omega) (by omega) (chkP_ctor hcp).2.2 hu hus g2 hw2
  ·have hq : qs = [] := by
    by_cases c : pk = 0 ∨ pk = 2 ∨ pk = 3
    ·rw [chkP, if_pos c] at hcp
     by_cases c2 : pn = [] ∧ qs = []
     ·exact c2.2
     ·rw [if_neg c2] at hcp; exact absurd hcp (by decide)
    ·rw [chkP_bad (by omega) k1 (by omega) (by omega)] at hcp; exact absurd hcp (by decide)
   subst hq
   exact ih [] us (by simp [Pt.sizes]) (by simp [Pt.sizes]) (by simp [chkPs]) hu hus g2 hw2

end Go.Proofs.YtcfcolkbeelegaaGreat

namespace Go.Proofs.YtcfcolkbeelegaaGreat

open Go Go.AI
def matchR (W : Tm → Tm × Int) (env : List Dc) (ts : List Tm) : Nat → List Cl → Int × List Tm × Int
 | _, [] => (0, [], 9)
 | i, c :: cs => match matO W env c.ps ts with
  | .mat l => (i, l, 0)
  | .stuck => (0, [], 19)
  | .given e => (0, [], e)
  | .failed => matchR W env ts (i + 1) cs
def matchM (W : Tm → Tm × Int) (env : List Dc) (cls : List Cl) (ts : List Tm) : Int × List Tm × Int :=
 if allTo (clOk env ts.length cls) cls.length = false then (0, [], 6) else matchR W env ts 0 cls
def mtA (r : Int × List Tm × Int) : AV := .tup [iA r.1, .p (.sl 5 (tmPs r.2.1)), iA r.2.2]
theorem matchR_drop {W : Tm → Tm × Int} {env : List Dc} {ts : List Tm} {cls : List Cl} {j : Nat} {r} (h : r = matchR W env ts j (cls.drop j)) {c : Cl} (hg : cls[j]? = some c) :
  r = match matO W env c.ps ts with
  | .mat l => ((j : Int), l, 0)
  | .stuck => (0, [], 19)
  | .given e => (0, [], e)
  | .failed => matchR W env ts (j + 1) (cls.drop (j + 1)) := by rw [h, drop_of_get hg, matchR]
theorem mt_nil (a e : Int) : Weak (.tup [iA a, .p (.prim (.slice none 0 0)), iA e]) (mtA (a, [], e)) := Weak.tup (WeakL.cons (Weak.refl _) (WeakL.cons (Weak.nil 5) (WeakL.refl _)))
theorem ze123 : zeroT Tryz.prog 123 = some [] := by kernel_rfl
set_option maxRecDepth 8000 in
set_option maxHeartbeats 16000000 in
theorem pmatch_any (env : List Dc) (hf : EnvFine env) (hg : Env.good env) (W : Tm → Tm × Int) (G : Tm → Prop) (hW : WOk env W G) (cls : List Cl) (ts : List Tm) (hs : PSmall cls []) (hG : ∀ a ∈ ts, G a) (_hts : ts.length ≤ 1048576) (h : Heap) (hh : WF h) :
  ACalls Tryz.prog 22 [envA env, .p (.sl 6 (clPs cls)), .p (.sl 5 (tmPs ts))] h fun o h' => o = .ret (mtA (matchM W env cls ts)) ∧ h' = h := by
 have hcl := hs.cl
 obtain ⟨r, hr⟩ : ∃ r, matchM W env cls ts = r := ⟨_, rfl⟩
 rw [hr]
 unfold matchM at hr
 refine ACalls.of_run Tryz.func22 rfl ?_
 simp only [Tryz.ntmps22, List.length_cons, List.length_nil]
 refine nv ?_
 refine Run.reg fun K hK => ?_
 simp
 try (simp (disch := omega) only [wrap_id])
 refine hK _ _ _ (nv ?_); clear hK K
 refine Run.reg fun K hK => ?_
 simp
 try (simp (disch := omega) only [wrap_id])
 refine hK _ _ _ (nv ?_); clear hK K
 refine Run.loopS [0, 1, 2, 16, 17] (fun j : Nat => j ≤ cls.length ∧ allTo (clOk env ts.length cls) j = true) (fun j => cls.length - j) (fun j => [(18, iA j)]) (fun _ => h) 0 (by simp [allTo]) ?_ rfl ?_
 ·simp
  repeat' (first | exact WeakL.nil | apply WeakL.cons)
  all_goals first | exact Weak.junk _ | exact Weak.refl _ | exact Weak.nil _ | exact Weak.own _ _ _ | exact Weak.int (by omega)
 rintro j ⟨hj, hall⟩ IH
 simp
 refine nv ?_
 refine Run.reg fun K hK => ?_
 simp
 try (simp (disch := omega) only [wrap_id])
 refine hK _ _ _ (nv ?_); clear hK K
 by_cases hjl : j < cls.length
 ·have hgj : cls[j]? = some cls[j] := List.getElem?_eq_getElem hjl
  have hmem := List.getElem_mem hjl
  generalize cls[j] = c at hgj hmem
  have hcz := hs.cs c hmem
  have hcln := psz_len c.ps
  have c1 := fun (g : Heap) (hw : WF g) => pcheck_any env hg hf.1 _ c.ps (Nat.le_refl _) hcz g hw
  have hok := clOk_at (env := env) (n := ts.length) hgj
  unfold clBad at hok
  generalize chkPs env c.ps = e at c1 hok
  obtain ⟨ps, ⟨k, i, nm, ls, ks⟩⟩ := c
  simp only at c1 hcz hcln hok
  refine nv ?_
  refine ct (by simp [hjl]) (nv ?_)
  refine Run.reg fun K hK => ?_
  simp [hgj, Cl.cells]
  try (simp (disch := omega) only [wrap_id])
  refine hK _ _ _ (nv ?_); clear hK K
  by_cases hle : ps.length = ts.length
  ·refine nv ?_
   refine Run.reg fun K hK => ?_
   simp [hle]
   try (simp (disch := omega) only [wrap_id])
   refine hK _ _ _ (nv ?_); clear hK K
   refine rc rfl (by first | rfl | simp) (by simp) rfl (c1 _ (hh.app (by simp))) ?_
   by_cases he : e = 0
   ·subst he
    refine Run.ops fun K hK => ?_
    simp
    try (simp (disch := omega) only [wrap_id])
    refine hK _ _ _ (nv ?_); clear hK K
    refine cf (by simp) (nv ?_)
    refine Run.reg fun K hK => ?_
    simp
    try (simp (disch := omega) only [wrap_id])
    refine hK _ _ _ (nv ?_); clear hK K
    refine Run.keep [0, 1, 2, 16, 17, 18] ?_
    simp only [keepT, keepT.go, List.contains_cons]
    simp
    refine Run.cutAt 0 hh rfl (by omega) (by simp) (by simp) (by simp) rfl ?_
    simp
    refine IH (j + 1) _ _ ⟨by omega, by rw [allTo_succ, hall, hok]; simp [hle]⟩ (by omega) ?_ (by simp)
    simp
    repeat' (first | exact WeakL.nil | apply WeakL.cons)
    all_goals first | exact Weak.junk _ | exact Weak.refl _ | exact Weak.nil _ | exact Weak.own _ _ _ | exact Weak.int (by omega)
   ·have hf := allTo_false hjl (p := clOk env ts.length cls) (by rw [hok]; simp [he])
    rw [if_pos hf] at hr
    subst hr
    have heb : (e != (0 : Int)) = true := by simpa using he
    refine Run.ops fun K hK => ?_
    simp [heb]
    try (simp (disch := omega) only [wrap_id])
    refine hK _ _ _ (nv ?_); clear hK K
    refine ct (by simp) (nv ?_)
    refine Run.reg fun K hK => ?_
    simp
    try (simp (disch := omega) only [wrap_id])
    refine hK _ _ _ (nv ?_); clear hK K
    refine Run.ret ?_
    exact Fin.ret' (h0 := h) (xs := [iA 0, .p (.prim (.slice none 0 0)), iA 6]) (by simp) rfl hh rfl (by simp) rfl (mt_nil 0 6) (by simp [mtA]) ⟨rfl, rfl⟩
  ·have hlb : ((ps.length : Int) != (ts.length : Int)) = true := by simp; omega
   have hf := allTo_false hjl (p := clOk env ts.length cls) (by rw [hok]; simp [hle])
   rw [if_pos hf] at hr
   subst hr
   refine nv ?_
   refine Run.reg fun K hK => ?_
   simp [hlb]
   try (simp (disch := omega) only [wrap_id])
   refine hK _ _ _ (nv ?_); clear hK K
   refine ct (by simp) (nv ?_)
   refine Run.reg fun K hK => ?_
   simp
   try (simp (disch := omega) only [wrap_id])
   refine hK _ _ _ (nv ?_); clear hK K
   refine Run.ret ?_
   exact Fin.ret' (h0 := h) (xs := [iA 0, .p (.prim (.slice none 0 0)), iA 6]) (by simp) rfl hh rfl (by simp) rfl (mt_nil 0 6) (by simp [mtA]) ⟨rfl, rfl⟩
 have hje : j = cls.length := by omega
 subst hje
 rw [if_neg (by rw [hall]; simp)] at hr
 refine nv ?_
 refine cf (by simp) (nv ?_)
 refine Run.exit rfl ?_
 refine nv ?_
 refine Run.reg fun K hK => ?_
 simp
 try (simp (disch := omega) only [wrap_id])
 refine hK _ _ _ (nv ?_); clear hK K
 refine Run.loopS [0, 2, 36, 37] (fun j : Nat => j ≤ cls.length ∧ r = matchR W env ts j (cls.drop j)) (fun j => cls.length - j) (fun j => [(38, iA j)]) (fun _ => h) 0 (by simp [hr]) ?_ rfl ?_
 ·simp
  repeat' (first | exact WeakL.nil | apply WeakL.cons)
  all_goals first | exact Weak.junk _ | exact Weak.refl _ | exact Weak.nil _ | exact Weak.own _ _ _ | exact Weak.int (by omega)
 rintro j ⟨hj, hrr⟩ IH2
 simp
 refine nv ?_
 refine Run.reg fun K hK => ?_
 simp
 try (simp (disch := omega) only [wrap_id])
 refine hK _ _ _ (nv ?_); clear hK K
 by_cases hjl : j < cls.length
 ·have hgj : cls[j]? = some cls[j] := List.getElem?_eq_getElem hjl
  have hmem := List.getElem_mem hjl
  have hokj := allTo_at hall hjl
  rw [clOk_at hgj] at hokj
  generalize cls[j] = c at hgj hmem hokj
  simp [clBad] at hokj
  have hcz := hs.cs c hmem
  have c1 := match_any env hf hg W G hW _ c.ps ts (Nat.le_refl _) hcz hokj.2 (by omega) hG
  have hrr := matchR_drop hrr hgj
  obtain ⟨ps, ⟨k, i, nm, ls, ks⟩⟩ := c
  simp only at c1 hrr
  generalize matO W env ps ts = o at c1 hrr
  refine nv ?_
  refine ct (by simp [hjl]) (nv ?_)
  refine Run.reg fun K hK => ?_
  simp [hgj, Cl.cells]
  try (simp (disch := omega) only [wrap_id])
  refine hK _ _ _ (nv ?_); clear hK K
  refine Run.reg fun K hK => ?_
  simp
  try (simp (disch := omega) only [wrap_id])
  refine hK _ _ _ (nv ?_); clear hK K
  refine rc rfl (by first | rfl | simp) (by simp) rfl (c1 _ (hh.app (by simp))) ?_
  refine Run.ops fun K hK => ?_
  simp
  try (simp (disch := omega) only [wrap_id])
  refine hK _ _ _ (nv ?_); clear hK K
  refine Run.region ?_
  cases o with
  | mat m =>
   simp only at hrr
   subst hrr
   refine Run.assertHit rfl (by simp [awanted]) Tryz.underlying121 (by simp [Oc.av]; rfl) ?_
   simp
   refine Run.ops fun K hK => ?_
   simp
   try (simp (disch := omega) only [wrap_id])
   refine hK _ _ _ (nv ?_); clear hK K
   refine ct (by simp) (nv ?_)
   refine Run.reg fun K hK => ?_
   simp
   try (simp (disch := omega) only [wrap_id])
   refine hK _ _ _ (nv ?_); clear hK K
   refine Run.draw [0, 0, 0, 0, 0, 0] [0, 0, 0, 0, 0, 0] [0, 0, 2, 1, 15, 31] [0, 1, 2, 3, 4, 5] (by kernel_rfl) (by kernel_rfl) ?_
   refine DR.go fun K hK => ?_
   simp
   try (simp (disch := omega) only [wrap_id])
   refine hK _ _ _ _ ?_; clear hK K
   change Run _ _ _ _ _ _ _ _
   refine nv ?_
   refine Run.ret ?_
   exact Fin.ret' (h0 := h) (by simp) rfl hh rfl (by simp; rfl) rfl (Weak.refl _) (by simp) ⟨rfl, rfl⟩
  | stuck =>
   simp only at hrr
   subst hrr
   refine Run.assertMiss (t0 := 123) (y := .agg []) (z := [.slice none 0 0]) rfl (by simp [awanted]) Tryz.underlying121 (by simp [Oc.av]) (by decide) Tryz.zeroValue121 rfl ?_
   simp
   refine Run.ops fun K hK => ?_
   simp
   try (simp (disch := omega) only [wrap_id])
   refine hK _ _ _ (nv ?_); clear hK K
   refine cf (by simp) (nv ?_)
   refine Run.region ?_
   refine Run.assertHit rfl (by simp [awanted]) Tryz.underlying123 (by simp [Oc.av]; rfl) ?_
   simp
   refine Run.ops fun K hK => ?_
   simp
   try (simp (disch := omega) only [wrap_id])
   refine hK _ _ _ (nv ?_); clear hK K
   refine ct (by simp) (nv ?_)
   refine Run.reg fun K hK => ?_
   simp [ze123, patch]
   try (simp (disch := omega) only [wrap_id])
   refine hK _ _ _ (nv ?_); clear hK K
   refine Run.reg fun K hK => ?_
   simp
   try (simp (disch := omega) only [wrap_id])
   refine hK _ _ _ (nv ?_); clear hK K
   refine Run.ret ?_
   exact Fin.ret' (h0 := h) (xs := [iA 0, .p (.prim (.slice none 0 0)), iA 19]) (by simp) rfl hh rfl (by simp) rfl (mt_nil 0 19) (by simp [mtA]) ⟨rfl, rfl⟩
  | given e =>
   simp only at hrr
   subst hrr
   refine Run.assertMiss (t0 := 125) (y := .agg [iA e]) (z := [.slice none 0 0]) rfl (by simp [awanted]) Tryz.underlying121 (by simp [Oc.av]) (by decide) Tryz.zeroValue121 rfl ?_
   simp
   refine Run.ops fun K hK => ?_
   simp
   try (simp (disch := omega) only [wrap_id])
   refine hK _ _ _ (nv ?_); clear hK K
   refine cf (by simp) (nv ?_)
   refine Run.region ?_
   refine Run.assertMiss (t0 := 125) (y := .agg [iA e]) (z := []) rfl (by simp [awanted]) Tryz.underlying123 (by simp [Oc.av]) (by decide) Tryz.zeroValue123 rfl ?_
   simp
   refine Run.ops fun K hK => ?_
   simp
   try (simp (disch := omega) only [wrap_id])
   refine hK _ _ _ (nv ?_); clear hK K
   refine cf (by simp) (nv ?_)
   refine Run.region ?_
   refine Run.assertHit rfl (by simp [awanted]) Tryz.underlying125 (by simp [Oc.av]; rfl) ?_
   simp
   refine Run.ops fun K hK => ?_
   simp
   try (simp (disch := omega) only [wrap_id])
   refine hK _ _ _ (nv ?_); clear hK K
   refine ct (by simp) (nv ?_)
   refine Run.reg fun K hK => ?_
   simp
   try (simp (disch := omega) only [wrap_id])
   refine hK _ _ _ (nv ?_); clear hK K
   refine Run.draw [0, 0, 0, 0, 0] [0, 0, 0, 0, 0] [0, 1, 0, 4, 15] [0, 1, 2, 3, 4] (by kernel_rfl) (by kernel_rfl) ?_
   refine DR.go fun K hK => ?_
   simp
   try (simp (disch := omega) only [wrap_id])
   refine hK _ _ _ _ ?_; clear hK K
   change Run _ _ _ _ _ _ _ _
   refine nv ?_
   refine Run.ret ?_
   exact Fin.ret' (h0 := h) (xs := [iA 0, .p (.prim (.slice none 0 0)), iA e]) (by simp) rfl hh rfl (by simp) rfl (mt_nil 0 e) (by simp [mtA]) ⟨rfl, rfl⟩
  | failed =>
   simp only at hrr
   refine Run.assertMiss (t0 := 234) (y := .agg []) (z := [.slice none 0 0]) rfl (by simp [awanted]) Tryz.underlying121 (by simp [Oc.av]) (by decide) Tryz.zeroValue121 rfl ?_
   simp
   refine Run.ops fun K hK => ?_
   simp
   try (simp (disch := omega) only [wrap_id])
   refine hK _ _ _ (nv ?_); clear hK K
   refine cf (by simp) (nv ?_)
   refine Run.region ?_
   refine Run.assertMiss (t0 := 234) (y := .agg []) (z := []) rfl (by simp [awanted]) Tryz.underlying123 (by simp [Oc.av]) (by decide) Tryz.zeroValue123 rfl ?_
   simp
   refine Run.ops fun K hK => ?_
   simp
   try (simp (disch := omega) only [wrap_id])
   refine hK _ _ _ (nv ?_); clear hK K
   refine cf (by simp) (nv ?_)
   refine Run.region ?_
   refine Run.assertMiss (t0 := 234) (y := .agg []) (z := [.int .i64 0]) rfl (by simp [awanted]) Tryz.underlying125 (by simp [Oc.av]) (by decide) Tryz.zeroValue125 rfl ?_
   simp
   refine Run.ops fun K hK => ?_
   simp
   try (simp (disch := omega) only [wrap_id])
   refine hK _ _ _ (nv ?_); clear hK K
   refine cf (by simp) (nv ?_)
   refine Run.reg fun K hK => ?_
   simp
   try (simp (disch := omega) only [wrap_id])
   refine hK _ _ _ (nv ?_); clear hK K
   refine Run.keep [0, 2, 36, 37, 38] ?_
   simp only [keepT, keepT.go, List.contains_cons]
   simp
   refine Run.cutAt 0 hh rfl (by omega) (by simp) (by simp) (by simp) rfl ?_
   simp
   refine IH2 (j + 1) _ _ ⟨by omega, hrr⟩ (by omega) ?_ (by simp)
   simp
   repeat' (first | exact WeakL.nil | apply WeakL.cons)
   all_goals first | exact Weak.junk _ | exact Weak.refl _ | exact Weak.nil _ | exact Weak.own _ _ _ | exact Weak.int (by omega)
 ·have hje : j = cls.length := by omega
  subst hje
  rw [List.drop_length, matchR] at hrr
  subst hrr
  refine nv ?_
  refine cf (by simp) (nv ?_)
  refine Run.exit rfl ?_
  refine nv ?_
  refine Run.reg fun K hK => ?_
  simp
  try (simp (disch := omega) only [wrap_id])
  refine hK _ _ _ (nv ?_); clear hK K
  refine Run.ret ?_
  exact Fin.ret' (h0 := h) (xs := [iA 0, .p (.prim (.slice none 0 0)), iA 9]) (by simp) rfl hh (List.append_nil _).symm (by simp) rfl (mt_nil 0 9) (by simp [mtA]) ⟨rfl, rfl⟩

end Go.Proofs.YtcfcolkbeelegaaGreat

namespace Go.Proofs.YtcfcolkbeelegaaGreat

open Go.Shelf Go.Proofs
def lays156_ren : Go.Shelf.Ren := ⟨fun | 156 => 87 | 165 => 138 | 166 => 139 | 169 => 140 | 240 => 181 | 241 => 182 | 276 => 220 | 277 => 221 | n => n, fun | 31 => 146 | 9 => 9 | 3 => 3 | 4 => 4 | 0 => 0 | 20 => 20 | 72 => 201 | 76 => 204 | 70 => 198 | 37 => 199 | 75 => 203 | 127 => 246 | 164 => 283 | 5 => 5 | 80 => 206 | n => n, fun | n => n⟩
theorem lays156 : Go.Proofs.Lays.n156 Tryz.prog lays156_ren := {
 mixed := by kernel_rfl
 f156 := Tryz.func87.trans (congrArg some (by kernel_rfl))
 f165 := Tryz.func138.trans (congrArg some (by kernel_rfl))
 f166 := Tryz.func139.trans (congrArg some (by kernel_rfl))
 f169 := Tryz.func140.trans (congrArg some (by kernel_rfl))
 f240 := Tryz.func181.trans (congrArg some (by kernel_rfl))
 f241 := Tryz.func182.trans (congrArg some (by kernel_rfl))
 f276 := Tryz.func220.trans (congrArg some (by kernel_rfl))
 f277 := Tryz.func221.trans (congrArg some (by kernel_rfl))
 t0 := Tryz.underlying0
 a0 := Tryz.isAgg0
 z0 := Tryz.sizeOf0
 v0 := Tryz.zeroValue0
 t3 := Tryz.underlying3
 a3 := Tryz.isAgg3
 z3 := Tryz.sizeOf3
 v3 := Tryz.zeroValue3
 t4 := Tryz.underlying4
 a4 := Tryz.isAgg4
 z4 := Tryz.sizeOf4
 v4 := Tryz.zeroValue4
 t9 := Tryz.underlying9
 a9 := Tryz.isAgg9
 z9 := Tryz.sizeOf9
 v9 := Tryz.zeroValue9
 t20 := Tryz.underlying20
 a20 := Tryz.isAgg20
 z20 := Tryz.sizeOf20
 v20 := Tryz.zeroValue20
 t31 := Tryz.underlying146
 a31 := Tryz.isAgg146
 z31 := Tryz.sizeOf146
 v31 := Tryz.zeroValue146
 t37 := Tryz.underlying199
 a37 := Tryz.isAgg199
 z37 := Tryz.sizeOf199
 v37 := Tryz.zeroValue199
 t70 := Tryz.underlying198
 a70 := Tryz.isAgg198
 z70 := Tryz.sizeOf198
 v70 := Tryz.zeroValue198
 t72 := Tryz.underlying201
 a72 := Tryz.isAgg201
 z72 := Tryz.sizeOf201
 v72 := Tryz.zeroValue201
 t75 := Tryz.underlying203
 a75 := Tryz.isAgg203
 z75 := Tryz.sizeOf203
 v75 := Tryz.zeroValue203
 t76 := Tryz.underlying204
 a76 := Tryz.isAgg204
 z76 := Tryz.sizeOf204
 v76 := Tryz.zeroValue204
 t127 := Tryz.underlying246
 a127 := Tryz.isAgg246
 z127 := Tryz.sizeOf246
 v127 := Tryz.zeroValue246
 t164 := Tryz.underlying283
 a164 := Tryz.isAgg283
 z164 := Tryz.sizeOf283
 v164 := Tryz.zeroValue283
}
theorem lays156X : Go.Proofs.Builder.Extra Tryz.prog lays156_ren := { sizeBuilder := by kernel_rfl, liesBuilder := by kernel_rfl, t5 := Tryz.underlying5, a5 := Tryz.isAgg5, z5 := Tryz.sizeOf5, v5 := Tryz.zeroValue5, infoByte := by kernel_rfl, cellsByte := by kernel_rfl, sizeByte := by kernel_rfl, neB5 := by decide }

end Go.Proofs.YtcfcolkbeelegaaGreat
