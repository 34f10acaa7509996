import Derived.Test.YtcfcolkbeelegaaGreatOPS
import Derived.Test.YtcfcolkbeelegaaGreatOH8
import Derived.Test.YtcfcolkbeelegaaGreatOH9
import Derived.Test.YtcfcolkbeelegaaGreatOLQ
import Derived.Test.YtcfcolkbeelegaaGreatOG1
import Derived.Test.YtcfcolkbeelegaaGreatOX1
set_option maxRecDepth 8000
set_option maxHeartbeats 16000000

namespace Go.Proofs.YtcfcolkbeelegaaGreat

open Go Go.AI
theorem matO_join (W : Tm → Tm × Int) (env : List Dc) (p : Pt) (ps : List Pt) (a : Tm) (l acc m : List Tm) (h : oneO W env p a = .mat m) : (matO W env (p :: ps) (a :: l)).join acc = (matO W env ps l).join (acc ++ m) := by
 simp only [matO, h]
 cases matO W env ps l <;> simp [Oc.join]
theorem matO_stop (W : Tm → Tm × Int) (env : List Dc) (p : Pt) (ps : List Pt) (a : Tm) (l acc : List Tm) {o : Oc} (h : oneO W env p a = o) (hn : ∀ m, o ≠ .mat m) : (matO W env (p :: ps) (a :: l)).join acc = o := by
 simp only [matO, h]
 cases o with
 | mat m => exact absurd rfl (hn m)
 | _ => rfl
theorem match_any (env : List Dc) (hf : EnvFine env) (hg : Env.good env) (W : Tm → Tm × Int) (G : Tm → Prop) (hW : WOk env W G) (N : Nat) : ∀ (ps : List Pt) (ts : List Tm), Pt.sizes ps ≤ N → Pt.sizes ps ≤ 1048576 → chkPs env ps = 0 → ps.length ≤ ts.length → (∀ a ∈ ts, G a) →
  ∀ h, WF h → ACalls Tryz.prog 71 [envA env, .p (.sl 3 (ptPs ps)), .p (.sl 5 (tmPs ts))] h fun o h' => o = .ret (matO W env ps ts).av ∧ h' = h := by
 have key : ∀ (ps : List Pt) (ts : List Tm), Pt.sizes ps ≤ 1048576 → ps.length ≤ ts.length → (∀ p ∈ ps, ∀ a ∈ ts, ∀ g, WF g → ACalls Tryz.prog 124 [envA env, p.av, a.av] g fun o h' => o = .ret (oneO W env p a).av ∧ h' = g) →
   ∀ h, WF h → ACalls Tryz.prog 71 [envA env, .p (.sl 3 (ptPs ps)), .p (.sl 5 (tmPs ts))] h fun o h' => o = .ret (matO W env ps ts).av ∧ h' = h := by
  intro ps ts hB hl ih h hh
  have hll := psz_len ps
  obtain ⟨r, hr⟩ : ∃ r, matO W env ps ts = r := ⟨_, rfl⟩
  rw [hr]
  refine ACalls.of_run Tryz.func71 rfl ?_
  simp only [Tryz.ntmps71, List.length_cons, List.length_nil]
  refine nv ?_
  refine Run.reg fun K hK => ?_
  simp
  refine hK _ _ _ (nv ?_); clear hK
  refine Run.reg fun K hK => ?_
  simp
  refine hK _ _ _ (nv ?_); clear hK
  refine Run.reg fun K hK => ?_
  simp
  refine hK _ _ _ (nv ?_); clear hK
  refine Run.tok 7 5 (by simp) ?_
  simp
  refine Run.loopS (ι := Nat × List Tm) [0, 2, 12, 13] (fun p => p.1 ≤ ps.length ∧ p.2.length + Pt.sizes (ps.drop p.1) ≤ 1048576 ∧ r = (matO W env (ps.drop p.1) (ts.drop p.1)).join p.2) (fun p => ps.length - p.1) (fun p => [(7, .own h.length 5 (tmPs p.2)), (14, iA p.1)])
   (fun p => h ++ [some (.tok p.2.length 5)]) (0, []) (by simp [hB, hr]; cases r <;> simp [Oc.join]) ?_ (by simp) ?_
  ·simp [tmPs]
   repeat' first | exact wn | apply wc | exact wj _ | exact wr _ | exact wz _ | exact wo _ _ _ | exact wi (by omega)
  rintro ⟨j, acc⟩ ⟨hj, hsz, hrr⟩ IH
  simp only at hj hsz hrr
  simp
  refine nv ?_
  refine Run.reg fun K hK => ?_
  simp
  refine hK _ _ _ (nv ?_); clear hK
  by_cases hjl : j < ps.length
  ·have hgj : ps[j]? = some ps[j] := List.getElem?_eq_getElem hjl
   have hga : ts[j]? = some (ts[j]'(by omega)) := List.getElem?_eq_getElem (by omega)
   have hmp := List.getElem_mem hjl
   have hma := List.getElem_mem (show j < ts.length by omega)
   rw [drop_of_get hgj] at hsz
   rw [drop_of_get hgj, drop_of_get hga] at hrr
   generalize ps[j] = p at hgj hmp hsz hrr
   generalize ts[j] = a at hga hma hrr
   have c1 := ih p hmp a hma
   have hlen := oneO_len W env p a
   have hjn := matO_join W env p (ps.drop (j + 1)) a (ts.drop (j + 1)) acc
   have hst := fun o ho => matO_stop W env p (ps.drop (j + 1)) a (ts.drop (j + 1)) acc (o := o) ho
   rw [← hrr] at hjn hst
   simp only [Pt.sizes] at hsz
   have hpp := p.size_pos
   obtain ⟨pk, pn, qs⟩ := p
   obtain ⟨k1, i1, n1, l1, s1⟩ := a
   simp only [Tm.av, Pt.av, pcells_mk, cells_mk, List.map] at c1
   generalize oneO W env (Pt.mk pk pn qs) (Tm.mk k1 i1 n1 l1 s1) = o at c1 hlen hjn hst
   refine ct (by simp [hjl]) (nv ?_)
   refine Run.reg fun K hK => ?_
   simp [hgj, pcells_mk]
   refine hK _ _ _ (nv ?_); clear hK
   refine PC.Run.drawP (pc := [6]) [0, 0, 0, 0, 0, 0, 0] [0, 0, 0, 0, 0, 0, 0] [0, 0, 0, 0, 12, 28, 63] [0, 1, 2, 3, 4, 5, 6] (by kernel_rfl) (by kernel_rfl) ?_
   refine PC.DR.go fun K hK => ?_
   simp [hga]
   refine hK _ _ _ _ ?_; clear hK
   refine PC.DR.pcall rfl rfl rfl (by simp) rfl rfl (fun g hg => (c1) g ?_) ?_
   ·simp at hg; (first | (rcases hg with rfl | rfl | rfl | rfl) | (rcases hg with rfl | rfl | rfl) | (rcases hg with rfl | rfl) | subst hg) <;> exact hh.app (by simp)
   refine PC.DR.go fun K hK => ?_
   simp
   refine hK _ _ _ _ ?_; clear hK
   change Run _ _ _ _ _ _ _ _
   refine nv ?_
   refine Run.region ?_
   cases o with
   | mat m =>
    have hlen := hlen m rfl
    have hjn := hjn m rfl
    refine Run.assertHit rfl (by simp [awanted]) Tryz.underlying121 (by simp [Oc.av]; rfl) ?_
    simp
    refine Run.ops fun K hK => ?_
    simp
    refine hK _ _ _ (nv ?_); clear hK
    refine ct (by simp) (nv ?_)
    refine Run.reg fun K hK => ?_
    simp
    refine hK _ _ _ (nv ?_); clear hK
    have hb3 : (acc.length + m.length) * 80 ≤ 140737488355328 := by omega
    have hb4 : acc.length + m.length ≤ 9223372036854775807 := by omega
    refine Run.reg fun K hK => ?_
    simp [hb3, hb4]
    refine hK _ _ _ (nv ?_); clear hK
    refine Run.keep [0, 2, 7, 12, 13, 14] ?_
    simp only [keepT, keepT.go, List.contains_cons]
    simp
    refine Run.cutAt 1 hh rfl (by omega) (by simp) (by simp) (by simp) rfl ?_
    simp
    refine Run.reg fun K hK => ?_
    simp
    try (simp (disch := omega) only [wrap_id])
    refine hK _ _ _ (nv ?_); clear hK
    refine IH (j + 1, acc ++ m) _ _ ⟨by simp only; omega, by simp only [List.length_append]; have := hlen; omega, hjn⟩ (by simp only; omega) ?_ ?_
    ·have hta : tmPs acc ++ tmPs m = tmPs (acc ++ m) := by simp [tmPs_eq]
     rw [hta]
     simp
     repeat' first | exact wn | apply wc | exact wj _ | exact wr _ | exact wz _ | exact wo _ _ _ | exact wi (by omega)
    ·simp
   | stuck =>
    rw [hst _ rfl (by simp)]
    refine Run.assertMiss (t0 := 123) (y := .agg []) (z := [.slice none 0 0]) rfl (by simp [awanted]) Tryz.underlying121 (by simp [Oc.av]) (by decide) Tryz.zeroValue121 rfl ?_
    simp
    refine Run.ops fun K hK => ?_
    simp
    refine hK _ _ _ (nv ?_); clear hK
    refine cf (by simp) (nv ?_)
    refine Run.reg fun K hK => ?_
    simp
    refine hK _ _ _ (nv ?_); clear hK
    refine Run.reg fun K hK => ?_
    simp
    refine hK _ _ _ (nv ?_); clear hK
    refine Run.ret ?_
    exact Fin.ret' (h0 := h) (by simp) rfl hh rfl (by simp; rfl) rfl (Weak.refl _) (by simp [Oc.av]) ⟨rfl, rfl⟩
   | given e =>
    rw [hst _ rfl (by simp)]
    refine Run.assertMiss (t0 := 125) (y := .agg [iA e]) (z := [.slice none 0 0]) rfl (by simp [awanted]) Tryz.underlying121 (by simp [Oc.av]) (by decide) Tryz.zeroValue121 rfl ?_
    simp
    refine Run.ops fun K hK => ?_
    simp
    refine hK _ _ _ (nv ?_); clear hK
    refine cf (by simp) (nv ?_)
    refine Run.reg fun K hK => ?_
    simp
    refine hK _ _ _ (nv ?_); clear hK
    refine Run.reg fun K hK => ?_
    simp
    refine hK _ _ _ (nv ?_); clear hK
    refine Run.ret ?_
    exact Fin.ret' (h0 := h) (by simp) rfl hh rfl (by simp; rfl) rfl (Weak.refl _) (by simp [Oc.av]) ⟨rfl, rfl⟩
   | failed =>
    rw [hst _ rfl (by simp)]
    refine Run.assertMiss (t0 := 234) (y := .agg []) (z := [.slice none 0 0]) rfl (by simp [awanted]) Tryz.underlying121 (by simp [Oc.av]) (by decide) Tryz.zeroValue121 rfl ?_
    simp
    refine Run.ops fun K hK => ?_
    simp
    refine hK _ _ _ (nv ?_); clear hK
    refine cf (by simp) (nv ?_)
    refine Run.reg fun K hK => ?_
    simp
    refine hK _ _ _ (nv ?_); clear hK
    refine Run.reg fun K hK => ?_
    simp
    refine hK _ _ _ (nv ?_); clear hK
    refine Run.ret ?_
    exact Fin.ret' (h0 := h) (by simp) rfl hh rfl (by simp; rfl) rfl (Weak.refl _) (by simp [Oc.av]) ⟨rfl, rfl⟩
  ·have hje : j = ps.length := by omega
   subst hje
   rw [List.drop_length, matO] at hrr
   simp only [Oc.join, List.append_nil] at hrr
   subst hrr
   refine cf (by simp) ?_
   refine Run.exit rfl ?_
   refine nv ?_
   refine Run.reg fun K hK => ?_
   simp
   refine hK _ _ _ (nv ?_); clear hK
   refine Run.ret ?_
   exact Fin.ret' (h0 := h) (xs := [.ifc 121 (.agg [.own h.length 5 (tmPs acc)])]) (y := (Oc.mat acc).av) (by simp) rfl hh rfl (by simp) rfl (Weak.ifc (Weak.agg (WeakL.cons (Weak.own _ _ _) WeakL.nil))) (by simp [Oc.av]) ⟨rfl, rfl⟩
 induction N with
 | zero =>
  intro ps ts hl hB hc hlt hG
  cases ps with
  | nil => exact key [] ts hB hlt (by simp)
  | cons p l => have := p.size_pos; simp only [Pt.sizes] at hl; omega
 | succ N ih =>
  intro ps ts hl hB hc hlt hG
  refine key ps ts hB hlt fun p hp a ha g hw => ?_
  have h2 := Pt.size_at hp
  have hcp := chkPs_mem hc p hp
  obtain ⟨pk, pn, qs⟩ := p
  simp only [Pt.size] at h2
  refine one_any env hf hg W G hW pk pn qs a (hG a ha) hcp (fun us hu hus g2 hw2 => ?_) g hw
  by_cases k1 : pk = 1
  ·subst k1
   exact ih qs us (by omega) (by omega) (chkP_ctor hcp).2.2 hu hus g2 hw2
  ·have hq : qs = [] := by
    by_cases c : pk = 0 ∨ pk = 2 ∨ pk = 3
    ·rw [chkP, if_pos c] at hcp
     by_cases c2 : pn = [] ∧ qs = []
     ·exact c2.2
     ·rw [if_neg c2] at hcp; exact absurd hcp (by decide)
    ·rw [chkP_bad (by omega) k1 (by omega) (by omega)] at hcp; exact absurd hcp (by decide)
   subst hq
   exact ih [] us (by simp [Pt.sizes]) (by simp [Pt.sizes]) (by simp [chkPs]) hu hus g2 hw2


open Go Go.AI
def matchR (W : Tm → Tm × Int) (env : List Dc) (ts : List Tm) : Nat → List Cl → Int × List Tm × Int
 | _, [] => (0, [], 9)
 | i, c :: cs => match matO W env c.ps ts with
  | .mat l => (i, l, 0)
  | .stuck => (0, [], 19)
  | .given e => (0, [], e)
  | .failed => matchR W env ts (i + 1) cs
def matchM (W : Tm → Tm × Int) (env : List Dc) (cls : List Cl) (ts : List Tm) : Int × List Tm × Int :=
 if allTo (clOk env ts.length cls) cls.length = false then (0, [], 6) else matchR W env ts 0 cls
def mtA (r : Int × List Tm × Int) : AV := .tup [iA r.1, .p (.sl 5 (tmPs r.2.1)), iA r.2.2]
theorem matchR_drop {W : Tm → Tm × Int} {env : List Dc} {ts : List Tm} {cls : List Cl} {j : Nat} {r} (h : r = matchR W env ts j (cls.drop j)) {c : Cl} (hg : cls[j]? = some c) :
  r = match matO W env c.ps ts with
  | .mat l => ((j : Int), l, 0)
  | .stuck => (0, [], 19)
  | .given e => (0, [], e)
  | .failed => matchR W env ts (j + 1) (cls.drop (j + 1)) := by rw [h, drop_of_get hg, matchR]
theorem mt_nil (a e : Int) : Weak (.tup [iA a, .p (.prim (.slice none 0 0)), iA e]) (mtA (a, [], e)) := Weak.tup (WeakL.cons (Weak.refl _) (WeakL.cons (Weak.nil 5) (WeakL.refl _)))
theorem ze123 : zeroT Tryz.prog 123 = some [] := by kernel_rfl
theorem pmatch_any (env : List Dc) (hf : EnvFine env) (hg : Env.good env) (W : Tm → Tm × Int) (G : Tm → Prop) (hW : WOk env W G) (cls : List Cl) (ts : List Tm) (hs : PSmall cls []) (hG : ∀ a ∈ ts, G a) (_hts : ts.length ≤ 1048576) (h : Heap) (hh : WF h) :
  ACalls Tryz.prog 22 [envA env, .p (.sl 6 (clPs cls)), .p (.sl 5 (tmPs ts))] h fun o h' => o = .ret (mtA (matchM W env cls ts)) ∧ h' = h := by
 have hcl := hs.cl
 obtain ⟨r, hr⟩ : ∃ r, matchM W env cls ts = r := ⟨_, rfl⟩
 rw [hr]
 unfold matchM at hr
 refine ACalls.of_run Tryz.func22 rfl ?_
 simp only [Tryz.ntmps22, List.length_cons, List.length_nil]
 refine nv ?_
 refine Run.reg fun K hK => ?_
 simp
 refine hK _ _ _ (nv ?_); clear hK
 refine Run.reg fun K hK => ?_
 simp
 refine hK _ _ _ (nv ?_); clear hK
 refine Run.loopS [0, 1, 2, 16, 17] (fun j : Nat => j ≤ cls.length ∧ allTo (clOk env ts.length cls) j = true) (fun j => cls.length - j) (fun j => [(18, iA j)]) (fun _ => h) 0 (by simp [allTo]) ?_ rfl ?_
 ·simp
  repeat' first | exact wn | apply wc | exact wj _ | exact wr _ | exact wz _ | exact wo _ _ _ | exact wi (by omega)
 rintro j ⟨hj, hall⟩ IH
 simp
 refine nv ?_
 refine Run.reg fun K hK => ?_
 simp
 refine hK _ _ _ (nv ?_); clear hK
 by_cases hjl : j < cls.length
 ·have hgj : cls[j]? = some cls[j] := List.getElem?_eq_getElem hjl
  have hmem := List.getElem_mem hjl
  generalize cls[j] = c at hgj hmem
  have hcz := hs.cs c hmem
  have hcln := psz_len c.ps
  have c1 := fun (g : Heap) (hw : WF g) => pcheck_any env hg hf.1 _ c.ps (Nat.le_refl _) hcz g hw
  have hok := clOk_at (env := env) (n := ts.length) hgj
  unfold clBad at hok
  generalize chkPs env c.ps = e at c1 hok
  obtain ⟨ps, ⟨k, i, nm, ls, ks⟩⟩ := c
  simp only at c1 hcz hcln hok
  refine ct (by simp [hjl]) (nv ?_)
  refine Run.reg fun K hK => ?_
  simp [hgj, Cl.cells]
  refine hK _ _ _ (nv ?_); clear hK
  by_cases hle : ps.length = ts.length
  ·skip
   refine Run.reg fun K hK => ?_
   simp [hle]
   refine hK _ _ _ ?_; clear hK
   refine rc rfl (by first | rfl | simp) (by simp) rfl (c1 _ (hh.app (by simp))) ?_
   by_cases he : e = 0
   ·subst he
    refine Run.ops fun K hK => ?_
    simp
    refine hK _ _ _ (nv ?_); clear hK
    refine cf (by simp) (nv ?_)
    refine Run.reg fun K hK => ?_
    simp
    try (simp (disch := omega) only [wrap_id])
    refine hK _ _ _ (nv ?_); clear hK
    refine Run.keep [0, 1, 2, 16, 17, 18] ?_
    simp only [keepT, keepT.go, List.contains_cons]
    simp
    refine Run.cutAt 0 hh rfl (by omega) (by simp) (by simp) (by simp) rfl ?_
    simp
    refine IH (j + 1) _ _ ⟨by omega, by rw [allTo_succ, hall, hok]; simp [hle]⟩ (by omega) ?_ (by simp)
    simp
    repeat' first | exact wn | apply wc | exact wj _ | exact wr _ | exact wz _ | exact wo _ _ _ | exact wi (by omega)
   ·have hf := allTo_false hjl (p := clOk env ts.length cls) (by rw [hok]; simp [he])
    rw [if_pos hf] at hr
    subst hr
    have heb : (e != (0 : Int)) = true := by simpa using he
    refine Run.ops fun K hK => ?_
    simp [heb]
    refine hK _ _ _ (nv ?_); clear hK
    refine ct (by simp) (nv ?_)
    refine Run.reg fun K hK => ?_
    simp
    refine hK _ _ _ (nv ?_); clear hK
    refine Run.ret ?_
    exact Fin.ret' (h0 := h) (xs := [iA 0, .p (.prim (.slice none 0 0)), iA 6]) (by simp) rfl hh rfl (by simp) rfl (mt_nil 0 6) (by simp [mtA]) ⟨rfl, rfl⟩
  ·have hlb : ((ps.length : Int) != (ts.length : Int)) = true := by simp; omega
   have hf := allTo_false hjl (p := clOk env ts.length cls) (by rw [hok]; simp [hle])
   rw [if_pos hf] at hr
   subst hr
   refine Run.reg fun K hK => ?_
   simp [hlb]
   refine hK _ _ _ (nv ?_); clear hK
   refine ct (by simp) (nv ?_)
   refine Run.reg fun K hK => ?_
   simp
   refine hK _ _ _ (nv ?_); clear hK
   refine Run.ret ?_
   exact Fin.ret' (h0 := h) (xs := [iA 0, .p (.prim (.slice none 0 0)), iA 6]) (by simp) rfl hh rfl (by simp) rfl (mt_nil 0 6) (by simp [mtA]) ⟨rfl, rfl⟩
 have hje : j = cls.length := by omega
 subst hje
 rw [if_neg (by rw [hall]; simp)] at hr
 refine cf (by simp) ?_
 refine Run.exit rfl ?_
 refine nv ?_
 refine Run.reg fun K hK => ?_
 simp
 refine hK _ _ _ (nv ?_); clear hK
 refine Run.loopS [0, 2, 36, 37] (fun j : Nat => j ≤ cls.length ∧ r = matchR W env ts j (cls.drop j)) (fun j => cls.length - j) (fun j => [(38, iA j)]) (fun _ => h) 0 (by simp [hr]) ?_ rfl ?_
 ·simp
  repeat' first | exact wn | apply wc | exact wj _ | exact wr _ | exact wz _ | exact wo _ _ _ | exact wi (by omega)
 rintro j ⟨hj, hrr⟩ IH2
 simp
 refine nv ?_
 refine Run.reg fun K hK => ?_
 simp
 refine hK _ _ _ (nv ?_); clear hK
 by_cases hjl : j < cls.length
 ·have hgj : cls[j]? = some cls[j] := List.getElem?_eq_getElem hjl
  have hmem := List.getElem_mem hjl
  have hokj := allTo_at hall hjl
  rw [clOk_at hgj] at hokj
  generalize cls[j] = c at hgj hmem hokj
  simp [clBad] at hokj
  have hcz := hs.cs c hmem
  have c1 := match_any env hf hg W G hW _ c.ps ts (Nat.le_refl _) hcz hokj.2 (by omega) hG
  have hrr := matchR_drop hrr hgj
  obtain ⟨ps, ⟨k, i, nm, ls, ks⟩⟩ := c
  simp only at c1 hrr
  generalize matO W env ps ts = o at c1 hrr
  refine ct (by simp [hjl]) (nv ?_)
  refine Run.reg fun K hK => ?_
  simp [hgj, Cl.cells]
  refine hK _ _ _ (nv ?_); clear hK
  refine Run.reg fun K hK => ?_
  simp
  refine hK _ _ _ ?_; clear hK
  refine rc rfl (by first | rfl | simp) (by simp) rfl (c1 _ (hh.app (by simp))) ?_
  refine Run.ops fun K hK => ?_
  simp
  refine hK _ _ _ (nv ?_); clear hK
  refine Run.region ?_
  cases o with
  | mat m =>
   simp only at hrr
   subst hrr
   refine Run.assertHit rfl (by simp [awanted]) Tryz.underlying121 (by simp [Oc.av]; rfl) ?_
   simp
   refine Run.ops fun K hK => ?_
   simp
   refine hK _ _ _ (nv ?_); clear hK
   refine ct (by simp) (nv ?_)
   refine Run.reg fun K hK => ?_
   simp
   refine hK _ _ _ (nv ?_); clear hK
   refine Run.draw [0, 0, 0, 0, 0, 0] [0, 0, 0, 0, 0, 0] [0, 0, 2, 1, 15, 31] [0, 1, 2, 3, 4, 5] (by kernel_rfl) (by kernel_rfl) ?_
   refine DR.go fun K hK => ?_
   simp
   refine hK _ _ _ _ ?_; clear hK
   change Run _ _ _ _ _ _ _ _
   refine Run.ret ?_
   exact Fin.ret' (h0 := h) (by simp) rfl hh rfl (by simp; rfl) rfl (Weak.refl _) (by simp) ⟨rfl, rfl⟩
  | stuck =>
   simp only at hrr
   subst hrr
   refine Run.assertMiss (t0 := 123) (y := .agg []) (z := [.slice none 0 0]) rfl (by simp [awanted]) Tryz.underlying121 (by simp [Oc.av]) (by decide) Tryz.zeroValue121 rfl ?_
   simp
   refine Run.ops fun K hK => ?_
   simp
   refine hK _ _ _ (nv ?_); clear hK
   refine cf (by simp) (nv ?_)
   refine Run.region ?_
   refine Run.assertHit rfl (by simp [awanted]) Tryz.underlying123 (by simp [Oc.av]; rfl) ?_
   simp
   refine Run.ops fun K hK => ?_
   simp
   refine hK _ _ _ (nv ?_); clear hK
   refine ct (by simp) (nv ?_)
   refine Run.reg fun K hK => ?_
   simp [ze123, patch]
   refine hK _ _ _ (nv ?_); clear hK
   refine Run.reg fun K hK => ?_
   simp
   refine hK _ _ _ (nv ?_); clear hK
   refine Run.ret ?_
   exact Fin.ret' (h0 := h) (xs := [iA 0, .p (.prim (.slice none 0 0)), iA 19]) (by simp) rfl hh rfl (by simp) rfl (mt_nil 0 19) (by simp [mtA]) ⟨rfl, rfl⟩
  | given e =>
   simp only at hrr
   subst hrr
   refine Run.assertMiss (t0 := 125) (y := .agg [iA e]) (z := [.slice none 0 0]) rfl (by simp [awanted]) Tryz.underlying121 (by simp [Oc.av]) (by decide) Tryz.zeroValue121 rfl ?_
   simp
   refine Run.ops fun K hK => ?_
   simp
   refine hK _ _ _ (nv ?_); clear hK
   refine cf (by simp) (nv ?_)
   refine Run.region ?_
   refine Run.assertMiss (t0 := 125) (y := .agg [iA e]) (z := []) rfl (by simp [awanted]) Tryz.underlying123 (by simp [Oc.av]) (by decide) Tryz.zeroValue123 rfl ?_
   simp
   refine Run.ops fun K hK => ?_
   simp
   refine hK _ _ _ (nv ?_); clear hK
   refine cf (by simp) (nv ?_)
   refine Run.region ?_
   refine Run.assertHit rfl (by simp [awanted]) Tryz.underlying125 (by simp [Oc.av]; rfl) ?_
   simp
   refine Run.ops fun K hK => ?_
   simp
   refine hK _ _ _ (nv ?_); clear hK
   refine ct (by simp) (nv ?_)
   refine Run.reg fun K hK => ?_
   simp
   refine hK _ _ _ (nv ?_); clear hK
   refine Run.draw [0, 0, 0, 0, 0] [0, 0, 0, 0, 0] [0, 1, 0, 4, 15] [0, 1, 2, 3, 4] (by kernel_rfl) (by kernel_rfl) ?_
   refine DR.go fun K hK => ?_
   simp
   refine hK _ _ _ _ ?_; clear hK
   change Run _ _ _ _ _ _ _ _
   refine Run.ret ?_
   exact Fin.ret' (h0 := h) (xs := [iA 0, .p (.prim (.slice none 0 0)), iA e]) (by simp) rfl hh rfl (by simp) rfl (mt_nil 0 e) (by simp [mtA]) ⟨rfl, rfl⟩
  | failed =>
   simp only at hrr
   refine Run.assertMiss (t0 := 234) (y := .agg []) (z := [.slice none 0 0]) rfl (by simp [awanted]) Tryz.underlying121 (by simp [Oc.av]) (by decide) Tryz.zeroValue121 rfl ?_
   simp
   refine Run.ops fun K hK => ?_
   simp
   refine hK _ _ _ (nv ?_); clear hK
   refine cf (by simp) (nv ?_)
   refine Run.region ?_
   refine Run.assertMiss (t0 := 234) (y := .agg []) (z := []) rfl (by simp [awanted]) Tryz.underlying123 (by simp [Oc.av]) (by decide) Tryz.zeroValue123 rfl ?_
   simp
   refine Run.ops fun K hK => ?_
   simp
   refine hK _ _ _ (nv ?_); clear hK
   refine cf (by simp) (nv ?_)
   refine Run.region ?_
   refine Run.assertMiss (t0 := 234) (y := .agg []) (z := [.int .i64 0]) rfl (by simp [awanted]) Tryz.underlying125 (by simp [Oc.av]) (by decide) Tryz.zeroValue125 rfl ?_
   simp
   refine Run.ops fun K hK => ?_
   simp
   refine hK _ _ _ (nv ?_); clear hK
   refine cf (by simp) (nv ?_)
   refine Run.reg fun K hK => ?_
   simp
   try (simp (disch := omega) only [wrap_id])
   refine hK _ _ _ (nv ?_); clear hK
   refine Run.keep [0, 2, 36, 37, 38] ?_
   simp only [keepT, keepT.go, List.contains_cons]
   simp
   refine Run.cutAt 0 hh rfl (by omega) (by simp) (by simp) (by simp) rfl ?_
   simp
   refine IH2 (j + 1) _ _ ⟨by omega, hrr⟩ (by omega) ?_ (by simp)
   simp
   repeat' first | exact wn | apply wc | exact wj _ | exact wr _ | exact wz _ | exact wo _ _ _ | exact wi (by omega)
 ·have hje : j = cls.length := by omega
  subst hje
  rw [List.drop_length, matchR] at hrr
  subst hrr
  refine cf (by simp) ?_
  refine Run.exit rfl ?_
  refine nv ?_
  refine Run.reg fun K hK => ?_
  simp
  refine hK _ _ _ (nv ?_); clear hK
  refine Run.ret ?_
  exact Fin.ret' (h0 := h) (xs := [iA 0, .p (.prim (.slice none 0 0)), iA 9]) (by simp) rfl hh (List.append_nil _).symm (by simp) rfl (mt_nil 0 9) (by simp [mtA]) ⟨rfl, rfl⟩


open Go Go.AI
def zeroB : List UInt8 := [122, 101, 114, 111]
def succB : List UInt8 := [115, 117, 99, 99]
def natD : Dc := ⟨3, natB, 0, .mk 2 0 [] [⟨0, []⟩] [], zT, 0, [⟨zeroB, natT⟩, ⟨succB, arrowT natT natT⟩], 0, natT, [natT, natT], []⟩
def natE : List Dc := [natD]
theorem natD_ok : declZ [] natD = 0 := by kernel_rfl
theorem natE_fine : EnvFine natE := by
 refine ⟨fun d hd => ?_, fun j d hj => ?_⟩
 ·simp [natE] at hd; subst hd; decide
 ·rcases Nat.eq_zero_or_pos j with e | e
  ·subst e
   simp [natE] at hj
   subst hj
   exact natD_ok
  ·have := (List.getElem?_eq_some_iff.1 hj).1
   simp [natE] at this
   omega
theorem natT_good : natT.good := by simp [Tm.good, natT, Tm.size, Tm.sizes, Tm.fit, Tm.fits, Tm.lvs, Tm.lvss]
theorem arr_eq : arrowT natT natT = .mk 6 0 [] [] [natT, natT] := by kernel_rfl
theorem natE_good : Env.good natE := by
 refine ⟨by simp [natE], fun d hd => ?_⟩
 simp [natE] at hd
 subst hd
 refine ⟨?_, ?_, natT_good, by simp [natD], ?_, by simp [natD], ?_, by simp [natD], by simp [natD]⟩
 ·simp [natD, Tm.good, Tm.size, Tm.sizes, Tm.fit, Tm.fits, Tm.lvs, Tm.lvss]
 ·simp [natD, zT, Tm.good, Tm.size, Tm.sizes, Tm.fit, Tm.fits, Tm.lvs, Tm.lvss]
 ·intro c hc
  simp [natD] at hc
  rcases hc with rfl | rfl
  ·exact natT_good
  ·rw [arr_eq]; simp [natT, Tm.good, Tm.size, Tm.sizes, Tm.fit, Tm.fits, Tm.lvs, Tm.lvss]
 ·intro t ht
  simp [natD] at ht
  rcases ht with rfl | rfl <;> exact natT_good
theorem naturals_any (h : Heap) (hh : WF h) : ACalls Tryz.prog 67 [] h fun o h' => o = .ret (envA natE) ∧ h' = h := by
 have c0 := fun (g : Heap) (hw : WF g) => arrow66_any g hw natT natT (by simp [natT, natB, Tm.ok, Tm.oks, Tm.okN]) (by decide)
 rw [arr_eq] at c0
 have hwk : Weak (.agg [iA 3, iA 0, .p (sP natB), .p (.prim (.slice none 0 0)), .p (.prim (.slice none 0 0))]) natT.av := by
  simp only [natT, Tm.av, cells_mk, List.map, lvPs, tmPs]
  exact Weak.agg (WeakL.cons (Weak.refl _) (WeakL.cons (Weak.refl _) (WeakL.cons (Weak.refl _) (WeakL.cons (Weak.nil _) (WeakL.cons (Weak.nil _) WeakL.nil)))))
 have c1 := fun (g : Heap) (hw : WF g) => ACalls.weak (WeakL.cons hwk (WeakL.cons hwk WeakL.nil)) (c0 g hw)
 simp only [natB, natT, Tm.av, cells_mk, List.map, lvPs, tmPs] at c1
 refine ACalls.of_run Tryz.func67 rfl ?_
 simp only [Tryz.ntmps67, List.length_nil]
 refine nv ?_
 refine Run.reg fun K hK => ?_
 simp
 refine hK _ _ _ (nv ?_); clear hK
 refine Run.reg fun K hK => ?_
 simp
 refine hK _ _ _ (nv ?_); clear hK
 refine PC.Run.drawP (pc := [7]) [0, 0, 0, 0, 0, 0, 0, 0, 0, 0, 0, 0, 0, 0, 0, 0, 0, 0] [0, 0, 0, 0, 0, 0, 0, 0, 0, 0, 0, 0, 0, 0, 0, 0, 0, 0] [0, 1, 3, 0, 8, 0, 0, 96, 224, 504, 0, 0, 0, 6144, 15360, 32767, 65535, 131071] [0, 1, 2, 3, 4, 5, 6, 7, 8, 9, 10, 11, 12, 13, 14, 15, 16, 17] (by kernel_rfl) (by kernel_rfl) ?_
 refine PC.DR.go fun K hK => ?_
 simp
 refine hK _ _ _ _ ?_; clear hK
 refine PC.DR.pcall rfl rfl rfl (by simp) rfl rfl (fun g hg => (c1) g ?_) ?_
 ·simp at hg; (first | (rcases hg with rfl | rfl | rfl | rfl) | (rcases hg with rfl | rfl | rfl) | (rcases hg with rfl | rfl) | subst hg) <;> exact hh.app (by simp)
 refine PC.DR.go fun K hK => ?_
 simp
 refine hK _ _ _ _ ?_; clear hK
 change Run _ _ _ _ _ _ _ _
 refine Run.ret ?_
 refine Fin.ret' (h0 := h) (y := envA natE) (by simp) rfl hh rfl (by simp; rfl) rfl ?_ (by simp) ⟨rfl, rfl⟩
 show Weak (.p _) (.p _)
 refine WeakP.av ?_
 simp only [natE, natD, natT, natB, zeroB, succB, zT, Dc.cells, Ct.cells, Lv.cells, cells_mk, List.map, lvPs, tmPs, List.cons_append, List.nil_append]
 repeat (first | exact WeakP.refl _ | exact WeakP.nil _ | exact WeakPs.nil | exact WeakPL.nil | refine WeakP.sl ?_ | refine WeakPs.cons ?_ ?_ | refine WeakPL.cons ?_ ?_)
theorem ctor68_any (h : Heap) (hh : WF h) (n : List UInt8) (qs : List Pt) : ACalls Tryz.prog 68 [.p (sP n), .p (.sl 3 (ptPs qs))] h fun o h' => o = .ret (Pt.mk 1 n qs).av ∧ h' = h := by
 refine ACalls.of_run Tryz.func68 rfl ?_
 simp only [Tryz.ntmps68, List.length_cons, List.length_nil]
 refine nv ?_
 refine Run.reg fun K hK => ?_
 simp
 refine hK _ _ _ (nv ?_); clear hK
 refine Run.reg fun K hK => ?_
 simp
 refine hK _ _ _ (nv ?_); clear hK
 refine Run.ret ?_
 exact Fin.ret' (h0 := h) (by simp) rfl hh rfl (by simp; rfl) rfl (Weak.refl _) (by simp) ⟨rfl, rfl⟩

end Go.Proofs.YtcfcolkbeelegaaGreat
