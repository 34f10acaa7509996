import Derived.Test.YtcfcolkbeelegaaGreatVPT
import Derived.Test.YtcfcolkbeelegaaGreatVPN
import Derived.Test.YtcfcolkbeelegaaGreatVFJ
import Derived.Test.YtcfcolkbeelegaaGreatVX1
import Derived.Test.YtcfcolkbeelegaaGreatVX0
import Derived.Test.YtcfcolkbeelegaaGreatVV0
import Derived.Test.YtcfcolkbeelegaaGreatVE1
set_option maxRecDepth 8000
set_option maxHeartbeats 16000000

namespace Go.Proofs.YtcfcolkbeelegaaGreat

open Go Go.AI
def matchR (W : Tm → Tm × Int) (env : List Dc) (ts : List Tm) : Nat → List Cl → Int × List Tm × Int
 | _, [] => (0, [], 9)
 | i, c :: cs => match matO W env c.ps ts with
  | .mat l => (i, l, 0)
  | .stuck => (0, [], 19)
  | .given e => (0, [], e)
  | .failed => matchR W env ts (i + 1) cs
def matchM (W : Tm → Tm × Int) (env : List Dc) (cls : List Cl) (ts : List Tm) : Int × List Tm × Int :=
 if allTo (clOk env ts.length cls) cls.length = false then (0, [], 6) else matchR W env ts 0 cls
def mtA (r : Int × List Tm × Int) : AV := .tup [iA r.1, .p (.sl 5 (tmPs r.2.1)), iA r.2.2]
theorem matchR_drop {W : Tm → Tm × Int} {env : List Dc} {ts : List Tm} {cls : List Cl} {j : Nat} {r} (h : r = matchR W env ts j (cls.drop j)) {c : Cl} (hg : cls[j]? = some c) :
  r = match matO W env c.ps ts with
  | .mat l => ((j : Int), l, 0)
  | .stuck => (0, [], 19)
  | .given e => (0, [], e)
  | .failed => matchR W env ts (j + 1) (cls.drop (j + 1)) := by rw [h, drop_of_get hg, matchR]
theorem mt_nil (a e : Int) : Weak (.tup [iA a, .p (.prim (.slice none 0 0)), iA e]) (mtA (a, [], e)) := Weak.tup (WeakL.cons (Weak.refl _) (WeakL.cons (Weak.nil 5) (WeakL.refl _)))
theorem ze123 : zeroT Tryz.prog 123 = some [] := by kernel_rfl
theorem pmatch_any (env : List Dc) (hf : EnvFine env) (hg : Env.good env) (W : Tm → Tm × Int) (G : Tm → Prop) (hW : WOk env W G) (cls : List Cl) (ts : List Tm) (hs : PSmall cls []) (hG : ∀ a ∈ ts, G a) (_hts : ts.length ≤ 1048576) (h : Heap) (hh : WF h) :
  ACalls Tryz.prog 22 [envA env, .p (.sl 6 (clPs cls)), .p (.sl 5 (tmPs ts))] h fun o h' => o = .ret (mtA (matchM W env cls ts)) ∧ h' = h := by
 have hcl := hs.cl
 obtain ⟨r, hr⟩ : ∃ r, matchM W env cls ts = r := ⟨_, rfl⟩
 rw [hr]
 unfold matchM at hr
 refine ACalls.of_run Tryz.func22 rfl ?_
 simp only [Tryz.ntmps22, List.length_cons, List.length_nil]
 refine nv ?_
 refine Run.reg fun K J => ?_
 simp
 refine J _ _ _ (nv ?_); clear J
 refine Run.reg fun K J => ?_
 simp
 refine J _ _ _ (nv ?_); clear J
 refine Run.loopS [0, 1, 2, 16, 17] (fun j : Nat => j ≤ cls.length ∧ allTo (clOk env ts.length cls) j = true) (fun j => cls.length - j) (fun j => [(18, iA j)]) (fun _ => h) 0 (by simp [allTo]) ?_ rfl ?_
 ·simp
  repeat' first | exact wn | apply wc | exact wj _ | exact wr _ | exact wz _ | exact wo _ _ _ | exact wi (by omega)
 rintro j ⟨hj, hall⟩ IH
 simp
 refine nv ?_
 refine Run.reg fun K J => ?_
 simp
 refine J _ _ _ (nv ?_); clear J
 by_cases hjl : j < cls.length
 ·have hgj : cls[j]? = some cls[j] := List.getElem?_eq_getElem hjl
  have hmem := List.getElem_mem hjl
  generalize cls[j] = c at hgj hmem
  have hcz := hs.cs c hmem
  have hcln := psz_len c.ps
  have c1 := fun (g : Heap) (hw : WF g) => pcheck_any env hg hf.1 _ c.ps (Nat.le_refl _) hcz g hw
  have hok := clOk_at (env := env) (n := ts.length) hgj
  unfold clBad at hok
  generalize chkPs env c.ps = e at c1 hok
  obtain ⟨ps, ⟨k, i, nm, ls, ks⟩⟩ := c
  simp only at c1 hcz hcln hok
  refine ct (by simp [hjl]) (nv ?_)
  refine Run.reg fun K J => ?_
  simp [hgj, Cl.cells]
  refine J _ _ _ (nv ?_); clear J
  by_cases hle : ps.length = ts.length
  ·skip
   refine Run.reg fun K J => ?_
   simp [hle]
   refine J _ _ _ ?_; clear J
   refine rl rfl (by first | rfl | simp) (by simp) rfl (c1 _ (hh.app (by simp))) ?_
   by_cases he : e = 0
   ·subst he
    refine Run.ops fun K J => ?_
    simp
    refine J _ _ _ (nv ?_); clear J
    refine cf (by simp) (nv ?_)
    refine Run.reg fun K J => ?_
    simp
    try (simp (disch := omega) only [wrap_id])
    refine J _ _ _ (nv ?_); clear J
    refine Run.keep [0, 1, 2, 16, 17, 18] ?_
    simp only [keepT, keepT.go, List.contains_cons]
    simp
    refine Run.cutAt 0 hh rfl (by omega) (by simp) (by simp) (by simp) rfl ?_
    simp
    refine IH (j + 1) _ _ ⟨by omega, by rw [allTo_succ, hall, hok]; simp [hle]⟩ (by omega) ?_ (by simp)
    simp
    repeat' first | exact wn | apply wc | exact wj _ | exact wr _ | exact wz _ | exact wo _ _ _ | exact wi (by omega)
   ·have hf := allTo_false hjl (p := clOk env ts.length cls) (by rw [hok]; simp [he])
    rw [if_pos hf] at hr
    subst hr
    have heb : (e != (0 : Int)) = true := by simpa using he
    refine Run.ops fun K J => ?_
    simp [heb]
    refine J _ _ _ (nv ?_); clear J
    refine ct (by simp) (nv ?_)
    refine Run.reg fun K J => ?_
    simp
    refine J _ _ _ (nv ?_); clear J
    refine Run.ret ?_
    exact Fin.ret' (h0 := h) (xs := [iA 0, .p (.prim (.slice none 0 0)), iA 6]) (by simp) rfl hh rfl (by simp) rfl (mt_nil 0 6) (by simp [mtA]) ⟨rfl, rfl⟩
  ·have hlb : ((ps.length : Int) != (ts.length : Int)) = true := by simp; omega
   have hf := allTo_false hjl (p := clOk env ts.length cls) (by rw [hok]; simp [hle])
   rw [if_pos hf] at hr
   subst hr
   refine Run.reg fun K J => ?_
   simp [hlb]
   refine J _ _ _ (nv ?_); clear J
   refine ct (by simp) (nv ?_)
   refine Run.reg fun K J => ?_
   simp
   refine J _ _ _ (nv ?_); clear J
   refine Run.ret ?_
   exact Fin.ret' (h0 := h) (xs := [iA 0, .p (.prim (.slice none 0 0)), iA 6]) (by simp) rfl hh rfl (by simp) rfl (mt_nil 0 6) (by simp [mtA]) ⟨rfl, rfl⟩
 have hje : j = cls.length := by omega
 subst hje
 rw [if_neg (by rw [hall]; simp)] at hr
 refine cf (by simp) ?_
 refine Run.exit rfl ?_
 refine nv ?_
 refine Run.reg fun K J => ?_
 simp
 refine J _ _ _ (nv ?_); clear J
 refine Run.loopS [0, 2, 36, 37] (fun j : Nat => j ≤ cls.length ∧ r = matchR W env ts j (cls.drop j)) (fun j => cls.length - j) (fun j => [(38, iA j)]) (fun _ => h) 0 (by simp [hr]) ?_ rfl ?_
 ·simp
  repeat' first | exact wn | apply wc | exact wj _ | exact wr _ | exact wz _ | exact wo _ _ _ | exact wi (by omega)
 rintro j ⟨hj, hrr⟩ IH2
 simp
 refine nv ?_
 refine Run.reg fun K J => ?_
 simp
 refine J _ _ _ (nv ?_); clear J
 by_cases hjl : j < cls.length
 ·have hgj : cls[j]? = some cls[j] := List.getElem?_eq_getElem hjl
  have hmem := List.getElem_mem hjl
  have hokj := allTo_at hall hjl
  rw [clOk_at hgj] at hokj
  generalize cls[j] = c at hgj hmem hokj
  simp [clBad] at hokj
  have hcz := hs.cs c hmem
  have c1 := match_any env hf hg W G hW _ c.ps ts (Nat.le_refl _) hcz hokj.2 (by omega) hG
  have hrr := matchR_drop hrr hgj
  obtain ⟨ps, ⟨k, i, nm, ls, ks⟩⟩ := c
  simp only at c1 hrr
  generalize matO W env ps ts = o at c1 hrr
  refine ct (by simp [hjl]) (nv ?_)
  refine Run.reg fun K J => ?_
  simp [hgj, Cl.cells]
  refine J _ _ _ (nv ?_); clear J
  refine Run.reg fun K J => ?_
  simp
  refine J _ _ _ ?_; clear J
  refine rl rfl (by first | rfl | simp) (by simp) rfl (c1 _ (hh.app (by simp))) ?_
  refine Run.ops fun K J => ?_
  simp
  refine J _ _ _ (nv ?_); clear J
  refine Run.region ?_
  cases o with
  | mat m =>
   simp only at hrr
   subst hrr
   refine Run.assertHit rfl (by simp [awanted]) Tryz.underlying121 (by simp [Oc.av]; rfl) ?_
   simp
   refine Run.ops fun K J => ?_
   simp
   refine J _ _ _ (nv ?_); clear J
   refine ct (by simp) (nv ?_)
   refine Run.reg fun K J => ?_
   simp
   refine J _ _ _ (nv ?_); clear J
   refine Run.draw [0, 0, 0, 0, 0, 0] [0, 0, 0, 0, 0, 0] [0, 0, 2, 1, 15, 31] [0, 1, 2, 3, 4, 5] (by kernel_rfl) (by kernel_rfl) ?_
   refine DR.go fun K J => ?_
   simp
   refine J _ _ _ _ ?_; clear J
   change Run _ _ _ _ _ _ _ _
   refine Run.ret ?_
   exact Fin.ret' (h0 := h) (by simp) rfl hh rfl (by simp; rfl) rfl (Weak.refl _) (by simp) ⟨rfl, rfl⟩
  | stuck =>
   simp only at hrr
   subst hrr
   refine Run.assertMiss (t0 := 123) (y := .agg []) (z := [.slice none 0 0]) rfl (by simp [awanted]) Tryz.underlying121 (by simp [Oc.av]) (by decide) Tryz.zeroValue121 rfl ?_
   simp
   refine Run.ops fun K J => ?_
   simp
   refine J _ _ _ (nv ?_); clear J
   refine cf (by simp) (nv ?_)
   refine Run.region ?_
   refine Run.assertHit rfl (by simp [awanted]) Tryz.underlying123 (by simp [Oc.av]; rfl) ?_
   simp
   refine Run.ops fun K J => ?_
   simp
   refine J _ _ _ (nv ?_); clear J
   refine ct (by simp) (nv ?_)
   refine Run.reg fun K J => ?_
   simp [ze123, patch]
   refine J _ _ _ (nv ?_); clear J
   refine Run.reg fun K J => ?_
   simp
   refine J _ _ _ (nv ?_); clear J
   refine Run.ret ?_
   exact Fin.ret' (h0 := h) (xs := [iA 0, .p (.prim (.slice none 0 0)), iA 19]) (by simp) rfl hh rfl (by simp) rfl (mt_nil 0 19) (by simp [mtA]) ⟨rfl, rfl⟩
  | given e =>
   simp only at hrr
   subst hrr
   refine Run.assertMiss (t0 := 125) (y := .agg [iA e]) (z := [.slice none 0 0]) rfl (by simp [awanted]) Tryz.underlying121 (by simp [Oc.av]) (by decide) Tryz.zeroValue121 rfl ?_
   simp
   refine Run.ops fun K J => ?_
   simp
   refine J _ _ _ (nv ?_); clear J
   refine cf (by simp) (nv ?_)
   refine Run.region ?_
   refine Run.assertMiss (t0 := 125) (y := .agg [iA e]) (z := []) rfl (by simp [awanted]) Tryz.underlying123 (by simp [Oc.av]) (by decide) Tryz.zeroValue123 rfl ?_
   simp
   refine Run.ops fun K J => ?_
   simp
   refine J _ _ _ (nv ?_); clear J
   refine cf (by simp) (nv ?_)
   refine Run.region ?_
   refine Run.assertHit rfl (by simp [awanted]) Tryz.underlying125 (by simp [Oc.av]; rfl) ?_
   simp
   refine Run.ops fun K J => ?_
   simp
   refine J _ _ _ (nv ?_); clear J
   refine ct (by simp) (nv ?_)
   refine Run.reg fun K J => ?_
   simp
   refine J _ _ _ (nv ?_); clear J
   refine Run.draw [0, 0, 0, 0, 0] [0, 0, 0, 0, 0] [0, 1, 0, 4, 15] [0, 1, 2, 3, 4] (by kernel_rfl) (by kernel_rfl) ?_
   refine DR.go fun K J => ?_
   simp
   refine J _ _ _ _ ?_; clear J
   change Run _ _ _ _ _ _ _ _
   refine Run.ret ?_
   exact Fin.ret' (h0 := h) (xs := [iA 0, .p (.prim (.slice none 0 0)), iA e]) (by simp) rfl hh rfl (by simp) rfl (mt_nil 0 e) (by simp [mtA]) ⟨rfl, rfl⟩
  | failed =>
   simp only at hrr
   refine Run.assertMiss (t0 := 234) (y := .agg []) (z := [.slice none 0 0]) rfl (by simp [awanted]) Tryz.underlying121 (by simp [Oc.av]) (by decide) Tryz.zeroValue121 rfl ?_
   simp
   refine Run.ops fun K J => ?_
   simp
   refine J _ _ _ (nv ?_); clear J
   refine cf (by simp) (nv ?_)
   refine Run.region ?_
   refine Run.assertMiss (t0 := 234) (y := .agg []) (z := []) rfl (by simp [awanted]) Tryz.underlying123 (by simp [Oc.av]) (by decide) Tryz.zeroValue123 rfl ?_
   simp
   refine Run.ops fun K J => ?_
   simp
   refine J _ _ _ (nv ?_); clear J
   refine cf (by simp) (nv ?_)
   refine Run.region ?_
   refine Run.assertMiss (t0 := 234) (y := .agg []) (z := [.int .i64 0]) rfl (by simp [awanted]) Tryz.underlying125 (by simp [Oc.av]) (by decide) Tryz.zeroValue125 rfl ?_
   simp
   refine Run.ops fun K J => ?_
   simp
   refine J _ _ _ (nv ?_); clear J
   refine cf (by simp) (nv ?_)
   refine Run.reg fun K J => ?_
   simp
   try (simp (disch := omega) only [wrap_id])
   refine J _ _ _ (nv ?_); clear J
   refine Run.keep [0, 2, 36, 37, 38] ?_
   simp only [keepT, keepT.go, List.contains_cons]
   simp
   refine Run.cutAt 0 hh rfl (by omega) (by simp) (by simp) (by simp) rfl ?_
   simp
   refine IH2 (j + 1) _ _ ⟨by omega, hrr⟩ (by omega) ?_ (by simp)
   simp
   repeat' first | exact wn | apply wc | exact wj _ | exact wr _ | exact wz _ | exact wo _ _ _ | exact wi (by omega)
 ·have hje : j = cls.length := by omega
  subst hje
  rw [List.drop_length, matchR] at hrr
  subst hrr
  refine cf (by simp) ?_
  refine Run.exit rfl ?_
  refine nv ?_
  refine Run.reg fun K J => ?_
  simp
  refine J _ _ _ (nv ?_); clear J
  refine Run.ret ?_
  exact Fin.ret' (h0 := h) (xs := [iA 0, .p (.prim (.slice none 0 0)), iA 9]) (by simp) rfl hh (List.append_nil _).symm (by simp) rfl (mt_nil 0 9) (by simp [mtA]) ⟨rfl, rfl⟩


open Go Go.AI
def zeroB : List UInt8 := [122, 101, 114, 111]
def succB : List UInt8 := [115, 117, 99, 99]
def natD : Dc := ⟨3, natB, 0, .mk 2 0 [] [⟨0, []⟩] [], zT, 0, [⟨zeroB, natT⟩, ⟨succB, arrowT natT natT⟩], 0, natT, [natT, natT], []⟩
def natE : List Dc := [natD]
theorem natD_ok : declZ [] natD = 0 := by kernel_rfl
theorem natE_fine : EnvFine natE := by
 refine ⟨fun d hd => ?_, fun j d hj => ?_⟩
 ·simp [natE] at hd; subst hd; decide
 ·rcases Nat.eq_zero_or_pos j with e | e
  ·subst e
   simp [natE] at hj
   subst hj
   exact natD_ok
  ·have := (List.getElem?_eq_some_iff.1 hj).1
   simp [natE] at this
   omega
theorem natT_good : natT.good := by simp [Tm.good, natT, Tm.size, Tm.sizes, Tm.fit, Tm.fits, Tm.lvs, Tm.lvss]
theorem arr_eq : arrowT natT natT = .mk 6 0 [] [] [natT, natT] := by kernel_rfl
theorem natE_good : Env.good natE := by
 refine ⟨by simp [natE], fun d hd => ?_⟩
 simp [natE] at hd
 subst hd
 refine ⟨?_, ?_, natT_good, by simp [natD], ?_, by simp [natD], ?_, by simp [natD], by simp [natD]⟩
 ·simp [natD, Tm.good, Tm.size, Tm.sizes, Tm.fit, Tm.fits, Tm.lvs, Tm.lvss]
 ·simp [natD, zT, Tm.good, Tm.size, Tm.sizes, Tm.fit, Tm.fits, Tm.lvs, Tm.lvss]
 ·intro c hc
  simp [natD] at hc
  rcases hc with rfl | rfl
  ·exact natT_good
  ·rw [arr_eq]; simp [natT, Tm.good, Tm.size, Tm.sizes, Tm.fit, Tm.fits, Tm.lvs, Tm.lvss]
 ·intro t ht
  simp [natD] at ht
  rcases ht with rfl | rfl <;> exact natT_good
theorem naturals_any (h : Heap) (hh : WF h) : ACalls Tryz.prog 67 [] h fun o h' => o = .ret (envA natE) ∧ h' = h := by
 have c0 := fun (g : Heap) (hw : WF g) => arrow66_any g hw natT natT (by simp [natT, natB, Tm.ok, Tm.oks, Tm.okN]) (by decide)
 rw [arr_eq] at c0
 have hwk : Weak (.agg [iA 3, iA 0, .p (sP natB), .p (.prim (.slice none 0 0)), .p (.prim (.slice none 0 0))]) natT.av := by
  simp only [natT, Tm.av, cells_mk, List.map, lvPs, tmPs]
  exact Weak.agg (WeakL.cons (Weak.refl _) (WeakL.cons (Weak.refl _) (WeakL.cons (Weak.refl _) (WeakL.cons (Weak.nil _) (WeakL.cons (Weak.nil _) WeakL.nil)))))
 have c1 := fun (g : Heap) (hw : WF g) => ACalls.weak (WeakL.cons hwk (WeakL.cons hwk WeakL.nil)) (c0 g hw)
 simp only [natB, natT, Tm.av, cells_mk, List.map, lvPs, tmPs] at c1
 refine ACalls.of_run Tryz.func67 rfl ?_
 simp only [Tryz.ntmps67, List.length_nil]
 refine nv ?_
 refine Run.reg fun K J => ?_
 simp
 refine J _ _ _ (nv ?_); clear J
 refine Run.reg fun K J => ?_
 simp
 refine J _ _ _ (nv ?_); clear J
 refine PC.Run.drawP (pc := [7]) [0, 0, 0, 0, 0, 0, 0, 0, 0, 0, 0, 0, 0, 0, 0, 0, 0, 0] [0, 0, 0, 0, 0, 0, 0, 0, 0, 0, 0, 0, 0, 0, 0, 0, 0, 0] [0, 1, 3, 0, 8, 0, 0, 96, 224, 504, 0, 0, 0, 6144, 15360, 32767, 65535, 131071] [0, 1, 2, 3, 4, 5, 6, 7, 8, 9, 10, 11, 12, 13, 14, 15, 16, 17] (by kernel_rfl) (by kernel_rfl) ?_
 refine PC.DR.go fun K J => ?_
 simp
 refine J _ _ _ _ ?_; clear J
 refine PC.DR.pcall rfl rfl rfl (by simp) rfl rfl (fun g hg => (c1) g ?_) ?_
 ·simp at hg; (first | (rcases hg with rfl | rfl | rfl | rfl) | (rcases hg with rfl | rfl | rfl) | (rcases hg with rfl | rfl) | subst hg) <;> exact hh.app (by simp)
 refine PC.DR.go fun K J => ?_
 simp
 refine J _ _ _ _ ?_; clear J
 change Run _ _ _ _ _ _ _ _
 refine Run.ret ?_
 refine Fin.ret' (h0 := h) (y := envA natE) (by simp) rfl hh rfl (by simp; rfl) rfl ?_ (by simp) ⟨rfl, rfl⟩
 show Weak (.p _) (.p _)
 refine WeakP.av ?_
 simp only [natE, natD, natT, natB, zeroB, succB, zT, Dc.cells, Ct.cells, Lv.cells, cells_mk, List.map, lvPs, tmPs, List.cons_append, List.nil_append]
 repeat (first | exact WeakP.refl _ | exact WeakP.nil _ | exact WeakPs.nil | exact WeakPL.nil | refine WeakP.sl ?_ | refine WeakPs.cons ?_ ?_ | refine WeakPL.cons ?_ ?_)
theorem ctor68_any (h : Heap) (hh : WF h) (n : List UInt8) (qs : List Pt) : ACalls Tryz.prog 68 [.p (sP n), .p (.sl 3 (ptPs qs))] h fun o h' => o = .ret (Pt.mk 1 n qs).av ∧ h' = h := by
 refine ACalls.of_run Tryz.func68 rfl ?_
 simp only [Tryz.ntmps68, List.length_cons, List.length_nil]
 refine nv ?_
 refine Run.reg fun K J => ?_
 simp
 refine J _ _ _ (nv ?_); clear J
 refine Run.reg fun K J => ?_
 simp
 refine J _ _ _ (nv ?_); clear J
 refine Run.ret ?_
 exact Fin.ret' (h0 := h) (by simp) rfl hh rfl (by simp; rfl) rfl (Weak.refl _) (by simp) ⟨rfl, rfl⟩


open Go Go.AI
theorem applyT_snoc (t : Tm) (l : List Tm) (a : Tm) : applyT t (l ++ [a]) = appT (applyT t l) a := by
 simp [applyT]
theorem apply_spine {t : Tm} (h : isB 4 t = none) (l : List Tm) : resSpine (applyT t l) = (t, l) := by
 have : ∀ (n : Nat) (l : List Tm), l.length = n → resSpine (applyT t l) = (t, l) := by
  intro n
  induction n with
  | zero => intro l hl; rw [List.length_eq_zero_iff] at hl; subst hl; exact resSpine_end h
  | succ n ih =>
   intro l hl
   obtain ⟨m, a, rfl⟩ : ∃ m a, l = m ++ [a] := ⟨l.dropLast, l.getLast (by intro h0; simp [h0] at hl), (List.dropLast_concat_getLast _).symm⟩
   rw [applyT_snoc, resSpine_step (f := applyT t m) (a := a) (by simp [appT, isB]), ih m (by simpa using hl)]
 exact this _ l rfl


open Go Go.AI
def sameQ (a b : List Tm) : Bool := decide (a.length = b.length) && sameTs a b
theorem sameTerms_any (a b : List Tm) (hsz : Tm.sizes a ≤ 1048576) (hlv : Tm.lvss a) (hb : b.length ≤ 1048576) (h : Heap) (hh : WF h) : ACalls Tryz.prog 25 [.p (.sl 5 (tmPs a)), .p (.sl 5 (tmPs b))] h fun o h' => o = .ret (bA (sameQ a b)) ∧ h' = h := by
 have hll := length_le_sizes a
 obtain ⟨r, hr⟩ : ∃ r, sameQ a b = r := ⟨_, rfl⟩
 rw [hr]
 unfold sameQ at hr
 rw [sameTs_at] at hr
 refine ACalls.of_run Tryz.func25 rfl ?_
 simp only [Tryz.ntmps25, List.length_cons, List.length_nil]
 refine nv ?_
 refine Run.reg fun K J => ?_
 simp
 refine J _ _ _ (nv ?_); clear J
 by_cases hl : a.length = b.length
 rotate_left
 ·have hlb : ((a.length : Int) != (b.length : Int)) = true := by simp; omega
  rw [decide_eq_false hl] at hr
  simp at hr
  subst hr
  refine Run.reg fun K J => ?_
  simp [hlb]
  refine J _ _ _ (nv ?_); clear J
  refine ct (by simp) (nv ?_)
  refine Run.reg fun K J => ?_
  simp
  refine J _ _ _ (nv ?_); clear J
  refine Run.ret ?_
  exact Fin.ret' (by simp) rfl hh (List.append_nil _).symm rfl rfl (Weak.refl _) rfl ⟨rfl, rfl⟩
 rw [decide_eq_true hl, Bool.true_and] at hr
 refine Run.reg fun K J => ?_
 simp [hl]
 refine J _ _ _ (nv ?_); clear J
 refine cf (by simp) (nv ?_)
 refine Run.reg fun K J => ?_
 simp
 refine J _ _ _ (nv ?_); clear J
 refine Run.loopS [0, 1] (fun j : Nat => j ≤ a.length ∧ allTo (tmsAt a b) j = true) (fun j => a.length - j) (fun j => [(5, iA j)]) (fun _ => h) 0 (by simp [allTo]) ?_ rfl ?_
 ·simp
  repeat' first | exact wn | apply wc | exact wj _ | exact wr _ | exact wz _ | exact wo _ _ _ | exact wi (by omega)
 rintro j ⟨hj, hall⟩ IH
 simp
 refine nv ?_
 refine Run.reg fun K J => ?_
 simp
 refine J _ _ _ (nv ?_); clear J
 by_cases hjl : j < a.length
 ·have hga : a[j]? = some a[j] := List.getElem?_eq_getElem hjl
  have hgb : b[j]? = some (b[j]'(by omega)) := List.getElem?_eq_getElem (by omega)
  have hma := List.getElem_mem hjl
  have hs := sizes_take a j _ hga
  have hs2 := sizes_take_le a (j + 1)
  have hlvj := Tm.lvss_at hlv _ hma
  generalize a[j] = x at hga hma hs hlvj
  generalize b[j] = y at hgb
  have c1 := fun (g : Heap) (hw : WF g) => same_any x.size x y g (Nat.le_refl _) (by omega) hlvj hw
  have hta : tmsAt a b j = sameT x y := by simp [tmsAt, hga, hgb]
  generalize sameT x y = s at c1 hta
  obtain ⟨k, i, n, ls, ks⟩ := x
  obtain ⟨k2, i2, n2, ls2, ks2⟩ := y
  simp only [Tm.av, cells_mk, List.map] at c1
  refine ct (by simp [hjl]) (nv ?_)
  refine PC.Run.drawP (pc := [8]) [0, 0, 0, 0, 0, 0, 0, 0, 0, 0] [0, 0, 0, 0, 0, 0, 0, 0, 0, 0] [0, 0, 3, 7, 0, 0, 48, 112, 255, 511] [0, 1, 2, 3, 4, 5, 6, 7, 8, 9] (by kernel_rfl) (by kernel_rfl) ?_
  refine PC.DR.go fun K J => ?_
  simp [hga, hgb]
  refine J _ _ _ _ ?_; clear J
  refine PC.DR.pcall rfl rfl rfl (by simp) rfl rfl (fun g hg => c1 g ?_) ?_
  ·simp at hg
   subst hg
   exact hh
  refine PC.DR.go fun K J => ?_
  simp
  refine J _ _ _ _ ?_; clear J
  change Run _ _ _ _ _ _ _ _
  cases s with
  | false =>
   have := allTo_false hjl hta
   rw [this] at hr
   subst hr
   refine ct (by simp) (nv ?_)
   refine Run.reg fun K J => ?_
   simp
   refine J _ _ _ (nv ?_); clear J
   refine Run.ret ?_
   exact Fin.ret' (by simp) rfl hh (List.append_nil _).symm rfl rfl (Weak.refl _) rfl ⟨rfl, rfl⟩
  | true =>
   refine cf (by simp) (nv ?_)
   refine Run.reg fun K J => ?_
   simp
   try (simp (disch := omega) only [wrap_id])
   refine J _ _ _ (nv ?_); clear J
   refine IH (j + 1) _ _ ⟨by omega, by rw [allTo_succ, hall, hta]; rfl⟩ (by omega) ?_ rfl
   simp
   repeat' first | exact wn | apply wc | exact wj _ | exact wr _ | exact wz _ | exact wo _ _ _ | exact wi (by omega)
 ·have hje : j = a.length := by omega
  subst hje
  rw [hall] at hr
  subst hr
  refine cf (by simp) ?_
  refine Run.exit rfl ?_
  refine nv ?_
  refine Run.reg fun K J => ?_
  simp
  refine J _ _ _ (nv ?_); clear J
  refine Run.ret ?_
  exact Fin.ret' (by simp) rfl hh (List.append_nil _).symm rfl rfl (Weak.refl _) rfl ⟨rfl, rfl⟩
def sucT (t : Tm) : Tm := appT (.mk 3 0 succB [] []) t
def zroT : Tm := .mk 3 0 zeroB [] []
theorem awake1_any (h : Heap) (hh : WF h) (t : Tm) : ACalls Tryz.prog 69 [t.av] h fun o h' => o = .ret (sucT t).av ∧ h' = h := by
 obtain ⟨k, i, n, ls, ks⟩ := t
 refine ACalls.of_run Tryz.func69 rfl ?_
 simp only [Tryz.ntmps69, List.length_cons, List.length_nil, Tm.av, cells_mk, List.map]
 refine nv ?_
 refine Run.reg fun K J => ?_
 simp
 refine J _ _ _ (nv ?_); clear J
 refine Run.reg fun K J => ?_
 simp
 refine J _ _ _ (nv ?_); clear J
 refine Run.ret ?_
 refine Fin.ret' (h0 := h) (y := (sucT (.mk k i n ls ks)).av) (by simp) rfl hh rfl (by simp; rfl) rfl ?_ (by simp) ⟨rfl, rfl⟩
 simp only [sucT, appT, Tm.av, cells_mk, List.map, lvPs, tmPs]
 refine Weak.agg (WeakL.cons (Weak.refl _) (WeakL.cons (Weak.refl _) (WeakL.cons (Weak.refl _) (WeakL.cons (Weak.nil _) (WeakL.cons (WeakP.av (WeakP.sl ?_)) WeakL.nil)))))
 repeat (first | exact WeakP.refl _ | exact WeakP.nil _ | exact WeakPs.nil | exact WeakPL.nil | refine WeakP.sl ?_ | refine WeakPs.cons ?_ ?_ | refine WeakPL.cons ?_ ?_)
def awG (t : Tm) : Prop := t = sucT (vr 3) ∨ t = sucT (vr 5) ∨ t = vr 3 ∨ t = vr 5 ∨ t = zroT
theorem find_succ : (resFind natE succB).1.k = 4 := by kernel_rfl
theorem find_zero : (resFind natE zeroB).1.k = 4 := by kernel_rfl
theorem sp3 : resSpine (sucT (vr 3)) = (.mk 3 0 succB [] [], [vr 3]) := by kernel_rfl
theorem sp5 : resSpine (sucT (vr 5)) = (.mk 3 0 succB [] [], [vr 5]) := by kernel_rfl
theorem sp3' : resSpine (vr 3) = (vr 3, []) := by kernel_rfl
theorem sp5' : resSpine (vr 5) = (vr 5, []) := by kernel_rfl
theorem spz : resSpine zroT = (zroT, []) := by kernel_rfl
theorem awG_stuck : ∀ t, awG t → stuckT natE t := by
 intro t ht
 rcases ht with rfl | rfl | rfl | rfl | rfl
 ·exact ⟨by decide, by rw [sp3]; simp, by rw [sp3]; exact ⟨by decide, by decide, by decide, by decide, fun _ => .inr (.inr (.inr (.inr find_succ)))⟩⟩
 ·exact ⟨by decide, by rw [sp5]; simp, by rw [sp5]; exact ⟨by decide, by decide, by decide, by decide, fun _ => .inr (.inr (.inr (.inr find_succ)))⟩⟩
 ·exact ⟨by decide, by decide, by decide, by decide, by decide, by decide, fun h => absurd h (by decide)⟩
 ·exact ⟨by decide, by decide, by decide, by decide, by decide, by decide, fun h => absurd h (by decide)⟩
 ·exact ⟨by decide, by decide, by decide, by decide, by decide, by decide, fun _ => .inr (.inr (.inr (.inr find_zero)))⟩
theorem awW : WOk natE (fun t => (t, 0)) awG := by
 refine ⟨fun t ht h hh => ?_, fun t ht _ => ?_, fun t ht _ a ha => ?_⟩
 ·refine whnf173_any natE t t 20000 (fun H q hw hq => ?_) h hh
  refine (whnfStuck_any natE natE_good natE_fine.1 t (awG_stuck t ht) q 20000 H hw hq).mono ?_
  rintro o h' ⟨rfl, rfl⟩
  refine ⟨rfl, ?_⟩
  obtain ⟨hl, e⟩ := List.getElem?_eq_some_iff.1 hq
  rw [← e, List.set_getElem_self]
 ·have := (awG_stuck t ht).1
  simp only
  omega
 ·simp only at ha
  rcases ht with rfl | rfl | rfl | rfl | rfl
  ·rw [sp3] at ha; simp at ha; subst ha; exact .inr (.inr (.inl rfl))
  ·rw [sp5] at ha; simp at ha; subst ha; exact .inr (.inr (.inr (.inl rfl)))
  ·rw [sp3'] at ha; simp at ha
  ·rw [sp5'] at ha; simp at ha
  ·rw [spz] at ha; simp at ha

end Go.Proofs.YtcfcolkbeelegaaGreat
