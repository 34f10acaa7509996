/-
  The law's awake.
-/
import Derived.Shelf.Strings.OnBuilder
import Derived.Lib.Join
import Derived.Test.YtcfcolkbeelegaaGreatMPQ
import Derived.Test.YtcfcolkbeelegaaGreatMFK
import Derived.Test.YtcfcolkbeelegaaGreatMPE
import Derived.Test.YtcfcolkbeelegaaGreatMX3
import Derived.Test.YtcfcolkbeelegaaGreatMH8
import Derived.Test.YtcfcolkbeelegaaGreatMFV
import Derived.Test.YtcfcolkbeelegaaGreatMFI
import Derived.Test.YtcfcolkbeelegaaGreatMT7
import Derived.Test.YtcfcolkbeelegaaGreatMG1
import Derived.Test.YtcfcolkbeelegaaGreatME11

namespace Go.AI

open Go Go.Shelf Go.Proofs
def strsE (l : List (List UInt8)) : List (List PV) := l.map fun s => [.prim (.string ⟨s.toArray⟩)]
theorem repEs_strs {E w b} : ∀ {l : List (List UInt8)} {off : Nat}, RepEs E w b 1 off (strsE l) → ∀ (j : Nat) (x : ByteArray), (l.map fun s => (⟨s.toArray⟩ : ByteArray))[j]? = some x → w.cell? ⟨b, off + j, none⟩ = some (.string x)
 | [], _, _, j, x, hj => by simp at hj
 | z :: l, off, r, j, x, hj => by
  simp only [strsE, List.map_cons, RepEs, RepAt, RepP] at r
  obtain ⟨_, ⟨v, _, hv, ⟨rfl, _⟩, _⟩, r⟩ := r
  cases j with
  | zero => simp at hj; subst hj; simpa using hv
  | succ j =>
   have := repEs_strs (l := l) r j x (by simpa using hj)
   rw [show off + (j + 1) = off + 1 + j by omega]
   exact this
theorem join_calls {P : Program} {ρ : Ren} (L : Lays.n156 P ρ) (X : Builder.Extra P ρ) {h : Heap} (xs : List (List UInt8)) (sep : List UInt8) (hN : xs.length ≤ 140737488355328) (hlen : (Lib.join xs sep).length ≤ 140737488355328) :
  ACalls P (ρ.f 156) [.p (.sl 1 (strsE xs)), .p (.prim (.string ⟨sep.toArray⟩))] h fun out h' => out = .ret (.p (.prim (.string ⟨(Lib.join xs sep).toArray⟩))) ∧ h' = h := by
 intro E w vs hrel hfresh hargs
 simp only [RepL, Rep, RepP] at hargs
 obtain ⟨v, us, rfl, ⟨a, cap, rfl, hcap, hr⟩, v2, us2, rfl, ⟨rfl, _⟩, rfl⟩ := hargs
 have hl : (strsE xs).length = xs.length := by simp [strsE]
 have hmap : ((xs.map fun s => (⟨s.toArray⟩ : ByteArray)).map (·.data.toList)) = xs := by simp [List.map_map, Function.comp_def]
 rcases hr with h0 | ⟨b, off, rfl, hr⟩
 ·have : xs = [] := by simpa [strsE] using h0
  subst this
  refine Calls.mono (Any.strings_Join_none L X a cap ⟨sep.toArray⟩ w) ?_
  rintro e w' ⟨rfl, rfl⟩
  exact ⟨_, _, E, ⟨rfl, rfl⟩, hrel, hfresh, ⟨_, rfl, by simp [Rep, RepP, isPrim, Lib.join_nil]⟩, Fr.refl _ _ _⟩
 ·by_cases hx : xs = []
  ·subst hx
   refine Calls.mono (Any.strings_Join_none L X _ cap ⟨sep.toArray⟩ w) ?_
   rintro e w' ⟨rfl, rfl⟩
   exact ⟨_, _, E, ⟨rfl, rfl⟩, hrel, hfresh, ⟨_, rfl, by simp [Rep, RepP, isPrim, Lib.join_nil]⟩, Fr.refl _ _ _⟩
  ·have hb : b < w.heap.size := by
    obtain ⟨x, r, rfl⟩ := List.exists_cons_of_ne_nil hx
    simp only [strsE, List.map_cons, RepEs, RepAt] at hr
    obtain ⟨_, ⟨_, hro, _⟩, _⟩ := hr
    exact hrel.lt b off hro
   have hc := Any.strings_Join L X b off cap (xs.map fun s => ⟨s.toArray⟩) ⟨sep.toArray⟩ w (repEs_strs hr) hb (by simpa using hN) (by simpa [strsE] using hcap) (by rw [hmap]; exact hlen)
   rw [hmap] at hc
   have e1 : (xs.map fun s => (⟨s.toArray⟩ : ByteArray)).length = (strsE xs).length := by simp [strsE]
   rw [e1] at hc
   refine Calls.mono hc ?_
   rintro e w' ⟨rfl, hB⟩
   obtain ⟨r2, f2⟩ := hrel.below hB
   refine ⟨_, _, _, ⟨rfl, rfl⟩, r2, ?_, ⟨_, rfl, by simp [Rep, RepP, isPrim]⟩, f2⟩
   exact fun i hi => hfresh i hi

end Go.AI

namespace Go.Proofs.YtcfcolkbeelegaaGreat

open Go Go.AI

mutual
def textP : Pt → List UInt8
 | .mk k n qs => if k = 0 then [95] else if k = 2 then [46, 95] else if k = 3 then [40, 41] else if k = 1 then (if qs = [] then n else 40 :: (n ++ textT qs ++ [41])) else []
def textT : List Pt → List UInt8
 | [] => []
 | p :: ps => 32 :: (textP p ++ textT ps)
end
theorem textT_join (n : List UInt8) (l : List Pt) : Lib.join (n :: l.map textP) [32] = n ++ textT l := by
 rw [Lib.join_cons]
 congr 1
 induction l with
 | nil => rfl
 | cons p l ih => simp only [List.map_cons, Lib.joinTail, List.flatten_cons, textT] at ih ⊢; rw [ih]; simp
theorem textT_mem {l : List Pt} {p : Pt} (h : p ∈ l) : (textP p).length ≤ (textT l).length := by
 induction l with
 | nil => simp at h
 | cons q l ih =>
  simp only [textT, List.length_cons, List.length_append]
  rcases List.mem_cons.1 h with rfl | h
  ·omega
  ·have := ih h; omega
theorem joinW_any (h : Heap) (xs : List (List UInt8)) (sep : List UInt8) (hN : xs.length ≤ 140737488355328) (hlen : (Lib.join xs sep).length ≤ 140737488355328) :
  ACalls Tryz.prog 87 [.p (.sl 1 (strPs xs)), .p (sP sep)] h fun o h' => o = .ret (.p (sP (Lib.join xs sep))) ∧ h' = h := join_calls lays156 lays156X xs sep hN hlen
set_option maxRecDepth 8000 in
set_option maxHeartbeats 16000000 in
theorem ptext_any (N : Nat) : ∀ (p : Pt), p.size ≤ N → p.size ≤ 1048576 → (textP p).length ≤ 1099511627776 → ∀ h, WF h → ACalls Tryz.prog 39 [p.av] h fun o h' => o = .ret (.p (sP (textP p))) ∧ h' = h := by
 induction N with
 | zero => intro p hp; have := p.size_pos; omega
 | succ N ih =>
 intro p hp hB hL h hh
 obtain ⟨k, n, qs⟩ := p
 simp only [Pt.size] at hp hB
 obtain ⟨r, hr⟩ : ∃ r, textP (.mk k n qs) = r := ⟨_, rfl⟩
 rw [hr] at hL ⊢
 rw [textP] at hr
 simp only [Pt.av, pcells_mk, List.map]
 have hql := psz_len qs
 refine ACalls.of_run Tryz.func39 rfl ?_
 simp only [Tryz.ntmps39, List.length_cons, List.length_nil]
 refine nv ?_
 refine Run.reg fun K hK => ?_
 simp
 try (simp (disch := omega) only [wrap_id])
 refine hK _ _ _ (nv ?_); clear hK K
 refine Run.reg fun K hK => ?_
 simp
 try (simp (disch := omega) only [wrap_id])
 refine hK _ _ _ (nv ?_); clear hK K
 refine Run.reg fun K hK => ?_
 simp
 try (simp (disch := omega) only [wrap_id])
 refine hK _ _ _ (nv ?_); clear hK K
 by_cases k0 : k = 0
 ·subst k0
  rw [if_pos rfl] at hr; subst hr
  refine nv ?_
  refine ct (by simp) (nv ?_)
  refine Run.reg fun K hK => ?_
  simp
  try (simp (disch := omega) only [wrap_id])
  refine hK _ _ _ (nv ?_); clear hK K
  refine Run.ret ?_
  exact Fin.ret' (h0 := h) (by simp) rfl hh rfl (by simp; rfl) rfl (Weak.refl _) (by simp) ⟨by simp, rfl⟩
 have k0b : (k == (0 : Int)) = false := by simpa using k0
 rw [if_neg k0] at hr
 refine nv ?_
 refine cf (by simp [k0b]) (nv ?_)
 refine Run.reg fun K hK => ?_
 simp
 try (simp (disch := omega) only [wrap_id])
 refine hK _ _ _ (nv ?_); clear hK K
 by_cases k2 : k = 2
 ·subst k2
  rw [if_pos rfl] at hr; subst hr
  refine nv ?_
  refine ct (by simp) (nv ?_)
  refine Run.reg fun K hK => ?_
  simp
  try (simp (disch := omega) only [wrap_id])
  refine hK _ _ _ (nv ?_); clear hK K
  refine Run.ret ?_
  exact Fin.ret' (h0 := h) (by simp) rfl hh rfl (by simp; rfl) rfl (Weak.refl _) (by simp) ⟨by simp, rfl⟩
 have k2b : (k == (2 : Int)) = false := by simpa using k2
 rw [if_neg k2] at hr
 refine nv ?_
 refine cf (by simp [k2b]) (nv ?_)
 refine Run.reg fun K hK => ?_
 simp
 try (simp (disch := omega) only [wrap_id])
 refine hK _ _ _ (nv ?_); clear hK K
 by_cases k3 : k = 3
 ·subst k3
  rw [if_pos rfl] at hr; subst hr
  refine nv ?_
  refine ct (by simp) (nv ?_)
  refine Run.reg fun K hK => ?_
  simp
  try (simp (disch := omega) only [wrap_id])
  refine hK _ _ _ (nv ?_); clear hK K
  refine Run.ret ?_
  exact Fin.ret' (h0 := h) (by simp) rfl hh rfl (by simp; rfl) rfl (Weak.refl _) (by simp) ⟨by simp, rfl⟩
 have k3b : (k == (3 : Int)) = false := by simpa using k3
 rw [if_neg k3] at hr
 refine nv ?_
 refine cf (by simp [k3b]) (nv ?_)
 refine Run.reg fun K hK => ?_
 simp
 try (simp (disch := omega) only [wrap_id])
 refine hK _ _ _ (nv ?_); clear hK K
 by_cases k1 : k = 1
 rotate_left
 ·have k1b : (k == (1 : Int)) = false := by simpa using k1
  rw [if_neg k1] at hr; subst hr
  refine nv ?_
  refine cf (by simp [k1b]) (nv ?_)
  refine Run.reg fun K hK => ?_
  simp
  try (simp (disch := omega) only [wrap_id])
  refine hK _ _ _ (nv ?_); clear hK K
  refine Run.ret ?_
  exact Fin.ret' (h0 := h) (by simp) rfl hh rfl (by simp; rfl) rfl (Weak.refl _) (by simp) ⟨by simp, rfl⟩
 subst k1
 rw [if_pos rfl] at hr
 refine nv ?_
 refine ct (by simp) (nv ?_)
 refine Run.regPre 2 fun K hK => ?_
 simp only [List.take_succ_cons, List.take_zero]
 simp
 try (simp (disch := omega) only [wrap_id])
 refine hK _ _ _ ?_; clear hK K
 simp only [List.nil_append, List.drop_succ_cons, List.drop_zero]
 refine Run.buildV (sz := 1) (es := [[sP n]]) rfl (by simp [awanted]) (by simp) (by simp) ?_
 simp
 refine Run.ops fun K hK => ?_
 simp
 try (simp (disch := omega) only [wrap_id])
 refine hK _ _ _ (nv ?_); clear hK K
 refine Run.reg fun K hK => ?_
 simp
 try (simp (disch := omega) only [wrap_id])
 refine hK _ _ _ (nv ?_); clear hK K
 have hqb : qs ≠ [] → (textT qs).length + n.length + 2 ≤ 1099511627776 := fun hne => by
  rw [if_neg hne] at hr
  rw [← hr] at hL
  simp at hL
  omega
 refine Run.loopS [1, 20, 21] (fun j : Nat => j ≤ qs.length) (fun j => qs.length - j) (fun j => [(3, .vec (h.length + 1) (j + 1)), (22, iA j)])
  (fun j => h ++ [some (.cells [iA 1, .p (sP n), .p (.sl 3 (ptPs qs))]), some (.vec 1 (strPs (n :: (qs.take j).map textP)))]) 0 (by simp) ?_ (by simp [strPs]) ?_
 ·simp
  repeat' (first | exact WeakL.nil | apply WeakL.cons)
  all_goals first | exact Weak.junk _ | exact Weak.refl _ | exact Weak.nil _ | exact Weak.own _ _ _ | exact Weak.int (by omega)
 rintro j hj IH
 simp
 refine nv ?_
 refine Run.reg fun K hK => ?_
 simp
 try (simp (disch := omega) only [wrap_id])
 refine hK _ _ _ (nv ?_); clear hK K
 by_cases hjl : j < qs.length
 ·have hg : qs[j]? = some qs[j] := List.getElem?_eq_getElem hjl
  have hmem := List.getElem_mem hjl
  have htk : qs.take (j + 1) = qs.take j ++ [qs[j]] := List.take_succ_eq_append_getElem hjl
  have hmin : min j qs.length = j := Nat.min_eq_left hj
  generalize qs[j] = q at hg hmem htk
  have hsz := Pt.size_at hmem
  have hne : qs ≠ [] := by intro e; subst e; simp at hjl
  have hqb := hqb hne
  have hml := textT_mem hmem
  have c1 := ih q (by omega) (by omega) (by omega)
  obtain ⟨pk, pn, ps⟩ := q
  simp only [Pt.av, pcells_mk, List.map] at c1
  obtain ⟨tx, htx⟩ : ∃ tx, textP (Pt.mk pk pn ps) = tx := ⟨_, rfl⟩
  rw [htx] at c1 hml
  refine nv ?_
  refine ct (by simp [hjl]) (nv ?_)
  refine Run.reg fun K hK => ?_
  simp [hg, pcells_mk]
  try (simp (disch := omega) only [wrap_id])
  refine hK _ _ _ (nv ?_); clear hK K
  refine Run.reg fun K hK => ?_
  simp
  try (simp (disch := omega) only [wrap_id])
  refine hK _ _ _ (nv ?_); clear hK K
  refine rc rfl (by first | rfl | simp) (by simp) rfl (c1 _ (hh.app (by simp))) ?_
  refine Run.opsPre 1 fun K hK => ?_
  simp only [List.take_succ_cons, List.take_zero]
  simp
  try (simp (disch := omega) only [wrap_id])
  refine hK _ _ _ ?_; clear hK K
  simp only [List.nil_append, List.drop_succ_cons, List.drop_zero]
  refine Run.appendV (id := h.length + 1) (es := strPs (n :: (qs.take j).map textP)) (ys := [[sP tx]]) (sz := 1) (by_ := 16) (e := 9) rfl (by simp [awanted]) rfl rfl rfl rfl (by simp [hmin]) (by simp) (strPs_len1 _) (by simp) (by simp) (by simp) (by simp; omega) (by simp; omega) ?_
  simp [hmin]
  refine Run.ops fun K hK => ?_
  simp
  try (simp (disch := omega) only [wrap_id])
  refine hK _ _ _ (nv ?_); clear hK K
  refine Run.keep [1, 3, 20, 21, 22] ?_
  simp only [keepT, keepT.go, List.contains_cons]
  simp
  refine Run.cutAt 2 hh rfl (by omega) (by simp) (by simp) (by simp) rfl ?_
  simp
  refine nv ?_
  refine Run.reg fun K hK => ?_
  simp
  try (simp (disch := omega) only [wrap_id])
  refine hK _ _ _ (nv ?_); clear hK K
  refine IH (j + 1) _ _ (by omega) (by omega) ?_ ?_
  ·simp
   repeat' (first | exact WeakL.nil | apply WeakL.cons)
   all_goals first | exact Weak.junk _ | exact Weak.refl _ | exact Weak.nil _ | exact Weak.own _ _ _ | exact Weak.int (by omega)
  ·rw [htk]; simp [strPs, htx]
 ·have hje : j = qs.length := by omega
  subst hje
  have htl : List.take qs.length (qs.map textP) = qs.map textP := List.take_of_length_le (by simp)
  rw [htl]
  refine nv ?_
  refine cf (by simp) (nv ?_)
  refine Run.exit rfl ?_
  refine nv ?_
  refine Run.keep [1, 3] ?_
  simp only [keepT, keepT.go, List.contains_cons]
  simp
  refine Run.freezeV 3 (id := h.length + 1) (n := qs.length + 1) (sz := 1) (es := strPs (n :: qs.map textP)) (by simp) (by simp) (strPs_len1 _) (by simp) ?_
  simp
  by_cases hq0 : qs = []
  ·subst hq0
   rw [if_pos rfl] at hr; subst hr
   refine nv ?_
   refine Run.reg fun K hK => ?_
   simp
   try (simp (disch := omega) only [wrap_id])
   refine hK _ _ _ (nv ?_); clear hK K
   refine ct (by simp) (nv ?_)
   refine Run.reg fun K hK => ?_
   simp
   try (simp (disch := omega) only [wrap_id])
   refine hK _ _ _ (nv ?_); clear hK K
   refine Run.ret ?_
   exact Fin.ret' (h0 := h) (by simp) rfl hh rfl (by simp; rfl) rfl (Weak.refl _) (by simp) ⟨by simp, rfl⟩
  ·have hqb := hqb hq0
   rw [if_neg hq0] at hr
   have hlb : ((qs.length : Int) + 1 == 1) = false := by
    have : 0 < qs.length := List.length_pos_iff.2 hq0
    simp; omega
   have hjn := textT_join n qs
   have c2 := joinW_any (h ++ [some (.cells [iA 1, .p (sP n), .p (.sl 3 (ptPs qs))]), none]) (n :: qs.map textP) [32] (by simp; omega) (by rw [hjn]; simp; omega)
   rw [hjn] at c2
   have hb1 : 1 + (n.length + (textT qs).length) ≤ 9223372036854775807 := by omega
   refine nv ?_
   refine Run.reg fun K hK => ?_
   simp [hlb]
   try (simp (disch := omega) only [wrap_id])
   refine hK _ _ _ (nv ?_); clear hK K
   refine cf (by simp) (nv ?_)
   refine Run.reg fun K hK => ?_
   simp
   try (simp (disch := omega) only [wrap_id])
   refine hK _ _ _ (nv ?_); clear hK K
   refine Run.call rfl (by first | rfl | simp) (by simp) rfl (c2) ?_ ?_
   rotate_left
   ·rintro v h' ⟨hv, _⟩; cases hv
   rintro v h' ⟨hv, rfl⟩
   simp only [AOut.ret.injEq] at hv
   subst hv
   have hb2 : n.length + (textT qs).length + 1 + 1 ≤ 9223372036854775807 := by omega
   refine Run.ops fun K hK => ?_
   simp [hb1, hb2]
   try (simp (disch := omega) only [wrap_id])
   refine hK _ _ _ (nv ?_); clear hK K
   refine Run.ret ?_
   subst hr
   exact Fin.ret' (h0 := h) (by simp) rfl hh rfl (by simp; rfl) rfl (Weak.refl _) (by simp) ⟨by simp, rfl⟩

end Go.Proofs.YtcfcolkbeelegaaGreat

namespace Go.Proofs.YtcfcolkbeelegaaGreat

open Go Go.AI
def zeroB : List UInt8 := [122, 101, 114, 111]
def succB : List UInt8 := [115, 117, 99, 99]
def natD : Dc := ⟨3, natB, 0, .mk 2 0 [] [⟨0, []⟩] [], zT, 0, [⟨zeroB, natT⟩, ⟨succB, arrowT natT natT⟩], 0, natT, [natT, natT], []⟩
def natE : List Dc := [natD]
theorem natD_ok : declZ [] natD = 0 := by kernel_rfl
theorem natE_fine : EnvFine natE := by
 refine ⟨fun d hd => ?_, fun j d hj => ?_⟩
 ·simp [natE] at hd; subst hd; decide
 ·rcases Nat.eq_zero_or_pos j with e | e
  ·subst e
   simp [natE] at hj
   subst hj
   exact natD_ok
  ·have := (List.getElem?_eq_some_iff.1 hj).1
   simp [natE] at this
   omega
theorem natT_good : natT.good := by simp [Tm.good, natT, Tm.size, Tm.sizes, Tm.fit, Tm.fits, Tm.lvs, Tm.lvss]
theorem arr_eq : arrowT natT natT = .mk 6 0 [] [] [natT, natT] := by kernel_rfl
theorem natE_good : Env.good natE := by
 refine ⟨by simp [natE], fun d hd => ?_⟩
 simp [natE] at hd
 subst hd
 refine ⟨?_, ?_, natT_good, by simp [natD], ?_, by simp [natD], ?_, by simp [natD], by simp [natD]⟩
 ·simp [natD, Tm.good, Tm.size, Tm.sizes, Tm.fit, Tm.fits, Tm.lvs, Tm.lvss]
 ·simp [natD, zT, Tm.good, Tm.size, Tm.sizes, Tm.fit, Tm.fits, Tm.lvs, Tm.lvss]
 ·intro c hc
  simp [natD] at hc
  rcases hc with rfl | rfl
  ·exact natT_good
  ·rw [arr_eq]; simp [natT, Tm.good, Tm.size, Tm.sizes, Tm.fit, Tm.fits, Tm.lvs, Tm.lvss]
 ·intro t ht
  simp [natD] at ht
  rcases ht with rfl | rfl <;> exact natT_good
set_option maxRecDepth 8000 in
set_option maxHeartbeats 8000000 in
theorem naturals_any (h : Heap) (hh : WF h) : ACalls Tryz.prog 67 [] h fun o h' => o = .ret (envA natE) ∧ h' = h := by
 have c0 := fun (g : Heap) (hw : WF g) => arrow66_any g hw natT natT (by simp [natT, natB, Tm.ok, Tm.oks, Tm.okN]) (by decide)
 rw [arr_eq] at c0
 have hwk : Weak (.agg [iA 3, iA 0, .p (sP natB), .p (.prim (.slice none 0 0)), .p (.prim (.slice none 0 0))]) natT.av := by
  simp only [natT, Tm.av, cells_mk, List.map, lvPs, tmPs]
  exact Weak.agg (WeakL.cons (Weak.refl _) (WeakL.cons (Weak.refl _) (WeakL.cons (Weak.refl _) (WeakL.cons (Weak.nil _) (WeakL.cons (Weak.nil _) WeakL.nil)))))
 have c1 := fun (g : Heap) (hw : WF g) => ACalls.weak (WeakL.cons hwk (WeakL.cons hwk WeakL.nil)) (c0 g hw)
 simp only [natB, natT, Tm.av, cells_mk, List.map, lvPs, tmPs] at c1
 refine ACalls.of_run Tryz.func67 rfl ?_
 simp only [Tryz.ntmps67, List.length_nil]
 refine nv ?_
 refine Run.reg fun K hK => ?_
 simp
 try (simp (disch := omega) only [wrap_id])
 refine hK _ _ _ (nv ?_); clear hK K
 refine Run.reg fun K hK => ?_
 simp
 try (simp (disch := omega) only [wrap_id])
 refine hK _ _ _ (nv ?_); clear hK K
 refine PC.Run.drawP (pc := [7]) [0, 0, 0, 0, 0, 0, 0, 0, 0, 0, 0, 0, 0, 0, 0, 0, 0, 0] [0, 0, 0, 0, 0, 0, 0, 0, 0, 0, 0, 0, 0, 0, 0, 0, 0, 0] [0, 1, 3, 0, 8, 0, 0, 96, 224, 504, 0, 0, 0, 6144, 15360, 32767, 65535, 131071] [0, 1, 2, 3, 4, 5, 6, 7, 8, 9, 10, 11, 12, 13, 14, 15, 16, 17] (by kernel_rfl) (by kernel_rfl) ?_
 refine PC.DR.go fun K hK => ?_
 simp
 try (simp (disch := omega) only [wrap_id])
 refine hK _ _ _ _ ?_; clear hK K
 refine PC.DR.pcall rfl rfl rfl (by simp) rfl rfl (fun g hg => (c1) g ?_) ?_
 ·simp at hg; (first | (rcases hg with rfl | rfl | rfl | rfl) | (rcases hg with rfl | rfl | rfl) | (rcases hg with rfl | rfl) | subst hg) <;> exact hh.app (by simp)
 refine PC.DR.go fun K hK => ?_
 simp
 try (simp (disch := omega) only [wrap_id])
 refine hK _ _ _ _ ?_; clear hK K
 change Run _ _ _ _ _ _ _ _
 refine nv ?_
 refine Run.ret ?_
 refine Fin.ret' (h0 := h) (y := envA natE) (by simp) rfl hh rfl (by simp; rfl) rfl ?_ (by simp) ⟨rfl, rfl⟩
 show Weak (.p _) (.p _)
 refine WeakP.av ?_
 simp only [natE, natD, natT, natB, zeroB, succB, zT, Dc.cells, Ct.cells, Lv.cells, cells_mk, List.map, lvPs, tmPs, List.cons_append, List.nil_append]
 repeat (first | exact WeakP.refl _ | exact WeakP.nil _ | exact WeakPs.nil | exact WeakPL.nil | refine WeakP.sl ?_ | refine WeakPs.cons ?_ ?_ | refine WeakPL.cons ?_ ?_)
theorem ctor68_any (h : Heap) (hh : WF h) (n : List UInt8) (qs : List Pt) : ACalls Tryz.prog 68 [.p (sP n), .p (.sl 3 (ptPs qs))] h fun o h' => o = .ret (Pt.mk 1 n qs).av ∧ h' = h := by
 refine ACalls.of_run Tryz.func68 rfl ?_
 simp only [Tryz.ntmps68, List.length_cons, List.length_nil]
 refine nv ?_
 refine Run.reg fun K hK => ?_
 simp
 try (simp (disch := omega) only [wrap_id])
 refine hK _ _ _ (nv ?_); clear hK K
 refine Run.reg fun K hK => ?_
 simp
 try (simp (disch := omega) only [wrap_id])
 refine hK _ _ _ (nv ?_); clear hK K
 refine Run.ret ?_
 exact Fin.ret' (h0 := h) (by simp) rfl hh rfl (by simp; rfl) rfl (Weak.refl _) (by simp) ⟨rfl, rfl⟩

end Go.Proofs.YtcfcolkbeelegaaGreat

namespace Go.Proofs.YtcfcolkbeelegaaGreat

open Go Go.AI
def sameQ (a b : List Tm) : Bool := decide (a.length = b.length) && sameTs a b
set_option maxRecDepth 8000 in
set_option maxHeartbeats 8000000 in
theorem sameTerms_any (a b : List Tm) (hsz : Tm.sizes a ≤ 1048576) (hlv : Tm.lvss a) (hb : b.length ≤ 1048576) (h : Heap) (hh : WF h) : ACalls Tryz.prog 25 [.p (.sl 5 (tmPs a)), .p (.sl 5 (tmPs b))] h fun o h' => o = .ret (bA (sameQ a b)) ∧ h' = h := by
 have hll := length_le_sizes a
 obtain ⟨r, hr⟩ : ∃ r, sameQ a b = r := ⟨_, rfl⟩
 rw [hr]
 unfold sameQ at hr
 rw [sameTs_at] at hr
 refine ACalls.of_run Tryz.func25 rfl ?_
 simp only [Tryz.ntmps25, List.length_cons, List.length_nil]
 refine nv ?_
 refine Run.reg fun K hK => ?_
 simp
 try (simp (disch := omega) only [wrap_id])
 refine hK _ _ _ (nv ?_); clear hK K
 by_cases hl : a.length = b.length
 rotate_left
 ·have hlb : ((a.length : Int) != (b.length : Int)) = true := by simp; omega
  rw [decide_eq_false hl] at hr
  simp at hr
  subst hr
  refine nv ?_
  refine Run.reg fun K hK => ?_
  simp [hlb]
  try (simp (disch := omega) only [wrap_id])
  refine hK _ _ _ (nv ?_); clear hK K
  refine ct (by simp) (nv ?_)
  refine Run.reg fun K hK => ?_
  simp
  try (simp (disch := omega) only [wrap_id])
  refine hK _ _ _ (nv ?_); clear hK K
  refine Run.ret ?_
  exact Fin.ret' (by simp) rfl hh (List.append_nil _).symm rfl rfl (Weak.refl _) rfl ⟨rfl, rfl⟩
 rw [decide_eq_true hl, Bool.true_and] at hr
 refine nv ?_
 refine Run.reg fun K hK => ?_
 simp [hl]
 try (simp (disch := omega) only [wrap_id])
 refine hK _ _ _ (nv ?_); clear hK K
 refine cf (by simp) (nv ?_)
 refine Run.reg fun K hK => ?_
 simp
 try (simp (disch := omega) only [wrap_id])
 refine hK _ _ _ (nv ?_); clear hK K
 refine Run.loopS [0, 1] (fun j : Nat => j ≤ a.length ∧ allTo (tmsAt a b) j = true) (fun j => a.length - j) (fun j => [(5, iA j)]) (fun _ => h) 0 (by simp [allTo]) ?_ rfl ?_
 ·simp
  repeat' (first | exact WeakL.nil | apply WeakL.cons)
  all_goals first | exact Weak.junk _ | exact Weak.refl _ | exact Weak.nil _ | exact Weak.own _ _ _ | exact Weak.int (by omega)
 rintro j ⟨hj, hall⟩ IH
 simp
 refine nv ?_
 refine Run.reg fun K hK => ?_
 simp
 try (simp (disch := omega) only [wrap_id])
 refine hK _ _ _ (nv ?_); clear hK K
 by_cases hjl : j < a.length
 ·have hga : a[j]? = some a[j] := List.getElem?_eq_getElem hjl
  have hgb : b[j]? = some (b[j]'(by omega)) := List.getElem?_eq_getElem (by omega)
  have hma := List.getElem_mem hjl
  have hs := sizes_take a j _ hga
  have hs2 := sizes_take_le a (j + 1)
  have hlvj := Tm.lvss_at hlv _ hma
  generalize a[j] = x at hga hma hs hlvj
  generalize b[j] = y at hgb
  have c1 := fun (g : Heap) (hw : WF g) => same_any x.size x y g (Nat.le_refl _) (by omega) hlvj hw
  have hta : tmsAt a b j = sameT x y := by simp [tmsAt, hga, hgb]
  generalize sameT x y = s at c1 hta
  obtain ⟨k, i, n, ls, ks⟩ := x
  obtain ⟨k2, i2, n2, ls2, ks2⟩ := y
  simp only [Tm.av, cells_mk, List.map] at c1
  refine nv ?_
  refine ct (by simp [hjl]) (nv ?_)
  refine PC.Run.drawP (pc := [8]) [0, 0, 0, 0, 0, 0, 0, 0, 0, 0] [0, 0, 0, 0, 0, 0, 0, 0, 0, 0] [0, 0, 3, 7, 0, 0, 48, 112, 255, 511] [0, 1, 2, 3, 4, 5, 6, 7, 8, 9] (by kernel_rfl) (by kernel_rfl) ?_
  refine PC.DR.go fun K hK => ?_
  simp [hga, hgb]
  try (simp (disch := omega) only [wrap_id])
  refine hK _ _ _ _ ?_; clear hK K
  refine PC.DR.pcall rfl rfl rfl (by simp) rfl rfl (fun g hg => c1 g ?_) ?_
  ·simp at hg
   subst hg
   exact hh
  refine PC.DR.go fun K hK => ?_
  simp
  try (simp (disch := omega) only [wrap_id])
  refine hK _ _ _ _ ?_; clear hK K
  change Run _ _ _ _ _ _ _ _
  refine nv ?_
  cases s with
  | false =>
   have := allTo_false hjl hta
   rw [this] at hr
   subst hr
   refine nv ?_
   refine ct (by simp) (nv ?_)
   refine Run.reg fun K hK => ?_
   simp
   try (simp (disch := omega) only [wrap_id])
   refine hK _ _ _ (nv ?_); clear hK K
   refine Run.ret ?_
   exact Fin.ret' (by simp) rfl hh (List.append_nil _).symm rfl rfl (Weak.refl _) rfl ⟨rfl, rfl⟩
  | true =>
   refine nv ?_
   refine cf (by simp) (nv ?_)
   refine Run.reg fun K hK => ?_
   simp
   try (simp (disch := omega) only [wrap_id])
   refine hK _ _ _ (nv ?_); clear hK K
   refine IH (j + 1) _ _ ⟨by omega, by rw [allTo_succ, hall, hta]; rfl⟩ (by omega) ?_ rfl
   simp
   repeat' (first | exact WeakL.nil | apply WeakL.cons)
   all_goals first | exact Weak.junk _ | exact Weak.refl _ | exact Weak.nil _ | exact Weak.own _ _ _ | exact Weak.int (by omega)
 ·have hje : j = a.length := by omega
  subst hje
  rw [hall] at hr
  subst hr
  refine nv ?_
  refine cf (by simp) (nv ?_)
  refine Run.exit rfl ?_
  refine nv ?_
  refine Run.reg fun K hK => ?_
  simp
  try (simp (disch := omega) only [wrap_id])
  refine hK _ _ _ (nv ?_); clear hK K
  refine Run.ret ?_
  exact Fin.ret' (by simp) rfl hh (List.append_nil _).symm rfl rfl (Weak.refl _) rfl ⟨rfl, rfl⟩
def sucT (t : Tm) : Tm := appT (.mk 3 0 succB [] []) t
def zroT : Tm := .mk 3 0 zeroB [] []
set_option maxRecDepth 8000 in
theorem awake1_any (h : Heap) (hh : WF h) (t : Tm) : ACalls Tryz.prog 69 [t.av] h fun o h' => o = .ret (sucT t).av ∧ h' = h := by
 obtain ⟨k, i, n, ls, ks⟩ := t
 refine ACalls.of_run Tryz.func69 rfl ?_
 simp only [Tryz.ntmps69, List.length_cons, List.length_nil, Tm.av, cells_mk, List.map]
 refine nv ?_
 refine Run.reg fun K hK => ?_
 simp
 try (simp (disch := omega) only [wrap_id])
 refine hK _ _ _ (nv ?_); clear hK K
 refine Run.reg fun K hK => ?_
 simp
 try (simp (disch := omega) only [wrap_id])
 refine hK _ _ _ (nv ?_); clear hK K
 refine Run.ret ?_
 refine Fin.ret' (h0 := h) (y := (sucT (.mk k i n ls ks)).av) (by simp) rfl hh rfl (by simp; rfl) rfl ?_ (by simp) ⟨rfl, rfl⟩
 simp only [sucT, appT, Tm.av, cells_mk, List.map, lvPs, tmPs]
 refine Weak.agg (WeakL.cons (Weak.refl _) (WeakL.cons (Weak.refl _) (WeakL.cons (Weak.refl _) (WeakL.cons (Weak.nil _) (WeakL.cons (WeakP.av (WeakP.sl ?_)) WeakL.nil)))))
 repeat (first | exact WeakP.refl _ | exact WeakP.nil _ | exact WeakPs.nil | exact WeakPL.nil | refine WeakP.sl ?_ | refine WeakPs.cons ?_ ?_ | refine WeakPL.cons ?_ ?_)
def awG (t : Tm) : Prop := t = sucT (vr 3) ∨ t = sucT (vr 5) ∨ t = vr 3 ∨ t = vr 5 ∨ t = zroT
theorem find_succ : (resFind natE succB).1.k = 4 := by kernel_rfl
theorem find_zero : (resFind natE zeroB).1.k = 4 := by kernel_rfl
theorem sp3 : resSpine (sucT (vr 3)) = (.mk 3 0 succB [] [], [vr 3]) := by kernel_rfl
theorem sp5 : resSpine (sucT (vr 5)) = (.mk 3 0 succB [] [], [vr 5]) := by kernel_rfl
theorem sp3' : resSpine (vr 3) = (vr 3, []) := by kernel_rfl
theorem sp5' : resSpine (vr 5) = (vr 5, []) := by kernel_rfl
theorem spz : resSpine zroT = (zroT, []) := by kernel_rfl
theorem awG_stuck : ∀ t, awG t → stuckT natE t := by
 intro t ht
 rcases ht with rfl | rfl | rfl | rfl | rfl
 ·exact ⟨by decide, by rw [sp3]; simp, by rw [sp3]; exact ⟨by decide, by decide, by decide, by decide, fun _ => .inr (.inr (.inr (.inr find_succ)))⟩⟩
 ·exact ⟨by decide, by rw [sp5]; simp, by rw [sp5]; exact ⟨by decide, by decide, by decide, by decide, fun _ => .inr (.inr (.inr (.inr find_succ)))⟩⟩
 ·exact ⟨by decide, by decide, by decide, by decide, by decide, by decide, fun h => absurd h (by decide)⟩
 ·exact ⟨by decide, by decide, by decide, by decide, by decide, by decide, fun h => absurd h (by decide)⟩
 ·exact ⟨by decide, by decide, by decide, by decide, by decide, by decide, fun _ => .inr (.inr (.inr (.inr find_zero)))⟩
theorem awW : WOk natE (fun t => (t, 0)) awG := by
 refine ⟨fun t ht h hh => ?_, fun t ht _ => ?_, fun t ht _ a ha => ?_⟩
 ·refine whnf173_any natE t t 20000 (fun H q hw hq => ?_) h hh
  refine (whnfStuck_any natE natE_good natE_fine.1 t (awG_stuck t ht) q 20000 H hw hq).mono ?_
  rintro o h' ⟨rfl, rfl⟩
  refine ⟨rfl, ?_⟩
  obtain ⟨hl, e⟩ := List.getElem?_eq_some_iff.1 hq
  rw [← e, List.set_getElem_self]
 ·have := (awG_stuck t ht).1
  simp only
  omega
 ·simp only at ha
  rcases ht with rfl | rfl | rfl | rfl | rfl
  ·rw [sp3] at ha; simp at ha; subst ha; exact .inr (.inr (.inl rfl))
  ·rw [sp5] at ha; simp at ha; subst ha; exact .inr (.inr (.inr (.inl rfl)))
  ·rw [sp3'] at ha; simp at ha
  ·rw [sp5'] at ha; simp at ha
  ·rw [spz] at ha; simp at ha

end Go.Proofs.YtcfcolkbeelegaaGreat

namespace Go.Proofs.YtcfcolkbeelegaaGreat

open Go Go.AI
def vPt : Pt := .mk 0 [] []
def zPn : Pt := .mk 1 zeroB []
def sPn : Pt := .mk 1 succB [vPt]
def clsA : List Cl := [⟨[zPn, vPt], zT⟩, ⟨[sPn, zPn], zT⟩, ⟨[sPn, sPn], zT⟩]
def lessA : List Cl := [⟨[zPn, vPt], zT⟩, ⟨[sPn, sPn], zT⟩]
def awR : Tm → Tm × Int := fun t => (t, 0)
theorem aw_m1 : matchM awR natE clsA [sucT (vr 3), sucT (vr 5)] = (2, [vr 3, vr 5], 0) := by kernel_rfl
theorem aw_m2 : matchM awR natE clsA [vr 3, zroT] = (0, [], 19) := by kernel_rfl
theorem aw_c1 : coversB natE clsA [vPt, vPt] = true := by kernel_rfl
theorem aw_c2 : coversB natE lessA [vPt, vPt] = false := by kernel_rfl
theorem aw_c3 : coversB natE lessA [zPn, vPt] = true := by kernel_rfl
theorem aw_c4 : coversB natE lessA [sPn, vPt] = false := by kernel_rfl
theorem aw_tx : textP (.mk 1 succB [sPn]) = [40, 115, 117, 99, 99, 32, 40, 115, 117, 99, 99, 32, 95, 41, 41] := by kernel_rfl
theorem aw_sm : sameQ [vr 3, vr 5] [vr 3, vr 5] = true := by kernel_rfl

abbrev vRaw : List PV := [iP 0, sP [], .prim (.slice none 0 0)]
theorem k1_any (g : Heap) (hw : WF g) : ACalls Tryz.prog 68 [.p (sP zeroB), .p (.prim (.slice none 0 0))] g fun o h' => o = .ret zPn.av ∧ h' = g :=
 ACalls.weak (args' := [.p (sP zeroB), .p (.sl 3 (ptPs []))]) (WeakL.cons (Weak.refl _) (WeakL.cons (Weak.nil _) WeakL.nil)) (ctor68_any g hw zeroB [])
theorem vRaw_weak : WeakPs [vRaw] (ptPs [vPt]) := by
 simp only [vPt, ptPs, pcells_mk]
 exact WeakPs.cons (WeakPL.cons (WeakP.refl _) (WeakPL.cons (WeakP.refl _) (WeakPL.cons (WeakP.nil _) WeakPL.nil))) WeakPs.nil
theorem k2_any (g : Heap) (hw : WF g) : ACalls Tryz.prog 68 [.p (sP succB), .p (.sl 3 [vRaw])] g fun o h' => o = .ret sPn.av ∧ h' = g :=
 ACalls.weak (args' := [.p (sP succB), .p (.sl 3 (ptPs [vPt]))]) (WeakL.cons (Weak.refl _) (WeakL.cons (WeakP.sl vRaw_weak).av WeakL.nil)) (ctor68_any g hw succB [vPt])

end Go.Proofs.YtcfcolkbeelegaaGreat
