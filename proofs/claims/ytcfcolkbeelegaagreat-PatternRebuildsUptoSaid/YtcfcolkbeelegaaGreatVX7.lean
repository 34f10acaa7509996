import Derived.Test.YtcfcolkbeelegaaGreatVX6
set_option maxRecDepth 8000
set_option maxHeartbeats 16000000

namespace Go.AI

open Go
theorem Run.joinC0 {P : Program} {rd : Option Nat} {nb : Nat} {k : List It} {T : List AV} {h : Heap} {D : List AD} {Q : AX → List AV → Heap → List AD → Prop} {c : Code} (C : Prop) (keep : List Nat) (sets : List (Nat × AV)) (r : (∀ T', WeakL T' (setMany (keepT keep T) sets) → C → Run P rd nb k T' h D Q) → Run P rd nb (.code c :: k) T h D Q)
  (next : C → Run P rd nb k (setMany (keepT keep T) sets) h D Q) : Run P rd nb (.code c :: k) T h D Q := r fun _ hw hc => Run.weak hw (next hc)

end Go.AI

namespace Go.Proofs.YtcfcolkbeelegaaGreat

open Go Go.AI
abbrev scE (env : List Dc) (own : List (List UInt8)) (d : Dc) : AV := .agg (.p (.sl 23 (env.map Dc.cells)) :: .p (.sl 1 (strPs own)) :: d.cells.map .p)
def cstH (env : List Dc) (own : List (List UInt8)) (d : Dc) (k : Int) (n : List UInt8) (ls : List Lv) : Int :=
 if k = 3 then (match findZ n env 0 with
  | some x => if (ls.length : Int) = x.ps then 0 else 15
  | none => if n ∈ own then (if (ls.length : Int) = (entZ d env.length n).ps then 0 else 15) else 9) else 0

mutual
def constZ (env : List Dc) (own : List (List UInt8)) (d : Dc) : Tm → Int
 | .mk k _ n ls ks => if cstH env own d k n ls = 0 then firstE (constL env own d ks) else cstH env own d k n ls
def constL (env : List Dc) (own : List (List UInt8)) (d : Dc) : List Tm → List Int
 | [] => []
 | t :: ts => constZ env own d t :: constL env own d ts
end
theorem constL_eq (env : List Dc) (own : List (List UInt8)) (d : Dc) : ∀ l : List Tm, constL env own d l = l.map (constZ env own d)
 | [] => rfl
 | t :: ts => by simp only [constL, List.map_cons, constL_eq env own d ts]

structure ScOk (env : List Dc) (own : List (List UInt8)) (d : Dc) : Prop where
 hEnv : Env.good env
 hShort : Env.short env
 hOwn : own.length ≤ 1099511627776
 hD : d.good
theorem constants_any (env : List Dc) (own : List (List UInt8)) (d : Dc) (hs : ScOk env own d) (N : Nat) : ∀ (t : Tm) (h : Heap), t.size ≤ N → t.size ≤ 1048576 → WF h → ACalls Tryz.prog 257 [scE env own d, t.av] h fun o h' => o = .ret (iA (constZ env own d t)) ∧ h' = h := by
 induction N with
 | zero => intro t h hN; have := t.size_pos; omega
 | succ N ih =>
 intro t h hN hsz hh
 have hel := hs.hEnv.1
 obtain ⟨k, i, n, ls, ks⟩ := t
 simp only [Tm.size] at hN hsz
 have hll := length_le_sizes ks
 have c1 := fun (g : Heap) (hw : WF g) => refFind_any g hw env n hs.hEnv hs.hShort
 have c2 := fun (g : Heap) (hw : WF g) => has_any g hw own n hs.hOwn
 have c3 := fun (g : Heap) (hw : WF g) => entry_any g hw d env.length n hs.hD.csl hs.hD.fsl
 have hrec := fun (u : Tm) (h1 : u.size ≤ Tm.sizes ks) (g : Heap) (hw : WF g) => ih u g (by omega) (by omega) hw
 have hz : constZ env own d (.mk k i n ls ks) = if cstH env own d k n ls = 0 then firstE (ks.map (constZ env own d)) else cstH env own d k n ls := by simp only [constZ, constL_eq]
 obtain ⟨r, hr⟩ : ∃ r, r = constZ env own d (.mk k i n ls ks) := ⟨_, rfl⟩
 rw [← hr]
 rw [hz] at hr
 clear hz ih
 obtain ⟨CZ, hCZ⟩ : ∃ C, C = constZ env own d := ⟨_, rfl⟩
 rw [← hCZ] at hr hrec
 clear hCZ
 unfold cstH at hr
 unfold resFind at c1
 generalize findZ n env 0 = fz at c1 hr
 generalize entZ d env.length n = ez at c3 hr
 have hown : n ∈ own ∨ n ∉ own := Classical.em _
 clear hs
 obtain ⟨dk, nm, ps, ⟨k1, i1, n1, l1, s1⟩, ⟨k2, i2, n2, l2, s2⟩, fx, cs, rp, ⟨k3, i3, n3, l3, s3⟩, rr, fs⟩ := d
 obtain ⟨z1, z2, z3, z4, ⟨z5, z6, z7, z8, z9⟩⟩ := ez
 simp only [scE, Dc.av, Dc.cells, En.av, En.cells, Tm.av, cells_mk, List.map, List.cons_append, List.nil_append] at c1 c3 hrec hr ⊢
 refine ACalls.of_run Tryz.func257 rfl ?_
 simp only [Tryz.ntmps257, List.length_cons, List.length_nil]
 refine nv ?_
 refine Run.reg fun K J => ?_
 simp
 refine J _ _ _ (nv ?_); clear J
 refine Run.reg fun K J => ?_
 simp
 refine J _ _ _ (nv ?_); clear J
 refine Run.joinC0 ((if k = 3 then (match fz with
  | some x => if (ls.length : Int) = x.ps then (0 : Int) else 15
  | none => if n ∈ own then (if (ls.length : Int) = z4 then 0 else 15) else 9) else 0) = 0) [2, 3] [] (fun hJ => ?_) (fun hC => ?_)
 ·by_cases hk : k = 3
  ·subst hk
   rw [if_pos rfl] at hr hJ
   refine ct (by simp) (nv ?_)
   refine Run.reg fun K J => ?_
   simp
   refine J _ _ _ ?_; clear J
   cases fz with
   | some x =>
    obtain ⟨x1, x2, x3, x4, ⟨x5, x6, x7, x8, x9⟩⟩ := x
    simp only [cells_mk, List.map] at c1 hr hJ
    refine rl rfl (by first | rfl | simp) (by simp) rfl (c1 _ (hh.app (by simp))) ?_
    refine Run.ops fun K J => ?_
    simp
    refine J _ _ _ (nv ?_); clear J
    refine Run.reg fun K J => ?_
    simp
    refine J _ _ _ (nv ?_); clear J
    refine cf (by simp) (nv ?_)
    refine Run.reg fun K J => ?_
    simp
    refine J _ _ _ (nv ?_); clear J
    by_cases hl : (ls.length : Int) = x4
    ·have hl' : ((ls.length : Int) != x4) = false := by simp [hl]
     rw [if_pos hl] at hJ
     refine cf (by simp [hl']) ?_
     repeat (first | refine Run.skip ?_ | refine Run.opsNil ?_ | refine Run.inBlock ?_)
     refine Run.keep [2, 3] ?_
     simp
     refine Run.cutAt 2 hh rfl (by omega) (by simp) (by simp) (by simp) rfl ?_
     refine hJ _ ?_ rfl
     simp
     repeat' first | exact wn | apply wc | exact wj _ | exact wr _ | exact wz _ | exact wo _ _ _ | exact wi (by omega)
    ·have hl' : ((ls.length : Int) != x4) = true := by simp [hl]
     rw [if_neg hl] at hr
     refine ct (by simp [hl']) (nv ?_)
     repeat (first | refine nw ?_ | (refine Run.reg fun K J => ?_; simp; (try (simp (disch := omega) only [wrap_id])); refine J _ _ _ ?_; clear J) | refine ct rfl ?_ | refine cf rfl ?_ | refine Run.exit rfl ?_ | refine Run.ret ?_)
     exact Fin.ret' (h0 := h) (by simp) rfl hh rfl rfl rfl (Weak.refl _) rfl ⟨by rw [hr]; rfl, rfl⟩
   | none =>
    simp only [zEn, zT, cells_mk, List.map] at c1 hr hJ
    refine rl rfl (by first | rfl | simp) (by simp) rfl (c1 _ (hh.app (by simp))) ?_
    refine Run.ops fun K J => ?_
    simp
    refine J _ _ _ (nv ?_); clear J
    refine Run.reg fun K J => ?_
    simp
    refine J _ _ _ (nv ?_); clear J
    refine ct (by simp) (nv ?_)
    refine Run.reg fun K J => ?_
    simp
    refine J _ _ _ ?_; clear J
    refine rl rfl (by first | rfl | simp) (by simp) rfl (c2 _ (hh.app (by simp))) ?_
    by_cases ho : n ∈ own
    ·rw [if_pos ho] at hr hJ
     refine Run.ops fun K J => ?_
     simp [ho]
     refine J _ _ _ (nv ?_); clear J
     refine cf (by simp) (nv ?_)
     refine Run.reg fun K J => ?_
     simp
     refine J _ _ _ ?_; clear J
     refine rl rfl (by first | rfl | simp) (by simp) rfl (c3 _ (hh.app (by simp))) ?_
     refine Run.ops fun K J => ?_
     simp
     refine J _ _ _ (nv ?_); clear J
     refine Run.reg fun K J => ?_
     simp
     refine J _ _ _ (nv ?_); clear J
     by_cases hl : (ls.length : Int) = z4
     ·have hl' : ((ls.length : Int) != z4) = false := by simp [hl]
      rw [if_pos hl] at hJ
      refine cf (by simp [hl']) ?_
      repeat (first | refine Run.skip ?_ | refine Run.opsNil ?_ | refine Run.inBlock ?_)
      refine Run.keep [2, 3] ?_
      simp
      refine Run.cutAt 2 hh rfl (by omega) (by simp) (by simp) (by simp) rfl ?_
      refine hJ _ ?_ rfl
      simp
      repeat' first | exact wn | apply wc | exact wj _ | exact wr _ | exact wz _ | exact wo _ _ _ | exact wi (by omega)
     ·have hl' : ((ls.length : Int) != z4) = true := by simp [hl]
      rw [if_neg hl] at hr
      refine ct (by simp [hl']) (nv ?_)
      repeat (first | refine nw ?_ | (refine Run.reg fun K J => ?_; simp; (try (simp (disch := omega) only [wrap_id])); refine J _ _ _ ?_; clear J) | refine ct rfl ?_ | refine cf rfl ?_ | refine Run.exit rfl ?_ | refine Run.ret ?_)
      exact Fin.ret' (h0 := h) (by simp) rfl hh rfl rfl rfl (Weak.refl _) rfl ⟨by rw [hr]; rfl, rfl⟩
    ·rw [if_neg ho] at hr
     refine Run.ops fun K J => ?_
     simp [ho]
     refine J _ _ _ (nv ?_); clear J
     refine ct (by simp) (nv ?_)
     repeat (first | refine nw ?_ | (refine Run.reg fun K J => ?_; simp; (try (simp (disch := omega) only [wrap_id])); refine J _ _ _ ?_; clear J) | refine ct rfl ?_ | refine cf rfl ?_ | refine Run.exit rfl ?_ | refine Run.ret ?_)
     exact Fin.ret' (h0 := h) (by simp) rfl hh rfl rfl rfl (Weak.refl _) rfl ⟨by rw [hr]; rfl, rfl⟩
  ·rw [if_neg hk] at hJ
   have hk' : (k == 3) = false := by simp [hk]
   refine cf (by simp [hk']) ?_
   repeat (first | refine Run.skip ?_ | refine Run.opsNil ?_ | refine Run.inBlock ?_)
   refine hJ _ ?_ rfl
   simp
   repeat' first | exact wn | apply wc | exact wj _ | exact wr _ | exact wz _ | exact wo _ _ _ | exact wi (by omega)
 rw [if_pos hC] at hr
 clear hC c1 c2 c3
 simp only [setMany, keepT, keepT.go, List.contains_cons]
 simp
 refine nv ?_
 refine Run.reg fun K J => ?_
 simp
 refine J _ _ _ (nv ?_); clear J
 refine Run.loopS [2, 3] (fun j : Nat => j ≤ ks.length ∧ firstE ((ks.map CZ).take j) = 0) (fun j => ks.length - j) (fun j => [(7, iA j)]) (fun _ => _) 0 (by simp [firstE]) ?_ rfl ?_
 ·simp
  repeat' first | exact wn | apply wc | exact wj _ | exact wr _ | exact wz _ | exact wo _ _ _ | exact wi (by omega)
 rintro j ⟨hj, hall⟩ IH
 simp
 refine nv ?_
 refine Run.reg fun K J => ?_
 simp
 refine J _ _ _ (nv ?_); clear J
 by_cases hjl : j < ks.length
 ·have hg : ks[j]? = some ks[j] := List.getElem?_eq_getElem hjl
  have hsz := kid_size hjl
  have c4 := hrec ks[j] hsz
  have htk : (ks.map CZ).take (j + 1) = (ks.map CZ).take j ++ [CZ ks[j]] := by
   rw [List.take_add_one, List.getElem?_map, hg]; rfl
  generalize CZ ks[j] = e at c4 htk
  generalize ks[j] = u at hg c4
  obtain ⟨y1, y2, y3, y4, y5⟩ := u
  simp only [cells_mk, List.map] at c4
  refine ct (by simp [hjl]) (nv ?_)
  refine Run.draw [0, 0, 0, 0, 0, 0, 0, 1] [0, 0, 0, 0, 0, 0, 0, 0] [0, 0, 2, 0, 14, 30, 63, 127] [0, 1, 2, 3, 4, 5, 6, 7] (by kernel_rfl) (by kernel_rfl) ?_
  refine DR.go fun K J => ?_
  simp [hg]
  refine J _ _ _ _ ?_; clear J
  refine DR.call rfl rfl rfl (by simp) rfl (c4 _ (hh.app (by simp))) ?_
  refine DR.go fun K J => ?_
  simp
  refine J _ _ _ _ ?_; clear J
  change Run _ _ _ _ _ _ _ _
  refine nv ?_
  refine Run.reg fun K J => ?_
  simp
  refine J _ _ _ (nv ?_); clear J
  by_cases he : e = 0
  ·skip
   refine cf (by simp [he]) (nv ?_)
   refine Run.reg fun K J => ?_
   simp
   try (simp (disch := omega) only [wrap_id])
   refine J _ _ _ (nv ?_); clear J
   refine IH (j + 1) _ _ ⟨by omega, by rw [htk, firstE_snoc, hall, if_pos rfl, he]⟩ (by omega) ?_ rfl
   simp
   repeat' first | exact wn | apply wc | exact wj _ | exact wr _ | exact wz _ | exact wo _ _ _ | exact wi (by omega)
  ·have hst : firstE (ks.map CZ) = e := by
    have e1 : firstE ((ks.map CZ).take (j + 1)) = e := by rw [htk, firstE_snoc, hall, if_pos rfl]
    rw [firstE_stop (j := j + 1) (by rw [e1]; exact he), e1]
   refine ct (by simp [he]) (nv ?_)
   repeat (first | refine nw ?_ | (refine Run.reg fun K J => ?_; simp; (try (simp (disch := omega) only [wrap_id])); refine J _ _ _ ?_; clear J) | refine ct rfl ?_ | refine cf rfl ?_ | refine Run.exit rfl ?_ | refine Run.ret ?_)
   exact Fin.ret' (h0 := h) (by simp) rfl hh rfl rfl rfl (Weak.refl _) rfl ⟨by rw [hr, hst]; rfl, rfl⟩
 ·have hje : j = ks.length := by omega
  subst hje
  rw [List.take_of_length_le (by simp)] at hall
  refine cf (by simp) ?_
  refine Run.exit rfl ?_
  refine nv ?_
  repeat (first | refine nw ?_ | (refine Run.reg fun K J => ?_; simp; (try (simp (disch := omega) only [wrap_id])); refine J _ _ _ ?_; clear J) | refine ct rfl ?_ | refine cf rfl ?_ | refine Run.exit rfl ?_ | refine Run.ret ?_)
  exact Fin.ret' (h0 := h) (by simp) rfl hh rfl rfl rfl (Weak.refl _) rfl ⟨by rw [hr, hall]; rfl, rfl⟩
def ofTermZ (env : List Dc) (own : List (List UInt8)) (d : Dc) (t : Tm) (vars params : Int) : Int := if checkZ vars params 0 0 t = 0 then constZ env own d t else checkZ vars params 0 0 t
theorem ofTerm_any (h : Heap) (hh : WF h) (env : List Dc) (own : List (List UInt8)) (d : Dc) (hs : ScOk env own d) (t : Tm) (ht : t.good) (vars params : Int) :
  ACalls Tryz.prog 229 [scE env own d, t.av, iA vars, iA params] h fun o h' => o = .ret (iA (ofTermZ env own d t vars params)) ∧ h' = h := by
 have c1 := fun (g : Heap) (hw : WF g) => check_any g hw t vars params 0 0 (by have := ht.1; omega) ht.2.1
 have c2 := fun (g : Heap) (hw : WF g) => constants_any env own d hs t.size t g (Nat.le_refl _) ht.1 hw
 unfold ofTermZ
 generalize checkZ vars params 0 0 t = e at c1 ⊢
 generalize constZ env own d t = f at c2 ⊢
 clear hs ht
 obtain ⟨dk, nm, ps, ⟨k1, i1, n1, l1, s1⟩, ⟨k2, i2, n2, l2, s2⟩, fx, cs, rp, ⟨k3, i3, n3, l3, s3⟩, rr, fs⟩ := d
 obtain ⟨k, i, n, ls, ks⟩ := t
 simp only [scE, Dc.cells, Tm.av, cells_mk, List.map, List.cons_append, List.nil_append] at c1 c2 ⊢
 refine ACalls.of_run Tryz.func229 rfl ?_
 simp only [Tryz.ntmps229, List.length_cons, List.length_nil]
 refine nv ?_
 refine Run.reg fun K J => ?_
 simp
 refine J _ _ _ (nv ?_); clear J
 refine Run.reg fun K J => ?_
 simp
 refine J _ _ _ ?_; clear J
 refine rl rfl (by first | rfl | simp) (by simp) rfl (c1 _ (hh.app (by simp))) ?_
 refine Run.ops fun K J => ?_
 simp
 refine J _ _ _ (nv ?_); clear J
 refine Run.reg fun K J => ?_
 simp
 refine J _ _ _ (nv ?_); clear J
 by_cases he : e = 0
 ·rw [if_pos he]
  refine cf (by simp [he]) (nv ?_)
  refine Run.reg fun K J => ?_
  simp
  refine J _ _ _ ?_; clear J
  refine rl rfl (by first | rfl | simp) (by simp) rfl (c2 _ (hh.app (by simp))) ?_
  refine Run.ops fun K J => ?_
  simp
  refine J _ _ _ (nv ?_); clear J
  refine Run.ret ?_
  exact Fin.ret' (h0 := h) (by simp) rfl hh rfl (by simp; rfl) rfl (Weak.refl _) (by simp) ⟨rfl, rfl⟩
 ·rw [if_neg he]
  refine ct (by simp [he]) (nv ?_)
  refine Run.reg fun K J => ?_
  simp
  refine J _ _ _ (nv ?_); clear J
  refine Run.ret ?_
  exact Fin.ret' (h0 := h) (by simp) rfl hh rfl (by simp; rfl) rfl (Weak.refl _) (by simp) ⟨rfl, rfl⟩

end Go.Proofs.YtcfcolkbeelegaaGreat
