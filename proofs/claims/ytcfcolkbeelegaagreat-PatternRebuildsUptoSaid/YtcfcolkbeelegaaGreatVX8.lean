import Derived.Test.YtcfcolkbeelegaaGreatVX7
import Derived.Test.YtcfcolkbeelegaaGreatVX1
set_option maxRecDepth 8000
set_option maxHeartbeats 32000000

namespace Go.Proofs.YtcfcolkbeelegaaGreat

open Go Go.AI
def fldC (fx : Int) (t : Tm) : Int := if 0 < IntKind.i64.wrap (((resAll t).1.length : Int) - fx) then IntKind.i64.wrap (((resAll t).1.length : Int) - fx) else 0
def fldZ (d : Dc) (j : Nat) : Int := match d.cs[j]? with | some c => fldC d.fx c.ty | none => 0
theorem fields_any (h : Heap) (hh : WF h) (d : Dc) (hd : d.good) (j : Nat) (hj : j < d.cs.length) : ACalls Tryz.prog 82 [d.av, iA j] h fun o h' => o = .ret (iA (fldZ d j)) ∧ h' = h := by
 have hg : d.cs[j]? = some d.cs[j] := List.getElem?_eq_getElem hj
 have hgd := hd.cs _ (List.getElem_mem hj)
 have c1 := fun (g : Heap) (hw : WF g) => all70_any g hw d.cs[j].ty hgd.1
 obtain ⟨r, hr⟩ : ∃ r, r = fldZ d j := ⟨_, rfl⟩
 rw [← hr]
 unfold fldZ at hr
 rw [hg] at hr
 simp only [fldC] at hr
 generalize d.cs[j] = c at hg c1 hr
 generalize resAll c.ty = q at c1 hr
 obtain ⟨qs, ⟨u1, u2, u3, u4, u5⟩⟩ := q
 obtain ⟨k, nm, ps, ⟨k1, i1, n1, l1, s1⟩, ⟨k2, i2, n2, l2, s2⟩, fx, cs, rp, ⟨k3, i3, n3, l3, s3⟩, rr, fs⟩ := d
 obtain ⟨x, ⟨k4, i4, n4, l4, s4⟩⟩ := c
 simp only at hg hr
 clear hd hgd hj
 simp only [Dc.av, Dc.cells, Tm.av, cells_mk, List.map, List.cons_append, List.nil_append] at c1 ⊢
 have hcz : (j : Int) < 0 → False := by omega
 refine ACalls.of_run Tryz.func82 rfl ?_
 simp only [Tryz.ntmps82, List.length_cons, List.length_nil]
 refine nv ?_
 refine Run.reg fun K J => ?_
 simp
 refine J _ _ _ (nv ?_); clear J
 refine Run.reg fun K J => ?_
 simp [hg, Ct.cells]
 refine J _ _ _ ?_; clear J
 refine rl rfl (by first | rfl | simp) (by simp) rfl (c1 _ (hh.app (by simp))) ?_
 refine Run.ops fun K J => ?_
 simp
 refine J _ _ _ (nv ?_); clear J
 refine Run.reg fun K J => ?_
 simp
 refine J _ _ _ (nv ?_); clear J
 refine Run.ret ?_
 exact Fin.ret' (h0 := h) (by simp) rfl hh rfl (by simp; rfl) rfl (Weak.refl _) (by simp) ⟨by rw [hr]; rfl, rfl⟩
def fldE (env : List Dc) (x : En) : Int := match env[x.at_.toNat]? with | some d => fldZ d x.it.toNat | none => 0

mutual
def treeZ (env : List Dc) (own : List (List UInt8)) (d : Dc) : Tr → Int → Int → Int
 | .mk k b v bs, vars, depth =>
  if 200 ≤ depth then 7
  else if k = 0 then (if v ≠ 0 ∨ 0 < (bs.length : Int) then 3 else ofTermZ env own d b vars d.ps)
  else if k = 1 then (if sameT b zT = false then 3 else if v < 0 ∨ vars ≤ v then 24 else if 32 < (bs.length : Int) then 6 else firstE (brL env own d bs vars depth))
  else 3
def brE (env : List Dc) (own : List (List UInt8)) (d : Dc) : Br → Int → Int → Int
 | .mk c a t, vars, depth => match findZ c env 0 with
  | none => 9
  | some x => if x.k = 4 then (if a = true then (if noTr t = true then 0 else 3) else treeZ env own d t (IntKind.i64.wrap (vars + fldE env x)) (IntKind.i64.wrap (depth + 1))) else 9
def brL (env : List Dc) (own : List (List UInt8)) (d : Dc) : List Br → Int → Int → List Int
 | [], _, _ => []
 | b :: bs, vars, depth => brE env own d b vars depth :: brL env own d bs vars depth
end
theorem brL_eq (env : List Dc) (own : List (List UInt8)) (d : Dc) (vars depth : Int) : ∀ l : List Br, brL env own d l vars depth = l.map fun b => brE env own d b vars depth
 | [] => rfl
 | t :: ts => by simp only [brL, List.map_cons, brL_eq env own d vars depth ts]
theorem ofTree_any (env : List Dc) (own : List (List UInt8)) (d : Dc) (hs : ScOk env own d) (N : Nat) : ∀ (t : Tr) (vars depth : Int) (h : Heap), t.size ≤ N → t.good → WF h → ACalls Tryz.prog 230 [scE env own d, t.av, iA vars, iA depth] h fun o h' => o = .ret (iA (treeZ env own d t vars depth)) ∧ h' = h := by
 induction N with
 | zero => intro t _ _ h hN; cases t; simp [Tr.size] at hN
 | succ N ih =>
 intro t vars depth h hN hgd hh
 have hel := hs.hEnv.1
 obtain ⟨k, b, v, bs⟩ := t
 simp only [Tr.size] at hN
 simp only [Tr.good] at hgd
 obtain ⟨hb, hbl, hbs⟩ := hgd
 have c1 := fun (g : Heap) (hw : WF g) => ofTerm_any g hw env own d hs b hb vars d.ps
 have c2 := fun (g : Heap) (hw : WF g) => zero_any g hw b hb
 have c3 := fun (n : List UInt8) (g : Heap) (hw : WF g) => refFind_any g hw env n hs.hEnv hs.hShort
 have hfok := fun (n : List UInt8) (e : En) (he : findZ n env 0 = some e) => findZ_ok n env 0 e he
 have hdg := hs.hEnv.2
 have hrec := fun (t : Tr) (h1 : t.size ≤ Br.sizes bs) (h2 : t.good) (vars depth : Int) (g : Heap) (hw : WF g) => ih t vars depth g (by omega) h2 hw
 obtain ⟨r, hr⟩ : ∃ r, r = treeZ env own d (.mk k b v bs) vars depth := ⟨_, rfl⟩
 rw [← hr]
 simp only [treeZ, brL_eq] at hr
 clear ih
 obtain ⟨BE, hBE⟩ : ∃ B, B = fun b => brE env own d b vars depth := ⟨_, rfl⟩
 rw [← hBE] at hr
 have hbe : ∀ c a t, BE (.mk c a t) = match findZ c env 0 with
  | none => 9
  | some x => if x.k = 4 then (if a = true then (if noTr t = true then 0 else 3) else treeZ env own d t (IntKind.i64.wrap (vars + fldE env x)) (IntKind.i64.wrap (depth + 1))) else 9 := fun c a t => by rw [hBE]; simp only [brE]
 clear hBE
 generalize ofTermZ env own d b vars d.ps = e1 at c1 hr
 generalize sameT b zT = e2 at c2 hr
 obtain ⟨TZ, hTZ⟩ : ∃ T, T = treeZ env own d := ⟨_, rfl⟩
 rw [← hTZ] at hbe hrec
 clear hTZ hs
 obtain ⟨dk, nm, ps, ⟨k1, i1, n1, l1, s1⟩, ⟨k2, i2, n2, l2, s2⟩, fx, cs, rp, ⟨k3, i3, n3, l3, s3⟩, rr, fs⟩ := d
 obtain ⟨m1, m2, m3, m4, m5⟩ := b
 simp only at c1
 simp only [scE, Dc.cells, Tr.av, Tr.cells, Tm.av, cells_mk, List.map, List.cons_append, List.nil_append, brPs_eq] at c1 c2 hrec ⊢
 refine ACalls.of_run Tryz.func230 rfl ?_
 simp only [Tryz.ntmps230, List.length_cons, List.length_nil]
 refine nv ?_
 refine Run.reg fun K J => ?_
 simp
 refine J _ _ _ (nv ?_); clear J
 by_cases h200 : 200 ≤ depth
 ·rw [if_pos h200] at hr
  refine Run.reg fun K J => ?_
  simp [h200]
  refine J _ _ _ (nv ?_); clear J
  refine ct (by simp) (nv ?_)
  repeat (first | refine nw ?_ | (refine Run.reg fun K J => ?_; simp; (try (simp (disch := omega) only [wrap_id])); refine J _ _ _ ?_; clear J) | refine ct rfl ?_ | refine cf rfl ?_ | refine Run.exit rfl ?_ | refine Run.ret ?_)
  exact Fin.ret' (h0 := h) (by simp) rfl hh rfl rfl rfl (Weak.refl _) rfl ⟨by rw [hr]; rfl, rfl⟩
 rw [if_neg h200] at hr
 refine Run.reg fun K J => ?_
 simp [h200]
 refine J _ _ _ (nv ?_); clear J
 refine cf (by simp) (nv ?_)
 refine Run.reg fun K J => ?_
 simp
 refine J _ _ _ ?_; clear J
 repeat (first | refine Run.skip ?_ | refine Run.opsNil ?_ | refine Run.inBlock ?_)
 refine Run.joinC0 (k = 1 ∧ e2 = true) [2, 3, 4, 5] [] (fun hJ => ?_) (fun hC => ?_)
 ·refine nv ?_
  refine Run.reg fun K J => ?_
  simp
  refine J _ _ _ (nv ?_); clear J
  by_cases h0 : k = 0
  ·rw [if_pos h0] at hr
   refine ct (by simp [h0]) (nv ?_)
   refine Run.regJ [2, 4, 5] 28 ((v != 0) || decide (0 < (bs.length : Int))) (fun K J => ?_) ?_
   ·simp
    repeat' (first | apply And.intro | intro _)
    all_goals
     refine J _ ?_
     simp
     repeat' first | exact wn | apply wc
     all_goals first | exact Weak.junk _ | (refine Weak.bool ?_; clear J; rw [Bool.eq_iff_iff]; simp; done) | (refine Weak.bool ?_; clear J; rw [Bool.eq_iff_iff]; simp; omega) | (refine Weak.bool ?_; clear J; simp_all; done) | (refine Weak.bool ?_; clear J; simp [*]; done) | (refine Weak.bool ?_; clear J; rw [Bool.eq_iff_iff]; simp [*]; omega) | exact Weak.refl _
   simp only [setMany, keepT, keepT.go, List.contains_cons, List.set_cons_succ, List.set_cons_zero]
   simp
   refine Run.condB rfl (fun h6 => ?_) (fun h6 => ?_)
   ·have hv : v ≠ 0 ∨ 0 < (bs.length : Int) := by simpa using h6
    rw [if_pos hv] at hr
    repeat (first | refine nw ?_ | (refine Run.reg fun K J => ?_; simp; (try (simp (disch := omega) only [wrap_id])); refine J _ _ _ ?_; clear J) | refine ct rfl ?_ | refine cf rfl ?_ | refine Run.exit rfl ?_ | refine Run.ret ?_)
    exact Fin.ret' (h0 := h) (by simp) rfl hh rfl rfl rfl (Weak.refl _) rfl ⟨by rw [hr]; rfl, rfl⟩
   ·have hv : ¬ (v ≠ 0 ∨ 0 < (bs.length : Int)) := by simpa using h6
    rw [if_neg hv] at hr
    refine nv ?_
    refine Run.reg fun K J => ?_
    simp
    refine J _ _ _ ?_; clear J
    refine rl rfl (by first | rfl | simp) (by simp) rfl (c1 _ (hh.app (by simp))) ?_
    refine Run.ops fun K J => ?_
    simp
    refine J _ _ _ (nv ?_); clear J
    refine Run.ret ?_
    exact Fin.ret' (h0 := h) (by simp) rfl hh rfl (by simp; rfl) rfl (Weak.refl _) (by simp) ⟨by rw [hr]; rfl, rfl⟩
  rw [if_neg h0] at hr
  have h0' : (k == 0) = false := by simp [h0]
  refine cf (by simp [h0']) (nv ?_)
  refine Run.reg fun K J => ?_
  simp
  refine J _ _ _ (nv ?_); clear J
  by_cases h1 : k = 1
  ·rw [if_pos h1] at hr
   refine ct (by simp [h1]) (nv ?_)
   refine Run.reg fun K J => ?_
   simp
   refine J _ _ _ ?_; clear J
   refine rl rfl (by first | rfl | simp) (by simp) rfl (c2 _ (hh.app (by simp))) ?_
   cases e2 with
   | false =>
    rw [if_pos rfl] at hr
    refine Run.ops fun K J => ?_
    simp
    refine J _ _ _ (nv ?_); clear J
    refine ct (by simp) (nv ?_)
    repeat (first | refine nw ?_ | (refine Run.reg fun K J => ?_; simp; (try (simp (disch := omega) only [wrap_id])); refine J _ _ _ ?_; clear J) | refine ct rfl ?_ | refine cf rfl ?_ | refine Run.exit rfl ?_ | refine Run.ret ?_)
    exact Fin.ret' (h0 := h) (by simp) rfl hh rfl rfl rfl (Weak.refl _) rfl ⟨by rw [hr]; rfl, rfl⟩
   | true =>
    refine Run.ops fun K J => ?_
    simp
    refine J _ _ _ ?_; clear J
    repeat (first | refine Run.skip ?_ | refine Run.opsNil ?_ | refine Run.inBlock ?_)
    refine cf (by simp) ?_
    repeat (first | refine Run.skip ?_ | refine Run.opsNil ?_ | refine Run.inBlock ?_)
    refine hJ _ ?_ ⟨h1, rfl⟩
    simp
    repeat' first | exact wn | apply wc | exact wj _ | exact wr _ | exact wz _ | exact wo _ _ _ | exact wi (by omega)
  ·rw [if_neg h1] at hr
   have h1' : (k == 1) = false := by simp [h1]
   refine cf (by simp [h1']) (nv ?_)
   repeat (first | refine nw ?_ | (refine Run.reg fun K J => ?_; simp; (try (simp (disch := omega) only [wrap_id])); refine J _ _ _ ?_; clear J) | refine ct rfl ?_ | refine cf rfl ?_ | refine Run.exit rfl ?_ | refine Run.ret ?_)
   exact Fin.ret' (h0 := h) (by simp) rfl hh rfl rfl rfl (Weak.refl _) rfl ⟨by rw [hr]; rfl, rfl⟩
 obtain ⟨rfl, rfl⟩ := hC
 rw [if_neg (by omega), if_pos rfl, if_neg (by simp)] at hr
 clear c1 c2
 simp only [setMany, keepT, keepT.go, List.contains_cons]
 simp
 refine nv ?_
 refine Run.regJ [2, 3, 4, 5] 51 (decide (v < 0) || decide (vars ≤ v)) (fun K J => ?_) ?_
 ·simp
  repeat' (first | apply And.intro | intro _)
  all_goals
   refine J _ ?_
   simp
   repeat' first | exact wn | apply wc
   all_goals first | exact Weak.junk _ | (refine Weak.bool ?_; clear J; rw [Bool.eq_iff_iff]; simp; done) | (refine Weak.bool ?_; clear J; rw [Bool.eq_iff_iff]; simp; omega) | (refine Weak.bool ?_; clear J; simp_all; done) | (refine Weak.bool ?_; clear J; simp [*]; done) | (refine Weak.bool ?_; clear J; rw [Bool.eq_iff_iff]; simp [*]; omega) | exact Weak.refl _
 simp only [setMany, keepT, keepT.go, List.contains_cons, List.set_cons_succ, List.set_cons_zero]
 simp
 refine Run.condB rfl (fun h3 => ?_) (fun h3 => ?_)
 ·rw [if_pos (by simpa using h3)] at hr
  repeat (first | refine nw ?_ | (refine Run.reg fun K J => ?_; simp; (try (simp (disch := omega) only [wrap_id])); refine J _ _ _ ?_; clear J) | refine ct rfl ?_ | refine cf rfl ?_ | refine Run.exit rfl ?_ | refine Run.ret ?_)
  exact Fin.ret' (h0 := h) (by simp) rfl hh rfl rfl rfl (Weak.refl _) rfl ⟨by rw [hr]; rfl, rfl⟩
 rw [if_neg (by simpa using h3)] at hr
 refine nv ?_
 refine Run.reg fun K J => ?_
 simp
 refine J _ _ _ (nv ?_); clear J
 by_cases h4 : 32 < (bs.length : Int)
 ·rw [if_pos h4] at hr
  refine ct (by simp [h4]) (nv ?_)
  repeat (first | refine nw ?_ | (refine Run.reg fun K J => ?_; simp; (try (simp (disch := omega) only [wrap_id])); refine J _ _ _ ?_; clear J) | refine ct rfl ?_ | refine cf rfl ?_ | refine Run.exit rfl ?_ | refine Run.ret ?_)
  exact Fin.ret' (h0 := h) (by simp) rfl hh rfl rfl rfl (Weak.refl _) rfl ⟨by rw [hr]; rfl, rfl⟩
 rw [if_neg h4] at hr
 refine cf (by simp [h4]) (nv ?_)
 refine Run.reg fun K J => ?_
 simp
 refine J _ _ _ (nv ?_); clear J
 refine Run.loopS [2, 3, 4, 5] (fun j : Nat => j ≤ bs.length ∧ firstE ((bs.map BE).take j) = 0) (fun j => bs.length - j) (fun j => [(9, iA j)]) (fun _ => _) 0 (by simp [firstE]) ?_ rfl ?_
 ·simp
  repeat' first | exact wn | apply wc | exact wj _ | exact wr _ | exact wz _ | exact wo _ _ _ | exact wi (by omega)
 rintro j ⟨hj, hall⟩ IH
 simp
 refine nv ?_
 refine Run.reg fun K J => ?_
 simp
 refine J _ _ _ (nv ?_); clear J
 by_cases hjl : j < bs.length
 rotate_left
 ·have hje : j = bs.length := by omega
  subst hje
  rw [List.take_of_length_le (by simp)] at hall
  refine cf (by simp) ?_
  refine Run.exit rfl ?_
  refine nv ?_
  repeat (first | refine nw ?_ | (refine Run.reg fun K J => ?_; simp; (try (simp (disch := omega) only [wrap_id])); refine J _ _ _ ?_; clear J) | refine ct rfl ?_ | refine cf rfl ?_ | refine Run.exit rfl ?_ | refine Run.ret ?_)
  exact Fin.ret' (h0 := h) (by simp) rfl hh rfl rfl rfl (Weak.refl _) rfl ⟨by rw [hr, hall]; rfl, rfl⟩
 have hg : bs[j]? = some bs[j] := List.getElem?_eq_getElem hjl
 have hgd := Br.goods_at hbs _ (List.getElem_mem hjl)
 have hsz := br_size_at (List.getElem_mem hjl)
 have htk : (bs.map BE).take (j + 1) = (bs.map BE).take j ++ [BE bs[j]] := by
  rw [List.take_add_one, List.getElem?_map, hg]; rfl
 generalize bs[j] = x at hg hgd hsz htk
 obtain ⟨c, a, tr⟩ := x
 rw [hbe] at htk
 simp only [Br.good] at hgd
 simp only [Br.size] at hsz
 have c4 := c3 c
 have hfk := hfok c
 have c5 := fun (g : Heap) (hw : WF g) => sameTr_any g hw tr hgd
 have c6 := fun (vars depth : Int) (g : Heap) (hw : WF g) => hrec tr (by omega) hgd vars depth g hw
 clear c3 hfok hrec hbe
 unfold resFind at c4
 have hstop : ∀ e : Int, (bs.map BE).take (j + 1) = (bs.map BE).take j ++ [e] → e ≠ 0 → r = e := fun e h1 h2 => by
  have e1 : firstE ((bs.map BE).take (j + 1)) = e := by rw [h1, firstE_snoc, hall, if_pos rfl]
  rw [hr, firstE_stop (j := j + 1) (by rw [e1]; exact h2), e1]
 have hgo : ∀ e : Int, (bs.map BE).take (j + 1) = (bs.map BE).take j ++ [e] → e = 0 → firstE ((bs.map BE).take (j + 1)) = 0 := fun e h1 h2 => by rw [h1, firstE_snoc, hall, if_pos rfl, h2]
 generalize noTr tr = nt at c5 htk
 obtain ⟨WV, hWV⟩ : ∃ W : Tr → Int → Int → Int, W = TZ := ⟨_, rfl⟩
 rw [← hWV] at c6 htk
 obtain ⟨p1, ⟨p2, p3, p4, p5, p6⟩, p7, p8⟩ := tr
 simp only [Tr.av, Tr.cells, cells_mk, List.map, List.cons_append, List.nil_append, brPs_eq] at c5 c6
 refine ct (by simp [hjl]) (nv ?_)
 refine Run.reg fun K J => ?_
 simp [hg, Br.cells, Tr.cells, brPs_eq]
 refine J _ _ _ (nv ?_); clear J
 refine Run.reg fun K J => ?_
 simp
 refine J _ _ _ ?_; clear J
 cases hfz : findZ c env 0 with
 | none =>
  rw [hfz] at c4 htk
  simp only at htk
  simp only [zEn, zT, En.av, En.cells, cells_mk, List.map] at c4
  have := hstop 9 htk (by omega)
  refine rl rfl (by first | rfl | simp) (by simp) rfl (c4 _ (hh.app (by simp))) ?_
  refine Run.ops fun K J => ?_
  simp
  refine J _ _ _ (nv ?_); clear J
  refine Run.reg fun K J => ?_
  simp
  refine J _ _ _ (nv ?_); clear J
  refine ct (by simp) (nv ?_)
  repeat (first | refine nw ?_ | (refine Run.reg fun K J => ?_; simp; (try (simp (disch := omega) only [wrap_id])); refine J _ _ _ ?_; clear J) | refine ct rfl ?_ | refine cf rfl ?_ | refine Run.exit rfl ?_ | refine Run.ret ?_)
  exact Fin.ret' (h0 := h) (by simp) rfl hh rfl rfl rfl (Weak.refl _) rfl ⟨by rw [this]; rfl, rfl⟩
 | some e =>
 rw [hfz] at c4 htk
 obtain ⟨q, dd, f1, f2, f3, f4, f5⟩ := hfk e hfz
 simp only at htk
 have hfl : fldE env e = fldZ dd e.it.toNat := by unfold fldE; rw [f1]; simp only [Nat.zero_add, Int.toNat_natCast]; rw [f2]
 rw [hfl] at htk
 obtain ⟨x1, x2, x3, x4, ⟨x5, x6, x7, x8, x9⟩⟩ := e
 simp only at f1 f3 f4 f5 htk
 simp only [En.av, En.cells, cells_mk, List.map] at c4
 subst f1
 refine rl rfl (by first | rfl | simp) (by simp) rfl (c4 _ (hh.app (by simp))) ?_
 refine Run.ops fun K J => ?_
 simp
 refine J _ _ _ (nv ?_); clear J
 by_cases hx : x1 = 4
 rotate_left
 ·rw [if_neg hx] at htk
  have := hstop 9 htk (by omega)
  have hx' : (x1 != 4) = true := by simp [hx]
  refine Run.reg fun K J => ?_
  simp [hx']
  refine J _ _ _ (nv ?_); clear J
  refine ct (by simp) (nv ?_)
  repeat (first | refine nw ?_ | (refine Run.reg fun K J => ?_; simp; (try (simp (disch := omega) only [wrap_id])); refine J _ _ _ ?_; clear J) | refine ct rfl ?_ | refine cf rfl ?_ | refine Run.exit rfl ?_ | refine Run.ret ?_)
  exact Fin.ret' (h0 := h) (by simp) rfl hh rfl rfl rfl (Weak.refl _) rfl ⟨by rw [this]; rfl, rfl⟩
 rw [if_pos hx] at htk
 have f4 := f4 hx
 subst hx
 refine Run.reg fun K J => ?_
 simp
 refine J _ _ _ (nv ?_); clear J
 refine cf (by simp) (nv ?_)
 refine Run.reg fun K J => ?_
 simp
 refine J _ _ _ (nv ?_); clear J
 cases a with
 | true =>
  simp only [if_true] at htk
  refine ct (by simp) (nv ?_)
  refine Run.reg fun K J => ?_
  simp
  refine J _ _ _ ?_; clear J
  refine rl rfl (by first | rfl | simp) (by simp) rfl (c5 _ (hh.app (by simp))) ?_
  cases nt with
  | false =>
   have := hstop 3 (by simpa using htk) (by omega)
   refine Run.ops fun K J => ?_
   simp
   refine J _ _ _ (nv ?_); clear J
   refine ct (by simp) (nv ?_)
   repeat (first | refine nw ?_ | (refine Run.reg fun K J => ?_; simp; (try (simp (disch := omega) only [wrap_id])); refine J _ _ _ ?_; clear J) | refine ct rfl ?_ | refine cf rfl ?_ | refine Run.exit rfl ?_ | refine Run.ret ?_)
   exact Fin.ret' (h0 := h) (by simp) rfl hh rfl rfl rfl (Weak.refl _) rfl ⟨by rw [this]; rfl, rfl⟩
  | true =>
   have hgo := hgo 0 (by simpa using htk) rfl
   refine Run.ops fun K J => ?_
   simp
   refine J _ _ _ (nv ?_); clear J
   refine cf (by simp) (nv ?_)
   refine Run.exit rfl ?_
   refine Run.reg fun K J => ?_
   simp
   try (simp (disch := omega) only [wrap_id])
   refine J _ _ _ (nv ?_); clear J
   refine Run.keep [2, 3, 4, 5, 9] ?_
   simp
   refine Run.cutAt 2 hh rfl (by omega) (by simp) (by simp) (by simp) rfl ?_
   refine IH (j + 1) _ _ ⟨by omega, hgo⟩ (by omega) ?_ (by simp)
   simp
   repeat' first | exact wn | apply wc | exact wj _ | exact wr _ | exact wz _ | exact wo _ _ _ | exact wi (by omega)
 | false =>
  simp only [Bool.false_eq_true, if_false] at htk
  obtain ⟨m, hm⟩ : ∃ m : Nat, x3 = m := ⟨x3.toNat, by omega⟩
  subst hm
  rw [Int.toNat_natCast] at htk
  have hdd := hdg dd (List.mem_of_getElem? f2)
  have c7 := fun (g : Heap) (hw : WF g) => fields_any g hw dd hdd m (by omega)
  have hdl := dc_cells_len dd
  have htd : List.take 23 (dd.cells.map AV.p) = dd.cells.map .p := List.take_of_length_le (by simp [hdl])
  have hmn : ¬ ((m : Int) < 0) := by omega
  simp only [Dc.av] at c7
  generalize fldZ dd m = fl at c7 htk
  have c6 := c6 (IntKind.i64.wrap (vars + fl)) (IntKind.i64.wrap (depth + 1))
  generalize WV _ _ _ = e at c6 htk
  refine cf (by simp) (nv ?_)
  refine Run.draw [0, 0, 0, 0, 0, 0, 0, 0, 0, 0, 0, 0, 0, 1, 0, 0, 1, 2] [0, 0, 0, 0, 0, 0, 0, 0, 0, 0, 0, 0, 0, 0, 0, 0, 1, 0] [0, 0, 2, 0, 0, 16, 0, 64, 240, 496, 0, 1024, 4080, 8184, 0, 16384, 65535, 131071] [4, 5, 6, 7, 8, 9, 10, 11, 12, 0, 1, 2, 3, 13, 14, 15, 16, 17] (by kernel_rfl) (by kernel_rfl) ?_
  refine DR.go fun K J => ?_
  simp [f2, hdl, htd]
  refine J _ _ _ _ ?_; clear J
  refine DR.call rfl rfl rfl (by simp) rfl (c7 _ (hh.app (by simp))) ?_
  refine DR.go fun K J => ?_
  simp
  refine J _ _ _ _ ?_; clear J
  refine DR.call rfl rfl rfl (by simp) rfl (c6 _ (hh.app (by simp))) ?_
  refine DR.go fun K J => ?_
  simp
  refine J _ _ _ _ ?_; clear J
  change Run _ _ _ _ _ _ _ _
  refine nv ?_
  refine Run.reg fun K J => ?_
  simp
  refine J _ _ _ (nv ?_); clear J
  by_cases he : e = 0
  ·have hgo := hgo e htk he
   refine cf (by simp [he]) (nv ?_)
   refine Run.reg fun K J => ?_
   simp
   try (simp (disch := omega) only [wrap_id])
   refine J _ _ _ (nv ?_); clear J
   refine Run.keep [2, 3, 4, 5, 9] ?_
   simp
   refine Run.cutAt 2 hh rfl (by omega) (by simp) (by simp) (by simp) rfl ?_
   refine IH (j + 1) _ _ ⟨by omega, hgo⟩ (by omega) ?_ (by simp)
   simp
   repeat' first | exact wn | apply wc | exact wj _ | exact wr _ | exact wz _ | exact wo _ _ _ | exact wi (by omega)
  ·have := hstop e htk he
   refine ct (by simp [he]) (nv ?_)
   repeat (first | refine nw ?_ | (refine Run.reg fun K J => ?_; simp; (try (simp (disch := omega) only [wrap_id])); refine J _ _ _ ?_; clear J) | refine ct rfl ?_ | refine cf rfl ?_ | refine Run.exit rfl ?_ | refine Run.ret ?_)
   exact Fin.ret' (h0 := h) (by simp) rfl hh rfl rfl rfl (Weak.refl _) rfl ⟨by rw [this]; rfl, rfl⟩

end Go.Proofs.YtcfcolkbeelegaaGreat
