import Derived.Test.YtcfcolkbeelegaaGreatVX11
set_option maxRecDepth 8000
set_option maxHeartbeats 16000000

namespace Go.Proofs.YtcfcolkbeelegaaGreat

open Go Go.AI
theorem smallTree_any (N : Nat) : ∀ (t : Tr) (dp : Int) (h : Heap), t.size ≤ N → t.good → WF h → ACalls Tryz.prog 202 [t.av, iA dp] h fun o h' => RetB (fun _ => True) o ∧ h' = h := by
 induction N with
 | zero => intro t _ h hN; cases t; simp [Tr.size] at hN
 | succ N ih =>
 intro t dp h hN hgd hh
 obtain ⟨k, b, v, bs⟩ := t
 simp only [Tr.size] at hN
 simp only [Tr.good] at hgd
 obtain ⟨hb, hbl, hbs⟩ := hgd
 have c1 := fun (g : Heap) (hw : WF g) => small_any g hw b hb
 have hrec := fun (t : Tr) (h1 : t.size ≤ Br.sizes bs) (h2 : t.good) (dp : Int) (g : Heap) (hw : WF g) => ih t dp g (by omega) h2 hw
 clear ih
 obtain ⟨m1, m2, m3, m4, m5⟩ := b
 simp only [Tr.av, Tr.cells, Tm.av, cells_mk, List.map, List.cons_append, List.nil_append, brPs_eq] at c1 hrec ⊢
 refine ACalls.of_run Tryz.func202 rfl ?_
 simp only [Tryz.ntmps202, List.length_cons, List.length_nil]
 refine nv ?_
 refine Run.reg fun K J => ?_
 simp
 refine J _ _ _ (nv ?_); clear J
 by_cases e1 : 40 < dp
 ·skip
  refine Run.reg fun K J => ?_
  simp [e1]
  refine J _ _ _ (nv ?_); clear J
  refine ct (by simp) (nv ?_)
  repeat (first | refine nw ?_ | (refine Run.reg fun K J => ?_; simp; (try (simp (disch := omega) only [wrap_id])); refine J _ _ _ ?_; clear J) | refine ct rfl ?_ | refine cf rfl ?_ | refine Run.exit rfl ?_ | refine Run.ret ?_)
  exact Fin.ret' (h0 := h) (by simp) rfl hh rfl rfl rfl (Weak.refl _) rfl ⟨⟨_, rfl, trivial⟩, rfl⟩
 by_cases e2 : 40 < (bs.length : Int)
 ·skip
  refine Run.reg fun K J => ?_
  simp [e1, e2]
  refine J _ _ _ (nv ?_); clear J
  refine ct (by simp) (nv ?_)
  repeat (first | refine nw ?_ | (refine Run.reg fun K J => ?_; simp; (try (simp (disch := omega) only [wrap_id])); refine J _ _ _ ?_; clear J) | refine ct rfl ?_ | refine cf rfl ?_ | refine Run.exit rfl ?_ | refine Run.ret ?_)
  exact Fin.ret' (h0 := h) (by simp) rfl hh rfl rfl rfl (Weak.refl _) rfl ⟨⟨_, rfl, trivial⟩, rfl⟩
 refine Run.reg fun K J => ?_
 simp [e1, e2]
 refine J _ _ _ ?_; clear J
 refine Run.call rfl (by first | rfl | simp) (by simp) rfl (c1 _ (hh.app (by simp))) ?_ ?_
 rotate_left
 ·rintro v h' ⟨⟨_, hv, _⟩, _⟩; cases hv
 rintro v h' ⟨⟨b, hv, hb⟩, rfl⟩
 simp only [AOut.ret.injEq] at hv
 subst hv
 cases b with
 | false =>
  refine Run.ops fun K J => ?_
  simp
  refine J _ _ _ (nv ?_); clear J
  refine ct (by simp) (nv ?_)
  repeat (first | refine nw ?_ | (refine Run.reg fun K J => ?_; simp; (try (simp (disch := omega) only [wrap_id])); refine J _ _ _ ?_; clear J) | refine ct rfl ?_ | refine cf rfl ?_ | refine Run.exit rfl ?_ | refine Run.ret ?_)
  exact Fin.ret' (h0 := h) (by simp) rfl hh rfl rfl rfl (Weak.refl _) rfl ⟨⟨_, rfl, trivial⟩, rfl⟩
 | true =>
 refine Run.ops fun K J => ?_
 simp
 refine J _ _ _ (nv ?_); clear J
 refine cf (by simp) (nv ?_)
 refine Run.reg fun K J => ?_
 simp
 refine J _ _ _ (nv ?_); clear J
 refine Run.loopS [1, 2] (fun j : Nat => j ≤ bs.length) (fun j => bs.length - j) (fun j => [(5, iA j)]) (fun _ => _) 0 (by simp) ?_ rfl ?_
 ·simp
  repeat' first | exact wn | apply wc | exact wj _ | exact wr _ | exact wz _ | exact wo _ _ _ | exact wi (by omega)
 rintro j hj IH
 simp
 refine nv ?_
 refine Run.reg fun K J => ?_
 simp
 refine J _ _ _ (nv ?_); clear J
 by_cases hjl : j < bs.length
 ·have hg : bs[j]? = some bs[j] := List.getElem?_eq_getElem hjl
  have hgd := Br.goods_at hbs _ (List.getElem_mem hjl)
  have hsz := br_size_at (List.getElem_mem hjl)
  generalize bs[j] = x at hg hgd hsz
  obtain ⟨c, a, tr⟩ := x
  simp only [Br.good] at hgd
  simp only [Br.size] at hsz
  have c2 := fun (dp : Int) (g : Heap) (hw : WF g) => hrec tr (by omega) hgd dp g hw
  obtain ⟨p1, ⟨p2, p3, p4, p5, p6⟩, p7, p8⟩ := tr
  simp only [Tr.cells, cells_mk, List.map, List.cons_append, List.nil_append, brPs_eq] at c2
  refine ct (by simp [hjl]) (nv ?_)
  refine Run.reg fun K J => ?_
  simp [hg, Br.cells, Tr.cells, brPs_eq]
  refine J _ _ _ ?_; clear J
  refine Run.call rfl (by first | rfl | simp) (by simp) rfl (c2 (IntKind.i64.wrap (dp + 1)) _ (hh.app (by simp))) ?_ ?_
  rotate_left
  ·rintro v h' ⟨⟨_, hv, _⟩, _⟩; cases hv
  rintro v h' ⟨⟨b, hv, hb⟩, rfl⟩
  simp only [AOut.ret.injEq] at hv
  subst hv
  cases b with
  | false =>
   refine Run.ops fun K J => ?_
   simp
   refine J _ _ _ (nv ?_); clear J
   refine ct (by simp) (nv ?_)
   repeat (first | refine nw ?_ | (refine Run.reg fun K J => ?_; simp; (try (simp (disch := omega) only [wrap_id])); refine J _ _ _ ?_; clear J) | refine ct rfl ?_ | refine cf rfl ?_ | refine Run.exit rfl ?_ | refine Run.ret ?_)
   exact Fin.ret' (h0 := h) (by simp) rfl hh rfl rfl rfl (Weak.refl _) rfl ⟨⟨_, rfl, trivial⟩, rfl⟩
  | true =>
   by_cases e3 : 200 < (c.length : Int)
   ·refine Run.ops fun K J => ?_
    simp [hg, Br.cells, e3]
    refine J _ _ _ (nv ?_); clear J
    refine ct (by simp) (nv ?_)
    repeat (first | refine nw ?_ | (refine Run.reg fun K J => ?_; simp; (try (simp (disch := omega) only [wrap_id])); refine J _ _ _ ?_; clear J) | refine ct rfl ?_ | refine cf rfl ?_ | refine Run.exit rfl ?_ | refine Run.ret ?_)
    exact Fin.ret' (h0 := h) (by simp) rfl hh rfl rfl rfl (Weak.refl _) rfl ⟨⟨_, rfl, trivial⟩, rfl⟩
   ·refine Run.ops fun K J => ?_
    simp [hg, Br.cells, e3]
    refine J _ _ _ (nv ?_); clear J
    refine cf (by simp) (nv ?_)
    refine Run.reg fun K J => ?_
    simp
    try (simp (disch := omega) only [wrap_id])
    refine J _ _ _ (nv ?_); clear J
    refine IH (j + 1) _ _ (by omega) (by omega) ?_ rfl
    simp
    repeat' first | exact wn | apply wc | exact wj _ | exact wr _ | exact wz _ | exact wo _ _ _ | exact wi (by omega)
 ·have hje : j = bs.length := by omega
  subst hje
  refine cf (by simp) ?_
  refine Run.exit rfl ?_
  refine nv ?_
  repeat (first | refine nw ?_ | (refine Run.reg fun K J => ?_; simp; (try (simp (disch := omega) only [wrap_id])); refine J _ _ _ ?_; clear J) | refine ct rfl ?_ | refine cf rfl ?_ | refine Run.exit rfl ?_ | refine Run.ret ?_)
  exact Fin.ret' (h0 := h) (by simp) rfl hh rfl rfl rfl (Weak.refl _) rfl ⟨⟨_, rfl, trivial⟩, rfl⟩
theorem fewDecl_any (h : Heap) (hh : WF h) (d : Dc) (hd : d.good) : ACalls Tryz.prog 168 [d.av] h fun o h' => RetB (fun b => b = true → d.nm.length ≤ 200) o ∧ h' = h := by
 have c1 := fun (g : Heap) (hw : WF g) => small_any g hw d.ty hd.ty
 have c2 := fun (g : Heap) (hw : WF g) => small_any g hw d.va hd.va
 have c3 := fun (g : Heap) (hw : WF g) => small_any g hw d.rt hd.rt
 have hcs := hd.cs
 have hrr := hd.rr
 have hfs := hd.fs
 have hcl := hd.csl
 have hrl := hd.rrl
 have hfl := hd.fsl
 obtain ⟨k, nm, ps, ⟨k1, i1, n1, l1, s1⟩, ⟨k2, i2, n2, l2, s2⟩, fx, cs, rp, ⟨k3, i3, n3, l3, s3⟩, rr, fs⟩ := d
 clear hd
 simp only at hcs hrr hfs hcl hrl hfl
 simp only [Dc.av, Dc.cells, Tm.av, cells_mk, List.map, List.cons_append, List.nil_append] at c1 c2 c3 ⊢
 refine ACalls.of_run Tryz.func168 rfl ?_
 simp only [Tryz.ntmps168, List.length_cons, List.length_nil]
 refine nv ?_
 refine Run.reg fun K J => ?_
 simp
 refine J _ _ _ (nv ?_); clear J
 by_cases e1 : 200 < (nm.length : Int)
 ·skip
  refine Run.reg fun K J => ?_
  simp [e1]
  refine J _ _ _ (nv ?_); clear J
  refine ct (by simp) (nv ?_)
  repeat (first | refine nw ?_ | (refine Run.reg fun K J => ?_; simp; (try (simp (disch := omega) only [wrap_id])); refine J _ _ _ ?_; clear J) | refine ct rfl ?_ | refine cf rfl ?_ | refine Run.exit rfl ?_ | refine Run.ret ?_)
  exact Fin.ret' (h0 := h) (by simp) rfl hh rfl rfl rfl (Weak.refl _) rfl ⟨⟨_, rfl, fun h => by cases h⟩, rfl⟩
 refine Run.reg fun K J => ?_
 simp [e1]
 refine J _ _ _ ?_; clear J
 refine Run.call rfl (by first | rfl | simp) (by simp) rfl (c1 _ (hh.app (by simp))) ?_ ?_
 rotate_left
 ·rintro v h' ⟨⟨_, hv, _⟩, _⟩; cases hv
 rintro v h' ⟨⟨b, hv, hb⟩, rfl⟩
 simp only [AOut.ret.injEq] at hv
 subst hv
 cases b with
 | false =>
  refine Run.ops fun K J => ?_
  simp
  refine J _ _ _ (nv ?_); clear J
  refine ct (by simp) (nv ?_)
  repeat (first | refine nw ?_ | (refine Run.reg fun K J => ?_; simp; (try (simp (disch := omega) only [wrap_id])); refine J _ _ _ ?_; clear J) | refine ct rfl ?_ | refine cf rfl ?_ | refine Run.exit rfl ?_ | refine Run.ret ?_)
  exact Fin.ret' (h0 := h) (by simp) rfl hh rfl rfl rfl (Weak.refl _) rfl ⟨⟨_, rfl, fun h => by cases h⟩, rfl⟩
 | true =>
 refine Run.ops fun K J => ?_
 simp
 refine J _ _ _ ?_; clear J
 refine Run.call rfl (by first | rfl | simp) (by simp) rfl (c2 _ (hh.app (by simp))) ?_ ?_
 rotate_left
 ·rintro v h' ⟨⟨_, hv, _⟩, _⟩; cases hv
 rintro v h' ⟨⟨b, hv, hb⟩, rfl⟩
 simp only [AOut.ret.injEq] at hv
 subst hv
 cases b with
 | false =>
  refine Run.ops fun K J => ?_
  simp
  refine J _ _ _ (nv ?_); clear J
  refine ct (by simp) (nv ?_)
  repeat (first | refine nw ?_ | (refine Run.reg fun K J => ?_; simp; (try (simp (disch := omega) only [wrap_id])); refine J _ _ _ ?_; clear J) | refine ct rfl ?_ | refine cf rfl ?_ | refine Run.exit rfl ?_ | refine Run.ret ?_)
  exact Fin.ret' (h0 := h) (by simp) rfl hh rfl rfl rfl (Weak.refl _) rfl ⟨⟨_, rfl, fun h => by cases h⟩, rfl⟩
 | true =>
 by_cases e2 : 40 < (cs.length : Int)
 ·refine Run.ops fun K J => ?_
  simp [e2]
  refine J _ _ _ (nv ?_); clear J
  refine ct (by simp) (nv ?_)
  repeat (first | refine nw ?_ | (refine Run.reg fun K J => ?_; simp; (try (simp (disch := omega) only [wrap_id])); refine J _ _ _ ?_; clear J) | refine ct rfl ?_ | refine cf rfl ?_ | refine Run.exit rfl ?_ | refine Run.ret ?_)
  exact Fin.ret' (h0 := h) (by simp) rfl hh rfl rfl rfl (Weak.refl _) rfl ⟨⟨_, rfl, fun h => by cases h⟩, rfl⟩
 by_cases e3 : 12 < (fs.length : Int)
 ·refine Run.ops fun K J => ?_
  simp [e2, e3]
  refine J _ _ _ (nv ?_); clear J
  refine ct (by simp) (nv ?_)
  repeat (first | refine nw ?_ | (refine Run.reg fun K J => ?_; simp; (try (simp (disch := omega) only [wrap_id])); refine J _ _ _ ?_; clear J) | refine ct rfl ?_ | refine cf rfl ?_ | refine Run.exit rfl ?_ | refine Run.ret ?_)
  exact Fin.ret' (h0 := h) (by simp) rfl hh rfl rfl rfl (Weak.refl _) rfl ⟨⟨_, rfl, fun h => by cases h⟩, rfl⟩
 refine Run.ops fun K J => ?_
 simp [e2, e3]
 refine J _ _ _ ?_; clear J
 refine Run.call rfl (by first | rfl | simp) (by simp) rfl (c3 _ (hh.app (by simp))) ?_ ?_
 rotate_left
 ·rintro v h' ⟨⟨_, hv, _⟩, _⟩; cases hv
 rintro v h' ⟨⟨b, hv, hb⟩, rfl⟩
 simp only [AOut.ret.injEq] at hv
 subst hv
 cases b with
 | false =>
  refine Run.ops fun K J => ?_
  simp
  refine J _ _ _ (nv ?_); clear J
  refine ct (by simp) (nv ?_)
  repeat (first | refine nw ?_ | (refine Run.reg fun K J => ?_; simp; (try (simp (disch := omega) only [wrap_id])); refine J _ _ _ ?_; clear J) | refine ct rfl ?_ | refine cf rfl ?_ | refine Run.exit rfl ?_ | refine Run.ret ?_)
  exact Fin.ret' (h0 := h) (by simp) rfl hh rfl rfl rfl (Weak.refl _) rfl ⟨⟨_, rfl, fun h => by cases h⟩, rfl⟩
 | true =>
 by_cases e4 : 40 < (rr.length : Int)
 ·refine Run.ops fun K J => ?_
  simp [e4]
  refine J _ _ _ (nv ?_); clear J
  refine ct (by simp) (nv ?_)
  repeat (first | refine nw ?_ | (refine Run.reg fun K J => ?_; simp; (try (simp (disch := omega) only [wrap_id])); refine J _ _ _ ?_; clear J) | refine ct rfl ?_ | refine cf rfl ?_ | refine Run.exit rfl ?_ | refine Run.ret ?_)
  exact Fin.ret' (h0 := h) (by simp) rfl hh rfl rfl rfl (Weak.refl _) rfl ⟨⟨_, rfl, fun h => by cases h⟩, rfl⟩
 refine Run.ops fun K J => ?_
 simp [e4]
 refine J _ _ _ (nv ?_); clear J
 refine cf (by simp) (nv ?_)
 refine Run.reg fun K J => ?_
 simp
 refine J _ _ _ (nv ?_); clear J
 clear c1 c2 c3
 refine Run.loopS [1] (fun j : Nat => j ≤ cs.length) (fun j => cs.length - j) (fun j => [(3, iA j)]) (fun _ => _) 0 (by simp) ?_ rfl ?_
 ·simp
  repeat' first | exact wn | apply wc | exact wj _ | exact wr _ | exact wz _ | exact wo _ _ _ | exact wi (by omega)
 rintro j hj IH
 simp
 refine nv ?_
 refine Run.reg fun K J => ?_
 simp
 refine J _ _ _ (nv ?_); clear J
 by_cases hjl : j < cs.length
 ·have hg : cs[j]? = some cs[j] := List.getElem?_eq_getElem hjl
  have c1 := fun (g : Heap) (hw : WF g) => small_any g hw _ (hcs _ (List.getElem_mem hjl))
  generalize cs[j] = c at hg c1
  obtain ⟨x, ⟨k4, i4, n4, l4, s4⟩⟩ := c
  simp only [Tm.av, cells_mk, List.map] at c1
  refine ct (by simp [hjl]) (nv ?_)
  by_cases e5 : 200 < (x.length : Int)
  ·skip
   refine Run.reg fun K J => ?_
   simp [hg, Ct.cells, e5]
   refine J _ _ _ (nv ?_); clear J
   refine ct (by simp) (nv ?_)
   repeat (first | refine nw ?_ | (refine Run.reg fun K J => ?_; simp; (try (simp (disch := omega) only [wrap_id])); refine J _ _ _ ?_; clear J) | refine ct rfl ?_ | refine cf rfl ?_ | refine Run.exit rfl ?_ | refine Run.ret ?_)
   exact Fin.ret' (h0 := h) (by simp) rfl hh rfl rfl rfl (Weak.refl _) rfl ⟨⟨_, rfl, fun h => by cases h⟩, rfl⟩
  refine Run.reg fun K J => ?_
  simp [hg, Ct.cells, e5]
  refine J _ _ _ ?_; clear J
  refine Run.call rfl (by first | rfl | simp) (by simp) rfl (c1 _ (hh.app (by simp))) ?_ ?_
  rotate_left
  ·rintro v h' ⟨⟨_, hv, _⟩, _⟩; cases hv
  rintro v h' ⟨⟨b, hv, hb⟩, rfl⟩
  simp only [AOut.ret.injEq] at hv
  subst hv
  cases b with
  | false =>
   refine Run.ops fun K J => ?_
   simp
   refine J _ _ _ (nv ?_); clear J
   refine ct (by simp) (nv ?_)
   repeat (first | refine nw ?_ | (refine Run.reg fun K J => ?_; simp; (try (simp (disch := omega) only [wrap_id])); refine J _ _ _ ?_; clear J) | refine ct rfl ?_ | refine cf rfl ?_ | refine Run.exit rfl ?_ | refine Run.ret ?_)
   exact Fin.ret' (h0 := h) (by simp) rfl hh rfl rfl rfl (Weak.refl _) rfl ⟨⟨_, rfl, fun h => by cases h⟩, rfl⟩
  | true =>
   refine Run.ops fun K J => ?_
   simp
   refine J _ _ _ (nv ?_); clear J
   refine cf (by simp) (nv ?_)
   refine Run.reg fun K J => ?_
   simp
   try (simp (disch := omega) only [wrap_id])
   refine J _ _ _ (nv ?_); clear J
   refine IH (j + 1) _ _ (by omega) (by omega) ?_ rfl
   simp
   repeat' first | exact wn | apply wc | exact wj _ | exact wr _ | exact wz _ | exact wo _ _ _ | exact wi (by omega)
 have hje : j = cs.length := by omega
 subst hje
 refine cf (by simp) ?_
 refine Run.exit rfl ?_
 refine nv ?_
 refine Run.reg fun K J => ?_
 simp
 refine J _ _ _ (nv ?_); clear J
 refine Run.loopS [1] (fun j : Nat => j ≤ rr.length) (fun j => rr.length - j) (fun j => [(4, iA j)]) (fun _ => _) 0 (by simp) ?_ rfl ?_
 ·simp
  repeat' first | exact wn | apply wc | exact wj _ | exact wr _ | exact wz _ | exact wo _ _ _ | exact wi (by omega)
 rintro j hj IH
 simp
 refine nv ?_
 refine Run.reg fun K J => ?_
 simp
 refine J _ _ _ (nv ?_); clear J
 by_cases hjl : j < rr.length
 ·have hg : rr[j]? = some rr[j] := List.getElem?_eq_getElem hjl
  have c1 := fun (g : Heap) (hw : WF g) => small_any g hw _ (hrr _ (List.getElem_mem hjl))
  generalize rr[j] = c at hg c1
  obtain ⟨k4, i4, n4, l4, s4⟩ := c
  simp only [Tm.av, cells_mk, List.map] at c1
  refine ct (by simp [hjl]) (nv ?_)
  refine Run.reg fun K J => ?_
  simp [hg]
  refine J _ _ _ ?_; clear J
  refine Run.call rfl (by first | rfl | simp) (by simp) rfl (c1 _ (hh.app (by simp))) ?_ ?_
  rotate_left
  ·rintro v h' ⟨⟨_, hv, _⟩, _⟩; cases hv
  rintro v h' ⟨⟨b, hv, hb⟩, rfl⟩
  simp only [AOut.ret.injEq] at hv
  subst hv
  cases b with
  | false =>
   refine Run.ops fun K J => ?_
   simp
   refine J _ _ _ (nv ?_); clear J
   refine ct (by simp) (nv ?_)
   repeat (first | refine nw ?_ | (refine Run.reg fun K J => ?_; simp; (try (simp (disch := omega) only [wrap_id])); refine J _ _ _ ?_; clear J) | refine ct rfl ?_ | refine cf rfl ?_ | refine Run.exit rfl ?_ | refine Run.ret ?_)
   exact Fin.ret' (h0 := h) (by simp) rfl hh rfl rfl rfl (Weak.refl _) rfl ⟨⟨_, rfl, fun h => by cases h⟩, rfl⟩
  | true =>
   refine Run.ops fun K J => ?_
   simp
   refine J _ _ _ (nv ?_); clear J
   refine cf (by simp) (nv ?_)
   refine Run.reg fun K J => ?_
   simp
   try (simp (disch := omega) only [wrap_id])
   refine J _ _ _ (nv ?_); clear J
   refine IH (j + 1) _ _ (by omega) (by omega) ?_ rfl
   simp
   repeat' first | exact wn | apply wc | exact wj _ | exact wr _ | exact wz _ | exact wo _ _ _ | exact wi (by omega)
 have hje : j = rr.length := by omega
 subst hje
 refine cf (by simp) ?_
 refine Run.exit rfl ?_
 refine nv ?_
 refine Run.reg fun K J => ?_
 simp
 refine J _ _ _ (nv ?_); clear J
 refine Run.loopS [1] (fun j : Nat => j ≤ fs.length) (fun j => fs.length - j) (fun j => [(5, iA j)]) (fun _ => _) 0 (by simp) ?_ rfl ?_
 ·simp
  repeat' first | exact wn | apply wc | exact wj _ | exact wr _ | exact wz _ | exact wo _ _ _ | exact wi (by omega)
 rintro j hj IH
 simp
 refine nv ?_
 refine Run.reg fun K J => ?_
 simp
 refine J _ _ _ (nv ?_); clear J
 by_cases hjl : j < fs.length
 ·have hg : fs[j]? = some fs[j] := List.getElem?_eq_getElem hjl
  have hgf := hfs _ (List.getElem_mem hjl)
  generalize fs[j] = c at hg hgf
  obtain ⟨x, ty, z, w⟩ := c
  have c1 := fun (g : Heap) (hw : WF g) => small_any g hw ty hgf.1
  have c2 := fun (g : Heap) (hw : WF g) => smallTree_any w.size w 0 g (Nat.le_refl _) hgf.2 hw
  clear hgf
  obtain ⟨k4, i4, n4, l4, s4⟩ := ty
  obtain ⟨p1, ⟨p2, p3, p4, p5, p6⟩, p7, p8⟩ := w
  simp only [Tr.av, Tr.cells, Tm.av, cells_mk, List.map, List.cons_append, List.nil_append, brPs_eq] at c1 c2
  refine ct (by simp [hjl]) (nv ?_)
  by_cases e5 : 200 < (x.length : Int)
  ·skip
   refine Run.reg fun K J => ?_
   simp [hg, Fu.cells, e5]
   refine J _ _ _ (nv ?_); clear J
   refine ct (by simp) (nv ?_)
   repeat (first | refine nw ?_ | (refine Run.reg fun K J => ?_; simp; (try (simp (disch := omega) only [wrap_id])); refine J _ _ _ ?_; clear J) | refine ct rfl ?_ | refine cf rfl ?_ | refine Run.exit rfl ?_ | refine Run.ret ?_)
   exact Fin.ret' (h0 := h) (by simp) rfl hh rfl rfl rfl (Weak.refl _) rfl ⟨⟨_, rfl, fun h => by cases h⟩, rfl⟩
  refine Run.reg fun K J => ?_
  simp [hg, Fu.cells, e5]
  refine J _ _ _ ?_; clear J
  refine Run.call rfl (by first | rfl | simp) (by simp) rfl (c1 _ (hh.app (by simp))) ?_ ?_
  rotate_left
  ·rintro v h' ⟨⟨_, hv, _⟩, _⟩; cases hv
  rintro v h' ⟨⟨b, hv, hb⟩, rfl⟩
  simp only [AOut.ret.injEq] at hv
  subst hv
  cases b with
  | false =>
   refine Run.ops fun K J => ?_
   simp
   refine J _ _ _ (nv ?_); clear J
   refine ct (by simp) (nv ?_)
   repeat (first | refine nw ?_ | (refine Run.reg fun K J => ?_; simp; (try (simp (disch := omega) only [wrap_id])); refine J _ _ _ ?_; clear J) | refine ct rfl ?_ | refine cf rfl ?_ | refine Run.exit rfl ?_ | refine Run.ret ?_)
   exact Fin.ret' (h0 := h) (by simp) rfl hh rfl rfl rfl (Weak.refl _) rfl ⟨⟨_, rfl, fun h => by cases h⟩, rfl⟩
  | true =>
  refine Run.ops fun K J => ?_
  simp [hg, Fu.cells, Tr.cells, brPs_eq]
  refine J _ _ _ ?_; clear J
  refine Run.call rfl (by first | rfl | simp) (by simp) rfl (c2 _ (hh.app (by simp))) ?_ ?_
  rotate_left
  ·rintro v h' ⟨⟨_, hv, _⟩, _⟩; cases hv
  rintro v h' ⟨⟨b, hv, hb⟩, rfl⟩
  simp only [AOut.ret.injEq] at hv
  subst hv
  cases b with
  | false =>
   refine Run.ops fun K J => ?_
   simp
   refine J _ _ _ (nv ?_); clear J
   refine ct (by simp) (nv ?_)
   repeat (first | refine nw ?_ | (refine Run.reg fun K J => ?_; simp; (try (simp (disch := omega) only [wrap_id])); refine J _ _ _ ?_; clear J) | refine ct rfl ?_ | refine cf rfl ?_ | refine Run.exit rfl ?_ | refine Run.ret ?_)
   exact Fin.ret' (h0 := h) (by simp) rfl hh rfl rfl rfl (Weak.refl _) rfl ⟨⟨_, rfl, fun h => by cases h⟩, rfl⟩
  | true =>
   refine Run.ops fun K J => ?_
   simp
   refine J _ _ _ (nv ?_); clear J
   refine cf (by simp) (nv ?_)
   refine Run.reg fun K J => ?_
   simp
   try (simp (disch := omega) only [wrap_id])
   refine J _ _ _ (nv ?_); clear J
   refine IH (j + 1) _ _ (by omega) (by omega) ?_ rfl
   simp
   repeat' first | exact wn | apply wc | exact wj _ | exact wr _ | exact wz _ | exact wo _ _ _ | exact wi (by omega)
 have hje : j = fs.length := by omega
 subst hje
 refine cf (by simp) ?_
 refine Run.exit rfl ?_
 refine nv ?_
 repeat (first | refine nw ?_ | (refine Run.reg fun K J => ?_; simp; (try (simp (disch := omega) only [wrap_id])); refine J _ _ _ ?_; clear J) | refine ct rfl ?_ | refine cf rfl ?_ | refine Run.exit rfl ?_ | refine Run.ret ?_)
 exact Fin.ret' (h0 := h) (by simp) rfl hh rfl rfl rfl (Weak.refl _) rfl ⟨⟨_, rfl, fun _ => by omega⟩, rfl⟩
theorem fewEnv_any (h : Heap) (hh : WF h) (env : List Dc) (hg : Env.good env) : ACalls Tryz.prog 119 [envA env] h fun o h' => RetB (fun b => b = true → Env.short env) o ∧ h' = h := by
 obtain ⟨hl, hgd⟩ := hg
 refine ACalls.of_run Tryz.func119 rfl ?_
 simp only [Tryz.ntmps119, List.length_cons, List.length_nil]
 refine nv ?_
 refine Run.reg fun K J => ?_
 simp
 refine J _ _ _ (nv ?_); clear J
 refine Run.reg fun K J => ?_
 simp
 refine J _ _ _ (nv ?_); clear J
 refine Run.loopS [0] (fun j : Nat => j ≤ env.length ∧ j ≤ 80 ∧ ∀ d ∈ env.take j, d.nm.length ≤ 200) (fun j => env.length - j) (fun j => [(3, iA j)]) (fun _ => _) 0 (by simp) ?_ rfl ?_
 ·simp
  repeat' first | exact wn | apply wc | exact wj _ | exact wr _ | exact wz _ | exact wo _ _ _ | exact wi (by omega)
 rintro j ⟨hj, hj80, hall⟩ IH
 simp
 refine nv ?_
 refine Run.regJ [0, 3] 11 (decide (j < env.length) && decide ((j : Int) < 80)) (fun K J => ?_) ?_
 ·simp
  repeat' (first | apply And.intro | intro _)
  all_goals
   refine J _ ?_
   simp
   repeat' first | exact wn | apply wc
   all_goals first | exact Weak.junk _ | (refine Weak.bool ?_; clear J; rw [Bool.eq_iff_iff]; simp; done) | (refine Weak.bool ?_; clear J; rw [Bool.eq_iff_iff]; simp; omega) | (refine Weak.bool ?_; clear J; simp_all; done) | (refine Weak.bool ?_; clear J; simp [*]; done) | (refine Weak.bool ?_; clear J; rw [Bool.eq_iff_iff]; simp [*]; omega) | exact Weak.refl _
 simp only [setMany, keepT, keepT.go, List.contains_cons, List.set_cons_succ, List.set_cons_zero]
 simp
 refine Run.condB rfl (fun h1 => ?_) (fun h1 => ?_)
 ·have hjl : j < env.length := by simp at h1; omega
  have hj8 : j < 80 := by simp at h1; omega
  have hge : env[j]? = some env[j] := List.getElem?_eq_getElem hjl
  have hdl := dc_cells_len env[j]
  have htk : env.take (j + 1) = env.take j ++ [env[j]] := List.take_succ_eq_append_getElem hjl
  have c1 := fun (g : Heap) (hw : WF g) => fewDecl_any g hw _ (hgd _ (List.getElem_mem hjl))
  generalize env[j] = d at hge hdl htk c1
  have htd : List.take 23 (d.cells.map AV.p) = d.cells.map .p := List.take_of_length_le (by simp [hdl])
  simp only [Dc.av] at c1
  refine nv ?_
  refine Run.reg fun K J => ?_
  simp [hge, hdl, htd]
  refine J _ _ _ ?_; clear J
  refine Run.call rfl (by first | rfl | simp) (by simp) rfl (c1 _ hh) ?_ ?_
  rotate_left
  ·rintro v h' ⟨⟨_, hv, _⟩, _⟩; cases hv
  rintro v h' ⟨⟨b, hv, hb⟩, rfl⟩
  simp only [AOut.ret.injEq] at hv
  subst hv
  cases b with
  | false =>
   refine Run.ops fun K J => ?_
   simp
   refine J _ _ _ (nv ?_); clear J
   refine ct (by simp) (nv ?_)
   repeat (first | refine nw ?_ | (refine Run.reg fun K J => ?_; simp; (try (simp (disch := omega) only [wrap_id])); refine J _ _ _ ?_; clear J) | refine ct rfl ?_ | refine cf rfl ?_ | refine Run.exit rfl ?_ | refine Run.ret ?_)
   exact Fin.ret' (by simp) rfl hh (List.append_nil _).symm rfl rfl (Weak.refl _) rfl ⟨⟨_, rfl, fun h => by cases h⟩, rfl⟩
  | true =>
   refine Run.ops fun K J => ?_
   simp
   refine J _ _ _ (nv ?_); clear J
   refine cf (by simp) (nv ?_)
   refine Run.reg fun K J => ?_
   simp
   try (simp (disch := omega) only [wrap_id])
   refine J _ _ _ (nv ?_); clear J
   refine IH (j + 1) _ _ ⟨by omega, by omega, ?_⟩ (by omega) ?_ rfl
   ·rw [htk]
    intro x hx
    rcases List.mem_append.1 hx with hx | hx
    ·exact hall x hx
    ·simp at hx; rw [hx]; exact hb rfl
   ·simp
    repeat' first | exact wn | apply wc | exact wj _ | exact wr _ | exact wz _ | exact wo _ _ _ | exact wi (by omega)
 ·skip
  refine Run.exit rfl ?_
  refine nv ?_
  by_cases h70 : (env.length : Int) ≤ 70
  ·have hje : j = env.length := by simp at h1; omega
   subst hje
   rw [List.take_length] at hall
   refine Run.reg fun K J => ?_
   simp [h70]
   refine J _ _ _ (nv ?_); clear J
   refine Run.ret ?_
   exact Fin.ret' (by simp) rfl hh (List.append_nil _).symm (by simp; rfl) rfl (Weak.refl _) (by simp) ⟨⟨_, rfl, fun _ => hall⟩, rfl⟩
  ·skip
   refine Run.reg fun K J => ?_
   simp [h70]
   refine J _ _ _ (nv ?_); clear J
   refine Run.ret ?_
   exact Fin.ret' (by simp) rfl hh (List.append_nil _).symm (by simp; rfl) rfl (Weak.refl _) (by simp) ⟨⟨_, rfl, fun h => by cases h⟩, rfl⟩
def EnvFine (env : List Dc) : Prop := Env.short env ∧ EnvOk env
theorem goodEnv_any (h : Heap) (hh : WF h) (env : List Dc) (hg : Env.good env) : ACalls Tryz.prog 64 [envA env] h fun o h' => RetB (fun b => b = true → EnvFine env) o ∧ h' = h := by
 have c1 := fun (g : Heap) (hw : WF g) => fewEnv_any g hw env hg
 have c2 := fun (hs : Env.short env) (g : Heap) (hw : WF g) => checkEnv_any g hw env hg hs
 refine ACalls.of_run Tryz.func64 rfl ?_
 simp only [Tryz.ntmps64, List.length_cons, List.length_nil]
 refine nv ?_
 refine Run.reg fun K J => ?_
 simp
 refine J _ _ _ (nv ?_); clear J
 refine Run.reg fun K J => ?_
 simp
 refine J _ _ _ ?_; clear J
 refine Run.call rfl (by first | rfl | simp) (by simp) rfl (c1 _ hh) ?_ ?_
 rotate_left
 ·rintro v h' ⟨⟨_, hv, _⟩, _⟩; cases hv
 rintro v h' ⟨⟨b, hv, hb⟩, rfl⟩
 simp only [AOut.ret.injEq] at hv
 subst hv
 cases b with
 | false =>
  refine Run.ops fun K J => ?_
  simp
  refine J _ _ _ (nv ?_); clear J
  refine ct (by simp) (nv ?_)
  repeat (first | refine nw ?_ | (refine Run.reg fun K J => ?_; simp; (try (simp (disch := omega) only [wrap_id])); refine J _ _ _ ?_; clear J) | refine ct rfl ?_ | refine cf rfl ?_ | refine Run.exit rfl ?_ | refine Run.ret ?_)
  exact Fin.ret' (by simp) rfl hh (List.append_nil _).symm rfl rfl (Weak.refl _) rfl ⟨⟨_, rfl, fun h => by cases h⟩, rfl⟩
 | true =>
  have hs := hb rfl
  refine Run.ops fun K J => ?_
  simp
  refine J _ _ _ (nv ?_); clear J
  refine cf (by simp) (nv ?_)
  refine Run.reg fun K J => ?_
  simp
  refine J _ _ _ ?_; clear J
  refine Run.call rfl (by first | rfl | simp) (by simp) rfl (c2 hs _ hh) ?_ ?_
  rotate_left
  ·rintro v h' ⟨⟨_, _, hv, _⟩, _⟩; cases hv
  rintro v h' ⟨⟨x, e, hv, he⟩, rfl⟩
  simp only [AOut.ret.injEq] at hv
  subst hv
  refine Run.ops fun K J => ?_
  simp
  refine J _ _ _ (nv ?_); clear J
  refine Run.reg fun K J => ?_
  simp
  refine J _ _ _ (nv ?_); clear J
  refine Run.ret ?_
  exact Fin.ret' (by simp) rfl hh (List.append_nil _).symm (by simp; rfl) rfl (Weak.refl _) (by simp) ⟨⟨_, rfl, fun h => ⟨hs, he (by simpa using h)⟩⟩, rfl⟩

end Go.Proofs.YtcfcolkbeelegaaGreat
