import Derived.Test.YtcfcolkbeelegaaGreatVX3
import Derived.Test.YtcfcolkbeelegaaGreatVX0

namespace Go.Proofs.YtcfcolkbeelegaaGreat

open Go Go.AI
def runP {σ α : Type} (st : σ → α → σ × Bool) : σ → List α → σ × Bool
 | s, [] => (s, true)
 | s, x :: l => if (st s x).2 = true then runP st (st s x).1 l else ((st s x).1, false)
theorem runP_append {σ α : Type} (st : σ → α → σ × Bool) : ∀ (l m : List α) (s : σ), runP st s (l ++ m) = if (runP st s l).2 = true then runP st (runP st s l).1 m else ((runP st s l).1, false)
 | [], m, s => by simp [runP]
 | x :: l, m, s => by
  simp only [List.cons_append, runP]
  split
  ·exact runP_append st l m _
  ·simp
theorem runP_stop {σ α : Type} (st : σ → α → σ × Bool) {l m R : List α} {s : σ} (e : m = l ++ R) (h : (runP st s l).2 = false) : runP st s m = runP st s l := by
 rw [e, runP_append, if_neg (by simp [h])]
 exact Prod.ext rfl h.symm
theorem ctEns_append (d : Dc) (a : Int) : ∀ (l m : List Ct) (i : Nat), ctEns d a (l ++ m) i = ctEns d a l i ++ ctEns d a m (i + l.length)
 | [], m, i => by simp [ctEns]
 | x :: l, m, i => by simp only [List.cons_append, ctEns, ctEns_append d a l m (i + 1)]; simp [Nat.add_assoc, Nat.add_comm 1]
theorem fuEns_append (d : Dc) (a : Int) : ∀ (l m : List Fu) (i : Nat), fuEns d a (l ++ m) i = fuEns d a l i ++ fuEns d a m (i + l.length)
 | [], m, i => by simp [fuEns]
 | x :: l, m, i => by simp only [List.cons_append, fuEns, fuEns_append d a l m (i + 1)]; simp [Nat.add_assoc, Nat.add_comm 1]
theorem runP_one {σ α : Type} (st : σ → α → σ × Bool) (s : σ) (x : α) : runP st s [x] = st s x := by
 cases h : st s x with
 | mk a b => cases b <;> simp [runP, h]
theorem ctEns_snoc (d : Dc) (a : Int) : ∀ (l : List Ct) (i : Nat) (c : Ct), ctEns d a (l ++ [c]) i = ctEns d a l i ++ [(c.nm, ⟨4, a, (i + l.length : Nat), d.ps, c.ty⟩)]
 | [], i, c => by simp [ctEns]
 | x :: l, i, c => by simp only [List.cons_append, ctEns, ctEns_snoc d a l (i + 1) c]; simp [Nat.add_assoc, Nat.add_comm 1]
theorem fuEns_snoc (d : Dc) (a : Int) : ∀ (l : List Fu) (i : Nat) (c : Fu), fuEns d a (l ++ [c]) i = fuEns d a l i ++ [(c.nm, ⟨6, a, (i + l.length : Nat), d.ps, c.ty⟩)]
 | [], i, c => by simp [fuEns]
 | x :: l, i, c => by simp only [List.cons_append, fuEns, fuEns_snoc d a l (i + 1) c]; simp [Nat.add_assoc, Nat.add_comm 1]
set_option maxRecDepth 8000 in
set_option maxHeartbeats 32000000 in
theorem ents_any {σ : Type} (st : σ → (List UInt8 × En) → σ × Bool) (Lv : σ → Prop) (hLv : ∀ s x, Lv s → (st s x).2 = true → Lv (st s x).1) (y p q : Nat) (d : Dc) (a : Int) (hn : d.nm.length ≤ 1099511627776) (hc : d.cs.length ≤ 1048576) (hf : d.fs.length ≤ 1048576)
  (s : σ) (B : σ → Heap) (n : Nat) (hls : Lv s) (hlen : ∀ s, (B s).length = n) (hwf : ∀ s, WF (B s)) (hp : ∀ s, (B s)[p]? = some (some (.cells [iA a]))) (hq : ∀ s, (B s)[q]? = some (some (.cells (d.cells.map .p))))
  (HY : ∀ s nm e l, Lv s → WF (B s ++ l) → AYield Tryz.prog y [.p (sP nm), En.av e] (B s ++ l) (fun o h' => o = .ret (bA (st s (nm, e)).2) ∧ h' = B (st s (nm, e)).1 ++ l)) :
  ACalls Tryz.prog 259 [yv y, .ptr p 0, .ptr q 0] (B s) (fun o h' => o = .ret (.tup []) ∧ h' = B (runP st s (entsZ d a)).1) := by
 have hplt := (List.getElem?_eq_some_iff.1 (hp s)).1
 have hqlt := (List.getElem?_eq_some_iff.1 (hq s)).1
 rw [hlen] at hplt hqlt
 have cp : ∀ s (l : List (Option AO)), (B s ++ l)[p]? = some (some (.cells [iA a])) := fun s l => by rw [List.getElem?_append_left (by rw [hlen]; exact hplt)]; exact hp s
 have cq : ∀ s (l : List (Option AO)), (B s ++ l)[q]? = some (some (.cells (d.cells.map .p))) := fun s l => by rw [List.getElem?_append_left (by rw [hlen]; exact hqlt)]; exact hq s
 have cp0 : ∀ s, (B s)[p]? = some (some (.cells [iA a])) := hp
 have cq0 : ∀ s, (B s)[q]? = some (some (.cells (d.cells.map .p))) := hq
 have gl : ∀ s (l : List (Option AO)) (k : Nat), (B s ++ l)[n + k]? = l[k]? := fun s l k => get_lastN (hlen s)
 have gl0 : ∀ s (l : List (Option AO)), (B s ++ l)[n]? = l[0]? := fun s l => get_lastN0 (hlen s)
 have sl : ∀ s (l : List (Option AO)) (k : Nat) (o : Option AO), (B s ++ l).set (n + k) o = B s ++ l.set k o := fun s l k o => set_lastN (hlen s)
 have sl0 : ∀ s (l : List (Option AO)) (o : Option AO), (B s ++ l).set n o = B s ++ l.set 0 o := fun s l o => set_lastN0 (hlen s)
 have wfl : ∀ s (l : List (Option AO)), l.all (AO.under (n + l.length)) = true → WF (B s ++ l) := fun s l hl => (hwf s).app (by rw [hlen]; exact hl)
 have hk := kcase d.k
 obtain ⟨r, hr⟩ : ∃ r, r = runP st s (entsZ d a) := ⟨_, rfl⟩
 rw [← hr]
 unfold entsZ at hr
 have hcap : ∀ j, ∃ R, ctEns d a d.cs 0 = ctEns d a (d.cs.take j) 0 ++ R := fun j => ⟨_, by rw [← ctEns_append, List.take_append_drop]⟩
 have hfap : ∀ j, ∃ R, fuEns d a d.fs 0 = fuEns d a (d.fs.take j) 0 ++ R := fun j => ⟨_, by rw [← fuEns_append, List.take_append_drop]⟩
 have hcsn := fun l c => ctEns_snoc d a l 0 c
 have hfsn := fun l c => fuEns_snoc d a l 0 c
 obtain ⟨CE, hCE⟩ : ∃ C, C = fun l => ctEns d a l 0 := ⟨_, rfl⟩
 obtain ⟨FE, hFE⟩ : ∃ C, C = fun l => fuEns d a l 0 := ⟨_, rfl⟩
 have kc : ∀ l, ctEns d a l 0 = CE l := fun l => by rw [hCE]
 have kf : ∀ l, fuEns d a l 0 = FE l := fun l => by rw [hFE]
 have ce0 : CE [] = [] := by rw [hCE]; rfl
 have fe0 : FE [] = [] := by rw [hFE]; rfl
 simp only [kc, kf] at hr hcsn hfsn hcap hfap
 clear hCE hFE kc kf
 obtain ⟨k, nm, ps, ⟨k1, i1, n1, l1, s1⟩, ⟨k2, i2, n2, l2, s2⟩, fx, cs, rp, ⟨k3, i3, n3, l3, s3⟩, rr, fs⟩ := d
 simp only at hn hc hf hr hk hcsn hfsn hcap hfap
 simp only [Dc.cells, cells_mk, List.map, List.cons_append, List.nil_append] at cq cq0 hq
 refine ACalls.of_run Tryz.func259 rfl ?_
 simp only [Tryz.ntmps259, List.length_cons, List.length_nil]
 refine nv ?_
 refine Run.reg fun K J => ?_
 simp [hlen, cp0, cq0]
 refine J _ _ _ (nv ?_); clear J
 refine Run.reg fun K J => ?_
 simp [cq]
 refine J _ _ _ (nv ?_); clear J
 rcases hk with rfl | rfl | rfl | rfl | rfl | ⟨z0, z1, z2, z3, z4⟩
 ·rw [if_pos (by omega), runP_one] at hr
  refine Run.reg fun K J => ?_
  simp
  refine J _ _ _ (nv ?_); clear J
  refine ct (by simp) (nv ?_)
  refine ct (by simp) (nv ?_)
  refine Run.reg fun K J => ?_
  simp [gl0, sl0, cq]
  refine J _ _ _ (nv ?_); clear J
  refine Run.reg fun K J => ?_
  simp [gl0, cq]
  refine J _ _ _ ?_; clear J
  have hy := HY s nm ⟨0, a, 0, ps, .mk k1 i1 n1 l1 s1⟩ [some (.cells [iA 0, iA a, iA 0, iA ps, .p (iP k1), .p (iP i1), .p (sP n1), .p (.sl 2 (lvPs l1)), .p (.sl 5 (tmPs s1))])] hls (wfl _ _ (by simp))
  simp only [En.av, En.cells, cells_mk, List.map] at hy
  refine Run.yield rfl rfl (by simp) hy ?_ ?_
  rotate_left
  ·rintro v h' ⟨hv, _⟩; cases hv
  rintro v h' ⟨hv, rfl⟩
  simp only [AOut.ret.injEq] at hv
  subst hv
  rw [← hr]
  refine Run.ops fun K J => ?_
  simp
  refine J _ _ _ (nv ?_); clear J
  refine Run.nil ?_
  exact Fin.ret' (h0 := B r.1) (by simp) (by rw [hlen, hlen]) (hwf _) rfl rfl rfl (Weak.refl _) rfl ⟨rfl, rfl⟩
 ·rw [if_pos (by omega), runP_one] at hr
  refine Run.reg fun K J => ?_
  simp
  refine J _ _ _ (nv ?_); clear J
  refine cf (by simp) (nv ?_)
  refine Run.reg fun K J => ?_
  simp
  refine J _ _ _ (nv ?_); clear J
  refine ct (by simp) (nv ?_)
  refine ct (by simp) (nv ?_)
  refine Run.reg fun K J => ?_
  simp [gl0, sl0, cq]
  refine J _ _ _ (nv ?_); clear J
  refine Run.reg fun K J => ?_
  simp [gl0, cq]
  refine J _ _ _ ?_; clear J
  have hy := HY s nm ⟨1, a, 0, ps, .mk k1 i1 n1 l1 s1⟩ [some (.cells [iA 1, iA a, iA 0, iA ps, .p (iP k1), .p (iP i1), .p (sP n1), .p (.sl 2 (lvPs l1)), .p (.sl 5 (tmPs s1))])] hls (wfl _ _ (by simp))
  simp only [En.av, En.cells, cells_mk, List.map] at hy
  refine Run.yield rfl rfl (by simp) hy ?_ ?_
  rotate_left
  ·rintro v h' ⟨hv, _⟩; cases hv
  rintro v h' ⟨hv, rfl⟩
  simp only [AOut.ret.injEq] at hv
  subst hv
  rw [← hr]
  refine Run.ops fun K J => ?_
  simp
  refine J _ _ _ (nv ?_); clear J
  refine Run.nil ?_
  exact Fin.ret' (h0 := B r.1) (by simp) (by rw [hlen, hlen]) (hwf _) rfl rfl rfl (Weak.refl _) rfl ⟨rfl, rfl⟩
 ·rw [if_pos (by omega), runP_one] at hr
  refine Run.reg fun K J => ?_
  simp
  refine J _ _ _ (nv ?_); clear J
  refine cf (by simp) (nv ?_)
  refine Run.reg fun K J => ?_
  simp
  refine J _ _ _ (nv ?_); clear J
  refine cf (by simp) ?_
  refine Run.reg fun K J => ?_
  simp
  refine J _ _ _ (nv ?_); clear J
  refine ct (by simp) (nv ?_)
  refine Run.reg fun K J => ?_
  simp [gl0, sl0, cq]
  refine J _ _ _ (nv ?_); clear J
  refine Run.reg fun K J => ?_
  simp [gl0, cq]
  refine J _ _ _ ?_; clear J
  have hy := HY s nm ⟨2, a, 0, ps, .mk k1 i1 n1 l1 s1⟩ [some (.cells [iA 2, iA a, iA 0, iA ps, .p (iP k1), .p (iP i1), .p (sP n1), .p (.sl 2 (lvPs l1)), .p (.sl 5 (tmPs s1))])] hls (wfl _ _ (by simp))
  simp only [En.av, En.cells, cells_mk, List.map] at hy
  refine Run.yield rfl rfl (by simp) hy ?_ ?_
  rotate_left
  ·rintro v h' ⟨hv, _⟩; cases hv
  rintro v h' ⟨hv, rfl⟩
  simp only [AOut.ret.injEq] at hv
  subst hv
  rw [← hr]
  refine Run.ops fun K J => ?_
  simp
  refine J _ _ _ (nv ?_); clear J
  refine Run.nil ?_
  exact Fin.ret' (h0 := B r.1) (by simp) (by rw [hlen, hlen]) (hwf _) rfl rfl rfl (Weak.refl _) rfl ⟨rfl, rfl⟩
 ·rw [if_neg (by omega), if_pos rfl] at hr
  have hsz : nm.length + 4 ≤ 9223372036854775807 := by omega
  refine Run.reg fun K J => ?_
  simp
  refine J _ _ _ (nv ?_); clear J
  refine cf (by simp) (nv ?_)
  refine Run.reg fun K J => ?_
  simp
  refine J _ _ _ (nv ?_); clear J
  refine cf (by simp) ?_
  refine Run.reg fun K J => ?_
  simp
  refine J _ _ _ (nv ?_); clear J
  refine cf (by simp) (nv ?_)
  refine Run.reg fun K J => ?_
  simp
  refine J _ _ _ (nv ?_); clear J
  refine ct (by simp) (nv ?_)
  refine Run.reg fun K J => ?_
  simp [gl0, sl0]
  refine J _ _ _ (nv ?_); clear J
  refine Run.reg fun K J => ?_
  simp [gl0, cq]
  refine J _ _ _ ?_; clear J
  have hy := HY s nm ⟨3, a, 0, ps, .mk k1 i1 n1 l1 s1⟩ [some (.cells [iA 3, iA a, iA 0, iA ps, .p (iP k1), .p (iP i1), .p (sP n1), .p (.sl 2 (lvPs l1)), .p (.sl 5 (tmPs s1))])] hls (wfl _ _ (by simp))
  simp only [En.av, En.cells, cells_mk, List.map] at hy
  refine Run.yield rfl rfl (by simp) hy ?_ ?_
  rotate_left
  ·rintro v h' ⟨hv, _⟩; cases hv
  rintro v h' ⟨hv, rfl⟩
  simp only [AOut.ret.injEq] at hv
  subst hv
  obtain ⟨⟨s0, g0⟩, hst⟩ : ∃ w, st s (nm, ⟨3, a, 0, ps, .mk k1 i1 n1 l1 s1⟩) = w := ⟨_, rfl⟩
  have hl0 := hLv s (nm, ⟨3, a, 0, ps, .mk k1 i1 n1 l1 s1⟩) hls
  simp only [runP] at hr
  rw [hst] at hr hl0 ⊢
  simp only at hr hl0 ⊢
  cases g0 with
  | false =>
   rw [if_neg (by simp)] at hr
   refine Run.ops fun K J => ?_
   simp
   refine J _ _ _ (nv ?_); clear J
   refine ct (by simp) ?_
   refine Run.ret ?_
   exact Fin.ret' (h0 := B s0) (by simp) (by rw [hlen, hlen]) (hwf _) rfl rfl rfl (Weak.refl _) rfl ⟨rfl, by rw [hr]⟩
  | true =>
  rw [if_pos rfl] at hr
  have hl0 := hl0 rfl
  refine Run.ops fun K J => ?_
  simp
  refine J _ _ _ (nv ?_); clear J
  refine cf (by simp) (nv ?_)
  refine Run.reg fun K J => ?_
  simp [cq]
  refine J _ _ _ (nv ?_); clear J
  refine Run.loopS (ι := Nat × σ) [0, 1, 2, 4, 42, 43] (fun p => p.1 ≤ cs.length ∧ runP st s0 (CE (cs.take p.1)) = (p.2, true) ∧ Lv p.2) (fun p => cs.length - p.1) (fun p => [(44, iA p.1)])
   (fun p => B p.2 ++ [some (.cells [iA 3, iA a, iA 0, iA ps, .p (iP k1), .p (iP i1), .p (sP n1), .p (.sl 2 (lvPs l1)), .p (.sl 5 (tmPs s1))])]) (0, s0) ⟨by simp, by simp [ce0, runP], hl0⟩ ?_ (by simp) ?_
  ·simp
   repeat' first | exact wn | apply wc | exact wj _ | exact wr _ | exact wz _ | exact wo _ _ _ | exact wi (by omega)
  rintro ⟨j, sj⟩ ⟨hj, hvj, hlj⟩ IH
  simp only at hj hvj hlj
  simp
  refine nv ?_
  refine Run.reg fun K J => ?_
  simp
  refine J _ _ _ (nv ?_); clear J
  by_cases hjl : j < cs.length
  ·have hg : cs[j]? = some cs[j] := List.getElem?_eq_getElem hjl
   have htk : cs.take (j + 1) = cs.take j ++ [cs[j]] := List.take_succ_eq_append_getElem hjl
   have hsn := hcsn (cs.take j) cs[j]
   rw [← htk, Nat.zero_add, List.length_take, Nat.min_eq_left hj] at hsn
   have hsp := hcsn
   generalize cs[j] = c at hg hsn htk
   obtain ⟨x, ⟨k4, i4, n4, l4, s4⟩⟩ := c
   have hrn : runP st s0 (CE (cs.take (j + 1))) = st sj (x, ⟨4, a, j, ps, .mk k4 i4 n4 l4 s4⟩) := by
    rw [hsn, runP_append, hvj]
    simp only [if_true]
    exact runP_one _ _ _
   have hfull : (runP st s0 (CE (cs.take (j + 1)))).2 = false → r = (runP st s0 (CE (cs.take (j + 1)))) := fun h2 => by
    obtain ⟨R, hR⟩ := hcap (j + 1)
    rw [hr]
    exact runP_stop st (R := R ++ [(nm ++ recB, ⟨5, a, 0, rp, .mk k3 i3 n3 l3 s3⟩)]) (by rw [hR, List.append_assoc]) h2
   refine ct (by simp [hjl]) (nv ?_)
   refine Run.reg fun K J => ?_
   simp [hg, Ct.cells, hlen]
   refine J _ _ _ (nv ?_); clear J
   refine Run.reg fun K J => ?_
   simp [gl, cp, cq]
   refine J _ _ _ ?_; clear J
   have hy := HY sj x ⟨4, a, j, ps, .mk k4 i4 n4 l4 s4⟩ [some (.cells [iA 3, iA a, iA 0, iA ps, .p (iP k1), .p (iP i1), .p (sP n1), .p (.sl 2 (lvPs l1)), .p (.sl 5 (tmPs s1))]), some (.cells [.p (sP x), .p (iP k4), .p (iP i4), .p (sP n4), .p (.sl 2 (lvPs l4)), .p (.sl 5 (tmPs s4))])] hlj (wfl _ _ (by simp))
   simp only [En.av, En.cells, cells_mk, List.map] at hy
   refine Run.yield rfl rfl (by simp) hy ?_ ?_
   rotate_left
   ·rintro v h' ⟨hv, _⟩; cases hv
   rintro v h' ⟨hv, rfl⟩
   simp only [AOut.ret.injEq] at hv
   subst hv
   obtain ⟨⟨s2', g2⟩, hst2⟩ : ∃ w, st sj (x, ⟨4, a, j, ps, .mk k4 i4 n4 l4 s4⟩) = w := ⟨_, rfl⟩
   have hl2 := hLv sj (x, ⟨4, a, j, ps, .mk k4 i4 n4 l4 s4⟩) hlj
   rw [hst2] at hrn hl2 ⊢
   simp only at hl2 ⊢
   cases g2 with
   | false =>
    have hr2 := hfull (by rw [hrn])
    rw [hrn] at hr2
    refine Run.ops fun K J => ?_
    simp
    refine J _ _ _ (nv ?_); clear J
    refine ct (by simp) ?_
    refine Run.ret ?_
    exact Fin.ret' (h0 := B s2') (by simp) (by rw [hlen, hlen]) (hwf _) rfl rfl rfl (Weak.refl _) rfl ⟨rfl, by rw [hr2]⟩
   | true =>
    refine Run.ops fun K J => ?_
    simp
    refine J _ _ _ (nv ?_); clear J
    refine cf (by simp) (nv ?_)
    refine Run.reg fun K J => ?_
    simp
    try (simp (disch := omega) only [wrap_id])
    refine J _ _ _ (nv ?_); clear J
    refine Run.keep [0, 1, 2, 4, 42, 43, 44] ?_
    simp
    refine Run.cutAt 1 (hwf s2') rfl (by rw [hlen, hlen]; omega) (by simp) (by simp [hlen]; omega) (by simp) rfl ?_
    refine IH (j + 1, s2') _ _ ⟨by simp only; omega, hrn, hl2 rfl⟩ (by simp only; omega) ?_ (by simp)
    simp
    repeat' first | exact wn | apply wc | exact wj _ | exact wr _ | exact wz _ | exact wo _ _ _ | exact wi (by omega)
  ·have hje : j = cs.length := by omega
   subst hje
   rw [List.take_length] at hvj
   rw [runP_append, hvj] at hr
   simp only [if_true] at hr
   rw [runP_one] at hr
   refine cf (by simp) ?_
   refine Run.exit rfl ?_
   refine Run.reg fun K J => ?_
   simp [cp, cq, hsz]
   refine J _ _ _ ?_; clear J
   have hy := HY sj (nm ++ recB) ⟨5, a, 0, rp, .mk k3 i3 n3 l3 s3⟩ [some (.cells [iA 3, iA a, iA 0, iA ps, .p (iP k1), .p (iP i1), .p (sP n1), .p (.sl 2 (lvPs l1)), .p (.sl 5 (tmPs s1))])] hlj (wfl _ _ (by simp))
   simp only [En.av, En.cells, cells_mk, List.map] at hy
   simp only [recB] at hy hr
   refine Run.yield rfl rfl (by simp) hy ?_ ?_
   rotate_left
   ·rintro v h' ⟨hv, _⟩; cases hv
   rintro v h' ⟨hv, rfl⟩
   simp only [AOut.ret.injEq] at hv
   subst hv
   rw [← hr]
   refine Run.ops fun K J => ?_
   simp
   refine J _ _ _ (nv ?_); clear J
   refine Run.nil ?_
   exact Fin.ret' (h0 := B r.1) (by simp) (by rw [hlen, hlen]) (hwf _) rfl rfl rfl (Weak.refl _) rfl ⟨rfl, rfl⟩
 ·rw [if_neg (by omega), if_neg (by omega), if_pos rfl] at hr
  refine Run.reg fun K J => ?_
  simp
  refine J _ _ _ (nv ?_); clear J
  refine cf (by simp) (nv ?_)
  refine Run.reg fun K J => ?_
  simp
  refine J _ _ _ (nv ?_); clear J
  refine cf (by simp) ?_
  refine Run.reg fun K J => ?_
  simp
  refine J _ _ _ (nv ?_); clear J
  refine cf (by simp) (nv ?_)
  refine Run.reg fun K J => ?_
  simp
  refine J _ _ _ (nv ?_); clear J
  refine cf (by simp) (nv ?_)
  refine Run.reg fun K J => ?_
  simp
  refine J _ _ _ (nv ?_); clear J
  refine ct (by simp) (nv ?_)
  refine Run.reg fun K J => ?_
  simp [cq]
  refine J _ _ _ (nv ?_); clear J
  refine Run.loopS (ι := Nat × σ) [0, 1, 2, 78, 79] (fun p => p.1 ≤ fs.length ∧ runP st s (FE (fs.take p.1)) = (p.2, true) ∧ Lv p.2) (fun p => fs.length - p.1) (fun p => [(80, iA p.1)])
   (fun p => B p.2 ++ [some (.cells [iA 0, iA a, iA 0, iA ps, .p (iP k1), .p (iP i1), .p (sP n1), .p (.sl 2 (lvPs l1)), .p (.sl 5 (tmPs s1))])]) (0, s) ⟨by simp, by simp [fe0, runP], hls⟩ ?_ (by simp) ?_
  ·simp
   repeat' first | exact wn | apply wc | exact wj _ | exact wr _ | exact wz _ | exact wo _ _ _ | exact wi (by omega)
  rintro ⟨j, sj⟩ ⟨hj, hvj, hlj⟩ IH
  simp only at hj hvj hlj
  simp
  refine nv ?_
  refine Run.reg fun K J => ?_
  simp
  refine J _ _ _ (nv ?_); clear J
  by_cases hjl : j < fs.length
  ·have hg : fs[j]? = some fs[j] := List.getElem?_eq_getElem hjl
   have htk : fs.take (j + 1) = fs.take j ++ [fs[j]] := List.take_succ_eq_append_getElem hjl
   have hsn := hfsn (fs.take j) fs[j]
   rw [← htk, Nat.zero_add, List.length_take, Nat.min_eq_left hj] at hsn
   generalize fs[j] = c at hg hsn htk
   obtain ⟨x, ⟨k4, i4, n4, l4, s4⟩, w, ⟨w1, ⟨w2, w3, w4, w5, w6⟩, w7, w8⟩⟩ := c
   have hrn : runP st s (FE (fs.take (j + 1))) = st sj (x, ⟨6, a, j, ps, .mk k4 i4 n4 l4 s4⟩) := by
    rw [hsn, runP_append, hvj]
    simp only [if_true]
    exact runP_one _ _ _
   have hfull : (runP st s (FE (fs.take (j + 1)))).2 = false → r = (runP st s (FE (fs.take (j + 1)))) := fun h2 => by
    obtain ⟨R, hR⟩ := hfap (j + 1)
    rw [hr]
    exact runP_stop st hR h2
   refine ct (by simp [hjl]) (nv ?_)
   refine Run.reg fun K J => ?_
   simp [hg, Fu.cells, Tr.cells, brPs_eq, hlen]
   refine J _ _ _ (nv ?_); clear J
   refine Run.reg fun K J => ?_
   simp [gl, cp, cq]
   refine J _ _ _ ?_; clear J
   have hy := HY sj x ⟨6, a, j, ps, .mk k4 i4 n4 l4 s4⟩ [some (.cells [iA 0, iA a, iA 0, iA ps, .p (iP k1), .p (iP i1), .p (sP n1), .p (.sl 2 (lvPs l1)), .p (.sl 5 (tmPs s1))]), some (.cells [.p (sP x), .p (iP k4), .p (iP i4), .p (sP n4), .p (.sl 2 (lvPs l4)), .p (.sl 5 (tmPs s4)), .p (iP w), .p (iP w1), .p (iP w2), .p (iP w3), .p (sP w4), .p (.sl 2 (lvPs w5)), .p (.sl 5 (tmPs w6)), .p (iP w7), .p (.sl 10 (w8.map Br.cells))])] hlj (wfl _ _ (by simp))
   simp only [En.av, En.cells, cells_mk, List.map] at hy
   refine Run.yield rfl rfl (by simp) hy ?_ ?_
   rotate_left
   ·rintro v h' ⟨hv, _⟩; cases hv
   rintro v h' ⟨hv, rfl⟩
   simp only [AOut.ret.injEq] at hv
   subst hv
   obtain ⟨⟨s2', g2⟩, hst2⟩ : ∃ w, st sj (x, ⟨6, a, j, ps, .mk k4 i4 n4 l4 s4⟩) = w := ⟨_, rfl⟩
   have hl2 := hLv sj (x, ⟨6, a, j, ps, .mk k4 i4 n4 l4 s4⟩) hlj
   rw [hst2] at hrn hl2 ⊢
   simp only at hl2 ⊢
   cases g2 with
   | false =>
    have hr2 := hfull (by rw [hrn])
    rw [hrn] at hr2
    refine Run.ops fun K J => ?_
    simp
    refine J _ _ _ (nv ?_); clear J
    refine ct (by simp) ?_
    refine Run.ret ?_
    exact Fin.ret' (h0 := B s2') (by simp) (by rw [hlen, hlen]) (hwf _) rfl rfl rfl (Weak.refl _) rfl ⟨rfl, by rw [hr2]⟩
   | true =>
    refine Run.ops fun K J => ?_
    simp
    refine J _ _ _ (nv ?_); clear J
    refine cf (by simp) (nv ?_)
    refine Run.reg fun K J => ?_
    simp
    try (simp (disch := omega) only [wrap_id])
    refine J _ _ _ (nv ?_); clear J
    refine Run.keep [0, 1, 2, 78, 79, 80] ?_
    simp
    refine Run.cutAt 1 (hwf s2') rfl (by rw [hlen, hlen]; omega) (by simp) (by simp [hlen]; omega) (by simp) rfl ?_
    refine IH (j + 1, s2') _ _ ⟨by simp only; omega, hrn, hl2 rfl⟩ (by simp only; omega) ?_ (by simp)
    simp
    repeat' first | exact wn | apply wc | exact wj _ | exact wr _ | exact wz _ | exact wo _ _ _ | exact wi (by omega)
  ·have hje : j = fs.length := by omega
   subst hje
   rw [List.take_length] at hvj
   rw [hvj] at hr
   refine cf (by simp) ?_
   refine Run.exit rfl ?_
   refine nv ?_
   refine Run.nil ?_
   exact Fin.ret' (h0 := B sj) (by simp) (by rw [hlen, hlen]) (hwf _) rfl rfl rfl (Weak.refl _) rfl ⟨rfl, by rw [hr]⟩
 ·rw [if_neg (by simp at z0 z1 z2; omega), if_neg (by simpa using z3), if_neg (by simpa using z4)] at hr
  simp only [runP] at hr
  refine Run.reg fun K J => ?_
  simp [z0]
  refine J _ _ _ (nv ?_); clear J
  refine cf (by simp) (nv ?_)
  refine Run.reg fun K J => ?_
  simp [z1]
  refine J _ _ _ (nv ?_); clear J
  refine cf (by simp) ?_
  refine Run.reg fun K J => ?_
  simp [z2]
  refine J _ _ _ (nv ?_); clear J
  refine cf (by simp) (nv ?_)
  refine Run.reg fun K J => ?_
  simp [z3]
  refine J _ _ _ (nv ?_); clear J
  refine cf (by simp) (nv ?_)
  refine Run.reg fun K J => ?_
  simp [z4]
  refine J _ _ _ (nv ?_); clear J
  refine cf (by simp) (nv ?_)
  refine Run.nil ?_
  exact Fin.ret' (h0 := B s) (by simp) (by rw [hlen]) (hwf _) rfl rfl rfl (Weak.refl _) rfl ⟨rfl, by rw [hr]⟩

end Go.Proofs.YtcfcolkbeelegaaGreat
