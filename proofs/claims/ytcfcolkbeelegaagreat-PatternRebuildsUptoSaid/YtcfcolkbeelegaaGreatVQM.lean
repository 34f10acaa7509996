import Derived.Test.YtcfcolkbeelegaaGreatVQK
set_option maxRecDepth 8000
set_option maxHeartbeats 16000000

namespace Go.Proofs.YtcfcolkbeelegaaGreat

open Go Go.AI
def seqZ (f : Int → Tm × Int) : Nat → Int → List Tm × Int
 | 0, n => ([], n)
 | c + 1, n => ((seqZ f c n).1 ++ [(f (seqZ f c n).2).1], (f (seqZ f c n).2).2)
theorem seqZ_len (f : Int → Tm × Int) (n : Int) : ∀ c, (seqZ f c n).1.length = c
 | 0 => rfl
 | c + 1 => by simp [seqZ, seqZ_len f n c]
def nmC (d : Dc) (j : Nat) : List UInt8 := match d.cs[j]? with | some c => c.nm | none => []
def gpick (d : Dc) (n : Int) : Nat := (pickN n d.cs.length).toNat
def gtZ (d : Dc) (last : Nat) : Nat → Int → Tm × Int
 | 0, n => (bT d.fx (nmC d last) [], seedN n)
 | k + 1, n => (bT d.fx (nmC d (gpick d n)) (seqZ (gtZ d last k) (fldZ d (gpick d n)).toNat (seedN n)).1, (seqZ (gtZ d last k) (fldZ d (gpick d n)).toNat (seedN n)).2)
theorem gpick_bd {d : Dc} (n : Int) {last : Nat} (h : last < d.cs.length) : gpick d n < d.cs.length ∧ pickN n d.cs.length = (gpick d n : Nat) := by
 have := pickN_bd n d.cs.length
 unfold gpick
 split at this <;> omega
theorem tree83_any (d : Dc) (hg : d.good) (last : Nat) (hla : last < d.cs.length) (hcl : d.cs.length ≤ 1048576) (hf0 : fldZ d last = 0) (hfx : d.fx ≤ 1048576) (hfl : ∀ j, fldZ d j ≤ 1048576) :
  ∀ (k : Nat), k ≤ 1000 → ∀ (n : Int) (q : Nat) (h : Heap), WF h → h[q]? = some (sdB n) →
  ACalls Tryz.prog 83 [.ptr q 0, d.av, iA last, iA k] h fun o h' => o = .ret (gtZ d last k n).1.av ∧ h' = h.set q (sdB (gtZ d last k n).2) := by
 intro k
 induction k with
 | zero =>
  intro _ n q h hh hq
  obtain ⟨g1, g2, g3, g4, g5, hlt⟩ := idf hq
  have c1 := fun (l : List (Option AO)) (hw : WF (h ++ l)) => next136_any n d.cs.length (by omega) q (h ++ l) hw (g1 l)
  simp only [g2] at c1
  have hgc : d.cs[last]? = some d.cs[last] := List.getElem?_eq_getElem hla
  have c2 := fun (g : Heap) (hw : WF g) => fields_any g hw d hg last hla
  rw [hf0] at c2
  have c3 := fun (g : Heap) (hw : WF g) => built84_any g hw d last _ hgc [] (by simp) hfx
  obtain ⟨r, hr⟩ : ∃ r, bT d.fx d.cs[last].nm [] = r := ⟨_, rfl⟩
  simp only [gtZ, nmC, hgc, hr]
  rw [hr] at c3
  simp only [tmPs] at c3
  obtain ⟨r0, r1, r2, r3, r4⟩ := r
  rw [Dc.av_row] at c2 c3 ⊢
  refine ACalls.of_run Tryz.func83 rfl ?_
  simp only [Tryz.ntmps83, List.length_cons, List.length_nil, Tm.av, cells_mk, List.map]
  refine nv ?_
  refine Run.reg fun K J => ?_
  simp
  refine J _ _ _ (nv ?_); clear J
  refine Run.reg fun K J => ?_
  simp
  refine J _ _ _ ?_; clear J
  refine rl rfl (by first | rfl | simp) (by simp) rfl (c1 _ (hh.app (by simp))) ?_
  refine Run.ops fun K J => ?_
  simp
  refine J _ _ _ (nv ?_); clear J
  refine Run.reg fun K J => ?_
  simp
  refine J _ _ _ (nv ?_); clear J
  refine ct (by simp) ?_
  refine Run.reg fun K J => ?_
  simp
  refine J _ _ _ (nv ?_); clear J
  refine Run.reg fun K J => ?_
  simp
  refine J _ _ _ (nv ?_); clear J
  refine Run.reg fun K J => ?_
  simp
  refine J _ _ _ ?_; clear J
  refine rl rfl (by first | rfl | simp) (by simp) rfl (c2 _ ((hh.set (by simp)).app (by simp))) ?_
  refine Run.ops fun K J => ?_
  simp
  refine J _ _ _ (nv ?_); clear J
  refine Run.loopS [2, 5, 8, 9, 10, 21] (fun i : Nat => i = 0) (fun _ => 0) (fun i => [(22, iA i)]) (fun _ => h.set q (sdB (seedN n)) ++ [some (.cells d.row), some (.cells zTm)]) 0 rfl ?_ (by simp) ?_
  ·simp
   repeat' first | exact wn | apply wc | exact wj _ | exact wr _ | exact wz _ | exact wo _ _ _ | exact wi (by omega)
  rintro i rfl IH
  simp
  refine nv ?_
  refine Run.reg fun K J => ?_
  simp
  refine J _ _ _ (nv ?_); clear J
  refine cf (by simp) ?_
  refine Run.exit rfl ?_
  refine nv ?_
  refine Run.weakAt 10 (.p (.sl 5 [])) (by simp; exact Weak.nil 5) ?_
  simp
  refine Run.reg fun K J => ?_
  simp
  refine J _ _ _ ?_; clear J
  refine rl rfl (by first | rfl | simp) (by simp) rfl (c3 _ ((hh.set (by simp)).app (by simp))) ?_
  refine Run.ops fun K J => ?_
  simp
  refine J _ _ _ (nv ?_); clear J
  refine Run.ret ?_
  exact Fin.ret' (h0 := h.set q (sdB (seedN n))) (by simp) (by simp) (hh.set (by simp)) rfl (by simp; rfl) rfl (Weak.refl _) (by simp) ⟨rfl, rfl⟩
 | succ k ih =>
  intro hk n q h hh hq
  have ih := ih (by omega)
  obtain ⟨g1, g2, g3, g4, g5, hlt⟩ := idf hq
  have c1 := fun (l : List (Option AO)) (hw : WF (h ++ l)) => next136_any n d.cs.length (by omega) q (h ++ l) hw (g1 l)
  simp only [g2] at c1
  obtain ⟨p1, p2⟩ := gpick_bd (d := d) n hla
  rw [p2] at c1
  simp only [gtZ]
  generalize gpick d n = j at p1 c1 ⊢
  have hgc : d.cs[j]? = some d.cs[j] := List.getElem?_eq_getElem p1
  have c2 := fun (g : Heap) (hw : WF g) => fields_any g hw d hg j p1
  have hfj := hfl j
  obtain ⟨m, hm⟩ : ∃ m, (fldZ d j).toNat = m := ⟨_, rfl⟩
  obtain ⟨fj, hfj'⟩ : ∃ fj, fldZ d j = fj := ⟨_, rfl⟩
  rw [hm]
  rw [hfj'] at c2 hm hfj
  have c3 := fun (l : List Tm) (hl : l.length ≤ 1048576) (g : Heap) (hw : WF g) => built84_any g hw d j _ hgc l (by omega) hfx
  have hnc : nmC d j = d.cs[j].nm := by unfold nmC; rw [hgc]
  rw [hnc]
  generalize d.cs[j].nm = nm at c3 ⊢
  have hwk : IntKind.i64.wrap (((k + 1 : Nat) : Int) - 1) = k := by rw [wrap_id (by omega) (by omega)]; omega
  rw [Dc.av_row] at c2 ih ⊢
  simp only [Dc.av_row] at c3
  obtain ⟨s0, hs0⟩ : ∃ s0, seedN n = s0 := ⟨_, rfl⟩
  rw [hs0] at c1 ⊢
  refine ACalls.of_run Tryz.func83 rfl ?_
  simp only [Tryz.ntmps83, List.length_cons, List.length_nil, Tm.av]
  refine nv ?_
  refine Run.reg fun K J => ?_
  simp
  refine J _ _ _ (nv ?_); clear J
  refine Run.reg fun K J => ?_
  simp
  refine J _ _ _ ?_; clear J
  refine rl rfl (by first | rfl | simp) (by simp) rfl (c1 _ (hh.app (by simp))) ?_
  refine Run.ops fun K J => ?_
  simp
  refine J _ _ _ (nv ?_); clear J
  refine Run.reg fun K J => ?_
  simp
  refine J _ _ _ (nv ?_); clear J
  refine cf (by simp) (nv ?_)
  refine Run.reg fun K J => ?_
  simp
  refine J _ _ _ (nv ?_); clear J
  refine Run.tok 10 5 (by simp) ?_
  simp
  refine Run.reg fun K J => ?_
  simp
  refine J _ _ _ ?_; clear J
  refine rl rfl (by first | rfl | simp) (by simp) rfl (c2 _ ((hh.set (by simp)).app (by simp))) ?_
  refine Run.ops fun K J => ?_
  simp
  refine J _ _ _ (nv ?_); clear J
  have hlen := seqZ_len (gtZ d last k) s0
  refine Run.loopS [0, 2, 3, 5, 8, 9, 21] (fun i : Nat => i ≤ m) (fun i => m - i) (fun i => [(10, .own (h.length + 2) 5 (tmPs (seqZ (gtZ d last k) i s0).1)), (22, iA i)]) (fun i => h.set q (sdB (seqZ (gtZ d last k) i s0).2) ++ [some (.cells d.row), some (.cells zTm), some (.tok i 5)]) 0 (by simp) ?_ (by simp [seqZ]) ?_
  ·simp [seqZ, tmPs]
   repeat' first | exact wn | apply wc | exact wj _ | exact wr _ | exact wz _ | exact wo _ _ _ | exact wi (by omega)
  intro i hi IH
  simp
  refine nv ?_
  refine Run.reg fun K J => ?_
  simp
  refine J _ _ _ (nv ?_); clear J
  by_cases hil : (i : Int) < fj
  ·have hwf : WF (h.set q (sdB (seqZ (gtZ d last k) i s0).2)) := hh.set (by simp)
   have c4 := fun (l : List (Option AO)) (hw : WF (h.set q (sdB (seqZ (gtZ d last k) i s0).2) ++ l)) => ih (seqZ (gtZ d last k) i s0).2 q _ hw (g4 l _)
   have hli := hlen i
   have hst : seqZ (gtZ d last k) (i + 1) s0 = ((seqZ (gtZ d last k) i s0).1 ++ [(gtZ d last k (seqZ (gtZ d last k) i s0).2).1], (gtZ d last k (seqZ (gtZ d last k) i s0).2).2) := rfl
   generalize seqZ (gtZ d last k) i s0 = S at hwf c4 hli hst
   obtain ⟨out, s⟩ := S
   simp only at hwf c4 hli hst
   generalize gtZ d last k s = R at c4 hst
   obtain ⟨⟨t0, t1, t2, t3, t4⟩, s'⟩ := R
   simp only [g5] at c4 hst
   have hb1 : (i + 1) * 80 ≤ 140737488355328 := by omega
   have hb2 : i + 1 ≤ 9223372036854775807 := by omega
   subst hli
   refine ct (by simp [hil]) (nv ?_)
   refine Run.regPre 6 fun K J => ?_
   simp only [List.take_succ_cons, List.take_zero]
   simp
   try (simp (disch := omega) only [wrap_id])
   refine J _ _ _ ?_; clear J
   simp only [List.nil_append, List.drop_succ_cons, List.drop_zero]
   refine rl rfl (by first | rfl | simp) (by simp) rfl (c4 _ (hwf.app (by simp))) ?_
   refine Run.ops fun K J => ?_
   simp [hb1, hb2]
   refine J _ _ _ (nv ?_); clear J
   refine Run.reg fun K J => ?_
   simp
   try (simp (disch := omega) only [wrap_id])
   refine J _ _ _ (nv ?_); clear J
   refine IH (out.length + 1) _ _ (by omega) (by omega) ?_ ?_
   ·rw [hst]
    simp [tmPs_snoc]
    repeat' first | exact wn | apply wc | exact wj _ | exact wr _ | exact wz _ | exact wo _ _ _ | exact wi (by omega)
   ·rw [hst]
  ·have hie : i = m := by omega
   subst hie
   have hli := hlen i
   generalize seqZ (gtZ d last k) i s0 = S at hli ⊢
   obtain ⟨out, s⟩ := S
   simp only at hli
   have c3 := c3 out (by omega)
   generalize bT d.fx nm out = r at c3 ⊢
   obtain ⟨r0, r1, r2, r3, r4⟩ := r
   refine cf (by simp [hil]) ?_
   refine Run.exit rfl ?_
   refine nv ?_
   refine Run.weakAt 10 (.p (.sl 5 (tmPs out))) (by simp; exact Weak.own _ _ _) ?_
   simp
   refine Run.reg fun K J => ?_
   simp
   refine J _ _ _ ?_; clear J
   refine rl rfl (by first | rfl | simp) (by simp) rfl (c3 _ ((hh.set (by simp)).app (by simp))) ?_
   refine Run.ops fun K J => ?_
   simp
   refine J _ _ _ (nv ?_); clear J
   refine Run.ret ?_
   exact Fin.ret' (h0 := h.set q (sdB s)) (by simp) (by simp) (hh.set (by simp)) rfl (by simp; rfl) rfl (Weak.refl _) (by simp) ⟨rfl, rfl⟩


open Go Go.AI
def ctZ (d : Dc) (nm : List UInt8) (f : Int → List Tm × Int) : Nat → Int → List Tm × Int
 | 0, n => ([], n)
 | j + 1, n => if nmC d j = nm then ((ctZ d nm f j n).1 ++ [bT d.fx nm (f (ctZ d nm f j n).2).1], (f (ctZ d nm f j n).2).2) else ctZ d nm f j n

mutual
def inP (d : Dc) (last : Nat) : Pt → Int → List Tm × Int
 | .mk k nm qs, n => if k = 1 then ctZ d nm (inPs d last qs) d.cs.length n else ([(gtZ d last 2 n).1], (gtZ d last 2 n).2)
def inPs (d : Dc) (last : Nat) : List Pt → Int → List Tm × Int
 | [], n => ([], n)
 | p :: ps, n => ((inP d last p n).1 ++ (inPs d last ps (inP d last p n).2).1, (inPs d last ps (inP d last p n).2).2)
end
theorem ctZ_len (d : Dc) (nm : List UInt8) (f : Int → List Tm × Int) (n : Int) : ∀ j, (ctZ d nm f j n).1.length ≤ j
 | 0 => Nat.le_refl _
 | j + 1 => by
  have := ctZ_len d nm f n j
  unfold ctZ
  split
  ·simp; omega
  ·omega
theorem inP_len {d : Dc} {last : Nat} (hl : last < d.cs.length) (p : Pt) (n : Int) : (inP d last p n).1.length ≤ d.cs.length := by
 obtain ⟨k, nm, qs⟩ := p
 unfold inP
 split
 ·exact ctZ_len _ _ _ _ _
 ·simp; omega
theorem inPs_len {d : Dc} {last : Nat} (hl : last < d.cs.length) : ∀ (l : List Pt) (n : Int), (inPs d last l n).1.length ≤ l.length * d.cs.length
 | [], n => by simp [inPs]
 | p :: ps, n => by
  have h1 := inP_len hl p n
  have h2 := inPs_len hl ps (inP d last p n).2
  simp only [inPs, List.length_append, List.length_cons, Nat.succ_mul]
  omega
theorem inst31_any (d : Dc) (hg : d.good) (last : Nat) (hla : last < d.cs.length) (hcl : d.cs.length ≤ 1048576) (hf0 : fldZ d last = 0) (hfx : d.fx ≤ 1048576) (hfl : ∀ j, fldZ d j ≤ 1048576) (N : Nat) :
  ∀ (l : List Pt), Pt.sizes l ≤ N → Pt.sizes l ≤ 1048576 → ∀ (n : Int) (q : Nat) (h : Heap), WF h → h[q]? = some (sdB n) →
  ACalls Tryz.prog 31 [.ptr q 0, d.av, iA last, .p (.sl 3 (ptPs l))] h fun o h' => o = .ret (.p (.sl 5 (tmPs (inPs d last l n).1))) ∧ h' = h.set q (sdB (inPs d last l n).2) := by
 have key : ∀ (l : List Pt), Pt.sizes l ≤ 1048576 → (∀ p ∈ l, ∀ n q h, WF h → h[q]? = some (sdB n) → ACalls Tryz.prog 31 [.ptr q 0, d.av, iA last, .p (.sl 3 (ptPs p.args))] h fun o h' => o = .ret (.p (.sl 5 (tmPs (inPs d last p.args n).1))) ∧ h' = h.set q (sdB (inPs d last p.args n).2)) →
   ∀ (n : Int) (q : Nat) (h : Heap), WF h → h[q]? = some (sdB n) →
   ACalls Tryz.prog 31 [.ptr q 0, d.av, iA last, .p (.sl 3 (ptPs l))] h fun o h' => o = .ret (.p (.sl 5 (tmPs (inPs d last l n).1))) ∧ h' = h.set q (sdB (inPs d last l n).2) := by
  intro l hB ih n q h hh hq
  have hll := psz_len l
  obtain ⟨g1, g2, g3, g4, g5, hlt⟩ := idf hq
  have hss : List.set h q (sdB n) = h := by
   obtain ⟨hl, e⟩ := List.getElem?_eq_some_iff.1 hq
   rw [← e, List.set_getElem_self]
  have hmul : l.length * d.cs.length ≤ 1048576 * 1048576 := Nat.mul_le_mul (by omega) hcl
  have ht := fun (n : Int) (q : Nat) (h : Heap) (hw : WF h) (e : h[q]? = some (sdB n)) => tree83_any d hg last hla hcl hf0 hfx hfl 2 (by omega) n q h hw e
  have hb := fun (g : Heap) (hw : WF g) (j : Nat) (c : Ct) (hc : d.cs[j]? = some c) (l : List Tm) (hl : l.length ≤ 2199023255552) => built84_any g hw d j c hc l hl hfx
  simp only [Dc.av_row] at ih ht hb ⊢
  refine ACalls.of_run Tryz.func31 rfl ?_
  simp only [Tryz.ntmps31, List.length_cons, List.length_nil]
  refine nv ?_
  refine Run.reg fun K J => ?_
  simp
  refine J _ _ _ (nv ?_); clear J
  refine Run.reg fun K J => ?_
  simp
  refine J _ _ _ (nv ?_); clear J
  refine Run.tok 9 5 (by simp) ?_
  simp
  refine Run.reg fun K J => ?_
  simp
  refine J _ _ _ (nv ?_); clear J
  refine Run.loopS (ι := Nat × List Tm × Int) [0, 2, 5, 13, 14] (fun p => p.1 ≤ l.length ∧ p.2.1.length ≤ p.1 * d.cs.length ∧ inPs d last l n = (p.2.1 ++ (inPs d last (l.drop p.1) p.2.2).1, (inPs d last (l.drop p.1) p.2.2).2)) (fun p => l.length - p.1) (fun p => [(9, .own (h.length + 1) 5 (tmPs p.2.1)), (15, iA p.1)]) (fun p => h.set q (sdB p.2.2) ++ [some (.cells d.row), some (.tok p.2.1.length 5)]) (0, [], n) ⟨by simp, by simp, by simp⟩ ?_ (by simp [hss]) ?_
  ·simp [tmPs]
   repeat' first | exact wn | apply wc | exact wj _ | exact wr _ | exact wz _ | exact wo _ _ _ | exact wi (by omega)
  rintro ⟨j, out, m⟩ ⟨hj, hol, hd⟩ IH
  simp only at hj hol hd
  simp
  refine nv ?_
  refine Run.reg fun K J => ?_
  simp
  refine J _ _ _ (nv ?_); clear J
  by_cases hjl : j < l.length
  rotate_left
  ·have hje : l.length ≤ j := by omega
   rw [List.drop_of_length_le hje, inPs] at hd
   simp only [List.append_nil] at hd
   rw [hd]
   refine cf (by simp [hje]) ?_
   refine Run.exit rfl ?_
   refine nv ?_
   refine Run.reg fun K J => ?_
   simp
   refine J _ _ _ (nv ?_); clear J
   refine Run.ret ?_
   exact Fin.ret' (h0 := h.set q (sdB m)) (xs := [.own (h.length + 1) 5 (tmPs out)]) (by simp) (by simp) (hh.set (by simp)) rfl (by simp) rfl (Weak.own _ _ _) (by simp) ⟨rfl, rfl⟩
  have hgp : l[j]? = some l[j] := List.getElem?_eq_getElem hjl
  have hmem := List.getElem_mem hjl
  rw [drop_of_get hgp] at hd
  generalize l[j] = p at hgp hmem hd
  have ih := ih p hmem
  have hpl := inP_len hla p m
  have hmj : j * d.cs.length + d.cs.length ≤ l.length * d.cs.length := by rw [← Nat.succ_mul]; exact Nat.mul_le_mul_right _ (by omega)
  simp only [inPs] at hd
  obtain ⟨k, nm, qs⟩ := p
  simp only [Pt.args] at ih
  have hwf : ∀ s, WF (h.set q (sdB s)) := fun s => hh.set (by simp)
  refine ct (by simp [hjl]) (nv ?_)
  refine Run.reg fun K J => ?_
  simp [hgp, pcells_mk]
  refine J _ _ _ (nv ?_); clear J
  by_cases k1 : k = 1
  rotate_left
  ·rw [show inP d last (.mk k nm qs) m = ([(gtZ d last 2 m).1], (gtZ d last 2 m).2) by rw [inP, if_neg k1]] at hd hpl
   have c1 := fun (l : List (Option AO)) (hw : WF (h.set q (sdB m) ++ l)) => ht m q _ hw (g4 l _)
   generalize gtZ d last 2 m = R at c1 hd
   obtain ⟨⟨t0, t1, t2, t3, t4⟩, s'⟩ := R
   simp only [g5] at c1 hd
   have hb1 : (out.length + 1) * 80 ≤ 140737488355328 := by simp at hpl; omega
   have hb2 : out.length + 1 ≤ 9223372036854775807 := by omega
   have k1' : (k != 1) = true := by simpa using k1
   refine Run.reg fun K J => ?_
   simp [k1']
   refine J _ _ _ (nv ?_); clear J
   refine ct (by simp) (nv ?_)
   refine Run.regPre 4 fun K J => ?_
   simp only [List.take_succ_cons, List.take_zero]
   simp
   refine J _ _ _ ?_; clear J
   simp only [List.nil_append, List.drop_succ_cons, List.drop_zero]
   refine rl rfl (by first | rfl | simp) (by simp) rfl (c1 _ ((hwf _).app (by simp))) ?_
   refine Run.ops fun K J => ?_
   simp [hb1, hb2]
   refine J _ _ _ (nv ?_); clear J
   refine Run.exit rfl ?_
   refine Run.reg fun K J => ?_
   simp
   try (simp (disch := omega) only [wrap_id])
   refine J _ _ _ (nv ?_); clear J
   refine Run.keep [0, 2, 5, 9, 13, 14, 15] ?_
   simp
   refine Run.cutAt (h0 := h.set q (sdB s')) 2 (hh.set (by simp)) rfl (by simp) (by simp) (by simp <;> omega) (by simp) (by simp [underD]) ?_
   refine IH (j + 1, out ++ [.mk t0 t1 t2 t3 t4], s') _ _ ⟨by omega, ?_, ?_⟩ (by simp only; omega) ?_ ?_
   ·simp only [List.length_append, List.length_singleton, Nat.succ_mul]; simp at hpl; omega
   ·simp only; rw [hd]; simp
   ·simp [tmPs_snoc]
    repeat' first | exact wn | apply wc | exact wj _ | exact wr _ | exact wz _ | exact wo _ _ _ | exact wi (by omega)
   ·simp
  subst k1
  have hip : inP d last (.mk 1 nm qs) m = ctZ d nm (inPs d last qs) d.cs.length m := by rw [inP, if_pos rfl]
  rw [hip] at hd hpl
  refine Run.reg fun K J => ?_
  simp
  refine J _ _ _ (nv ?_); clear J
  refine cf (by simp) (nv ?_)
  refine Run.reg fun K J => ?_
  simp
  refine J _ _ _ (nv ?_); clear J
  refine Run.loopS (ι := Nat × List Tm × Int) [0, 2, 5, 11, 13, 14, 15, 31] (fun p => p.1 ≤ d.cs.length ∧ p.2 = ((ctZ d nm (inPs d last qs) p.1 m).1, (ctZ d nm (inPs d last qs) p.1 m).2)) (fun p => d.cs.length - p.1) (fun p => [(9, .own (h.length + 1) 5 (tmPs (out ++ p.2.1))), (32, iA p.1)]) (fun p => h.set q (sdB p.2.2) ++ [some (.cells d.row), some (.tok (out ++ p.2.1).length 5), some (.cells [iA 1, .p (sP nm), .p (.sl 3 (ptPs qs))])]) (0, [], m) ⟨by simp, by simp [ctZ]⟩ ?_ (by simp) ?_
  ·simp
   repeat' first | exact wn | apply wc | exact wj _ | exact wr _ | exact wz _ | exact wo _ _ _ | exact wi (by omega)
  rintro ⟨i, l2, s⟩ ⟨hi, hs⟩ IH2
  simp only at hi hs
  simp
  refine nv ?_
  refine Run.reg fun K J => ?_
  simp
  refine J _ _ _ (nv ?_); clear J
  by_cases hil : i < d.cs.length
  rotate_left
  ·have hie : i = d.cs.length := by omega
   subst hie
   simp only [Prod.mk.injEq] at hs
   obtain ⟨rfl, rfl⟩ := hs
   refine cf (by simp) ?_
   refine Run.exit rfl ?_
   refine nv ?_
   refine Run.reg fun K J => ?_
   simp
   try (simp (disch := omega) only [wrap_id])
   refine J _ _ _ (nv ?_); clear J
   refine Run.keep [0, 2, 5, 9, 13, 14, 15] ?_
   simp
   refine Run.cutAt (h0 := h.set q (sdB (ctZ d nm (inPs d last qs) d.cs.length m).2)) 2 (hh.set (by simp)) rfl (by simp) (by simp) (by simp <;> omega) (by simp) (by simp [underD]) ?_
   refine IH (j + 1, out ++ (ctZ d nm (inPs d last qs) d.cs.length m).1, (ctZ d nm (inPs d last qs) d.cs.length m).2) _ _ ⟨by omega, ?_, ?_⟩ (by simp only; omega) ?_ ?_
   ·simp only [List.length_append, Nat.succ_mul]; omega
   ·simp only; rw [hd]; simp
   ·simp
    repeat' first | exact wn | apply wc | exact wj _ | exact wr _ | exact wz _ | exact wo _ _ _ | exact wi (by omega)
   ·simp
  have hgc : d.cs[i]? = some d.cs[i] := List.getElem?_eq_getElem hil
  have hnm : nmC d i = d.cs[i].nm := by unfold nmC; rw [hgc]
  have hst : ctZ d nm (inPs d last qs) (i + 1) m = if nmC d i = nm then (l2 ++ [bT d.fx nm (inPs d last qs s).1], (inPs d last qs s).2) else (l2, s) := by
   have hs1 := congrArg Prod.fst hs
   have hs2 := congrArg Prod.snd hs
   simp only at hs1 hs2
   rw [ctZ, ← hs1, ← hs2]
   split
   ·rfl
   ·exact Prod.ext hs1.symm hs2.symm
  have hl2 := ctZ_len d nm (inPs d last qs) m i
  rw [← congrArg Prod.fst hs] at hl2
  simp only at hl2
  rw [hnm] at hst
  generalize d.cs[i] = c at hgc hst
  obtain ⟨x, ⟨u0, u1, u2, u3, u4⟩⟩ := c
  simp only at hst
  refine ct (by simp [hil]) (nv ?_)
  refine Run.reg fun K J => ?_
  simp
  refine J _ _ _ (nv ?_); clear J
  refine Run.draw [0, 0, 0, 0, 0, 0, 0, 0, 0] [0, 0, 0, 0, 0, 0, 0, 0, 0] [0, 1, 0, 7, 15, 31, 0, 64, 255] [0, 1, 2, 3, 4, 5, 6, 7, 8] (by kernel_rfl) (by kernel_rfl) ?_
  refine DR.go fun K J => ?_
  simp [hgc, Ct.cells]
  refine J _ _ _ _ ?_; clear J
  change Run _ _ _ _ _ _ _ _
  by_cases hx : x = nm
  ·subst hx
   rw [if_pos rfl] at hst
   have c1 := fun (l : List (Option AO)) (hw : WF (h.set q (sdB s) ++ l)) => ih s q _ hw (g4 l _)
   have hql := inPs_len hla qs s
   have hqs : qs.length * d.cs.length ≤ 1048576 * 1048576 := by
    have h1 := Pt.size_at hmem
    simp only [Pt.size] at h1
    have h2 := psz_len qs
    exact Nat.mul_le_mul (by omega) hcl
   generalize inPs d last qs s = R at c1 hst hql
   obtain ⟨us, s'⟩ := R
   simp only [g5] at c1 hst hql
   have c2 := fun (g : Heap) (hw : WF g) => hb g hw i _ hgc us (by omega)
   simp only at c2
   generalize bT d.fx x us = b at c2 hst
   obtain ⟨b0, b1, b2, b3, b4⟩ := b
   have hb1 : (out.length + l2.length + 1) * 80 ≤ 140737488355328 := by omega
   have hb2 : out.length + l2.length + 1 ≤ 9223372036854775807 := by omega
   refine ct (by simp) ?_
   refine Run.draw [0, 0, 0, 0, 0, 0, 0, 0, 0, 1, 2, 2, 3] [0, 0, 0, 0, 0, 0, 0, 0, 0, 1, 0, 2, 0] [0, 0, 0, 0, 0, 0, 0, 64, 248, 510, 1022, 2047, 4095] [3, 4, 5, 6, 7, 8, 1, 2, 9, 0, 10, 11, 12] (by kernel_rfl) (by kernel_rfl) ?_
   refine DR.go fun K J => ?_
   simp
   refine J _ _ _ _ ?_; clear J
   refine DR.call rfl rfl rfl (by simp) rfl (c1 _ ((hwf _).app (by simp))) ?_
   refine DR.go fun K J => ?_
   simp
   refine J _ _ _ _ ?_; clear J
   refine DR.call rfl rfl rfl (by simp) rfl (c2 _ ((hwf _).app (by simp))) ?_
   refine DR.go fun K J => ?_
   simp [hb1, hb2]
   refine J _ _ _ _ ?_; clear J
   change Run _ _ _ _ _ _ _ _
   refine nv ?_
   refine Run.reg fun K J => ?_
   simp
   try (simp (disch := omega) only [wrap_id])
   refine J _ _ _ (nv ?_); clear J
   refine IH2 (i + 1, l2 ++ [.mk b0 b1 b2 b3 b4], s') _ _ ⟨by omega, ?_⟩ (by simp only; omega) ?_ ?_
   ·rw [hst]
   ·simp [← List.append_assoc, tmPs_snoc]
    repeat' first | exact wn | apply wc | exact wj _ | exact wr _ | exact wz _ | exact wo _ _ _ | exact wi (by omega)
   ·simp; omega
  ·rw [if_neg hx] at hst
   refine cf (by simp [hx]) (nv ?_)
   refine Run.reg fun K J => ?_
   simp
   try (simp (disch := omega) only [wrap_id])
   refine J _ _ _ (nv ?_); clear J
   refine IH2 (i + 1, l2, s) _ _ ⟨by omega, ?_⟩ (by simp only; omega) ?_ ?_
   ·rw [hst]
   ·simp
    repeat' first | exact wn | apply wc | exact wj _ | exact wr _ | exact wz _ | exact wo _ _ _ | exact wi (by omega)
   ·simp
 induction N with
 | zero =>
  intro l hN hB
  refine key l hB fun p hp => ?_
  have := Pt.size_at hp
  have := p.size_pos
  omega
 | succ N ih =>
  intro l hN hB
  refine key l hB fun p hp => ?_
  have h1 := Pt.size_at hp
  obtain ⟨k, nm, qs⟩ := p
  simp only [Pt.size] at h1
  exact ih qs (by omega) (by omega)

end Go.Proofs.YtcfcolkbeelegaaGreat
