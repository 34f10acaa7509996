import Derived.Test.YtcfcolkbeelegaaGreatVQH
set_option maxRecDepth 8000
set_option maxHeartbeats 16000000

namespace Go.Proofs.YtcfcolkbeelegaaGreat

open Go Go.AI
@[simp] theorem Dc.row_cs' (d : Dc) (q : 14 < d.row.length) : d.row[14]'q = .p (.sl 6 (d.cs.map Ct.cells)) := by
 have := d.row_cs
 rw [List.getElem?_eq_getElem q] at this
 exact Option.some.inj this
def simF (env : List Dc) : (Dc × Bool) × Bool → List Cl → (Dc × Bool) × Bool
 | s, [] => s
 | s, c :: cs => simF env ((famPs env s.1 c.ps).1, s.2 && (famPs env s.1 c.ps).2) cs
def fld0 (d : Dc) (j : Nat) : Bool := fldZ d j == 0
def simZ (s : (Dc × Bool) × Bool) : Dc × Int × Bool :=
 if s.2 = true ∧ s.1.2 = true then (match (List.range s.1.1.cs.length).find? (fld0 s.1.1) with | some j => (s.1.1, (j : Int), true) | none => (s.1.1, 0, false)) else (s.1.1, 0, false)
def simS (env : List Dc) (cls : List Cl) (v : List Pt) : (Dc × Bool) × Bool := simF env (famPs env (zDc, false) v) cls
theorem simF_drop {env : List Dc} {s t : (Dc × Bool) × Bool} {l : List Cl} {j : Nat} (h : simF env s l = simF env t (l.drop j)) {c : Cl} (hg : l[j]? = some c) : simF env s l = simF env ((famPs env t.1 c.ps).1, t.2 && (famPs env t.1 c.ps).2) (l.drop (j + 1)) := by
 rw [h, drop_of_get hg, simF]
theorem find_at {p : Nat → Bool} {n j : Nat} (hj : j < n) (h0 : ∀ i, i < j → p i = false) (h : p j = true) : (List.range n).find? p = some j := by
 rw [List.find?_range_eq_some]
 exact ⟨h, List.mem_range.2 hj, fun i hi => by simp [h0 i hi]⟩
theorem find_none {p : Nat → Bool} {n : Nat} (h0 : ∀ i, i < n → p i = false) : (List.range n).find? p = none := by
 rw [List.find?_eq_none]
 intro i hi
 simp [h0 i (List.mem_range.1 hi)]
def StIn (env : List Dc) (s : Dc × Bool) : Prop := (s.1 = zDc ∨ s.1 ∈ env) ∧ (s.2 = true → s.1 ∈ env)

mutual
theorem famP_in {env : List Dc} : ∀ (p : Pt) (s : Dc × Bool), StIn env s → StIn env (famP env s p).1
 | .mk k n qs, s, h => by
  simp only [famP]
  split
  ·exact h
  split
  ·split
   ·exact h
   rename_i hc
   simp only [not_or, not_and, Bool.not_eq_false] at hc
   have hm : (famZ env n).1 ∈ env := by
    rcases famZ_ok (env := env) n with e | ⟨d, a, e, hm, _⟩
    ·rw [e] at hc; simp at hc
    ·rw [e]; exact hm
   exact famPs_in qs _ ⟨.inr hm, fun _ => hm⟩
  ·exact famPs_in qs _ h
theorem famPs_in {env : List Dc} : ∀ (l : List Pt) (s : Dc × Bool), StIn env s → StIn env (famPs env s l).1
 | [], s, h => by simpa only [famPs] using h
 | p :: l, s, h => by
  simp only [famPs]
  split
  ·exact famPs_in l _ (famP_in p s h)
  ·exact famP_in p s h
end
theorem simple30_any (env : List Dc) (hg : Env.good env) (hn : Env.short env) (cls : List Cl) (v : List Pt) (hs : PSmall cls v) (h : Heap) (hh : WF h) :
  ACalls Tryz.prog 30 [envA env, .p (.sl 6 (clPs cls)), .p (.sl 3 (ptPs v))] h fun o h' => o = .ret (.tup [.agg (simZ (simS env cls v)).1.row, iA (simZ (simS env cls v)).2.1, bA (simZ (simS env cls v)).2.2]) ∧ h' = h := by
 have hcl := hs.cl
 obtain ⟨R, hR⟩ : ∃ R, simS env cls v = R := ⟨_, rfl⟩
 rw [hR]
 unfold simS at hR
 have c1 : ∀ (g : Heap) (hw : WF g), ACalls Tryz.prog 81 [envA env, .p (.sl 3 (ptPs v)), .agg zDcA, bA false] g fun o h' => o = .ret (fmA (famPs env (zDc, false) v)) ∧ h' = g := fun g hw =>
  ACalls.weak (args' := [envA env, .p (.sl 3 (ptPs v)), zDc.av, bA false]) (WeakL.cons (Weak.refl _) (WeakL.cons (Weak.refl _) (WeakL.cons dc_weak0 (WeakL.refl _)))) (fam81_any env hg hn _ v (zDc, false) (Nat.le_refl _) hs.vs g hw)
 have c2 := fun (c : Cl) (hc : c ∈ cls) (s : Dc × Bool) (g : Heap) (hw : WF g) => fam81_any env hg hn _ c.ps s (Nat.le_refl _) (hs.cs c hc) g hw
 simp only [Dc.av_row] at c2
 have hin0 : StIn env (famPs env (zDc, false) v).1 := famPs_in v _ ⟨.inl rfl, fun h => by cases h⟩
 generalize famPs env (zDc, false) v = r0 at c1 hR hin0
 obtain ⟨⟨D0, f0⟩, ok0⟩ := r0
 simp only [fmA] at c1 hin0
 refine ACalls.of_run Tryz.func30 rfl ?_
 simp only [Tryz.ntmps30, List.length_cons, List.length_nil]
 refine nv ?_
 refine Run.reg fun K J => ?_
 simp
 refine J _ _ _ (nv ?_); clear J
 refine Run.reg fun K J => ?_
 simp
 refine J _ _ _ ?_; clear J
 refine rl rfl (by first | rfl | simp) (by simp) rfl (c1 _ (hh.app (by simp))) ?_
 refine Run.ops fun K J => ?_
 simp [Dc.row_one, Dc.row_patch]
 refine J _ _ _ (nv ?_); clear J
 refine Run.reg fun K J => ?_
 simp
 refine J _ _ _ (nv ?_); clear J
 refine Run.loopS (ι := Nat × ((Dc × Bool) × Bool)) [0, 6, 9, 24, 25] (fun p => p.1 ≤ cls.length ∧ StIn env p.2.1 ∧ simF env ((D0, f0), ok0) cls = simF env p.2 (cls.drop p.1)) (fun p => cls.length - p.1) (fun p => [(10, bA p.2.1.2), (11, bA p.2.2), (26, iA p.1)]) (fun p => h ++ [some (.cells zDcA), some (.cells p.2.1.1.row)]) (0, ((D0, f0), ok0)) ⟨by simp, hin0, by simp⟩ ?_ (by simp) ?_
 ·simp
  repeat' first | exact wn | apply wc | exact wj _ | exact wr _ | exact wz _ | exact wo _ _ _ | exact wi (by omega)
 rintro ⟨j, ⟨⟨E, b⟩, ok⟩⟩ ⟨hj, hin, hd⟩ IH
 simp only at hj hin hd
 simp
 refine nv ?_
 refine Run.reg fun K J => ?_
 simp
 refine J _ _ _ (nv ?_); clear J
 by_cases hjl : j < cls.length
 ·have hgj : cls[j]? = some cls[j] := List.getElem?_eq_getElem hjl
  have hmem := List.getElem_mem hjl
  have hd2 := simF_drop hd hgj
  generalize cls[j] = c at hgj hmem hd2
  have c3 := fun (g : Heap) (hw : WF g) => c2 c hmem (E, b) g hw
  have hin2 := famPs_in c.ps (E, b) hin
  obtain ⟨ps, ⟨k, i, nm, ls, ks⟩⟩ := c
  simp only at c3 hd2 hin2
  generalize famPs env (E, b) ps = r at c3 hd2 hin2
  obtain ⟨⟨E2, b2⟩, ok2⟩ := r
  simp only [fmA] at c3 hd2 hin2
  refine ct (by simp [hjl]) (nv ?_)
  refine Run.reg fun K J => ?_
  simp [hgj, Cl.cells]
  refine J _ _ _ (nv ?_); clear J
  refine Run.reg fun K J => ?_
  simp
  refine J _ _ _ (nv ?_); clear J
  refine Run.reg fun K J => ?_
  simp
  refine J _ _ _ ?_; clear J
  refine rl rfl (by first | rfl | simp) (by simp) rfl (c3 _ (hh.app (by simp))) ?_
  refine Run.ops fun K J => ?_
  simp [Dc.row_one, Dc.row_patch]
  refine J _ _ _ (nv ?_); clear J
  cases ok with
  | false =>
   refine Run.reg fun K J => ?_
   simp
   refine J _ _ _ (nv ?_); clear J
   refine Run.reg fun K J => ?_
   simp
   try (simp (disch := omega) only [wrap_id])
   refine J _ _ _ (nv ?_); clear J
   refine Run.keep [0, 6, 9, 10, 11, 24, 25, 26] ?_
   simp only [keepT, keepT.go, List.contains_cons]
   simp
   refine Run.cutAt 2 hh rfl (by omega) (by simp) (by simp) (by simp) rfl ?_
   simp
   refine IH (j + 1, ((E2, b2), false)) _ _ ⟨by simp only; omega, hin2, by simpa using hd2⟩ (by simp only; omega) ?_ (by simp)
   simp
   repeat' first | exact wn | apply wc | exact wj _ | exact wr _ | exact wz _ | exact wo _ _ _ | exact wi (by omega)
  | true =>
   refine Run.reg fun K J => ?_
   simp
   refine J _ _ _ (nv ?_); clear J
   refine Run.reg fun K J => ?_
   simp
   try (simp (disch := omega) only [wrap_id])
   refine J _ _ _ (nv ?_); clear J
   refine Run.keep [0, 6, 9, 10, 11, 24, 25, 26] ?_
   simp only [keepT, keepT.go, List.contains_cons]
   simp
   refine Run.cutAt 2 hh rfl (by omega) (by simp) (by simp) (by simp) rfl ?_
   simp
   refine IH (j + 1, ((E2, b2), ok2)) _ _ ⟨by simp only; omega, hin2, by simpa using hd2⟩ (by simp only; omega) ?_ (by simp)
   simp
   repeat' first | exact wn | apply wc | exact wj _ | exact wr _ | exact wz _ | exact wo _ _ _ | exact wi (by omega)
 have hje : cls.length ≤ j := by omega
 rw [List.drop_of_length_le hje, simF, hR] at hd
 subst hd
 have hcs : E.cs.length ≤ 1048576 := by
  rcases hin.1 with e | e
  ·simp only at e; rw [e]; simp [zDc]
  ·exact (hg.2 _ e).csl
 refine cf (by simp [hje]) ?_
 refine Run.exit rfl ?_
 refine nv ?_
 refine Run.reg fun K J => ?_
 simp
 refine J _ _ _ (nv ?_); clear J
 refine Run.loopS (ι := Nat) [6, 9, 10, 11, 45, 46, 47] (fun j => j ≤ E.cs.length ∧ (ok = true → b = true → ∀ i, i < j → fld0 E i = false)) (fun j => E.cs.length - j) (fun j => [(48, iA j)]) (fun _ => h ++ [some (.cells zDcA), some (.cells E.row)]) 0 (by simp) ?_ (by simp) ?_
 ·simp
  repeat' first | exact wn | apply wc | exact wj _ | exact wr _ | exact wz _ | exact wo _ _ _ | exact wi (by omega)
 rintro j2 ⟨hj2, h0⟩ IH2
 simp
 refine nv ?_
 refine Run.reg fun K J => ?_
 simp
 refine J _ _ _ (nv ?_); clear J
 by_cases hjl2 : j2 < E.cs.length
 ·have next : (ok = true → b = true → fld0 E j2 = false) → (ok = true → b = true → ∀ i, i < j2 + 1 → fld0 E i = false) := fun hx h1 h2 i hi => by
   rcases Nat.lt_or_ge i j2 with h | h
   ·exact h0 h1 h2 i h
   ·rw [show i = j2 by omega]; exact hx h1 h2
  refine ct (by simp [hjl2]) (nv ?_)
  refine Run.reg fun K J => ?_
  simp
  refine J _ _ _ (nv ?_); clear J
  cases ok with
  | false =>
   refine Run.reg fun K J => ?_
   simp
   refine J _ _ _ (nv ?_); clear J
   refine cf (by simp) (nv ?_)
   refine Run.reg fun K J => ?_
   simp
   try (simp (disch := omega) only [wrap_id])
   refine J _ _ _ (nv ?_); clear J
   refine Run.keep [6, 9, 10, 11, 45, 46, 47, 48] ?_
   simp only [keepT, keepT.go, List.contains_cons]
   simp
   refine IH2 (j2 + 1) _ _ ⟨by omega, next (fun h => by cases h)⟩ (by omega) ?_ (by simp)
   simp
   repeat' first | exact wn | apply wc | exact wj _ | exact wr _ | exact wz _ | exact wo _ _ _ | exact wi (by omega)
  | true =>
  cases b with
  | false =>
   refine Run.reg fun K J => ?_
   simp
   refine J _ _ _ (nv ?_); clear J
   refine cf (by simp) (nv ?_)
   refine Run.reg fun K J => ?_
   simp
   try (simp (disch := omega) only [wrap_id])
   refine J _ _ _ (nv ?_); clear J
   refine Run.keep [6, 9, 10, 11, 45, 46, 47, 48] ?_
   simp only [keepT, keepT.go, List.contains_cons]
   simp
   refine IH2 (j2 + 1) _ _ ⟨by omega, next (fun _ h => by cases h)⟩ (by omega) ?_ (by simp)
   simp
   repeat' first | exact wn | apply wc | exact wj _ | exact wr _ | exact wz _ | exact wo _ _ _ | exact wi (by omega)
  | true =>
   have hE := hin.2 rfl
   simp only at hE
   have c5 := fun (g : Heap) (hw : WF g) => fields_any g hw E (hg.2 E hE) j2 hjl2
   simp only [Dc.av_row] at c5
   refine Run.reg fun K J => ?_
   simp
   refine J _ _ _ ?_; clear J
   refine rl rfl (by first | rfl | simp) (by simp) rfl (c5 _ (hh.app (by simp))) ?_
   by_cases hz : fldZ E j2 = 0
   ·have hr : simZ ((E, true), true) = (E, (j2 : Int), true) := by
     unfold simZ
     simp only [and_self, if_true]
     rw [find_at hjl2 (h0 rfl rfl) (by simp [fld0, hz])]
    refine Run.ops fun K J => ?_
    simp [hz]
    refine J _ _ _ (nv ?_); clear J
    refine ct (by simp) (nv ?_)
    refine Run.reg fun K J => ?_
    simp [Dc.row_one, Dc.row_patch]
    refine J _ _ _ (nv ?_); clear J
    refine Run.ret ?_
    exact Fin.ret' (h0 := h) (by simp) rfl hh rfl (by simp; rfl) rfl (Weak.refl _) (by simp) ⟨by rw [hr]; rfl, rfl⟩
   ·have hzb : (fldZ E j2 == (0 : Int)) = false := by simpa using hz
    refine Run.ops fun K J => ?_
    simp [hzb]
    refine J _ _ _ (nv ?_); clear J
    refine cf (by simp) (nv ?_)
    refine Run.reg fun K J => ?_
    simp
    try (simp (disch := omega) only [wrap_id])
    refine J _ _ _ (nv ?_); clear J
    refine Run.keep [6, 9, 10, 11, 45, 46, 47, 48] ?_
    simp only [keepT, keepT.go, List.contains_cons]
    simp
    refine IH2 (j2 + 1) _ _ ⟨by omega, next (fun _ _ => by simp [fld0, hz])⟩ (by omega) ?_ (by simp)
    simp
    repeat' first | exact wn | apply wc | exact wj _ | exact wr _ | exact wz _ | exact wo _ _ _ | exact wi (by omega)
 ·have hr : simZ ((E, b), ok) = (E, 0, false) := by
   unfold simZ
   by_cases hc : ok = true ∧ b = true
   ·simp only [hc, and_self, if_true]
    rw [find_none (fun i hi => h0 hc.1 hc.2 i (by omega))]
   ·simp only [hc, if_false]
  have hje2 : E.cs.length ≤ j2 := by omega
  refine cf (by simp [hje2]) ?_
  refine Run.exit rfl ?_
  refine nv ?_
  refine Run.reg fun K J => ?_
  simp [Dc.row_one, Dc.row_patch]
  refine J _ _ _ (nv ?_); clear J
  refine Run.ret ?_
  exact Fin.ret' (h0 := h) (by simp) rfl hh rfl (by simp; rfl) rfl (Weak.refl _) (by simp) ⟨by rw [hr]; rfl, rfl⟩
theorem simF_of {env : List Dc} : ∀ (l : List Cl) (s s' : (Dc × Bool) × Bool), simF env s l = s' → s'.2 = true → s.2 = true ∧ (s.1.2 = true → s'.1.2 = true ∧ s'.1.1.nm = s.1.1.nm) ∧ ∀ m, (s'.1.2 = true → m = s'.1.1.nm) → ∀ c ∈ l, ofMs env m c.ps
 | [], s, s', h, h2 => by
  simp only [simF] at h
  subst h
  exact ⟨h2, fun h => ⟨h, rfl⟩, fun m _ c hc => by cases hc⟩
 | c :: l, s, s', h, h2 => by
  simp only [simF] at h
  obtain ⟨a1, a2, a3⟩ := simF_of l _ s' h h2
  simp only [Bool.and_eq_true] at a1
  obtain ⟨b1, b2⟩ := famPs_of c.ps s.1 (famPs env s.1 c.ps).1 (by rw [← a1.2])
  refine ⟨a1.1, fun hs => ?_, fun m hm x hx => ?_⟩
  ·obtain ⟨k1, k2⟩ := b1 hs
   obtain ⟨l1, l2⟩ := a2 k1
   exact ⟨l1, by rw [l2, k2]⟩
  ·rcases List.mem_cons.1 hx with rfl | hx
   ·refine b2 m fun hs => ?_
    obtain ⟨l1, l2⟩ := a2 hs
    rw [hm l1, l2]
   ·exact a3 m hm x hx


open Go Go.AI
def seedN (n : Int) : Int := IntKind.u32.wrap (IntKind.u32.wrap (n * 1664525) + 1013904223)
def pickN (n lim : Int) : Int := ((seedN n).fdiv 65536).tmod (if lim < 1 then 1 else lim)
abbrev sdB (n : Int) : Option AO := some (.cells [.p (.prim (.int .u32 n))])
theorem seedN_bd (n : Int) : 0 ≤ seedN n ∧ seedN n ≤ 4294967295 := by
 unfold seedN
 generalize IntKind.u32.wrap (n * 1664525) + 1013904223 = m
 rw [Go.IntKind.wrap]
 simp [IntKind.signed, IntKind.bits]
 omega
theorem seedN_fd (n : Int) : 0 ≤ (seedN n).fdiv 65536 ∧ (seedN n).fdiv 65536 ≤ 65535 := by
 have := seedN_bd n
 rw [Int.fdiv_eq_ediv_of_nonneg _ (by omega)]
 omega
theorem pickN_bd (n lim : Int) : 0 ≤ pickN n lim ∧ pickN n lim < (if lim < 1 then 1 else lim) := by
 have := seedN_fd n
 have hl : 0 < (if lim < 1 then 1 else lim) := by split <;> omega
 exact ⟨Int.tmod_nonneg _ this.1, Int.tmod_lt_of_pos _ hl⟩
theorem next136_any (n lim : Int) (hl : lim ≤ 1048576) (q : Nat) (h : Heap) (hh : WF h) (hq : h[q]? = some (sdB n)) :
  ACalls Tryz.prog 136 [.ptr q 0, iA lim] h fun o h' => o = .ret (iA (pickN n lim)) ∧ h' = h.set q (sdB (seedN n)) := by
 obtain ⟨g1, g2, g3, g4, g5, hlt⟩ := idf hq
 have hf := seedN_fd n
 have hw : IntKind.i64.wrap ((seedN n).fdiv 65536) = (seedN n).fdiv 65536 := wrap_id (by omega) (by omega)
 have hu : IntKind.u32.wrap (IntKind.u32.wrap (n * 1664525) + 1013904223) = seedN n := rfl
 obtain ⟨r, hr⟩ : ∃ r, pickN n lim = r := ⟨_, rfl⟩
 rw [hr]
 unfold pickN at hr
 have hm0 : ¬ (if lim < 1 then 1 else lim) = 0 := by split <;> omega
 have hsh : (2 : Int) ^ min 16 IntKind.u32.bits = 65536 := by decide
 refine ACalls.of_run Tryz.func136 rfl ?_
 simp only [Tryz.ntmps136, List.length_cons, List.length_nil]
 refine nv ?_
 refine Run.reg fun K J => ?_
 simp
 refine J _ _ _ (nv ?_); clear J
 refine Run.reg fun K J => ?_
 simp [hq, hu]
 refine J _ _ _ (nv ?_); clear J
 refine Run.reg fun K J => ?_
 simp [g3, hsh, hw, hr, hm0]
 refine J _ _ _ (nv ?_); clear J
 refine Run.ret ?_
 exact Fin.ret' (h0 := h.set q (sdB (seedN n))) (by simp) (by simp) (hh.set (by simp)) (List.append_nil _).symm rfl rfl (Weak.refl _) (by simp) ⟨rfl, rfl⟩
def propT : Tm := .mk 1 0 [] [] []
def hdT (fx : Int) (nm : List UInt8) : Tm := applyT (.mk 3 0 nm [] []) (List.replicate fx.toNat propT)
def bT (fx : Int) (nm : List UInt8) (l : List Tm) : Tm := applyT (hdT fx nm) l
theorem appP_weak (a : Tm) : WeakL [AV.p (iP 4), AV.p (iP 0), AV.p (sP []), AV.p (.prim (.slice none 0 0)), AV.p (.sl 5 [a.cells, [iP 1, iP 0, sP [], .prim (.slice none 0 0), .prim (.slice none 0 0)]])] ((appT a propT).cells.map .p) := by
 simp only [appT, propT, cells_mk, List.map, lvPs, tmPs]
 refine WeakL.cons (Weak.refl _) (WeakL.cons (Weak.refl _) (WeakL.cons (Weak.refl _) (WeakL.cons (Weak.nil _) (WeakL.cons (WeakP.av (WeakP.sl ?_)) WeakL.nil))))
 repeat (first | exact WeakP.refl _ | exact WeakP.nil _ | exact WeakPL.refl _ | exact WeakPs.nil | exact WeakPL.nil | refine WeakP.sl ?_ | refine WeakPs.cons ?_ ?_ | refine WeakPL.cons ?_ ?_)
theorem hd_weak (nm : List UInt8) : WeakL [AV.p (iP 3), AV.p (iP 0), AV.p (sP nm), AV.p (.prim (.slice none 0 0)), AV.p (.prim (.slice none 0 0))] ((Tm.mk 3 0 nm [] []).cells.map .p) := by
 simp only [cells_mk, List.map, lvPs, tmPs]
 repeat' first | exact wn | apply wc
 all_goals first | exact Weak.refl _ | exact Weak.nil _
theorem built84_any (h : Heap) (hh : WF h) (d : Dc) (j : Nat) (c : Ct) (hc : d.cs[j]? = some c) (l : List Tm) (hl : l.length ≤ 2199023255552) (hfx : d.fx ≤ 1048576) :
  ACalls Tryz.prog 84 [d.av, iA j, .p (.sl 5 (tmPs l))] h fun o h' => o = .ret (bT d.fx c.nm l).av ∧ h' = h := by
 obtain ⟨nm, ⟨k4, i4, n4, l4, s4⟩⟩ := c
 have h13 : ∀ q, d.row[13]'q = iA d.fx := fun q => by have := d.row_fx; rw [List.getElem?_eq_getElem q] at this; exact Option.some.inj this
 rw [Dc.av_row]
 refine ACalls.of_run Tryz.func84 rfl ?_
 simp only [Tryz.ntmps84, List.length_cons, List.length_nil, Tm.av]
 refine nv ?_
 refine Run.reg fun K J => ?_
 simp
 refine J _ _ _ (nv ?_); clear J
 refine Run.reg fun K J => ?_
 simp [hc, Ct.cells]
 refine J _ _ _ (nv ?_); clear J
 refine Run.weakH (h.length + 2) (cs' := (Tm.mk 3 0 nm [] []).cells.map .p) (by simp only [Heap.at]; rw [get_last]; rfl) (hd_weak _) ?_
 rw [set_last]
 refine Run.reg fun K J => ?_
 simp [h13]
 refine J _ _ _ (nv ?_); clear J
 refine Run.loopS [2, 3, 6, 7, 18] (fun j : Nat => j ≤ d.fx.toNat) (fun j => d.fx.toNat - j) (fun j => [(19, iA j)]) (fun j => h ++ [some (.cells d.row), some (.cells zTm), some (.cells ((applyT (.mk 3 0 nm [] []) (List.replicate j propT)).cells.map .p))]) 0 (by simp) ?_ (by simp [applyT]) ?_
 ·simp
  repeat' first | exact wn | apply wc | exact wj _ | exact wr _ | exact wz _ | exact wo _ _ _ | exact wi (by omega)
 ·intro j hj IH
  simp
  refine nv ?_
  refine Run.reg fun K J => ?_
  simp
  refine J _ _ _ (nv ?_); clear J
  by_cases hjl : (j : Int) < d.fx
  ·have htk : applyT (.mk 3 0 nm [] []) (List.replicate (j + 1) propT) = appT (applyT (.mk 3 0 nm [] []) (List.replicate j propT)) propT := by
    rw [List.replicate_succ', applyT, List.foldl_append]; rfl
   generalize applyT (.mk 3 0 nm [] []) (List.replicate j propT) = t at htk
   obtain ⟨t0, t1, t2, t3, t4⟩ := t
   refine ct (by simp [hjl]) (nv ?_)
   refine Run.reg fun K J => ?_
   simp
   refine J _ _ _ (nv ?_); clear J
   refine Run.weakH (h.length + 2) (cs' := (appT (Tm.mk t0 t1 t2 t3 t4) propT).cells.map .p) (by simp only [Heap.at]; rw [get_last]; rfl) (appP_weak _) ?_
   rw [set_last]
   refine Run.reg fun K J => ?_
   simp
   try (simp (disch := omega) only [wrap_id])
   refine J _ _ _ (nv ?_); clear J
   refine IH (j + 1) _ _ (by omega) (by omega) ?_ ?_
   ·simp
    repeat' first | exact wn | apply wc | exact wj _ | exact wr _ | exact wz _ | exact wo _ _ _ | exact wi (by omega)
   ·rw [htk]
  ·have hje : j = d.fx.toNat := by omega
   subst hje
   have hle : d.fx ≤ max d.fx 0 := by omega
   refine cf (by simp [hle]) ?_
   refine Run.exit rfl ?_
   refine nv ?_
   change Run _ _ _ _ _ (h ++ [some (.cells d.row), some (.cells zTm), some (.cells ((hdT d.fx nm).cells.map .p))]) _ _
   refine Run.reg fun K J => ?_
   simp
   refine J _ _ _ (nv ?_); clear J
   refine Run.loopS [6, 7, 26, 27] (fun j : Nat => j ≤ l.length) (fun j => l.length - j) (fun j => [(28, iA j)]) (fun j => h ++ [some (.cells d.row), some (.cells zTm), some (.cells ((applyT (hdT d.fx nm) (l.take j)).cells.map .p))]) 0 (by simp) ?_ (by simp [applyT]) ?_
   ·simp
    repeat' first | exact wn | apply wc | exact wj _ | exact wr _ | exact wz _ | exact wo _ _ _ | exact wi (by omega)
   intro j hj IH
   simp
   refine nv ?_
   refine Run.reg fun K J => ?_
   simp
   refine J _ _ _ (nv ?_); clear J
   by_cases hjl : j < l.length
   ·have hg : l[j]? = some l[j] := List.getElem?_eq_getElem hjl
    have htk : applyT (hdT d.fx nm) (l.take (j + 1)) = appT (applyT (hdT d.fx nm) (l.take j)) l[j] := by
     rw [List.take_succ_eq_append_getElem hjl, applyT, List.foldl_append]; rfl
    generalize l[j] = u at hg htk
    generalize applyT (hdT d.fx nm) (l.take j) = t at htk
    obtain ⟨t0, t1, t2, t3, t4⟩ := t
    refine ct (by simp [hjl]) (nv ?_)
    refine Run.reg fun K J => ?_
    simp [hg]
    refine J _ _ _ (nv ?_); clear J
    refine Run.reg fun K J => ?_
    simp
    refine J _ _ _ (nv ?_); clear J
    refine Run.weakH (h.length + 2) (cs' := (appT (Tm.mk t0 t1 t2 t3 t4) u).cells.map .p) (by simp only [Heap.at]; rw [get_last]; rfl) (appT_weak _ _) ?_
    rw [set_last]
    refine Run.reg fun K J => ?_
    simp
    try (simp (disch := omega) only [wrap_id])
    refine J _ _ _ (nv ?_); clear J
    refine Run.keep [6, 7, 26, 27, 28] ?_
    simp
    refine Run.cutAt 3 hh rfl (by omega) (by simp) (by simp) (by simp) (by simp [underD]) ?_
    refine IH (j + 1) _ _ (by omega) (by omega) ?_ ?_
    ·simp
     repeat' first | exact wn | apply wc | exact wj _ | exact wr _ | exact wz _ | exact wo _ _ _ | exact wi (by omega)
    ·rw [htk]; simp
   ·have hje : j = l.length := by omega
    subst hje
    rw [List.take_length]
    change Run _ _ _ _ _ (h ++ [some (.cells d.row), some (.cells zTm), some (.cells ((bT d.fx nm l).cells.map .p))]) _ _
    generalize bT d.fx nm l = t
    obtain ⟨t0, t1, t2, t3, t4⟩ := t
    refine cf (by simp) ?_
    refine Run.exit rfl ?_
    refine nv ?_
    refine Run.reg fun K J => ?_
    simp
    refine J _ _ _ (nv ?_); clear J
    refine Run.ret ?_
    refine Fin.ret' (h0 := h) (by simp) rfl hh rfl (by simp; rfl) rfl (Weak.refl _) (by simp) ⟨rfl, rfl⟩

end Go.Proofs.YtcfcolkbeelegaaGreat
