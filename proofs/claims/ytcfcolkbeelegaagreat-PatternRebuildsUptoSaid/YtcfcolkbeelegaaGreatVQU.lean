import Derived.Test.YtcfcolkbeelegaaGreatVQT
import Derived.Test.YtcfcolkbeelegaaGreatVPZa

namespace Go.Proofs.YtcfcolkbeelegaaGreat

open Go Go.AI

mutual
theorem filP_len : ∀ (q : Pt) (zs : List (Pt × Tm)) (p : Pt) (r : List (Pt × Tm)), filP q zs = some (p, r) → zs.length ≤ r.length + q.size
 | .mk k n qs, zs, p, r, h => by
  simp only [filP] at h
  simp only [Pt.size]
  split at h
  ·cases hq : filPs qs zs with
   | none => rw [hq] at h; simp at h
   | some w =>
    obtain ⟨as_, ws⟩ := w
    rw [hq] at h
    simp only [Option.some.injEq, Prod.mk.injEq] at h
    rw [← h.2]
    have := filPs_len qs zs as_ ws hq
    omega
  ·cases zs with
   | nil => simp at h
   | cons z zs =>
    simp only [Option.some.injEq, Prod.mk.injEq] at h
    rw [← h.2]
    simp only [List.length_cons]
    omega
theorem filPs_len : ∀ (l : List Pt) (zs : List (Pt × Tm)) (ps : List Pt) (r : List (Pt × Tm)), filPs l zs = some (ps, r) → zs.length ≤ r.length + Pt.sizes l
 | [], zs, ps, r, h => by
  simp only [filPs, Option.some.injEq, Prod.mk.injEq] at h
  rw [← h.2]
  omega
 | q :: l, zs, ps, r, h => by
  simp only [filPs] at h
  simp only [Pt.sizes]
  cases hq : filP q zs with
  | none => rw [hq] at h; simp at h
  | some w =>
   obtain ⟨p, ws⟩ := w
   rw [hq] at h
   simp only at h
   cases hl : filPs l ws with
   | none => rw [hl] at h; simp at h
   | some w2 =>
    obtain ⟨ps', ws2⟩ := w2
    rw [hl] at h
    simp only [Option.some.injEq, Prod.mk.injEq] at h
    have h1 := filP_len q zs p ws hq
    have h2 := filPs_len l ws ps' ws2 hl
    rw [← h.2]
    omega
end
theorem filPs_size {d : Dc} : ∀ {ps : List Pt} {us : List Tm}, btPs d ps us → Pt.sizes ps ≤ Tm.sizes us := by
 have key : ∀ N : Nat, ∀ (ps : List Pt) (us : List Tm), Pt.sizes ps ≤ N → btPs d ps us → Pt.sizes ps ≤ Tm.sizes us := by
  intro N
  induction N with
  | zero => intro ps us h _; omega
  | succ N ih =>
   intro ps us h hb
   cases ps with
   | nil => simp [Pt.sizes]
   | cons p ps =>
    simp only [btPs] at hb
    obtain ⟨u, us', rfl, h3, h4⟩ := hb
    have hpp := p.size_pos
    simp only [Pt.sizes, Tm.sizes] at h ⊢
    have h5 := ih ps us' (by omega) h4
    obtain ⟨k, n, qs⟩ := p
    simp only [btP] at h3
    obtain ⟨_, j, c, vs, _, _, _, rfl, a5⟩ := h3
    simp only [Pt.size] at h ⊢
    have h6 := ih qs vs (by omega) a5
    rw [bT_size]
    omega
 exact fun {ps us} h => key _ ps us (Nat.le_refl _) h
set_option maxRecDepth 8000 in
set_option maxHeartbeats 32000000 in
theorem patternReb_any (h : Heap) (hh : WF h) (env : List Dc) (hg : Env.good env) (cls : List Cl) (v : List Pt) (s : Int) (hs : PSmall cls v) :
  ACalls Tryz.prog 8 [envA env, .p (.sl 6 (clPs cls)), vecA v s] h fun o h' => o = .ret (bA true) ∧ h' = h := by
 have c1 := fun (g : Heap) (hw : WF g) => few18_any env hg cls v hs g hw
 have c2 := fun (g : Heap) (hw : WF g) => awake18_any g hw
 have hvl := psz_len v
 have hvs := hs.vs
 have hcll := hs.cl
 unfold vecA
 refine ACalls.of_run Tryz.func8 rfl ?_
 simp only [Tryz.ntmps8, List.length_cons, List.length_nil]
 refine nv ?_
 refine Run.reg fun K J => ?_
 simp
 refine J _ _ _ (nv ?_); clear J
 refine Run.reg fun K J => ?_
 simp
 refine J _ _ _ (nv ?_); clear J
 refine Run.reg fun K J => ?_
 simp
 refine J _ _ _ ?_; clear J
 refine Run.call rfl (by first | rfl | simp) (by simp) rfl (c1 _ (hh.app (by simp))) ?_ ?_
 rotate_left
 ·rintro v h' ⟨⟨_, hv, _⟩, _⟩; cases hv
 rintro v h' ⟨⟨b, hv, hb⟩, rfl⟩
 simp only [AOut.ret.injEq] at hv
 subst hv
 cases b with
 | false =>
  refine Run.ops fun K J => ?_
  simp
  refine J _ _ _ (nv ?_); clear J
  refine ct (by simp) (nv ?_)
  refine Run.reg fun K J => ?_
  simp
  refine J _ _ _ ?_; clear J
  refine rl rfl (by first | rfl | simp) (by simp) rfl (c2 _ (hh.app (by simp))) ?_
  refine Run.ops fun K J => ?_
  simp
  refine J _ _ _ (nv ?_); clear J
  refine Run.ret ?_
  exact Fin.ret' (h0 := h) (by simp) rfl hh rfl (by simp; rfl) rfl (Weak.refl _) (by simp) ⟨by simp, rfl⟩
 | true =>
 have hf := hb rfl
 have c3 := fun (g : Heap) (hw : WF g) => right29_any env hg hf.1 v hs.vs g hw
 refine Run.ops fun K J => ?_
 simp
 refine J _ _ _ ?_; clear J
 refine rl rfl (by first | rfl | simp) (by simp) rfl (c3 _ (hh.app (by simp))) ?_
 by_cases hc : chkPs env v = 0
 rotate_left
 ·refine Run.ops fun K J => ?_
  simp [hc]
  refine J _ _ _ (nv ?_); clear J
  refine ct (by simp) (nv ?_)
  refine Run.reg fun K J => ?_
  simp
  refine J _ _ _ ?_; clear J
  refine rl rfl (by first | rfl | simp) (by simp) rfl (c2 _ (hh.app (by simp))) ?_
  refine Run.ops fun K J => ?_
  simp
  refine J _ _ _ (nv ?_); clear J
  refine Run.ret ?_
  exact Fin.ret' (h0 := h) (by simp) rfl hh rfl (by simp; rfl) rfl (Weak.refl _) (by simp) ⟨by simp, rfl⟩
 refine Run.ops fun K J => ?_
 simp [hc]
 refine J _ _ _ (nv ?_); clear J
 refine cf (by simp) (nv ?_)
 have c4 := fun (g : Heap) (hw : WF g) => simple30_any env hg hf.1 cls v hs g hw
 have hsm : ∀ (d : Dc) (a : Int), simZ (simS env cls v) = (d, a, true) → _ := fun d a e => simple_is hf e
 obtain ⟨⟨d, a, ok⟩, hz⟩ : ∃ z, simZ (simS env cls v) = z := ⟨_, rfl⟩
 rw [hz] at c4
 simp only at c4
 refine Run.reg fun K J => ?_
 simp
 refine J _ _ _ ?_; clear J
 refine rl rfl (by first | rfl | simp) (by simp) rfl (c4 _ (hh.app (by simp))) ?_
 refine Run.ops fun K J => ?_
 simp [Dc.row_one, Dc.row_patch]
 refine J _ _ _ (nv ?_); clear J
 cases ok with
 | false =>
  refine Run.reg fun K J => ?_
  simp
  refine J _ _ _ (nv ?_); clear J
  refine ct (by simp) (nv ?_)
  refine Run.reg fun K J => ?_
  simp
  refine J _ _ _ ?_; clear J
  refine rl rfl (by first | rfl | simp) (by simp) rfl (c2 _ (hh.app (by simp))) ?_
  refine Run.ops fun K J => ?_
  simp
  refine J _ _ _ (nv ?_); clear J
  refine Run.ret ?_
  exact Fin.ret' (h0 := h) (by simp) rfl hh rfl (by simp; rfl) rfl (Weak.refl _) (by simp) ⟨by simp, rfl⟩
 | true =>
 obtain ⟨i, last, hi, hk, rfl, hla, hf0, hp, ho, hpv⟩ := hsm d a hz
 refine Run.reg fun K J => ?_
 simp
 refine J _ _ _ (nv ?_); clear J
 refine cf (by simp) (nv ?_)
 obtain ⟨k1, k2, k3, k4⟩ := fam_bounds hf hi hk hla
 have hdg := hg.2 d (List.mem_of_getElem? hi)
 have c6 := fun (H : Heap) (q : Nat) (hw : WF H) (hq : H[q]? = some (sdB s)) => inst31_any d hdg last hla (by omega) hf0 (by omega) (fun j => by have := k4 j; omega) _ v (Nat.le_refl _) hs.vs s q H hw hq
 obtain ⟨ps, f1, f2, f3, f4, f5, f6⟩ := inst_facts hf hi hk hla hf0 hs.vs hc ho s
 have hmm := fun B hB => matM_bt hf hi hk B f1 hB cls (fun c hc => (hp c hc).2)
 have c7 := fun (g : Heap) (hw : WF g) => small08B_any g hw env (inPs d last v s).1 hg f4 f5 f6
 have c8 := fun (hgb : goodB (inPs d last v s).1 = true) (g : Heap) (hw : WF g) => pmatch_any env hf hg (fun t => (t, 0)) (btG d) (btW hg hf hi hk) cls (inPs d last v s).1 ⟨hs.cl, hs.cs, by simp [Pt.sizes]⟩ (fun a ha => .inr ⟨btPs_at f1 a ha, by have := goodB_size hgb; have := Tm.sizes_mem ha; omega⟩) (by omega) g hw
 simp only [Dc.av_row, mtA] at c6 c8
 generalize inPs d last v s = R at c6 c7 c8 f3 hmm f1 f4 f5 f6
 obtain ⟨us, s'⟩ := R
 simp only at c6 c7 c8 f3 hmm f1 f4 f5 f6
 have hul : (tmPs us).length = v.length := by simpa using f3
 refine Run.regPre 7 fun K J => ?_
 simp only [List.take_succ_cons, List.take_zero]
 simp
 refine J _ _ _ ?_; clear J
 simp only [List.nil_append, List.drop_succ_cons, List.drop_zero]
 refine rl rfl (by first | rfl | simp) (by simp) rfl (c6 _ (h.length + 2) (hh.app (by simp)) (by simp)) ?_
 refine Run.ops fun K J => ?_
 simp
 refine J _ _ _ (nv ?_); clear J
 refine Run.reg fun K J => ?_
 simp
 refine J _ _ _ ?_; clear J
 refine Run.call rfl (by first | rfl | simp) (by simp) rfl (c7 _ (hh.app (by simp))) ?_ ?_
 rotate_left
 ·rintro v h' ⟨⟨_, hv, _⟩, _⟩; cases hv
 rintro v h' ⟨⟨b, hv, hb⟩, rfl⟩
 simp only [AOut.ret.injEq] at hv
 subst hv
 cases b with
 | false =>
  refine Run.ops fun K J => ?_
  simp
  refine J _ _ _ (nv ?_); clear J
  refine ct (by simp) (nv ?_)
  refine Run.reg fun K J => ?_
  simp
  refine J _ _ _ ?_; clear J
  refine rl rfl (by first | rfl | simp) (by simp) rfl (c2 _ (hh.app (by simp))) ?_
  refine Run.ops fun K J => ?_
  simp
  refine J _ _ _ (nv ?_); clear J
  refine Run.ret ?_
  exact Fin.ret' (h0 := h) (by simp) rfl hh rfl (by simp; rfl) rfl (Weak.refl _) (by simp) ⟨by simp, rfl⟩
 | true =>
 have hus := goodB_size (hb rfl).2
 have c8 := c8 (hb rfl).2
 have hull := length_le_sizes us
 have hmm := hmm 200 (fun u hu => by have := Tm.sizes_mem hu; omega)
 generalize matchM (fun t => (t, 0)) env cls us = M at c8 hmm
 obtain ⟨m1, m2, m3⟩ := M
 simp only [Prod.mk.injEq] at c8 hmm
 refine Run.ops fun K J => ?_
 simp
 refine J _ _ _ (nv ?_); clear J
 refine cf (by simp) (nv ?_)
 refine Run.reg fun K J => ?_
 simp
 refine J _ _ _ ?_; clear J
 refine rl rfl (by first | rfl | simp) (by simp) rfl (c8 _ (hh.app (by simp))) ?_
 refine Run.ops fun K J => ?_
 simp
 refine J _ _ _ (nv ?_); clear J
 rcases hmm with ⟨j, c, zs, e1, e2, ⟨rfl, rfl, rfl⟩, e4⟩ | ⟨⟨rfl, rfl, rfl⟩, _⟩ | ⟨⟨rfl, rfl, rfl⟩, _⟩
 rotate_left
 ·skip
  refine Run.reg fun K J => ?_
  simp
  refine J _ _ _ (nv ?_); clear J
  refine ct (by simp) (nv ?_)
  refine Run.reg fun K J => ?_
  simp
  refine J _ _ _ ?_; clear J
  refine rl rfl (by first | rfl | simp) (by simp) rfl (c2 _ (hh.app (by simp))) ?_
  refine Run.ops fun K J => ?_
  simp
  refine J _ _ _ (nv ?_); clear J
  refine Run.ret ?_
  exact Fin.ret' (h0 := h) (by simp) rfl hh rfl (by simp; rfl) rfl (Weak.refl _) (by simp) ⟨by simp, rfl⟩
 ·skip
  refine Run.reg fun K J => ?_
  simp
  refine J _ _ _ (nv ?_); clear J
  refine ct (by simp) (nv ?_)
  refine Run.reg fun K J => ?_
  simp
  refine J _ _ _ ?_; clear J
  refine rl rfl (by first | rfl | simp) (by simp) rfl (c2 _ (hh.app (by simp))) ?_
  refine Run.ops fun K J => ?_
  simp
  refine J _ _ _ (nv ?_); clear J
  refine Run.ret ?_
  exact Fin.ret' (h0 := h) (by simp) rfl hh rfl (by simp; rfl) rfl (Weak.refl _) (by simp) ⟨by simp, rfl⟩
 have hjl := (List.getElem?_eq_some_iff.1 e1).1
 have hcm := List.mem_of_getElem? e1
 have hcty : ∀ c ∈ d.cs, c.ty.size ≤ 1048576 := fun c hc => by have := k2 c hc; omega
 have hzl := filPs_len _ _ _ _ e4
 simp only [List.length_nil, Nat.zero_add] at hzl
 have c9 := fun (g : Heap) (hw : WF g) => filled32_any hg hf hi hk (by omega) hcty _ c.ps (Nat.le_refl _) (hs.cs c hcm) zs [] ps (fun z hz => ⟨(e2 z hz).1, by have := (e2 z hz).2; omega⟩) (by have := hs.cs c hcm; omega) e4 g hw
 have ca := fun (p : Pt) (t : Tm) (hb : btP d p t) (ht : t.size ≤ 1048576) (g : Heap) (hw : WF g) => names33_any hg hf hi hk (by omega) hcty p.size p t hb (Nat.le_refl _) ht g hw
 have hps := filPs_size f1
 have cb := fun (g : Heap) (hw : WF g) => same34_any _ ps (Nat.le_refl _) (by omega) g hw
 obtain ⟨cps, ⟨u0, u1, u2, u3, u4⟩⟩ := c
 simp only at c9
 have hgj : ∀ q : j < cls.length, cls[j]'q = ⟨cps, .mk u0 u1 u2 u3 u4⟩ := fun q => by rw [List.getElem?_eq_getElem q] at e1; exact Option.some.inj e1
 obtain ⟨vs, hvs'⟩ : ∃ vs, zs.map (·.2) = vs := ⟨_, rfl⟩
 rw [hvs'] at c9
 simp only [hvs']
 have hpl := btPs_len f1
 refine Run.reg fun K J => ?_
 simp
 refine J _ _ _ (nv ?_); clear J
 refine cf (by simp) (nv ?_)
 refine Run.reg fun K J => ?_
 simp
 refine J _ _ _ (nv ?_); clear J
 refine cf (by simp [hjl]) (nv ?_)
 refine Run.reg fun K J => ?_
 simp [hgj, Cl.cells, hjl]
 refine J _ _ _ ?_; clear J
 refine rl rfl (by first | rfl | simp) (by simp) rfl (c9 _ (hh.app (by simp))) ?_
 refine Run.ops fun K J => ?_
 simp
 refine J _ _ _ (nv ?_); clear J
 refine Run.reg fun K J => ?_
 simp
 refine J _ _ _ (nv ?_); clear J
 refine Run.tok 17 3 (by simp) ?_
 simp
 refine Run.reg fun K J => ?_
 simp
 refine J _ _ _ (nv ?_); clear J
 refine Run.loopS [0, 15, 16, 96, 97] (fun i : Nat => i ≤ us.length) (fun i => us.length - i) (fun i => [(17, .own (h.length + 3) 3 (ptPs (ps.take i))), (98, iA i)])
  (fun i => h ++ [some (.cells [.p (.sl 3 (ptPs v)), u32A s]), some (.cells d.row), sdB s', some (.tok i 3)]) 0 (by simp) ?_ (by simp) ?_
 ·simp [ptPs]
  repeat' first | exact wn | apply wc | exact wj _ | exact wr _ | exact wz _ | exact wo _ _ _ | exact wi (by omega)
 intro i hil0 IH
 simp
 refine nv ?_
 refine Run.reg fun K J => ?_
 simp
 refine J _ _ _ (nv ?_); clear J
 by_cases hil : i < us.length
 ·have hgu : us[i]? = some us[i] := List.getElem?_eq_getElem hil
  obtain ⟨p, hp1, hp2⟩ := btPs_get f1 i _ hgu
  have hum := Tm.sizes_mem (List.getElem_mem hil)
  have c2' := ca p us[i] hp2 (by omega)
  generalize us[i] = u at hgu c2'
  have hpl2 := (List.getElem?_eq_some_iff.1 hp1).1
  have htk : ps.take (i + 1) = ps.take i ++ [p] := by
   rw [List.take_succ_eq_append_getElem hpl2]
   rw [List.getElem?_eq_getElem hpl2] at hp1
   rw [Option.some.inj hp1]
  obtain ⟨v0, v1, v2, v3, v4⟩ := u
  obtain ⟨pk, pn, pq⟩ := p
  have htl : (ps.take i).length = i := by simp; omega
  have hb1 : (i + 1) * 48 ≤ 140737488355328 := by omega
  have hb2 : i + 1 ≤ 9223372036854775807 := by omega
  simp only [Tm.av, Pt.av, cells_mk, pcells_mk, List.map] at c2'
  refine ct (by simp [hil]) (nv ?_)
  refine Run.reg fun K J => ?_
  simp [hgu]
  refine J _ _ _ (nv ?_); clear J
  refine Run.reg fun K J => ?_
  simp
  refine J _ _ _ ?_; clear J
  refine rl rfl (by first | rfl | simp) (by simp) rfl (c2' _ (hh.app (by simp))) ?_
  refine Run.ops fun K J => ?_
  simp [hb1, hb2, htl]
  refine J _ _ _ (nv ?_); clear J
  refine Run.reg fun K J => ?_
  simp
  try (simp (disch := omega) only [wrap_id])
  refine J _ _ _ (nv ?_); clear J
  refine Run.keep [0, 15, 16, 17, 96, 97, 98] ?_
  simp
  refine Run.cutAt 4 hh rfl (by omega) (by simp) (by simp) (by simp) (by simp [underD]) ?_
  refine IH (i + 1) _ _ (by omega) (by omega) ?_ ?_
  ·simp [htk, ptPs_snoc, pcells_mk]
   repeat' first | exact wn | apply wc | exact wj _ | exact wr _ | exact wz _ | exact wo _ _ _ | exact wi (by omega)
  ·simp
 ·have hie : i = us.length := by omega
  subst hie
  rw [← hpl, List.take_length]
  refine cf (by simp [hil, hpl]) ?_
  refine Run.exit rfl ?_
  refine nv ?_
  refine Run.weakAt 17 (.p (.sl 3 (ptPs ps))) (by simp; exact Weak.own _ _ _) ?_
  simp
  refine Run.reg fun K J => ?_
  simp
  refine J _ _ _ ?_; clear J
  refine rl rfl (by first | rfl | simp) (by simp) rfl (cb _ (hh.app (by simp))) ?_
  refine Run.ops fun K J => ?_
  simp
  refine J _ _ _ ?_; clear J
  refine rl rfl (by first | rfl | simp) (by simp) rfl (c2 _ (hh.app (by simp))) ?_
  refine Run.ops fun K J => ?_
  simp
  refine J _ _ _ (nv ?_); clear J
  refine Run.ret ?_
  exact Fin.ret' (h0 := h) (by simp) rfl hh rfl (by simp; rfl) rfl (Weak.refl _) (by simp) ⟨by simp, rfl⟩

end Go.Proofs.YtcfcolkbeelegaaGreat
