/-
  subst: what Under's closures do.
-/
import Derived.Test.YtcfcolkbeelegaaGreatLC
import Derived.Test.YtcfcolkbeelegaaGreatLD

namespace Go.AI

open Go
theorem Run.joinH {P : Program} {rd : Option Nat} {nb : Nat} {k : List It} {T : List AV} {h : Heap} {D : List AD} {Q : AX → List AV → Heap → List AD → Prop} {c : Code} (keep : List Nat) (sets : List (Nat × AV)) (h2 : Heap) (r : (∀ T', WeakL T' (setMany (keepT keep T) sets) → Run P rd nb k T' h2 D Q) → Run P rd nb (.code c :: k) T h D Q)
    (next : Run P rd nb k (setMany (keepT keep T) sets) h2 D Q) : Run P rd nb (.code c :: k) T h D Q := r fun _ hw => Run.weak hw next

end Go.AI

namespace Go.Proofs.YtcfcolkbeelegaaGreat

open Go Go.AI
def valueZ (dp : Int) (len : Nat) (t : Tm) (b : Int) : Int :=
  if 0 ≤ IntKind.i64.wrap (IntKind.i64.wrap (t.index - b) - dp) ∧ IntKind.i64.wrap (IntKind.i64.wrap (t.index - b) - dp) < len then IntKind.i64.wrap (IntKind.i64.wrap (t.index - b) - dp) else -1
set_option maxRecDepth 8000 in
set_option maxHeartbeats 4000000 in
theorem value_any (h : Heap) (hh : WF h) (t : Tm) (b dp : Int) (vs : List Tm) (p q : Nat) (hp : h[p]? = some (some (.cells [iA dp]))) (hq : h[q]? = some (some (.cells [.p (.sl 5 (tmPs vs))]))) :
    ACalls Tryz.prog 154 [t.av, iA b, .ptr p 0, .ptr q 0] h fun o h' => o = .ret (iA (valueZ dp vs.length t b)) ∧ h' = h := by
  obtain ⟨p1, _⟩ := idf hp
  obtain ⟨q1, _⟩ := idf hq
  obtain ⟨k, i, n, ls, ks⟩ := t
  obtain ⟨z, hz⟩ : ∃ z, IntKind.i64.wrap (IntKind.i64.wrap (i - b) - dp) = z := ⟨_, rfl⟩
  refine ACalls.of_run Tryz.func154 rfl ?_
  simp only [Tryz.ntmps154, List.length_cons, List.length_nil, Tm.av, cells_mk, List.map]
  refine nv ?_
  refine Run.reg fun K hK => ?_
  simp
  try (simp (disch := omega) only [wrap_id])
  refine hK _ _ _ ?_; clear hK K
  refine nv ?_
  refine Run.reg fun K hK => ?_
  simp [p1]
  refine hK _ _ _ ?_; clear hK K
  refine nv ?_
  rw [hz]
  refine nv ?_
  refine Run.regJ [0, 7] 21 (decide (0 ≤ z) && decide (z < vs.length)) (fun K hK => ?_) ?_
  · simp [q1]
    repeat' (first | apply And.intro | intro _)
    all_goals
      try (simp (disch := omega) only [wrap_id])
      refine hK _ ?_
      simp
      repeat' (first | exact WeakL.nil | apply WeakL.cons)
      all_goals first | exact Weak.junk _ | (refine Weak.bool ?_; clear hK K; rw [Bool.eq_iff_iff]; simp; done) | (refine Weak.bool ?_; clear hK K; rw [Bool.eq_iff_iff]; simp; omega) | (refine Weak.bool ?_; clear hK K; simp_all; done) | (refine Weak.bool ?_; clear hK K; simp [*]; done) | (refine Weak.bool ?_; clear hK K; rw [Bool.eq_iff_iff]; simp [*]; omega) | exact Weak.refl _
  simp only [setMany, keepT, keepT.go, List.contains_cons, List.set_cons_succ, List.set_cons_zero]
  simp
  refine Run.condB rfl (fun h1 => ?_) (fun h1 => ?_)
  · repeat (first
      | refine Run.seq ?_ | refine Run.block ?_ | refine Run.skip ?_ | refine Run.inBlock ?_ | refine Run.opsNil ?_
      | (refine Run.reg fun K hK => ?_; simp; (try (simp (disch := omega) only [wrap_id])); refine hK _ _ _ ?_; clear hK K)
      | (refine Run.cond (b := true) rfl ?_; simp only [if_true])
      | (refine Run.cond (b := false) rfl ?_; simp only [Bool.false_eq_true, if_false])
      | refine Run.exit rfl ?_ | refine Run.ret ?_)
    refine Fin.ret' (by simp) rfl hh rfl rfl rfl (Weak.refl _) rfl ⟨?_, rfl⟩
    simp only [valueZ, Tm.index, hz]
    rw [if_pos (by simpa using h1)]; rfl
  · repeat (first
      | refine Run.seq ?_ | refine Run.block ?_ | refine Run.skip ?_ | refine Run.inBlock ?_ | refine Run.opsNil ?_
      | (refine Run.reg fun K hK => ?_; simp; (try (simp (disch := omega) only [wrap_id])); refine hK _ _ _ ?_; clear hK K)
      | (refine Run.cond (b := true) rfl ?_; simp only [if_true])
      | (refine Run.cond (b := false) rfl ?_; simp only [Bool.false_eq_true, if_false])
      | refine Run.exit rfl ?_ | refine Run.ret ?_)
    refine Fin.ret' (by simp) rfl hh rfl rfl rfl (Weak.refl _) rfl ⟨?_, rfl⟩
    simp only [valueZ, Tm.index, hz]
    rw [if_neg (by simpa using h1)]; rfl
set_option maxRecDepth 8000 in
set_option maxHeartbeats 4000000 in
theorem add_any (h : Heap) (hh : WF h) (p : Nat) (s n : Int) (hp : h[p]? = some (some (.cells [iA s]))) :
    ACalls Tryz.prog 157 [.ptr p 0, iA n] h fun o h' => o = (if 4096 < IntKind.i64.wrap (s + n) then .panic (.p (errP 5)) else .ret (.tup [])) ∧ h' = h.set p (some (.cells [iA (IntKind.i64.wrap (s + n))])) := by
  obtain ⟨p1, p2, p3, p4, p5, p6⟩ := idf hp
  refine ACalls.of_run Tryz.func157 rfl ?_
  simp only [Tryz.ntmps157, List.length_cons, List.length_nil]
  refine nv ?_
  refine Run.reg fun K hK => ?_
  simp [hp]
  try (simp (disch := omega) only [wrap_id])
  refine hK _ _ _ ?_; clear hK K
  refine nv ?_
  generalize IntKind.i64.wrap (s + n) = z
  refine nv ?_
  refine Run.reg fun K hK => ?_
  simp [p3]
  try (simp (disch := omega) only [wrap_id])
  refine hK _ _ _ ?_; clear hK K
  refine nv ?_
  by_cases hz : 4096 < z
  · refine nv ?_
    refine Run.cond (b := true) (by simp [hz]) ?_
    simp only [if_true]
    refine nv ?_
    refine Run.reg fun K hK => ?_
    simp
    try (simp (disch := omega) only [wrap_id])
    refine hK _ _ _ ?_; clear hK K
    refine nv ?_
    refine Run.call (args := [iA 5]) rfl rfl (by simp) rfl (stop_any _ (hh.set (by simp)) 5) ?_ ?_
    · rintro v h' ⟨hv, _⟩; cases hv
    · rintro v h' ⟨hv, rfl⟩
      simp only [AOut.panic.injEq] at hv
      subst hv
      exact Fin.pan (by simp) (hh.set (by simp)) (List.append_nil _).symm ⟨by simp [hz], rfl⟩
  · refine nv ?_
    refine Run.cond (b := false) (by simp [hz]) ?_
    simp only [Bool.false_eq_true, if_false]
    refine nv ?_
    refine Run.nil ?_
    exact Fin.ret' (by simp) (by simp) (hh.set (by simp)) (List.append_nil _).symm rfl rfl (Weak.refl _) rfl ⟨by simp [hz], rfl⟩
def cntN (dp : Int) (zs : List Int) (t : Tm) (b : Int) : Int := if t.kind = 0 ∧ 0 ≤ valueZ dp zs.length t b then (zs[(valueZ dp zs.length t b).toNat]?).getD 0 else 1
def visCnt (dp : Int) (zs : List Int) (s : Int) (t : Tm) (b : Int) : VO :=
  if 4096 < IntKind.i64.wrap (s + cntN dp zs t b) then .bad 5 (IntKind.i64.wrap (s + cntN dp zs t b)) else if t.kind = 0 then .done zT (IntKind.i64.wrap (s + cntN dp zs t b)) else .go zT (IntKind.i64.wrap (s + cntN dp zs t b))
theorem valueZ_lt (dp : Int) (len : Nat) (t : Tm) (b : Int) (h : 0 ≤ valueZ dp len t b) : (valueZ dp len t b).toNat < len := by
  unfold valueZ at h ⊢
  split
  · rename_i hc; omega
  · rename_i hc; rw [if_neg hc] at h; omega
set_option maxRecDepth 8000 in
set_option maxHeartbeats 8000000 in
theorem cnt_any (dp : Int) (vs : List Tm) (zs : List Int) (hzl : zs.length = vs.length) (B : Int → Heap) (n pv pc p9 pz pn p5 p4 : Nat) (hlen : ∀ s, (B s).length = n) (hwf : ∀ s, WF (B s))
    (hpv : ∀ s, (B s)[pv]? = some (some (.cells [.fn (.func 154) [] [.ptr p5 0, .ptr p4 0]]))) (hpc : ∀ s, (B s)[pc]? = some (some (.cells [.ptr pn 0]))) (hp9 : ∀ s, (B s)[p9]? = some (some (.cells [.sm pz 0 vs.length vs.length 1])))
    (hpz : ∀ s, (B s)[pz]? = some (some (.cells (zs.map fun z => iA z)))) (hpn : ∀ s, (B s)[pn]? = some (some (.cells [iA s]))) (hp5 : ∀ s, (B s)[p5]? = some (some (.cells [iA dp]))) (hp4 : ∀ s, (B s)[p4]? = some (some (.cells [.p (.sl 5 (tmPs vs))])))
    (hB : ∀ s s', (B s).set pn (some (.cells [iA s'])) = B s') (s : Int) (t : Tm) (b : Int) (l : List (Option AO)) (hw : WF (B s ++ l)) :
    ACalls Tryz.prog 156 ([t.av, iA b] ++ [.ptr pv 0, .ptr pc 0, .ptr p9 0]) (B s ++ l) (VPost B l (visCnt dp zs s t b)) := by
  have lt : ∀ {q : Nat} {o : Option AO}, (∀ s, (B s)[q]? = some o) → q < n := fun hq => by have := (List.getElem?_eq_some_iff.1 (hq 0)).1; rwa [hlen] at this
  have up : ∀ {q : Nat} {o : Option AO}, (∀ s, (B s)[q]? = some o) → ∀ s (l : List (Option AO)), (B s ++ l)[q]? = some o := fun hq s l => by rw [List.getElem?_append_left (by rw [hlen]; exact lt hq)]; exact hq s
  have cv := up hpv
  have cc := up hpc
  have c9 := up hp9
  have cz := up hpz
  have ltn : pn < n := by have := (List.getElem?_eq_some_iff.1 (hpn 0)).1; rwa [hlen] at this
  have cn : ∀ s (l : List (Option AO)), (B s ++ l)[pn]? = some (some (.cells [iA s])) := fun s l => by rw [List.getElem?_append_left (by rw [hlen]; exact ltn)]; exact hpn s
  have hB2 : ∀ s s' (l : List (Option AO)), (B s ++ l).set pn (some (.cells [iA s'])) = B s' ++ l := fun s s' l => by rw [List.set_append_left _ _ (by rw [hlen]; exact ltn), hB]
  have gl : ∀ s (l' : List (Option AO)) (k : Nat), (B s ++ (l ++ l'))[n + (l.length + k)]? = l'[k]? := fun s l' k => by rw [get_lastN (hlen s), get_last]
  have gl0 : ∀ s (l' : List (Option AO)), (B s ++ (l ++ l'))[n + l.length]? = l'[0]? := fun s l' => gl s l' 0
  have sl : ∀ s (l' : List (Option AO)) (k : Nat) (o : Option AO), (B s ++ (l ++ l')).set (n + (l.length + k)) o = B s ++ (l ++ l'.set k o) := fun s l' k o => by rw [set_lastN (hlen s), set_last]
  have hl0 : l.all (AO.under (n + l.length)) = true := by
    have := hw.all; rw [List.all_append, Bool.and_eq_true, List.length_append, hlen] at this; exact this.2
  have hl1 : ∀ k, l.all (AO.under (n + (l.length + k))) = true := fun k => by
    rw [List.all_eq_true] at hl0 ⊢; exact fun o ho => AO.under_mono (by omega) (hl0 o ho)
  have hwB : ∀ s', WF (B s' ++ l) := fun s' => (hwf s').app (by rw [hlen]; exact hl0)
  obtain ⟨k, i, nm, ls, ks⟩ := t
  obtain ⟨L, hL⟩ : ∃ L : List (Option AO), L = [some (.cells [iA k, iA i, .p (sP nm), .p (.sl 2 (lvPs ls)), .p (.sl 5 (tmPs ks))]), some (.cells zTm)] := ⟨_, rfl⟩
  have hwL : ∀ s', WF (B s' ++ (l ++ L)) := fun s' => (hwf s').app (by rw [hlen, List.all_append, Bool.and_eq_true, hL]; exact ⟨by simpa using hl1 2, by simp⟩)
  have hval := value_any (B s ++ (l ++ L)) (hwL s) (.mk k i nm ls ks) b dp vs p5 p4 (up hp5 s _) (up hp4 s _)
  have hadd := fun z => add_any (B s ++ (l ++ L)) (hwL s) pn s z (cn s _)
  obtain ⟨v, hv⟩ : ∃ v, valueZ dp vs.length (.mk k i nm ls ks) b = v := ⟨_, rfl⟩
  have hvlt := valueZ_lt dp vs.length (.mk k i nm ls ks) b
  rw [hv] at hval hvlt
  have hcn : cntN dp zs (.mk k i nm ls ks) b = if k = 0 ∧ 0 ≤ v then (zs[v.toNat]?).getD 0 else 1 := by simp only [cntN, Tm.kind, hzl, hv]
  rw [hL] at hval hadd
  simp only [List.cons_append, List.nil_append]
  refine ACalls.of_run Tryz.func156 rfl ?_
  simp only [Tryz.ntmps156, List.length_cons, List.length_nil, Tm.av, cells_mk, List.map]
  refine nv ?_
  refine Run.reg fun K hK => ?_
  simp [hlen]
  try (simp (disch := omega) only [wrap_id])
  refine hK _ _ _ ?_; clear hK K
  refine nv ?_
  refine Run.reg fun K hK => ?_
  simp [cv, gl0]
  try (simp (disch := omega) only [wrap_id])
  refine hK _ _ _ ?_; clear hK K
  refine nv ?_
  refine Run.call rfl rfl (by simp) rfl hval ?_ ?_
  rotate_left
  · rintro v h' ⟨hv, _⟩; cases hv
  rintro v0 h' ⟨hv0, rfl⟩
  simp only [AOut.ret.injEq] at hv0
  subst hv0
  refine Run.ops fun K hK => ?_
  simp
  try (simp (disch := omega) only [wrap_id])
  refine hK _ _ _ ?_; clear hK K
  refine nv ?_
  refine Run.regJ [1, 2, 3, 4, 5, 7, 9] 20 (k == 0 && decide (0 ≤ v)) (fun K hK => ?_) ?_
  · simp [gl0]
    repeat' (first | apply And.intro | intro _)
    all_goals
      try (simp (disch := omega) only [wrap_id])
      refine hK _ ?_
      simp
      repeat' (first | exact WeakL.nil | apply WeakL.cons)
      all_goals first | exact Weak.junk _ | (refine Weak.bool ?_; clear hK K; rw [Bool.eq_iff_iff]; simp; done) | (refine Weak.bool ?_; clear hK K; rw [Bool.eq_iff_iff]; simp; omega) | (refine Weak.bool ?_; clear hK K; simp_all; done) | (refine Weak.bool ?_; clear hK K; simp [*]; done) | (refine Weak.bool ?_; clear hK K; rw [Bool.eq_iff_iff]; simp [*]; omega) | exact Weak.refl _
  simp only [setMany, keepT, keepT.go, List.contains_cons, List.set_cons_succ, List.set_cons_zero]
  simp
  obtain ⟨cz0, hcz0⟩ : ∃ z, cntN dp zs (.mk k i nm ls ks) b = z := ⟨_, rfl⟩
  rw [hcz0] at hcn
  obtain ⟨w2, hw2⟩ : ∃ z, IntKind.i64.wrap (s + cz0) = z := ⟨_, rfl⟩
  have hvis : visCnt dp zs s (.mk k i nm ls ks) b = if 4096 < w2 then .bad 5 w2 else if k = 0 then .done zT w2 else .go zT w2 := by simp only [visCnt, hcz0, hw2, Tm.kind]
  rw [hvis]
  have hadd2 := hadd cz0
  rw [hw2] at hadd2
  simp only [hB2] at hadd2
  clear hadd hvis hval
  have hcase : (k = 0 ∧ 0 ≤ v ∧ zs[v.toNat]? = some cz0 ∧ v.toNat < vs.length) ∨ ((k == 0 && decide (0 ≤ v)) = false ∧ cz0 = 1) := by
    by_cases hc : k = 0 ∧ 0 ≤ v
    · left
      rw [if_pos hc] at hcn
      have hlt := hvlt hc.2
      refine ⟨hc.1, hc.2, ?_, hlt⟩
      rw [List.getElem?_eq_getElem (by omega)] at hcn ⊢
      simp only [Option.getD_some] at hcn
      rw [hcn]
    · right
      rw [if_neg hc] at hcn
      exact ⟨by simpa using hc, hcn⟩
  by_cases hbad : 4096 < w2
  · rw [if_pos hbad]
    simp only [if_pos hbad] at hadd2
    rcases hcase with ⟨hk, hv0, hzv, hlt⟩ | ⟨hk, rfl⟩
    · have hk2 : (k == 0 && decide (0 ≤ v)) = true := by simp [hk, hv0]
      have hn : ¬ v < 0 := by omega
      have hlt2 : v < (vs.length : Int) := by omega
      refine Run.cond (b := true) (by simp only [aev, tget]; rw [hk2]) ?_
      simp only [if_true]
      refine nv ?_
      refine Run.drawPanic [0, 0, 0, 0, 0, 0] [0, 0, 0, 0, 0, 0] [0, 0, 0, 6, 14, 31] [0, 1, 2, 3, 4] 5 (by kernel_rfl) (by kernel_rfl) ?_
      refine DR.go fun K hK => ?_
      simp [cc, c9, cz, hn, hlt2, hzv]
      try (simp (disch := omega) only [wrap_id])
      refine hK _ _ _ _ ?_; clear hK K
      refine ⟨_, _, _, _, _, _, rfl, rfl, rfl, by simp, rfl, hadd2, ?_⟩
      intro T' hT
      exact Fin.pan (h0 := B w2 ++ l) (by simp [hlen]) (hwB w2) (by simp; rfl) (by simp [VPost])
    · refine Run.cond (b := false) (by simp only [aev, tget]; rw [hk]) ?_
      simp only [Bool.false_eq_true, if_false]
      refine nv ?_
      refine Run.reg fun K hK => ?_
      simp [cc]
      try (simp (disch := omega) only [wrap_id])
      refine hK _ _ _ ?_; clear hK K
      refine nv ?_
      refine Run.call rfl rfl (by simp) rfl hadd2 ?_ ?_
      · rintro v h' ⟨hv, _⟩; cases hv
      · rintro v h' ⟨hv, rfl⟩
        simp only [AOut.panic.injEq] at hv
        subst hv
        exact Fin.pan (h0 := B w2 ++ l) (by simp [hlen]) (hwB w2) (by simp; rfl) (by simp [VPost])
  · rw [if_neg hbad]
    simp only [if_neg hbad] at hadd2
    refine Run.joinH [1, 2, 3, 4, 5, 7] [] (B w2 ++ (l ++ [some (.cells [iA k, iA i, .p (sP nm), .p (.sl 2 (lvPs ls)), .p (.sl 5 (tmPs ks))]), some (.cells zTm)])) (fun hJ => ?_) ?_
    · rcases hcase with ⟨hk, hv0, hzv, hlt⟩ | ⟨hk, rfl⟩
      · have hk2 : (k == 0 && decide (0 ≤ v)) = true := by simp [hk, hv0]
        have hn : ¬ v < 0 := by omega
        have hlt2 : v < (vs.length : Int) := by omega
        refine Run.cond (b := true) (by simp only [aev, tget]; rw [hk2]) ?_
        simp only [if_true]
        refine nv ?_
        refine Run.draw [0, 0, 0, 0, 0, 0] [0, 0, 0, 0, 0, 0] [0, 0, 0, 6, 14, 31] [0, 1, 2, 3, 4, 5] (by kernel_rfl) (by kernel_rfl) ?_
        refine DR.go fun K hK => ?_
        simp [cc, c9, cz, hn, hlt2, hzv]
        try (simp (disch := omega) only [wrap_id])
        refine hK _ _ _ _ ?_; clear hK K
        refine DR.call rfl rfl rfl (by simp) rfl hadd2 ?_
        refine DR.go fun K hK => ?_
        simp
        refine hK _ _ _ _ ?_; clear hK K
        refine hJ _ ?_
        simp
        repeat' (first | exact WeakL.nil | apply WeakL.cons)
        all_goals first | exact Weak.junk _ | exact Weak.refl _ | exact Weak.nil _ | exact Weak.own _ _ _ | exact Weak.int (by omega)
      · refine Run.cond (b := false) (by simp only [aev, tget]; rw [hk]) ?_
        simp only [Bool.false_eq_true, if_false]
        refine nv ?_
        refine Run.reg fun K hK => ?_
        simp [cc]
        try (simp (disch := omega) only [wrap_id])
        refine hK _ _ _ ?_; clear hK K
        repeat (first | refine Run.skip ?_ | refine Run.opsNil ?_ | refine Run.inBlock ?_)
        refine Run.call rfl rfl (by simp) rfl hadd2 ?_ ?_
        rotate_left
        · rintro v h' ⟨hv, _⟩; cases hv
        rintro v0 h' ⟨hv0, rfl⟩
        simp only [AOut.ret.injEq] at hv0
        subst hv0
        refine Run.ops fun K hK => ?_
        simp
        try (simp (disch := omega) only [wrap_id])
        refine hK _ _ _ ?_; clear hK K
        repeat (first | refine Run.skip ?_ | refine Run.opsNil ?_ | refine Run.inBlock ?_)
        refine hJ _ ?_
        simp
        repeat' (first | exact WeakL.nil | apply WeakL.cons)
        all_goals first | exact Weak.junk _ | exact Weak.refl _ | exact Weak.nil _ | exact Weak.own _ _ _ | exact Weak.int (by omega)
    simp only [setMany, keepT, keepT.go, List.contains_cons]
    simp
    refine nv ?_
    refine Run.draw [0, 0, 0, 0, 0, 1] [0, 0, 0, 0, 0, 0] [0, 0, 2, 6, 1, 31] [0, 4, 1, 2, 3, 5] (by kernel_rfl) (by kernel_rfl) ?_
    refine DR.go fun K hK => ?_
    simp [gl, gl0, sl]
    try (simp (disch := omega) only [wrap_id])
    refine hK _ _ _ _ ?_; clear hK K
    change Run _ _ _ _ _ _ _ _
    refine nv ?_
    refine Run.ret ?_
    by_cases hk : k = 0
    · rw [if_pos hk]
      refine Fin.ret' (h0 := B w2 ++ l) (xs := [.agg zTm, bA (k == 0)]) (by simp) (by simp [hlen]) (hwB w2) (by simp; rfl) (by simp [gl]) rfl (Weak.tup (WeakL.cons Weak.zT (WeakL.refl _))) (by simp [zT]) ?_
      simp [VPost, hk]
    · rw [if_neg hk]
      refine Fin.ret' (h0 := B w2 ++ l) (xs := [.agg zTm, bA (k == 0)]) (by simp) (by simp [hlen]) (hwB w2) (by simp; rfl) (by simp [gl]) rfl (Weak.tup (WeakL.cons Weak.zT (WeakL.refl _))) (by simp [zT]) ?_
      simp [VPost, hk]

end Go.Proofs.YtcfcolkbeelegaaGreat
