/-
  term.Check.
-/
import Derived.Test.YtppgpabjcenjdaaLM4
import Derived.Test.YtppgpabjcenjdaaLK1
import Derived.Test.YtppgpabjcenjdaaLE7
namespace Go.Proofs.Ytppgpabjcenjdaa

open Go Go.AI

mutual
/-- Names are no longer than memory holds. -/
def Tm.nm : Tm → Prop
  | .mk _ _ n _ ks => n.length ≤ 1099511627776 ∧ Tm.nms ks
def Tm.nms : List Tm → Prop
  | [] => True
  | t :: ts => t.nm ∧ Tm.nms ts
end

theorem Tm.nms_at {l : List Tm} (h : Tm.nms l) : ∀ t ∈ l, t.nm := by
  induction l with
  | nil => intro t ht; cases ht
  | cons x l ih =>
    simp only [Tm.nms] at h
    intro t ht
    cases List.mem_cons.1 ht with
    | inl e => subst e; exact h.1
    | inr e => exact ih h.2 t e

/-- What holds of a node that is visited. -/
def PreC (t : Tm) (d : Int) : Prop := t.fit ∧ t.nm ∧ 0 ≤ d ∧ d + t.size ≤ 1099511627776

theorem preC_kid : ∀ k i n ls ks d, PreC (.mk k i n ls ks) d → ∀ (j : Nat) (hj : j < ks.length), PreC ks[j] (d + belowZ k j) := by
  intro k i n ls ks d h j hj
  obtain ⟨h1, h2, h3, h4⟩ := h
  simp only [Tm.fit] at h1
  simp only [Tm.nm] at h2
  simp only [Tm.size] at h4
  have hs := kid_size hj
  have hb := belowZ_01' k j
  exact ⟨Tm.fits_at h1.2.2.2.2 _ (List.getElem_mem hj), Tm.nms_at h2.2 _ (List.getElem_mem hj), by omega, by omega⟩

theorem checkZ_vis (v p m l : Int) (t : Tm) (hsz : t.size ≤ 1099511627776) (c e : Int) (h : (vis (stChk (pos0 v) (pos0 p) (pos0 m) (pos0 l)) (0, 0) 0 t).1 = (c, e)) :
    checkZ v p m l t = if e = 0 then (if 4096 < c then 5 else if 200 < (t.depth : Int) then 7 else 0) else e := by
  obtain ⟨a1, a2⟩ := vis_chk (pos0 v) (pos0 p) (pos0 m) (pos0 l) t 0 0 (by omega) (by omega)
  rw [← checkP_eq v p m l t hsz]
  unfold checkP
  by_cases hz : chk (pos0 v) (pos0 p) (pos0 m) (pos0 l) 0 t = 0
  · rw [a1 hz] at h ⊢
    simp only [Prod.mk.injEq] at h
    obtain ⟨rfl, rfl⟩ := h
    simp
  · obtain ⟨b1, b2⟩ := a2 hz
    rw [h] at b2
    simp only at b2
    rw [b1, h, if_pos rfl, if_neg (by rw [b2]; exact hz)]

set_option maxRecDepth 8000 in
set_option maxHeartbeats 16000000 in
theorem tcheck_any (h : Heap) (hh : WF h) (t : Tm) (v p m l : Int) (hfit : t.fit) (hnm : t.nm) (hsz : t.size ≤ 1099511627776) : ACalls Try.prog 144 [t.av, iA v, iA p, iA m, iA l] h fun o h' => o = .ret (iA (checkZ v p m l t)) ∧ h' = h := by
  have hmax : ∀ x : Int, (if x < 0 then 0 else x) = pos0 x := fun _ => rfl
  have hp0 : 0 ≤ pos0 p := by unfold pos0; split <;> omega
  have hck := checkZ_vis v p m l t hsz
  obtain ⟨r, hr⟩ : ∃ r, r = checkZ v p m l t := ⟨_, rfl⟩
  rw [← hr] at hck ⊢
  clear hr
  have hpre : PreC t 0 := ⟨hfit, hnm, by omega, by omega⟩
  obtain ⟨pv, hpv⟩ : ∃ x, pos0 v = x := ⟨_, rfl⟩
  obtain ⟨pp, hpp⟩ : ∃ x, pos0 p = x := ⟨_, rfl⟩
  obtain ⟨pm, hpm⟩ : ∃ x, pos0 m = x := ⟨_, rfl⟩
  obtain ⟨pl, hpl⟩ : ∃ x, pos0 l = x := ⟨_, rfl⟩
  rw [hpv, hpp, hpm, hpl] at hck
  rw [hpp] at hp0
  have hno := iterOf_any (h ++ [some (.cells (t.cells.map .p)), some (.cells [iA 0]), some (.cells [iA pv, iA pp, iA pm, iA pl]), some (.cells [iA 0])]) (hh.app (by simp)) t
  have hdep := fun (g : Heap) (hg : WF g) => tdepth_any t.size t g (Nat.le_refl _) hsz hg
  obtain ⟨k, i, nm, ls, ks⟩ := t
  refine ACalls.of_runM Try.func144 rfl ?_
  simp only [Try.ntmps144, List.length_cons, List.length_nil, Tm.av, cells_mk, List.map] at hno hdep ⊢
  repeat (first | refine Run.seq ?_ | refine Run.block ?_ | refine Run.skip ?_ | refine Run.inBlock ?_ | refine Run.opsNil ?_)
  refine Run.reg fun K hK => ?_
  simp
  try (simp (disch := omega) only [wrap_id])
  refine hK _ _ _ ?_; clear hK K
  repeat (first | refine Run.seq ?_ | refine Run.block ?_ | refine Run.skip ?_ | refine Run.inBlock ?_ | refine Run.opsNil ?_)
  repeat (first | refine Run.seq ?_ | refine Run.block ?_ | refine Run.skip ?_ | refine Run.inBlock ?_ | refine Run.opsNil ?_)
  refine Run.reg fun K hK => ?_
  simp [hmax, hpv, hpp, hpm, hpl]
  try (simp (disch := omega) only [wrap_id])
  refine hK _ _ _ ?_; clear hK K
  repeat (first | refine Run.seq ?_ | refine Run.block ?_ | refine Run.skip ?_ | refine Run.inBlock ?_ | refine Run.opsNil ?_)
  repeat (first | refine Run.seq ?_ | refine Run.block ?_ | refine Run.skip ?_ | refine Run.inBlock ?_ | refine Run.opsNil ?_)
  refine Run.reg fun K hK => ?_
  simp
  try (simp (disch := omega) only [wrap_id])
  refine hK _ _ _ ?_; clear hK K
  repeat (first | refine Run.seq ?_ | refine Run.block ?_ | refine Run.skip ?_ | refine Run.inBlock ?_ | refine Run.opsNil ?_)
  repeat (first | refine Run.seq ?_ | refine Run.block ?_ | refine Run.skip ?_ | refine Run.inBlock ?_ | refine Run.opsNil ?_)
  refine Run.reg fun K hK => ?_
  simp
  try (simp (disch := omega) only [wrap_id])
  refine hK _ _ _ ?_; clear hK K
  repeat (first | refine Run.seq ?_ | refine Run.block ?_ | refine Run.skip ?_ | refine Run.inBlock ?_ | refine Run.opsNil ?_)
  refine Run.call rfl (by first | rfl | simp) (by simp) rfl (hno) ?_ ?_
  rotate_left
  · rintro v h' ⟨hv, _⟩; cases hv
  rintro v h' ⟨hv, rfl⟩
  simp only [AOut.ret.injEq] at hv
  subst hv
  refine Run.ops fun K hK => ?_
  simp
  try (simp (disch := omega) only [wrap_id])
  refine hK _ _ _ ?_; clear hK K
  repeat (first | refine Run.seq ?_ | refine Run.block ?_ | refine Run.skip ?_ | refine Run.inBlock ?_ | refine Run.opsNil ?_)
  refine Run.keep [5, 10, 11, 12, 26] ?_
  simp
  refine Run.rangeG (gf := 169) (cap := [.ptr (h.length + 4) 0]) (by simp) rfl fun y Tl ag' bd' hT hag hbd => ?_
  have hTu : ∀ k, AV.underL (h.length + (5 + k)) Tl = true := fun k => by rw [hT]; simp; omega
  obtain ⟨tc, htc⟩ : ∃ tc : List AV, tc = [.p (iP k), .p (iP i), .p (sP nm), .p (.sl 2 (lvPs ls)), .p (.sl 5 (tmPs ks))] := ⟨_, rfl⟩
  have htu : ∀ n, AV.underL n tc = true := fun n => by rw [htc]; simp
  obtain ⟨B, hB⟩ : ∃ B : Int × Int → Heap, B = fun s => h ++ [some (.cells tc), some (.cells [iA s.2]), some (.cells [iA pv, iA pp, iA pm, iA pl]), some (.cells [iA s.1]), some (.cells tc), some (.aux .dblk), some (.aux (.loop y (if s.2 = 0 then .ready else .done) (if s.2 = 0 then none else some .ret) Tl #[27, 28] ag' bd'))] := ⟨_, rfl⟩
  obtain ⟨Z, hZ⟩ : ∃ Z : Int → Int → Heap, Z = fun c e => h ++ [some (.cells tc), some (.cells [iA e]), some (.cells [iA pv, iA pp, iA pm, iA pl]), some (.cells [iA c]), some (.cells tc), some (.aux .dblk), some (.aux (.loop y .busy none Tl #[27, 28] ag' bd'))] := ⟨_, rfl⟩
  have hlen : ∀ s, (B s).length = h.length + 7 := fun s => by rw [hB]; simp
  have hlenZ : ∀ c e, (Z c e).length = h.length + 7 := fun c e => by rw [hZ]; simp
  have hwf : ∀ s, WF (B s) := fun s => by rw [hB]; exact hh.app (by simp [AO.under, hTu 2, htu])
  have hwfZ : ∀ c e, WF (Z c e) := fun c e => by rw [hZ]; exact hh.app (by simp [AO.under, hTu 2, htu])
  have hat : ∀ c (l : List (Option AO)), Heap.at (B (c, 0) ++ l) (h.length + 6) = some (.aux (.loop y .ready none Tl #[27, 28] ag' bd')) := fun c l => by rw [hB]; simp
  have hatZ : ∀ c e (l : List (Option AO)), Heap.at (Z c e ++ l) (h.length + 6) = some (.aux (.loop y .busy none Tl #[27, 28] ag' bd')) := fun c e l => by rw [hZ]; simp
  have hbusy : ∀ c (l : List (Option AO)), (B (c, 0) ++ l).set (h.length + 6) (some (.aux (.loop y .busy none Tl #[27, 28] ag' bd'))) = Z c 0 ++ l := fun c l => by rw [hB, hZ]; simp
  have hnorm : ∀ c (l : List (Option AO)), (Z c 0 ++ l).set (h.length + 6) (some (.aux (.loop y .ready none Tl #[27, 28] ag' bd'))) = B (c, 0) ++ l := fun c l => by rw [hB, hZ]; simp
  have hdone : ∀ c e (l : List (Option AO)), e ≠ 0 → (Z c e ++ l).set (h.length + 6) (some (.aux (.loop y .done (some .ret) Tl #[27, 28] ag' bd'))) = B (c, e) ++ l := fun c e l he => by rw [hB, hZ]; simp [he]
  have c2 : ∀ c e (l : List (Option AO)), (Z c e ++ l)[h.length + 2]? = some (some (.cells [iA pv, iA pp, iA pm, iA pl])) := fun c e l => by rw [hZ]; simp
  have c1 : ∀ c e (l : List (Option AO)), (Z c e ++ l)[h.length + 1]? = some (some (.cells [iA e])) := fun c e l => by rw [hZ]; simp
  have c3 : ∀ c e (l : List (Option AO)), (Z c e ++ l)[h.length + 3]? = some (some (.cells [iA c])) := fun c e l => by rw [hZ]; simp
  have s1 : ∀ c e e' (l : List (Option AO)), (Z c e ++ l).set (h.length + 1) (some (.cells [iA e'])) = Z c e' ++ l := fun c e e' l => by rw [hZ]; simp
  have s3 : ∀ c c' e (l : List (Option AO)), (Z c e ++ l).set (h.length + 3) (some (.cells [iA c'])) = Z c' e ++ l := fun c c' e l => by rw [hZ]; simp
  have glZ : ∀ c e (l l' : List (Option AO)), (Z c e ++ (l ++ l'))[h.length + 7 + l.length]? = l'[0]? := fun c e l l' => by rw [get_lastN (hlenZ c e), get_last0]
  have slZ : ∀ c e (l l' : List (Option AO)) (o : Option AO), (Z c e ++ (l ++ l')).set (h.length + 7 + l.length) o = Z c e ++ (l ++ l'.set 0 o) := fun c e l l' o => by rw [set_lastN (hlenZ c e), set_last0]
  have htk : ∀ s (l l' : List (Option AO)), (B s ++ (l ++ l')).take (h.length + 7 + l.length) = B s ++ l := fun s l l' => by rw [← List.append_assoc, show h.length + 7 + l.length = (B s ++ l).length by rw [List.length_append, hlen], take_last]
  have hit := iterL_any (stChk pv pp pm pl) y (h.length + 4) PreC preC_kid (fun s => s.2 = 0) (fun s d u hs _ hg => by
      simp only [stChk] at hg ⊢
      split
      · rfl
      · rename_i hne; rw [if_neg hne] at hg; cases hg) (.mk k i nm ls ks) (0, 0) B (h.length + 7) rfl hpre hsz hlen hwf (fun s => by rw [hB, htc]; simp)
    (fun s d u l hs hp hw => by
      obtain ⟨c, e⟩ := s
      simp only at hs
      subst hs
      refine AYield.of_run (hat c l) (by simp) ?_
      refine Run.codeEq hag ?_
      refine Run.tEq (congrArg (fun T => putMany T _ _) hT) ?_
      obtain ⟨uk, ui, un, uls, uks⟩ := u
      obtain ⟨hp1, hp2, hp3, hp4⟩ := hp
      simp only [Tm.nm] at hp2
      simp
      repeat (first | refine Run.seq ?_ | refine Run.block ?_ | refine Run.skip ?_ | refine Run.inBlock ?_ | refine Run.opsNil ?_)
      refine Run.reg fun K hK => ?_
      simp
      try (simp (disch := omega) only [wrap_id])
      refine hK _ _ _ ?_; clear hK K
      repeat (first | refine Run.seq ?_ | refine Run.block ?_ | refine Run.skip ?_ | refine Run.inBlock ?_ | refine Run.opsNil ?_)
      repeat (first | refine Run.seq ?_ | refine Run.block ?_ | refine Run.skip ?_ | refine Run.inBlock ?_ | refine Run.opsNil ?_)
      refine Run.reg fun K hK => ?_
      simp [hlen]
      try (simp (disch := omega) only [wrap_id])
      refine hK _ _ _ ?_; clear hK K
      repeat (first | refine Run.seq ?_ | refine Run.block ?_ | refine Run.skip ?_ | refine Run.inBlock ?_ | refine Run.opsNil ?_)
      refine Run.nil ⟨rfl, rfl, hat _ _, ?_⟩
      rw [hbusy]
      refine Run.codeEq hbd ?_
      have hst : stChk pv pp pm pl (c, 0) d (.mk uk ui un uls uks) = if nodeZ pv pp pm pl d (.mk uk ui un uls uks) = 0 then ((IntKind.i64.wrap (c + 1), 0), true) else ((c, nodeZ pv pp pm pl d (.mk uk ui un uls uks)), false) := rfl
      have hu := (hwf (c, 0)).all
      have hwl : l.all (AO.under (h.length + 7 + l.length)) = true := by
        have := hw.all
        rw [List.all_append, Bool.and_eq_true, List.length_append, hlen] at this
        exact this.2
      have hw2 : ∀ s, WF (B s ++ l) := fun s => (hwf s).app (by rw [hlen]; exact hwl)
      have hwZ : ∀ c e, WF (Z c e ++ l) := fun c e => (hwfZ c e).app (by rw [hlenZ]; exact hwl)
      have hcall := tnode_any (Z c 0 ++ (l ++ [some (.cells ((Tm.mk uk ui un uls uks).cells.map .p))])) (by rw [← List.append_assoc]; exact (hwZ c 0).app (by simp)) uk ui un uls uks pv pp pm pl d hp0 hp1 hp2.1 hp3 (by omega)
      rw [hst, hlen]
      generalize nodeZ pv pp pm pl d (.mk uk ui un uls uks) = z at hcall
      simp only [Tm.av, cells_mk, List.map] at hcall
      repeat (first | refine Run.seq ?_ | refine Run.block ?_ | refine Run.skip ?_ | refine Run.inBlock ?_ | refine Run.opsNil ?_)
      repeat (first | refine Run.seq ?_ | refine Run.block ?_ | refine Run.skip ?_ | refine Run.inBlock ?_ | refine Run.opsNil ?_)
      refine Run.reg fun K hK => ?_
      simp [glZ, c2]
      try (simp (disch := omega) only [wrap_id])
      refine hK _ _ _ ?_; clear hK K
      repeat (first | refine Run.seq ?_ | refine Run.block ?_ | refine Run.skip ?_ | refine Run.inBlock ?_ | refine Run.opsNil ?_)
      refine Run.call rfl (by first | rfl | simp) (by simp) rfl (hcall) ?_ ?_
      rotate_left
      · rintro v h' ⟨hv, _⟩; cases hv
      rintro v h' ⟨hv, rfl⟩
      simp only [AOut.ret.injEq] at hv
      subst hv
      refine Run.ops fun K hK => ?_
      simp
      try (simp (disch := omega) only [wrap_id])
      refine hK _ _ _ ?_; clear hK K
      repeat (first | refine Run.seq ?_ | refine Run.block ?_ | refine Run.skip ?_ | refine Run.inBlock ?_ | refine Run.opsNil ?_)
      repeat (first | refine Run.seq ?_ | refine Run.block ?_ | refine Run.skip ?_ | refine Run.inBlock ?_ | refine Run.opsNil ?_)
      refine Run.reg fun K hK => ?_
      simp
      try (simp (disch := omega) only [wrap_id])
      refine hK _ _ _ ?_; clear hK K
      repeat (first | refine Run.seq ?_ | refine Run.block ?_ | refine Run.skip ?_ | refine Run.inBlock ?_ | refine Run.opsNil ?_)
      by_cases hz : z = 0
      · subst hz
        simp only [if_true]
        repeat (first | refine Run.seq ?_ | refine Run.block ?_ | refine Run.skip ?_ | refine Run.inBlock ?_ | refine Run.opsNil ?_)
        refine Run.cond (b := false) (by simp) ?_
        simp only [Bool.false_eq_true, if_false]
        repeat (first | refine Run.seq ?_ | refine Run.block ?_ | refine Run.skip ?_ | refine Run.inBlock ?_ | refine Run.opsNil ?_)
        repeat (first | refine Run.seq ?_ | refine Run.block ?_ | refine Run.skip ?_ | refine Run.inBlock ?_ | refine Run.opsNil ?_)
        refine Run.reg fun K hK => ?_
        simp [c3, s3]
        try (simp (disch := omega) only [wrap_id])
        refine hK _ _ _ ?_; clear hK K
        repeat (first | refine Run.seq ?_ | refine Run.block ?_ | refine Run.skip ?_ | refine Run.inBlock ?_ | refine Run.opsNil ?_)
        refine Run.nil ?_
        refine ⟨none, h.length + 7 + l.length, rfl, rfl, Nat.le_refl _, by simp [hlenZ], hatZ _ 0 _, ?_, ?_⟩
        · rw [show stOf none = .ready from rfl, hnorm, htk]
          have := (hw2 (IntKind.i64.wrap (c + 1), 0)).all
          rwa [List.length_append, hlen] at this
        · rw [show stOf none = .ready from rfl, hnorm, htk]
          exact ⟨rfl, rfl⟩
      · rw [if_neg hz]
        repeat (first | refine Run.seq ?_ | refine Run.block ?_ | refine Run.skip ?_ | refine Run.inBlock ?_ | refine Run.opsNil ?_)
        refine Run.cond (b := true) (by simp [hz]) ?_
        simp only [if_true]
        repeat (first | refine Run.seq ?_ | refine Run.block ?_ | refine Run.skip ?_ | refine Run.inBlock ?_ | refine Run.opsNil ?_)
        repeat (first | refine Run.seq ?_ | refine Run.block ?_ | refine Run.skip ?_ | refine Run.inBlock ?_ | refine Run.opsNil ?_)
        refine Run.reg fun K hK => ?_
        simp [c1, s1]
        try (simp (disch := omega) only [wrap_id])
        refine hK _ _ _ ?_; clear hK K
        repeat (first | refine Run.seq ?_ | refine Run.block ?_ | refine Run.skip ?_ | refine Run.inBlock ?_ | refine Run.opsNil ?_)
        refine Run.ret ?_
        refine ⟨some .ret, h.length + 7 + l.length, rfl, rfl, Nat.le_refl _, by simp [hlenZ], hatZ c z _, ?_, ?_⟩
        · rw [show stOf (some Code.ret) = .done from rfl, hdone _ _ _ hz, htk]
          have := (hw2 (c, z)).all
          rwa [List.length_append, hlen] at this
        · rw [show stOf (some Code.ret) = .done from rfl, hdone _ _ _ hz, htk]
          exact ⟨rfl, rfl⟩)
  have hB0 : B (0, 0) = (h ++ [some (.cells tc), some (.cells [iA 0]), some (.cells [iA pv, iA pp, iA pm, iA pl]), some (.cells [iA 0]), some (.cells tc)]) ++ [some (.aux .dblk), some (.aux (.loop y .ready none Tl #[27, 28] ag' bd'))] := by rw [hB]; simp
  rw [htc] at hB0
  refine ⟨_, hB0 ▸ hit, ?_⟩
  rintro o h' ⟨rfl, rfl⟩
  have hck := fun c e => hck c e
  obtain ⟨⟨c, e⟩, hce⟩ : ∃ s, (vis (stChk pv pp pm pl) (0, 0) 0 (Tm.mk k i nm ls ks)).1 = s := ⟨_, rfl⟩
  have hck := hck c e hce
  rw [hce]
  refine ⟨_, (if e = 0 then .ready else .done), (if e = 0 then none else some .ret), rfl, by rw [hB, htc]; simp [Nat.add_assoc], by split <;> simp, ?_⟩
  rw [hB, htc]
  simp [Nat.add_assoc]
  by_cases he : e = 0
  · subst he
    simp only [if_true] at hck ⊢
    repeat (first | refine Run.seq ?_ | refine Run.block ?_ | refine Run.skip ?_ | refine Run.inBlock ?_ | refine Run.opsNil ?_)
    refine Run.reg fun K hK => ?_
    simp
    try (simp (disch := omega) only [wrap_id])
    refine hK _ _ _ ?_; clear hK K
    repeat (first | refine Run.seq ?_ | refine Run.block ?_ | refine Run.skip ?_ | refine Run.inBlock ?_ | refine Run.opsNil ?_)
    by_cases h1 : 4096 < c
    · rw [if_pos h1] at hck
      repeat (first | refine Run.seq ?_ | refine Run.block ?_ | refine Run.skip ?_ | refine Run.inBlock ?_ | refine Run.opsNil ?_)
      refine Run.cond (b := true) (by simp [h1]) ?_
      simp only [if_true]
      repeat (first | refine Run.seq ?_ | refine Run.block ?_ | refine Run.skip ?_ | refine Run.inBlock ?_ | refine Run.opsNil ?_)
      repeat (first | refine Run.seq ?_ | refine Run.block ?_ | refine Run.skip ?_ | refine Run.inBlock ?_ | refine Run.opsNil ?_)
      refine Run.reg fun K hK => ?_
      simp
      try (simp (disch := omega) only [wrap_id])
      refine hK _ _ _ ?_; clear hK K
      repeat (first | refine Run.seq ?_ | refine Run.block ?_ | refine Run.skip ?_ | refine Run.inBlock ?_ | refine Run.opsNil ?_)
      refine Run.ret ?_
      refine ⟨by simp, ?_⟩
      exact Fin.ret' (h0 := h) (by simp) rfl hh (by simp; rfl) (by simp; rfl) rfl (Weak.refl _) rfl ⟨by rw [hck]; rfl, rfl⟩
    · rw [if_neg h1] at hck
      repeat (first | refine Run.seq ?_ | refine Run.block ?_ | refine Run.skip ?_ | refine Run.inBlock ?_ | refine Run.opsNil ?_)
      refine Run.cond (b := false) (by simp [h1]) ?_
      simp only [Bool.false_eq_true, if_false]
      repeat (first | refine Run.seq ?_ | refine Run.block ?_ | refine Run.skip ?_ | refine Run.inBlock ?_ | refine Run.opsNil ?_)
      repeat (first | refine Run.seq ?_ | refine Run.block ?_ | refine Run.skip ?_ | refine Run.inBlock ?_ | refine Run.opsNil ?_)
      refine Run.reg fun K hK => ?_
      simp
      try (simp (disch := omega) only [wrap_id])
      refine hK _ _ _ ?_; clear hK K
      repeat (first | refine Run.seq ?_ | refine Run.block ?_ | refine Run.skip ?_ | refine Run.inBlock ?_ | refine Run.opsNil ?_)
      refine Run.call rfl (by first | rfl | simp) (by simp) rfl (hdep _ (hh.app (by simp [AO.under, hTu 2]))) ?_ ?_
      rotate_left
      · rintro v h' ⟨hv, _⟩; cases hv
      rintro v h' ⟨hv, rfl⟩
      simp only [AOut.ret.injEq] at hv
      subst hv
      refine Run.ops fun K hK => ?_
      simp
      try (simp (disch := omega) only [wrap_id])
      refine hK _ _ _ ?_; clear hK K
      repeat (first | refine Run.seq ?_ | refine Run.block ?_ | refine Run.skip ?_ | refine Run.inBlock ?_ | refine Run.opsNil ?_)
      by_cases h2 : 200 < ((Tm.mk k i nm ls ks).depth : Int)
      · rw [if_pos h2] at hck
        repeat (first | refine Run.seq ?_ | refine Run.block ?_ | refine Run.skip ?_ | refine Run.inBlock ?_ | refine Run.opsNil ?_)
        refine Run.cond (b := true) (by simp [h2]) ?_
        simp only [if_true]
        repeat (first | refine Run.seq ?_ | refine Run.block ?_ | refine Run.skip ?_ | refine Run.inBlock ?_ | refine Run.opsNil ?_)
        repeat (first | refine Run.seq ?_ | refine Run.block ?_ | refine Run.skip ?_ | refine Run.inBlock ?_ | refine Run.opsNil ?_)
        refine Run.reg fun K hK => ?_
        simp
        try (simp (disch := omega) only [wrap_id])
        refine hK _ _ _ ?_; clear hK K
        repeat (first | refine Run.seq ?_ | refine Run.block ?_ | refine Run.skip ?_ | refine Run.inBlock ?_ | refine Run.opsNil ?_)
        refine Run.ret ?_
        refine ⟨by simp, ?_⟩
        exact Fin.ret' (h0 := h) (by simp) rfl hh (by simp; rfl) (by simp; rfl) rfl (Weak.refl _) rfl ⟨by rw [hck]; rfl, rfl⟩
      · rw [if_neg h2] at hck
        repeat (first | refine Run.seq ?_ | refine Run.block ?_ | refine Run.skip ?_ | refine Run.inBlock ?_ | refine Run.opsNil ?_)
        refine Run.cond (b := false) (by simp [h2]) ?_
        simp only [Bool.false_eq_true, if_false]
        repeat (first | refine Run.seq ?_ | refine Run.block ?_ | refine Run.skip ?_ | refine Run.inBlock ?_ | refine Run.opsNil ?_)
        repeat (first | refine Run.seq ?_ | refine Run.block ?_ | refine Run.skip ?_ | refine Run.inBlock ?_ | refine Run.opsNil ?_)
        refine Run.reg fun K hK => ?_
        simp
        try (simp (disch := omega) only [wrap_id])
        refine hK _ _ _ ?_; clear hK K
        repeat (first | refine Run.seq ?_ | refine Run.block ?_ | refine Run.skip ?_ | refine Run.inBlock ?_ | refine Run.opsNil ?_)
        refine Run.ret ?_
        refine ⟨by simp, ?_⟩
        exact Fin.ret' (h0 := h) (by simp) rfl hh (by simp; rfl) (by simp; rfl) rfl (Weak.refl _) rfl ⟨by rw [hck]; rfl, rfl⟩
  · rw [if_neg he] at hck
    simp [he]
    refine Run.ret ?_
    refine ⟨by simp, ?_⟩
    exact Fin.ret' (h0 := h) (by simp) rfl hh (by simp; rfl) (by simp; rfl) rfl (Weak.refl _) rfl ⟨by rw [hck]; rfl, rfl⟩

end Go.Proofs.Ytppgpabjcenjdaa
