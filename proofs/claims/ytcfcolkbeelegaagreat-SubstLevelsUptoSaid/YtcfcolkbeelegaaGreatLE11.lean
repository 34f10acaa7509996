/-
  subst: Abstract.
-/
import Derived.Test.YtcfcolkbeelegaaGreatLE7
import Derived.Test.YtcfcolkbeelegaaGreatLE9

namespace Go.Proofs.YtcfcolkbeelegaaGreat

open Go Go.AI

mutual
theorem ok_lvs : ∀ (t : Tm) (m : Int), t.ok m → t.lvs
  | .mk k i n ls ks, m, h => by
    simp only [Tm.ok, Tm.okN] at h
    simp only [Tm.lvs]
    exact ⟨by omega, h.1.2.2.1, ok_lvss ks m k 0 h.2⟩
theorem ok_lvss : ∀ (l : List Tm) (m k : Int) (idx : Nat), Tm.oks m k idx l → Tm.lvss l
  | [], _, _, _, _ => trivial
  | t :: ts, m, k, idx, h => by
    simp only [Tm.oks] at h
    exact ⟨ok_lvs t _ h.1, ok_lvss ts m k (idx + 1) h.2⟩
end
def absRest (s : Int) (t : Tm) (d : Int) : VO :=
  if t.kind = 0 ∧ d ≤ t.index then (if 65535 < t.index + 1 then .bad 24 s else .done (vr (t.index + 1)) s) else .go t.bare s
def visAbs (part : Tm) (s : Int) (t : Tm) (d : Int) : VO :=
  if (t.kind == part.kind && (t.kids.length : Int) == part.kids.length) = true then
    if ((resShift d 0 part).2 == 0 && sameT t (resShift d 0 part).1) = true then (if 65535 < d then .bad 24 (IntKind.i64.wrap (s + 1)) else .done (vr d) (IntKind.i64.wrap (s + 1)))
    else absRest s t d
  else absRest s t d
theorem take3 {H l : Heap} {a b c : Option AO} : (H ++ (l ++ [a, b, c])).take (H.length + (l.length + 2)) = H ++ (l ++ [a, b]) := by
  rw [take_lastK, take_lastK]; rfl
theorem Run.cut3 {P : Program} {rd : Option Nat} {nb : Nat} {k : List It} {T : List AV} {H l : Heap} {a b c : Option AO} {D : List AD} {Q : AX → List AV → Heap → List AD → Prop} (n : Nat) (hn : H.length = n) (hw : WF (H ++ (l ++ [a, b]))) (hnb : nb ≤ n + (l.length + 2)) (hT : AV.underL (n + (l.length + 2)) T = true) (hD : underD (n + (l.length + 2)) D = true)
    (r : Run P rd nb k T (H ++ (l ++ [a, b])) D Q) : Run P rd nb k T (H ++ (l ++ [a, b, c])) D Q := by
  subst hn
  refine Run.cut (H.length + (l.length + 2)) hnb (by simp) hT ?_ hD (by rw [take3]; exact r)
  rw [take3]
  have := hw.all
  simpa using this
set_option maxRecDepth 8000 in
set_option maxHeartbeats 8000000 in
theorem abs_any (part : Tm) (hpart : Dom 65536 part 0) (B : Int → Heap) (n pp pn : Nat) (hlen : ∀ s, (B s).length = n) (hwf : ∀ s, WF (B s))
    (hpp : ∀ s, (B s)[pp]? = some (some (.cells (part.cells.map .p)))) (hpn : ∀ s, (B s)[pn]? = some (some (.cells [iA s]))) (hB : ∀ s s', (B s).set pn (some (.cells [iA s'])) = B s')
    (s : Int) (t : Tm) (d : Int) (l : List (Option AO)) (hd : Dom 65536 t d) (hw : WF (B s ++ l)) :
    ACalls Tryz.prog 100 ([t.av, iA d] ++ [.ptr pp 0, .ptr pn 0]) (B s ++ l) (VPost B l (visAbs part s t d)) := by
  have ltp : pp < n := by have := (List.getElem?_eq_some_iff.1 (hpp 0)).1; rwa [hlen] at this
  have ltn : pn < n := by have := (List.getElem?_eq_some_iff.1 (hpn 0)).1; rwa [hlen] at this
  have cp : ∀ s (l : List (Option AO)), (B s ++ l)[pp]? = some (some (.cells (part.cells.map .p))) := fun s l => by rw [List.getElem?_append_left (by rw [hlen]; exact ltp)]; exact hpp s
  have cn : ∀ s (l : List (Option AO)), (B s ++ l)[pn]? = some (some (.cells [iA s])) := fun s l => by rw [List.getElem?_append_left (by rw [hlen]; exact ltn)]; exact hpn s
  have hB2 : ∀ s s' (l : List (Option AO)), (B s ++ l).set pn (some (.cells [iA s'])) = B s' ++ l := fun s s' l => by rw [List.set_append_left _ _ (by rw [hlen]; exact ltn), hB]
  have gl : ∀ s (l' : List (Option AO)) (k : Nat), (B s ++ (l ++ l'))[n + (l.length + k)]? = l'[k]? := fun s l' k => by rw [get_lastN (hlen s), get_last]
  have gl0 : ∀ s (l' : List (Option AO)), (B s ++ (l ++ l'))[n + l.length]? = l'[0]? := fun s l' => gl s l' 0
  have sl : ∀ s (l' : List (Option AO)) (k : Nat) (o : Option AO), (B s ++ (l ++ l')).set (n + (l.length + k)) o = B s ++ (l ++ l'.set k o) := fun s l' k o => by rw [set_lastN (hlen s), set_last]
  have hl0 : l.all (AO.under (n + l.length)) = true := by
    have := hw.all; rw [List.all_append, Bool.and_eq_true, List.length_append, hlen] at this; exact this.2
  have hl1 : ∀ k, l.all (AO.under (n + (l.length + k))) = true := fun k => by
    rw [List.all_eq_true] at hl0 ⊢; exact fun o ho => AO.under_mono (by omega) (hl0 o ho)
  have hwB : ∀ s', WF (B s' ++ l) := fun s' => (hwf s').app (by rw [hlen]; exact hl0)
  have hwL : ∀ s' (L : List (Option AO)), L.all (AO.under (n + (l.length + L.length))) = true → WF (B s' ++ (l ++ L)) := fun s' L hL => (hwf s').app (by rw [hlen, List.all_append, Bool.and_eq_true, List.length_append]; exact ⟨hl1 _, hL⟩)
  have hd2 := hd.2.1
  have hd3 := hd.2.2
  have hlv := hd.lv
  have htl := ok_lvs t _ hd.1
  have hvi := fun hk => hd.var hk
  have hsh := fun (g : Heap) (hg : WF g) => shift_any g hg part d 0 (by omega) (by omega) (by omega) hpart
  obtain ⟨⟨q, e⟩, hqe⟩ : ∃ r, resShift d 0 part = r := ⟨_, rfl⟩
  rw [hqe] at hsh
  have hsm := fun (g : Heap) (hg : WF g) => tsame_any t.size t q g (Nat.le_refl _) (by omega) htl hg
  have hpl := fun (g : Heap) (hg : WF g) => plain_any g hg t hlv
  have hvis : visAbs part s t d = if (t.kind == part.kind && (t.kids.length : Int) == part.kids.length) = true then
    if (e == 0 && sameT t q) = true then (if 65535 < d then .bad 24 (IntKind.i64.wrap (s + 1)) else .done (vr d) (IntKind.i64.wrap (s + 1)))
    else absRest s t d
  else absRest s t d := by simp only [visAbs, hqe]
  rw [hvis]
  clear hvis hqe
  obtain ⟨r, hr⟩ : ∃ r, r = (if (t.kind == part.kind && (t.kids.length : Int) == part.kids.length) = true then
    if (e == 0 && sameT t q) = true then (if 65535 < d then .bad 24 (IntKind.i64.wrap (s + 1)) else .done (vr d) (IntKind.i64.wrap (s + 1)))
    else absRest s t d
  else absRest s t d) := ⟨_, rfl⟩
  rw [← hr]
  have hbd : absRest s t d = if (t.kind == 0 && decide (d ≤ t.index)) = true then (if 65535 < t.index + 1 then .bad 24 s else .done (vr (t.index + 1)) s) else .go t.bare s := by
    simp only [absRest, Bool.and_eq_true, beq_iff_eq, decide_eq_true_eq]
  obtain ⟨pk, pi, pnm, pls, pks⟩ := part
  obtain ⟨k, i, nm, ls, ks⟩ := t
  obtain ⟨qk, qi, qnm, qls, qks⟩ := q
  generalize absRest s (Tm.mk k i nm ls ks) d = ar at hbd hr
  simp only [Tm.kind, Tm.index] at hvi
  replace hr : r = if (k == pk && (ks.length : Int) == pks.length) = true then
    if (e == 0 && sameT (.mk k i nm ls ks) (.mk qk qi qnm qls qks)) = true then (if 65535 < d then .bad 24 (IntKind.i64.wrap (s + 1)) else .done (vr d) (IntKind.i64.wrap (s + 1))) else ar
    else ar := hr
  replace hbd : ar = if (k == 0 && decide (d ≤ i)) = true then (if 65535 < i + 1 then .bad 24 s else .done (vr (i + 1)) s) else .go (Tm.mk k i nm ls ks).bare s := hbd
  simp only [cells_mk, List.map] at cp
  simp only [List.cons_append, List.nil_append]
  refine ACalls.of_run Tryz.func100 rfl ?_
  simp only [Tryz.ntmps100, List.length_cons, List.length_nil, Tm.av, cells_mk, List.map]
  refine nv ?_
  refine Run.reg fun K hK => ?_
  simp [hlen]
  try (simp (disch := omega) only [wrap_id])
  refine hK _ _ _ ?_; clear hK K
  refine nv ?_
  refine Run.regJ [1, 2, 3, 4, 6, 7] 23 (k == pk && (ks.length : Int) == pks.length) (fun K hK => ?_) ?_
  · simp [gl0, cp]
    repeat' (first | apply And.intro | intro _)
    all_goals
      try (simp (disch := omega) only [wrap_id])
      refine hK _ ?_
      simp
      repeat' (first | exact WeakL.nil | apply WeakL.cons)
      all_goals first | exact Weak.junk _ | (refine Weak.bool ?_; clear hK K; rw [Bool.eq_iff_iff]; simp; done) | (refine Weak.bool ?_; clear hK K; rw [Bool.eq_iff_iff]; simp; omega) | (refine Weak.bool ?_; clear hK K; simp_all; done) | (refine Weak.bool ?_; clear hK K; simp [*]; done) | (refine Weak.bool ?_; clear hK K; rw [Bool.eq_iff_iff]; simp [*]; omega) | exact Weak.refl _
  simp only [setMany, keepT, keepT.go, List.contains_cons, List.set_cons_succ, List.set_cons_zero]
  simp
  by_cases hc : (k == pk && (ks.length : Int) == pks.length) = true ∧ e = 0 ∧ sameT (.mk k i nm ls ks) (.mk qk qi qnm qls qks) = true
  · obtain ⟨hc1, he, hsame⟩ := hc
    rw [if_pos hc1, if_pos (by rw [he, hsame]; rfl)] at hr
    refine nv ?_
    refine Run.cond (b := true) (by simp [hc1]) ?_
    simp only [if_true]
    refine nv ?_
    refine Run.reg fun K hK => ?_
    simp [cp]
    try (simp (disch := omega) only [wrap_id])
    refine hK _ _ _ ?_; clear hK K
    refine nv ?_
    refine Run.call (args := [(Tm.mk pk pi pnm pls pks).av, iA d, iA 0]) rfl rfl (by simp) rfl (hsh _ (hwL s _ (by simp))) ?_ ?_
    rotate_left
    · rintro v h' ⟨hv, _⟩; cases hv
    rintro v h' ⟨hv, rfl⟩
    simp only [AOut.ret.injEq] at hv
    subst hv
    refine Run.ops fun K hK => ?_
    simp [hlen, sl]
    try (simp (disch := omega) only [wrap_id])
    refine hK _ _ _ ?_; clear hK K
    refine nv ?_
    refine Run.reg fun K hK => ?_
    simp [he, gl, gl0]
    try (simp (disch := omega) only [wrap_id])
    refine hK _ _ _ ?_; clear hK K
    refine nv ?_
    refine Run.call (args := [(Tm.mk k i nm ls ks).av, (Tm.mk qk qi qnm qls qks).av]) rfl (by simp) (by simp) rfl (hsm _ (hwL s _ (by simp))) ?_ ?_
    rotate_left
    · rintro v h' ⟨hv, _⟩; cases hv
    rintro v h' ⟨hv, rfl⟩
    simp only [AOut.ret.injEq] at hv
    subst hv
    rw [hsame]
    refine Run.ops fun K hK => ?_
    simp
    try (simp (disch := omega) only [wrap_id])
    refine hK _ _ _ ?_; clear hK K
    refine nv ?_
    refine Run.cond (b := true) (by simp) ?_
    simp only [if_true]
    refine nv ?_
    refine Run.reg fun K hK => ?_
    simp [cn, hB2]
    try (simp (disch := omega) only [wrap_id])
    refine hK _ _ _ ?_; clear hK K
    refine nv ?_
    refine Run.reg fun K hK => ?_
    simp
    try (simp (disch := omega) only [wrap_id])
    refine hK _ _ _ ?_; clear hK K
    refine nv ?_
    refine Run.call (args := [iA d]) rfl rfl (by simp) rfl (moved_any _ (hwL _ _ (by simp)) d) ?_ ?_
    · rintro v h' ⟨hv, rfl⟩
      by_cases c4 : 65535 < d
      · rw [if_pos c4] at hv; cases hv
      · rw [if_neg c4] at hv hr
        simp only [AOut.ret.injEq] at hv
        subst hv
        try subst hr
        simp only [vr, Tm.av, cells_mk, List.map]
        refine Run.ops fun K hK => ?_
        simp [gl, sl]
        try (simp (disch := omega) only [wrap_id])
        refine hK _ _ _ ?_; clear hK K
        refine nv ?_
        refine Run.ret ?_
        refine Fin.ret' (h0 := B (IntKind.i64.wrap (s + 1)) ++ l) (by simp) (by simp [hlen]) (hwB _) (by simp; rfl) (by simp [gl]; rfl) rfl (Weak.refl _) (by simp) ?_
        simp [VPost]
    · rintro v h' ⟨hv, rfl⟩
      by_cases c4 : 65535 < d
      · rw [if_pos c4] at hv hr
        simp only [AOut.panic.injEq] at hv
        subst hv
        try subst hr
        exact Fin.pan (h0 := B (IntKind.i64.wrap (s + 1)) ++ l) (by simp [hlen]) (hwB _) (by simp; rfl) (by simp [VPost])
      · rw [if_neg c4] at hv; cases hv
  have hr2 : r = ar := by
    rw [hr]
    by_cases h1 : (k == pk && (ks.length : Int) == pks.length) = true
    · rw [if_pos h1]
      refine if_neg fun h2 => hc ⟨h1, ?_⟩
      simpa using h2
    · rw [if_neg h1]
  clear hr
  subst hr2
  refine Run.joinH [1, 2, 3, 4, 6] [(7, bA false)] (B s ++ (l ++ [some (.cells [iA k, iA i, .p (sP nm), .p (.sl 2 (lvPs ls)), .p (.sl 5 (tmPs ks))]), some (.cells zTm)])) (fun hJ => ?_) ?_
  · refine Run.condB rfl (fun h1 => ?_) (fun h1 => ?_)
    · refine nv ?_
      refine Run.reg fun K hK => ?_
      simp [cp]
      try (simp (disch := omega) only [wrap_id])
      refine hK _ _ _ ?_; clear hK K
      refine nv ?_
      refine Run.call (args := [(Tm.mk pk pi pnm pls pks).av, iA d, iA 0]) rfl rfl (by simp) rfl (hsh _ (hwL s _ (by simp))) ?_ ?_
      rotate_left
      · rintro v h' ⟨hv, _⟩; cases hv
      rintro v h' ⟨hv, rfl⟩
      simp only [AOut.ret.injEq] at hv
      subst hv
      refine Run.ops fun K hK => ?_
      simp [hlen, sl]
      try (simp (disch := omega) only [wrap_id])
      refine hK _ _ _ ?_; clear hK K
      refine nv ?_
      by_cases he : e = 0
      · have he2 : (e == 0) = true := by simp [he]
        refine nv ?_
        refine Run.reg fun K hK => ?_
        simp [he, gl, gl0]
        try (simp (disch := omega) only [wrap_id])
        refine hK _ _ _ ?_; clear hK K
        refine nv ?_
        refine Run.call (args := [(Tm.mk k i nm ls ks).av, (Tm.mk qk qi qnm qls qks).av]) rfl (by simp) (by simp) rfl (hsm _ (hwL s _ (by simp))) ?_ ?_
        rotate_left
        · rintro v h' ⟨hv, _⟩; cases hv
        rintro v h' ⟨hv, rfl⟩
        simp only [AOut.ret.injEq] at hv
        subst hv
        cases hsame : sameT (.mk k i nm ls ks) (.mk qk qi qnm qls qks) with
        | true => exact absurd ⟨h1, he, hsame⟩ hc
        | false =>
          refine Run.ops fun K hK => ?_
          simp
          try (simp (disch := omega) only [wrap_id])
          refine hK _ _ _ ?_; clear hK K
          refine nv ?_
          refine Run.cond (b := false) (by simp) ?_
          simp only [Bool.false_eq_true, if_false]
          repeat (first | refine Run.skip ?_ | refine Run.opsNil ?_ | refine Run.inBlock ?_)
          refine Run.keep [1, 2, 3, 4, 6, 7] ?_
          simp
          refine Run.cut3 n (hlen s) (hwL s _ (by simp)) (by simp [hlen]; try omega) (by simp; try omega) rfl ?_
          refine hJ _ ?_
          simp
          repeat' (first | exact WeakL.nil | apply WeakL.cons)
          all_goals first | exact Weak.junk _ | exact Weak.refl _ | exact Weak.nil _ | exact Weak.own _ _ _ | exact Weak.int (by omega)
      · have he2 : (e == 0) = false := by simpa using he
        refine nv ?_
        refine Run.reg fun K hK => ?_
        simp [he2]
        try (simp (disch := omega) only [wrap_id])
        refine hK _ _ _ ?_; clear hK K
        refine nv ?_
        refine Run.cond (b := false) (by simp) ?_
        simp only [Bool.false_eq_true, if_false]
        repeat (first | refine Run.skip ?_ | refine Run.opsNil ?_ | refine Run.inBlock ?_)
        refine Run.keep [1, 2, 3, 4, 6, 7] ?_
        simp
        refine Run.cut3 n (hlen s) (hwL s _ (by simp)) (by simp [hlen]; try omega) (by simp; try omega) rfl ?_
        refine hJ _ ?_
        simp
        repeat' (first | exact WeakL.nil | apply WeakL.cons)
        all_goals first | exact Weak.junk _ | exact Weak.refl _ | exact Weak.nil _ | exact Weak.own _ _ _ | exact Weak.int (by omega)
    · repeat (first | refine Run.skip ?_ | refine Run.opsNil ?_ | refine Run.inBlock ?_)
      refine hJ _ ?_
      simp
      repeat' (first | exact WeakL.nil | apply WeakL.cons)
      all_goals first | exact Weak.junk _ | exact Weak.refl _ | exact Weak.nil _ | exact Weak.own _ _ _ | exact Weak.int (by omega)
  refine nv ?_
  refine Run.regJ [1, 2, 3, 4, 6, 7] 49 (k == 0 && decide (d ≤ i)) (fun K hK => ?_) ?_
  · simp [gl0]
    repeat' (first | apply And.intro | intro _)
    all_goals
      try (simp (disch := omega) only [wrap_id])
      refine hK _ ?_
      simp
      repeat' (first | exact WeakL.nil | apply WeakL.cons)
      all_goals first | exact Weak.junk _ | (refine Weak.bool ?_; clear hK K; rw [Bool.eq_iff_iff]; simp; done) | (refine Weak.bool ?_; clear hK K; rw [Bool.eq_iff_iff]; simp; omega) | (refine Weak.bool ?_; clear hK K; simp_all; done) | (refine Weak.bool ?_; clear hK K; simp [*]; done) | (refine Weak.bool ?_; clear hK K; rw [Bool.eq_iff_iff]; simp [*]; omega) | exact Weak.refl _
  simp only [setMany, keepT, keepT.go, List.contains_cons, List.set_cons_succ, List.set_cons_zero]
  simp
  refine Run.condB rfl (fun h1 => ?_) (fun h1 => ?_)
  · rw [if_pos h1] at hbd
    subst hbd
    have h2 := h1
    simp only [Bool.and_eq_true, beq_iff_eq, decide_eq_true_eq] at h2
    have hv := hvi h2.1
    have hw1 : IntKind.i64.wrap (i + 1) = i + 1 := wrap_id (by omega) (by omega)
    refine nv ?_
    refine Run.reg fun K hK => ?_
    simp [gl0, hw1]
    try (simp (disch := omega) only [wrap_id])
    refine hK _ _ _ ?_; clear hK K
    refine nv ?_
    refine Run.call (args := [iA (i + 1)]) rfl rfl (by simp) rfl (moved_any _ (hwL _ _ (by simp)) (i + 1)) ?_ ?_
    · rintro v h' ⟨hv, rfl⟩
      by_cases c4 : 65535 < i + 1
      · rw [if_pos c4] at hv; cases hv
      · rw [if_neg c4] at hv ⊢
        simp only [AOut.ret.injEq] at hv
        subst hv
        generalize i + 1 = z
        simp only [vr, Tm.av, cells_mk, List.map]
        refine Run.ops fun K hK => ?_
        simp [gl, sl]
        try (simp (disch := omega) only [wrap_id])
        refine hK _ _ _ ?_; clear hK K
        refine nv ?_
        refine Run.ret ?_
        refine Fin.ret' (h0 := B s ++ l) (by simp) (by simp [hlen]) (hwB _) (by simp; rfl) (by simp [gl]; rfl) rfl (Weak.refl _) (by simp) ?_
        simp [VPost]
    · rintro v h' ⟨hv, rfl⟩
      by_cases c4 : 65535 < i + 1
      · rw [if_pos c4] at hv ⊢
        simp only [AOut.panic.injEq] at hv
        subst hv
        exact Fin.pan (h0 := B s ++ l) (by simp [hlen]) (hwB _) (by simp; rfl) (by simp [VPost])
      · rw [if_neg c4] at hv; cases hv
  · rw [if_neg (by rw [h1]; simp)] at hbd
    subst hbd
    refine nv ?_
    refine Run.reg fun K hK => ?_
    simp [gl0]
    try (simp (disch := omega) only [wrap_id])
    refine hK _ _ _ ?_; clear hK K
    refine nv ?_
    refine Run.call (args := [(Tm.mk k i nm ls ks).av]) rfl rfl (by simp) rfl (hpl _ (hwL _ _ (by simp))) ?_ ?_
    rotate_left
    · rintro v h' ⟨hv, _⟩; cases hv
    rintro v h' ⟨hv, rfl⟩
    simp only [AOut.ret.injEq] at hv
    subst hv
    simp only [Tm.bare, Tm.av, cells_mk, List.map]
    refine Run.ops fun K hK => ?_
    simp [gl, sl]
    try (simp (disch := omega) only [wrap_id])
    refine hK _ _ _ ?_; clear hK K
    refine nv ?_
    refine Run.ret ?_
    refine Fin.ret' (h0 := B s ++ l) (by simp) (by simp [hlen]) (hwB _) (by simp; rfl) (by simp [gl]; rfl) rfl (Weak.refl _) (by simp) ?_
    simp [VPost]

end Go.Proofs.YtcfcolkbeelegaaGreat
