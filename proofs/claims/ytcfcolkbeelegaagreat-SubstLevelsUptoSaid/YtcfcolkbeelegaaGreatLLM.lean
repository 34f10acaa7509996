/-
  subst: the builder of leveled: each level of a node is replaced.
-/
import Derived.Test.YtcfcolkbeelegaaGreatLLL
import Derived.Test.YtcfcolkbeelegaaGreatLE11

namespace Go.Proofs.YtcfcolkbeelegaaGreat

open Go Go.AI
def errL (f : Lv → Lv × Int) : List Lv → Int
  | [] => 0
  | l :: ls => if (f l).2 = 0 then errL f ls else (f l).2
theorem errL_at (f : Lv → Lv × Int) : ∀ (ls : List Lv) (j : Nat) (l : Lv), errL f (ls.take j) = 0 → ls[j]? = some l → (f l).2 ≠ 0 → errL f ls = (f l).2
  | [], j, l, _, h, _ => by simp at h
  | x :: ls, 0, l, _, h, he => by
    simp at h; subst h
    simp only [errL, if_neg he]
  | x :: ls, j + 1, l, h0, h, he => by
    simp only [List.take_succ_cons, errL] at h0
    by_cases c : (f x).2 = 0
    · rw [if_pos c] at h0
      simp only [errL, if_pos c]
      exact errL_at f ls j l h0 (by simpa using h) he
    · rw [if_neg c] at h0; exact absurd h0 c
theorem errL_snoc (f : Lv → Lv × Int) : ∀ (ls : List Lv) (j : Nat) (l : Lv), errL f (ls.take j) = 0 → ls[j]? = some l → (f l).2 = 0 → errL f (ls.take (j + 1)) = 0
  | [], j, l, _, h, _ => by simp at h
  | x :: ls, 0, l, _, h, he => by
    simp at h; subst h
    simp [errL, he]
  | x :: ls, j + 1, l, h0, h, he => by
    simp only [List.take_succ_cons, errL] at h0 ⊢
    by_cases c : (f x).2 = 0
    · rw [if_pos c] at h0 ⊢
      exact errL_snoc f ls j l h0 (by simpa using h) he
    · rw [if_neg c] at h0; exact absurd h0 c
def visLv (f : Lv → Lv × Int) (s : Int) (t : Tm) (_ : Int) : VO :=
  if errL f t.levels = 0 then .go (.mk t.kind t.index t.name (t.levels.map fun l => (f l).1) []) s else .bad (errL f t.levels) s
def rowL (f : Lv → Lv × Int) (ls : List Lv) (j : Nat) : List (List PV) := lvPs ((ls.take j).map (fun l => (f l).1) ++ ls.drop j)
theorem rowL_len2 (f : Lv → Lv × Int) (ls : List Lv) (j : Nat) : ∀ e ∈ rowL f ls j, e.length = 2 := by
  intro e he
  simp only [rowL, lvPs, List.mem_map] at he
  obtain ⟨a, _, rfl⟩ := he
  simp [Lv.cells]
theorem rowL_length (f : Lv → Lv × Int) (ls : List Lv) {j : Nat} (hj : j ≤ ls.length) : (rowL f ls j).length = ls.length := by
  simp [rowL, lvPs]; omega
theorem rowL_zero (f : Lv → Lv × Int) (ls : List Lv) : rowL f ls 0 = lvPs ls := by simp [rowL]
theorem rowL_all (f : Lv → Lv × Int) (ls : List Lv) : rowL f ls ls.length = lvPs (ls.map fun l => (f l).1) := by simp [rowL]
theorem rowL_set (f : Lv → Lv × Int) (ls : List Lv) {j : Nat} {l : Lv} (h : ls[j]? = some l) : (rowL f ls j).set j (f l).1.cells = rowL f ls (j + 1) := by
  have hj : j < ls.length := (List.getElem?_eq_some_iff.1 h).1
  have hg : ls[j] = l := (List.getElem?_eq_some_iff.1 h).2
  have htk : ls.take (j + 1) = ls.take j ++ [l] := by rw [List.take_add_one, h]; rfl
  have hdr : ls.drop j = l :: ls.drop (j + 1) := by rw [← hg]; exact List.drop_eq_getElem_cons hj
  unfold rowL
  rw [htk, hdr]
  have hl : (lvPs ((ls.take j).map fun l => (f l).1)).length = j := by simp [lvPs]; omega
  simp only [lvPs, List.map_append, List.map_cons, List.map_nil] at hl ⊢
  rw [List.set_append_right _ _ (by omega), hl, Nat.sub_self, List.set_cons_zero]
  simp
theorem buf_set {sz m j : Nat} {es : List (List PV)} {c : List PV} (hes : ∀ e ∈ es, e.length = sz) (hc : c.length = sz) (hj : j < es.length) : patch (buf sz es m) (j * sz) (c.map .p) = buf sz (es.set j c) m := by
  unfold buf
  have hle : j * sz + sz ≤ es.length * sz := by
    have : (j + 1) * sz ≤ es.length * sz := Nat.mul_le_mul_right _ hj
    rw [Nat.add_mul] at this; omega
  rw [patch_app _ _ _ _ (by rw [List.length_map, List.length_map, flat_length hes, hc]; exact hle), ← map_patch, flat_set _ _ _ _ hes hc hj]
set_option maxRecDepth 8000 in
set_option maxHeartbeats 8000000 in
theorem lev2_any (f : Lv → Lv × Int) (g : FuncId) (hg : enterable Tryz.prog g = true) (capR : List AV) (HH : Heap) (p : Nat) (hw : WF HH) (hp : ∀ l, (HH ++ l)[p]? = some (some (.cells [.fn (.func g) [] capR]))) (hpn : p < HH.length)
    (hR : ∀ l lv, lv.vars.length ≤ 1048576 → WF (HH ++ l) → ACalls Tryz.prog g ([lv.av] ++ capR) (HH ++ l) fun o h' => o = .ret (.tup [(f lv).1.av, iA (f lv).2]) ∧ h' = HH ++ l)
    (s : Int) (t : Tm) (d : Int) (hd : lvBound t.levels) :
    ACalls Tryz.prog 105 ([t.av, iA d] ++ [.ptr p 0]) HH (VPost (fun _ => HH) [] (visLv f s t d)) := by
  obtain ⟨k, i, nm, ls, ks⟩ := t
  simp only [Tm.levels] at hd
  have hvis : visLv f s (.mk k i nm ls ks) d = if errL f ls = 0 then .go (.mk k i nm (ls.map fun l => (f l).1) []) s else .bad (errL f ls) s := rfl
  rw [hvis]
  clear hvis
  simp only [List.cons_append, List.nil_append]
  by_cases hls : ls = []
  · subst hls
    have hpl := fun (g : Heap) (hg : WF g) => plain_any g hg (.mk k i nm [] ks) hd
    simp only [errL, if_true]
    refine ACalls.of_run Tryz.func105 rfl ?_
    simp only [Tryz.ntmps105, List.length_cons, List.length_nil, Tm.av, cells_mk, List.map]
    refine nv ?_
    refine Run.reg fun K hK => ?_
    simp
    try (simp (disch := omega) only [wrap_id])
    refine hK _ _ _ ?_; clear hK K
    refine nv ?_
    refine Run.reg fun K hK => ?_
    simp
    try (simp (disch := omega) only [wrap_id])
    refine hK _ _ _ ?_; clear hK K
    refine nv ?_
    refine Run.call rfl (by first | rfl | simp) (by simp) rfl (hpl _ (hw.app (by simp))) ?_ ?_
    rotate_left
    · rintro v h' ⟨hv, _⟩; cases hv
    rintro v h' ⟨hv, rfl⟩
    simp only [AOut.ret.injEq] at hv
    subst hv
    simp only [Tm.bare, Tm.av, cells_mk, List.map]
    refine Run.ops fun K hK => ?_
    simp
    try (simp (disch := omega) only [wrap_id])
    refine hK _ _ _ ?_; clear hK K
    refine nv ?_
    refine Run.reg fun K hK => ?_
    simp
    try (simp (disch := omega) only [wrap_id])
    refine hK _ _ _ ?_; clear hK K
    refine nv ?_
    refine Run.loop ?_
    refine nv ?_
    refine Run.reg fun K hK => ?_
    simp
    try (simp (disch := omega) only [wrap_id])
    refine hK _ _ _ ?_; clear hK K
    refine nv ?_
    refine Run.cond (b := false) (by simp) ?_
    simp only [Bool.false_eq_true, if_false]
    refine nv ?_
    refine Run.exit rfl ?_
    refine nv ?_
    refine Run.reg fun K hK => ?_
    simp
    try (simp (disch := omega) only [wrap_id])
    refine hK _ _ _ ?_; clear hK K
    refine nv ?_
    refine Run.ret ?_
    refine Fin.ret' (h0 := HH) (by simp) rfl hw rfl (by simp; rfl) rfl (Weak.refl _) (by simp) ?_
    simp [VPost, Tm.av]
  · have hpl := fun (g : Heap) (hg : WF g) => plainV_any g hg k i nm ls ks hd
    have hl0 : 0 < ls.length := List.length_pos_iff.2 hls
    have hlu := hd.1
    refine ACalls.of_run Tryz.func105 rfl ?_
    simp only [Tryz.ntmps105, List.length_cons, List.length_nil, Tm.av, cells_mk, List.map]
    refine nv ?_
    refine Run.reg fun K hK => ?_
    simp
    try (simp (disch := omega) only [wrap_id])
    refine hK _ _ _ ?_; clear hK K
    refine nv ?_
    refine Run.reg fun K hK => ?_
    simp
    try (simp (disch := omega) only [wrap_id])
    refine hK _ _ _ ?_; clear hK K
    refine nv ?_
    refine Run.call rfl (by first | rfl | simp) (by simp) rfl (hpl _ (hw.app (by simp))) ?_ ?_
    rotate_left
    · rintro v h' ⟨hv, _⟩; cases hv
    rintro v h' ⟨hv, rfl⟩
    simp only [AOut.ret.injEq] at hv
    subst hv
    refine Run.ops fun K hK => ?_
    simp
    try (simp (disch := omega) only [wrap_id])
    refine hK _ _ _ ?_; clear hK K
    refine nv ?_
    simp only [Nat.add_assoc, Nat.reduceAdd]

    refine Run.thawAt (HH.length + 6) 3 (id := HH.length + 5) (n := ls.length) (sz := 2) (es := lvPs ls) (by simp; rfl) (by simp) (by simp) (fun e he => by simp only [lvPs, List.mem_map] at he; obtain ⟨a, _, rfl⟩ := he; simp [Lv.cells]) (by simp [lvPs]) hl0 ?_
    intro cap hcap
    simp
    refine nv ?_
    refine Run.reg fun K hK => ?_
    simp
    try (simp (disch := omega) only [wrap_id])
    refine hK _ _ _ ?_; clear hK K
    refine nv ?_
    refine Run.loopS [2, 3, 5, 7, 15, 16] (fun j : Nat => j ≤ ls.length ∧ errL f (ls.take j) = 0) (fun j => ls.length - j) (fun j => [(17, iA j)])
      (fun j => HH ++ [some (.cells [iA k, iA i, .p (sP nm), .p (.sl 2 (lvPs ls)), .p (.sl 5 (tmPs ks))]), some (.cells [iA 0, iA 0, .p (sP []), .p (.prim (.slice none 0 0)), .p (.prim (.slice none 0 0))]),
        some (.cells [iA k, iA i, .p (sP nm), .p (.sl 2 (lvPs ls)), .p (.sl 5 (tmPs ks))]), some (.cells [iA k, iA i, .p (sP nm), .vec (HH.length + 5) ls.length, .p (.prim (.slice none 0 0))]),
        some (.cells [iA k, iA i, .p (sP nm), .vec (HH.length + 5) ls.length, .p (.prim (.slice none 0 0))]), none,
        some (.cells [iA k, iA i, .p (sP nm), .sm (HH.length + 7) 0 ls.length cap 2, .p (.prim (.slice none 0 0))]), some (.cells (buf 2 (rowL f ls j) (cap - ls.length)))]) 0 (by simp [errL]) ?_ (by simp [rowL_zero]) ?_
    · simp
      repeat' (first | exact WeakL.nil | apply WeakL.cons)
      all_goals first | exact Weak.junk _ | exact Weak.refl _ | exact Weak.nil _ | exact Weak.own _ _ _ | exact Weak.int (by omega)
    rintro j ⟨hj, her⟩ IH
    have hrl := rowL_length f ls hj
    have hr2 := rowL_len2 f ls j
    have hbl := buf_len (sz := 2) (m := cap - ls.length) hr2
    simp
    refine nv ?_
    refine Run.reg fun K hK => ?_
    simp
    try (simp (disch := omega) only [wrap_id])
    refine hK _ _ _ ?_; clear hK K
    refine nv ?_
    by_cases hjl : j < ls.length
    · have hgj : ls[j]? = some ls[j] := List.getElem?_eq_getElem hjl
      have hbv := hd.2 _ (List.getElem_mem hjl)
      have hst := rowL_set f ls hgj
      have hea := errL_at f ls j _ her hgj
      have hes := errL_snoc f ls j _ her hgj
      have hcl := fun (l : List (Option AO)) (hl : l.all (AO.under (HH.length + l.length)) = true) => hR l _ hbv (hw.app hl)
      generalize ls[j] = lv at hgj hbv hst hea hes hcl
      obtain ⟨⟨⟨c', vs'⟩, e⟩, hfe⟩ : ∃ r, f lv = r := ⟨_, rfl⟩
      rw [hfe] at hst hea hes hcl
      simp only at hst hea hes hcl
      obtain ⟨c, vs⟩ := lv
      have hput : ((buf 2 (rowL f ls j) (cap - ls.length)).set (j * 2) (AV.p (iP c'))).set (j * 2 + 1) (AV.p (.sl 2 (varPs vs'))) = buf 2 (rowL f ls (j + 1)) (cap - ls.length) := by
        rw [← hst]
        exact buf_set (c := (Lv.mk c' vs').cells) hr2 (by simp [Lv.cells]) (by rw [hrl]; exact hjl)
      have hle : j * 2 + 2 ≤ (buf 2 (rowL f ls j) (cap - ls.length)).length := by rw [hbl, hrl]; omega
      refine nv ?_
      refine Run.cond (b := true) (by simp [hjl]) ?_
      simp only [if_true]
      refine nv ?_
      refine Run.reg fun K hK => ?_
      simp [hgj, Lv.cells]
      try (simp (disch := omega) only [wrap_id])
      refine hK _ _ _ ?_; clear hK K
      refine nv ?_
      refine Run.regPre 2 fun K hK => ?_
      simp only [List.take_succ_cons, List.take_zero]
      simp [hp]
      try (simp (disch := omega) only [wrap_id])
      refine hK _ _ _ ?_; clear hK K
      simp only [List.nil_append, List.drop_succ_cons, List.drop_zero]
      simp only [List.cons_append, List.nil_append, Lv.av, Lv.cells, List.map] at hcl
      refine Run.call rfl (by first | rfl | simp) (by simp) hg (hcl _ (by simp [buf_under])) ?_ ?_
      rotate_left
      · rintro v h' ⟨hv, _⟩; cases hv
      rintro v h' ⟨hv, rfl⟩
      simp only [AOut.ret.injEq] at hv
      subst hv
      refine Run.ops fun K hK => ?_
      simp
      try (simp (disch := omega) only [wrap_id])
      refine hK _ _ _ ?_; clear hK K
      refine nv ?_
      refine Run.reg fun K hK => ?_
      simp
      try (simp (disch := omega) only [wrap_id])
      refine hK _ _ _ ?_; clear hK K
      refine nv ?_
      by_cases he : e = 0
      · refine nv ?_
        refine Run.cond (b := false) (by simp [he]) ?_
        simp only [Bool.false_eq_true, if_false]
        refine nv ?_
        refine Run.reg fun K hK => ?_
        simp [hjl, hle, hput]
        try (simp (disch := omega) only [wrap_id])
        refine hK _ _ _ ?_; clear hK K
        refine nv ?_
        refine Run.reg fun K hK => ?_
        simp
        try (simp (disch := omega) only [wrap_id])
        refine hK _ _ _ ?_; clear hK K
        refine nv ?_
        refine Run.keep [2, 3, 5, 7, 15, 16, 17] ?_
        simp only [keepT, keepT.go, List.contains_cons]
        simp
        refine Run.cutAt 8 hw rfl (by omega) (by simp) (by simp; omega) (by simp [buf_under]) rfl ?_
        simp
        refine IH (j + 1) _ _ ⟨by omega, hes he⟩ (by omega) ?_ rfl
        simp
        repeat' (first | exact WeakL.nil | apply WeakL.cons)
        all_goals first | exact Weak.junk _ | exact Weak.refl _ | exact Weak.nil _ | exact Weak.own _ _ _ | exact Weak.int (by omega)
      · have hee := hea he
        rw [if_neg (by rw [hee]; exact he), hee]
        refine nv ?_
        refine Run.cond (b := true) (by simp [he]) ?_
        simp only [if_true]
        refine nv ?_
        refine Run.reg fun K hK => ?_
        simp
        try (simp (disch := omega) only [wrap_id])
        refine hK _ _ _ ?_; clear hK K
        refine nv ?_
        refine Run.call (args := [iA e]) rfl (by first | rfl | simp) (by simp) rfl (stop_any _ (hw.app (by simp [buf_under])) e) ?_ ?_
        · rintro v h' ⟨hv, _⟩; cases hv
        rintro v h' ⟨hv, rfl⟩
        simp only [AOut.panic.injEq] at hv
        subst hv
        exact Fin.pan rfl hw rfl (by simp [VPost])
    · have hje : j = ls.length := by omega
      subst hje
      rw [List.take_length] at her
      rw [rowL_all] at hr2 hrl ⊢
      rw [if_pos her]
      refine nv ?_
      refine Run.cond (b := false) (by simp) ?_
      simp only [Bool.false_eq_true, if_false]
      refine nv ?_
      refine Run.exit rfl ?_
      refine nv ?_
      refine Run.freezeAt (HH.length + 6) 3 (id := HH.length + 7) (n := ls.length) (cap := cap) (sz := 2) (m := cap - ls.length) (es := lvPs (ls.map fun l => (f l).1)) (by simp; rfl) (by simp) (by simp) (by omega) hr2 (by simp [lvPs]) hcap ?_
      simp
      refine nv ?_
      refine Run.reg fun K hK => ?_
      simp
      try (simp (disch := omega) only [wrap_id])
      refine hK _ _ _ ?_; clear hK K
      refine nv ?_
      refine Run.ret ?_
      refine Fin.ret' (h0 := HH) (by simp) rfl hw rfl (by simp; rfl) rfl (y := .tup [(Tm.mk k i nm (ls.map fun l => (f l).1) []).av, bA false]) ?_ (by simp) ?_
      · refine Weak.tup (WeakL.cons (Weak.agg ?_) (WeakL.cons (Weak.refl _) WeakL.nil))
        repeat' (first | exact WeakL.nil | apply WeakL.cons)
        all_goals first | exact Weak.junk _ | exact Weak.refl _ | exact Weak.nil _ | exact Weak.own _ _ _ | exact Weak.int (by omega)
      · simp [VPost]

end Go.Proofs.YtcfcolkbeelegaaGreat
