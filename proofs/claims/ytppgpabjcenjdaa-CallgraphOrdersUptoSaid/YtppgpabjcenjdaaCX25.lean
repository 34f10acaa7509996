/-
  callgraph: the recursive fields of a constructor.
-/
import Derived.Test.YtppgpabjcenjdaaCX24
import Derived.Test.YtppgpabjcenjdaaCFS

namespace Go.Proofs.Ytppgpabjcenjdaa

open Go Go.AI Go.MapKept
def recsZ (d : Dc) (i : Nat) : Option (List Rc) := if (anaZ d).2 = 0 ∧ (anaZ d).1.st.kind ≠ 1 then ((anaZ d).1.cs[i]?).map Cn.rc else none
def fndR : List Rc → Nat → Option Nat
  | [], _ => none
  | r :: l, j => if r.i = j then some r.bs.length else fndR l j
def lenZ (d : Dc) (i j : Nat) : Option Nat := match recsZ d i with
  | some l => fndR l j
  | none => none
theorem recZ_inc (own : Tm) (np ni : Nat) : ∀ (l : List Tm) (i : Nat), (recZ own np ni l i).Pairwise (fun a b => a.i < b.i) ∧ ∀ r ∈ recZ own np ni l i, i ≤ r.i
  | [], i => by simp [recZ]
  | x :: l, i => by
    obtain ⟨h1, h2⟩ := recZ_inc own np ni l (i + 1)
    have h3 : ∀ r ∈ recOne own np ni i x, r.i = i := by
      unfold recOne
      split
      · intro r hr; simp at hr; rw [hr]
      · intro r hr; cases hr
    have h4 : (recOne own np ni i x).Pairwise (fun a b => a.i < b.i) := by
      unfold recOne
      split <;> simp
    simp only [recZ]
    refine ⟨List.pairwise_append.2 ⟨h4, h1, fun a ha b hb => ?_⟩, fun r hr => ?_⟩
    · have := h3 a ha; have := h2 b hb; omega
    · rcases List.mem_append.1 hr with h | h
      · have := h3 r h; omega
      · have := h2 r h; omega
theorem allCn_mem (f : Ct → Option Cn) : ∀ (l : List Ct) (r : List Cn), allCn f l = some r → ∀ x ∈ r, ∃ c ∈ l, f c = some x
  | [], r, h, x, hx => by simp only [allCn, Option.some.injEq] at h; subst h; cases hx
  | c :: l, r, h, x, hx => by
    simp only [allCn] at h
    cases hc : f c with
    | none => rw [hc] at h; cases h
    | some y =>
      rw [hc] at h
      simp only at h
      cases hl : allCn f l with
      | none => rw [hl] at h; cases h
      | some r' =>
        rw [hl] at h
        simp only [Option.some.injEq] at h
        subst h
        rcases List.mem_cons.1 hx with rfl | hx
        · exact ⟨c, by simp, hc⟩
        · obtain ⟨c', h1, h2⟩ := allCn_mem f l r' hl x hx
          exact ⟨c', List.mem_cons_of_mem _ h1, h2⟩
theorem ana_ok (d : Dc) (hd : d.good) (h : (anaZ d).2 = 0) : (anaZ d).1.cs.length = d.cs.length ∧ ∀ c ∈ (anaZ d).1.cs, c.rc.Pairwise (fun a b => a.i < b.i) ∧ c.rc.length ≤ 1048576 := by
  unfold anaZ at h ⊢
  split
  · rename_i hk; rw [if_pos hk] at h; simp at h
  rename_i hk
  rw [if_neg hk] at h
  split
  · rename_i hk; rw [if_pos hk] at h; simp at h
  rename_i hk2
  rw [if_neg hk2] at h
  split
  · rename_i hn; rw [hn] at h; simp at h
  rename_i cs hn
  refine ⟨allCn_len _ _ _ hn, fun c hc => ?_⟩
  obtain ⟨ct, hcm, hct⟩ := allCn_mem _ _ _ hn c hc
  have hg := hd.cs ct hcm
  have hl := (all_ok ct.ty hg.2.2 hg.1).2.2.2
  have hs := hg.1
  unfold ctorZ at hct
  split at hct
  · split at hct
    · cases hct
      refine ⟨(recZ_inc _ _ _ _ _).1, ?_⟩
      have := recZ_len (ownT d.nm d.ps) ((resAll d.ty).1.take d.fx.toNat).length ((resAll d.ty).1.drop d.fx.toNat).length ((resAll ct.ty).1.drop ((resAll d.ty).1.take d.fx.toNat).length) 0
      have h3 : ((resAll ct.ty).1.drop ((resAll d.ty).1.take d.fx.toNat).length).length ≤ (resAll ct.ty).1.length := by simp
      simp only
      omega
    · cases hct
  · cases hct
def kvR (l : List Rc) : List (Value × Value) := l.map fun r => (Value.int .i64 r.i, Value.int .i64 r.bs.length)
theorem kvR_snoc (l : List Rc) (r : Rc) : kvR l ++ [(.int .i64 r.i, .int .i64 r.bs.length)] = kvR (l ++ [r]) := by simp [kvR]
theorem kvR_key (l : List Rc) : ∀ x ∈ kvR l, IsKey (.int .i64) x.1 := by
  intro x hx
  obtain ⟨z, _, rfl⟩ := List.mem_map.1 hx
  rfl
theorem kvR_mem (l : List Rc) (z : Nat) : Value.int .i64 z ∈ (kvR l).map Prod.fst ↔ ∃ r ∈ l, r.i = z := by
  simp only [kvR, List.map_map, List.mem_map, Function.comp_apply, Value.int.injEq, true_and]
  constructor
  · rintro ⟨r, hr, e⟩; exact ⟨r, hr, by omega⟩
  · rintro ⟨r, hr, e⟩; exact ⟨r, hr, by omega⟩
theorem fndR_some : ∀ (l : List Rc) (j n : Nat), fndR l j = some n → ∃ r ∈ l, r.i = j ∧ r.bs.length = n
  | [], _, _, h => by simp [fndR] at h
  | r :: l, j, n, h => by
    simp only [fndR] at h
    split at h
    · rename_i e; exact ⟨r, by simp, e, by simpa using h⟩
    · obtain ⟨x, hx, h1⟩ := fndR_some l j n h
      exact ⟨x, List.mem_cons_of_mem _ hx, h1⟩
theorem fndR_none : ∀ (l : List Rc) (j : Nat), fndR l j = none → ∀ r ∈ l, r.i ≠ j
  | [], _, _, r, hr => by cases hr
  | r :: l, j, h, x, hx => by
    simp only [fndR] at h
    split at h
    · cases h
    · rename_i e
      rcases List.mem_cons.1 hx with rfl | hx
      · exact e
      · exact fndR_none l j h x hx
theorem inc_eq {l : List Rc} (hl : l.Pairwise (fun a b => a.i < b.i)) {a b : Rc} (ha : a ∈ l) (hb : b ∈ l) (e : a.i = b.i) : a = b := by
  induction l with
  | nil => cases ha
  | cons x l ih =>
    obtain ⟨h1, h2⟩ := List.pairwise_cons.1 hl
    rcases List.mem_cons.1 ha with rfl | ha' <;> rcases List.mem_cons.1 hb with rfl | hb'
    · rfl
    · have := h1 _ hb'; omega
    · have := h1 _ ha'; omega
    · exact ih h2 ha' hb'
theorem kvR_says (l : List Rc) (hl : l.Pairwise (fun a b => a.i < b.i)) (j : Nat) : MapSays (kvR l) (.int .i64 j) (.int .i64 0) (.int .i64 ((fndR l j).getD 0 : Nat)) (fndR l j).isSome := by
  cases hf : fndR l j with
  | none =>
    right
    refine ⟨rfl, fun hm => ?_, rfl⟩
    obtain ⟨r, hr, e⟩ := (kvR_mem l j).1 hm
    exact fndR_none l j hf r hr e
  | some n =>
    left
    obtain ⟨r, hr, e1, e2⟩ := fndR_some l j n hf
    refine ⟨rfl, fun v' hv => ?_, (kvR_mem l j).2 ⟨r, hr, e1⟩⟩
    obtain ⟨x, hx, e⟩ := List.mem_map.1 hv
    simp only [Prod.mk.injEq, Value.int.injEq, true_and] at e
    have : x = r := inc_eq hl hx hr (by have := e.1; omega)
    subst this
    rw [← e.2, e2]; rfl
set_option maxRecDepth 8000 in
set_option maxHeartbeats 16000000 in
theorem recs124_any (h : Heap) (hh : WF h) (c : Co) (hd : c.d.good) (hps : c.d.ps ≤ 1048576) (hi : c.i < c.d.cs.length) :
    ACalls Try.prog 124 [c.av] h fun o h' => match recsZ c.d c.i with
      | none => o = .ret (.p (.prim (.map none))) ∧ h' = h
      | some l => o = .ret (.mp (h.length + 2)) ∧ h' = h ++ [some (.cells (c.cells.map .p)), some (.cells ((anaZ c.d).1.cells.map .p)), some (.aux (.map (kvR l)))] := by
  obtain ⟨d, ci, as_⟩ := c
  simp only at hd hps hi ⊢
  have c1 := fun (g : Heap) (hw : WF g) => analyse_any g hw d hd hps
  have hana := ana_ok d hd
  obtain ⟨r, hr⟩ : ∃ r, r = recsZ d ci := ⟨_, rfl⟩
  rw [← hr]
  unfold recsZ at hr
  generalize anaZ d = q at c1 hana hr ⊢
  obtain ⟨⟨anm, apr, aps, aix, ⟨v1, v2, v3, v4, v5⟩, acs⟩, e⟩ := q
  simp only at c1 hana hr
  change r = (if e = 0 ∧ v1 ≠ 1 then (acs[ci]?).map Cn.rc else none) at hr
  obtain ⟨kk, nm, pr, ⟨k1, i1, n1, l1, s1⟩, ⟨k2, i2, n2, l2, s2⟩, fx, cs, rp, ⟨k3, i3, n3, l3, s3⟩, rr, fs⟩ := d
  simp only at hi hana
  clear hd
  simp only [Co.av, Co.cells, An.av, An.cells, Dc.av, Dc.cells, cells_mk, List.map, List.cons_append, List.nil_append] at c1 ⊢
  refine ACalls.of_run Try.func124 rfl ?_
  simp only [Try.ntmps124, List.length_cons, List.length_nil]
  refine Run.reg fun K hK => ?_
  simp
  refine hK _ _ _ ?_; clear hK K
  refine Run.reg fun K hK => ?_
  simp
  refine hK _ _ _ ?_; clear hK K
  refine Run.call rfl (by first | rfl | simp) (by simp) rfl (c1 _ (hh.app (by simp))) ?_ ?_
  rotate_left
  · rintro v h' ⟨hv, _⟩; cases hv
  rintro v h' ⟨hv, rfl⟩
  simp only [AOut.ret.injEq] at hv
  subst hv
  refine Run.ops fun K hK => ?_
  simp
  refine hK _ _ _ ?_; clear hK K
  by_cases e1 : e = 0
  rotate_left
  · have e1' : (e != 0) = true := by simpa using e1
    rw [if_neg (by simp [e1])] at hr
    refine Run.reg fun K hK => ?_
    simp [e1']
    refine hK _ _ _ ?_; clear hK K
    refine Run.cond (b := true) (by simp) ?_
    simp only [if_true]
    refine Run.reg fun K hK => ?_
    simp
    refine hK _ _ _ ?_; clear hK K
    refine Run.ret ?_
    rw [hr]
    exact Fin.ret' (h0 := h) (by simp) rfl hh rfl (by simp; rfl) rfl (Weak.refl _) (by simp) ⟨rfl, rfl⟩
  subst e1
  by_cases e2 : v1 = 1
  · rw [if_neg (by simp [e2])] at hr
    refine Run.reg fun K hK => ?_
    simp [e2]
    refine hK _ _ _ ?_; clear hK K
    refine Run.cond (b := true) (by simp) ?_
    simp only [if_true]
    refine Run.reg fun K hK => ?_
    simp
    refine hK _ _ _ ?_; clear hK K
    refine Run.ret ?_
    rw [hr]
    exact Fin.ret' (h0 := h) (by simp) rfl hh rfl (by simp; rfl) rfl (Weak.refl _) (by simp) ⟨rfl, rfl⟩
  have e2' : (v1 == 1) = false := by simpa using e2
  rw [if_pos ⟨rfl, e2⟩] at hr
  obtain ⟨hal, hinc⟩ := hana rfl
  have hcl : ci < acs.length := by rw [hal]; exact hi
  have hgc : acs[ci]? = some acs[ci] := List.getElem?_eq_getElem hcl
  obtain ⟨hpw, hrl⟩ := hinc _ (List.getElem_mem hcl)
  have hci : (ci : Int) < acs.length := by omega
  rw [hgc] at hr
  generalize acs[ci] = cn at hgc hr hpw hrl
  obtain ⟨cnm, cfs, rs, cix⟩ := cn
  simp only [Option.map_some] at hr hpw hrl
  rw [hr]
  refine Run.reg fun K hK => ?_
  simp [e2']
  refine hK _ _ _ ?_; clear hK K
  refine Run.cond (b := false) (by simp) ?_
  simp only [Bool.false_eq_true, if_false]
  refine Run.regPre 0 fun K hK => ?_
  simp only [List.take_zero]
  simp
  refine hK _ _ _ ?_; clear hK K
  simp only [List.nil_append, List.drop_zero]
  refine Run.makeMap rfl rfl ?_
  refine Run.ops fun K hK => ?_
  simp
  refine hK _ _ _ ?_; clear hK K
  refine Run.reg fun K hK => ?_
  simp [hgc, Cn.cells]
  refine hK _ _ _ ?_; clear hK K
  refine Run.loopS [5, 29, 30] (fun j : Nat => j ≤ rs.length) (fun j => rs.length - j) (fun j => [(31, iA j)])
    (fun j => h ++ [some (.cells [.p (iP kk), .p (sP nm), .p (iP pr), .p (iP k1), .p (iP i1), .p (sP n1), .p (.sl 2 (lvPs l1)), .p (.sl 5 (tmPs s1)), .p (iP k2), .p (iP i2), .p (sP n2), .p (.sl 2 (lvPs l2)), .p (.sl 5 (tmPs s2)), .p (iP fx), .p (.sl 6 (cs.map Ct.cells)), .p (iP rp), .p (iP k3), .p (iP i3), .p (sP n3), .p (.sl 2 (lvPs l3)), .p (.sl 5 (tmPs s3)), .p (.sl 5 (tmPs rr)), .p (.sl 15 (fs.map Fu.cells)), .p (iP ci), .p (.sl 5 (tmPs as_))]),
      some (.cells [.p (sP anm), .p (iP apr), .p (.sl 5 (tmPs aps)), .p (.sl 5 (tmPs aix)), .p (iP v1), .p (iP v2), .p (sP v3), .p (.sl 2 (lvPs v4)), .p (.sl 5 (tmPs v5)), .p (.sl 4 (cnPs acs))]), some (.aux (.map (kvR (rs.take j))))]) 0 (by simp) ?_ (by simp [kvR]) ?_
  · simp
    repeat' (first | exact WeakL.nil | apply WeakL.cons)
    all_goals first | exact Weak.junk _ | exact Weak.refl _ | exact Weak.nil _ | exact Weak.own _ _ _ | exact Weak.int (by omega)
  intro j hj IH
  simp
  refine Run.reg fun K hK => ?_
  simp
  refine hK _ _ _ ?_; clear hK K
  by_cases hjl : j < rs.length
  · have hg : rs[j]? = some rs[j] := List.getElem?_eq_getElem hjl
    have htk : rs.take (j + 1) = rs.take j ++ [rs[j]] := List.take_succ_eq_append_getElem hjl
    have hnew : Value.int .i64 rs[j].i ∉ (kvR (rs.take j)).map Prod.fst := fun hm => by
      obtain ⟨x, hx, e⟩ := (kvR_mem _ _).1 hm
      have := List.pairwise_append.1 (htk ▸ (hpw.sublist (List.take_sublist (j + 1) _)))
      have := this.2.2 x hx rs[j] (by simp)
      omega
    have hks := kvR_snoc (rs.take j) rs[j]
    rw [← htk] at hks
    generalize rs[j] = x at hg hnew hks
    obtain ⟨x1, x2, x3⟩ := x
    simp only at hnew hks
    refine Run.cond (b := true) (by simp [hjl]) ?_
    simp only [if_true]
    refine Run.reg fun K hK => ?_
    simp [hg, Rc.cells]
    refine hK _ _ _ ?_; clear hK K
    refine Run.regPre 6 fun K hK => ?_
    simp only [List.take_succ_cons, List.take_zero]
    simp
    refine hK _ _ _ ?_; clear hK K
    simp only [List.nil_append, List.drop_succ_cons, List.drop_zero]
    refine Run.mapUpdate (kt := 3) (et := 3) (d := .int .i64) (id := h.length + 2) (kvs := kvR (rs.take j)) (v := .int .i64 x2.length) (key := .int .i64 x1) rfl (by simp [awanted]) Try.underlying135 Try.underlying3 (by simp) (by simp) (kvR_key _) (by simp) rfl hnew (by simp) ?_
    rw [hks]
    simp
    refine Run.ops fun K hK => ?_
    simp
    refine hK _ _ _ ?_; clear hK K
    refine Run.reg fun K hK => ?_
    simp
    refine hK _ _ _ ?_; clear hK K
    refine Run.keep [5, 29, 30, 31] ?_
    simp
    refine Run.cutAt 3 hh rfl (by omega) (by simp) (by simp [AV.under]) (by simp [AO.under]) rfl ?_
    refine IH (j + 1) _ _ (by omega) (by omega) ?_ (by simp)
    simp
    repeat' (first | exact WeakL.nil | apply WeakL.cons)
    all_goals first | exact Weak.junk _ | exact Weak.refl _ | exact Weak.nil _ | exact Weak.own _ _ _ | exact Weak.int (by omega)
  · have hje : j = rs.length := by omega
    subst hje
    rw [List.take_length]
    refine Run.cond (b := false) (by simp) ?_
    simp only [Bool.false_eq_true, if_false]
    refine Run.exit rfl ?_
    refine Run.reg fun K hK => ?_
    simp
    refine hK _ _ _ ?_; clear hK K
    refine Run.ret ?_
    refine Fin.retM (h0 := h ++ [some (.cells [.p (iP kk), .p (sP nm), .p (iP pr), .p (iP k1), .p (iP i1), .p (sP n1), .p (.sl 2 (lvPs l1)), .p (.sl 5 (tmPs s1)), .p (iP k2), .p (iP i2), .p (sP n2), .p (.sl 2 (lvPs l2)), .p (.sl 5 (tmPs s2)), .p (iP fx), .p (.sl 6 (cs.map Ct.cells)), .p (iP rp), .p (iP k3), .p (iP i3), .p (sP n3), .p (.sl 2 (lvPs l3)), .p (.sl 5 (tmPs s3)), .p (.sl 5 (tmPs rr)), .p (.sl 15 (fs.map Fu.cells)), .p (iP ci), .p (.sl 5 (tmPs as_))]),
      some (.cells [.p (sP anm), .p (iP apr), .p (.sl 5 (tmPs aps)), .p (.sl 5 (tmPs aix)), .p (iP v1), .p (iP v2), .p (sP v3), .p (.sl 2 (lvPs v4)), .p (.sl 5 (tmPs v5)), .p (.sl 4 (cnPs acs))]), some (.aux (.map (kvR rs)))]) (l := []) (by simp) (by simp) (hh.app (by simp [AO.under])) (by simp) (by simp; rfl) rfl (Weak.refl _) (by simp [AV.under]) ⟨rfl, rfl⟩
set_option maxRecDepth 8000 in
set_option maxHeartbeats 16000000 in
theorem recs126_any (h : Heap) (hh : WF h) (d : Dc) (ci j0 : Nat) (hd : d.good) (hps : d.ps ≤ 8) (hi : ci < d.cs.length) :
    ACalls Try.prog 126 [d.av, iA ci, iA j0] h fun o h' => o = .ret (.tup [iA ((lenZ d ci j0).getD 0 : Nat), bA (lenZ d ci j0).isSome]) ∧ h' = h := by
  have c1 := fun (g : Heap) (hw : WF g) => refAnalyse_any g hw d hd hps
  have hana := ana_ok d hd
  obtain ⟨r, hr⟩ : ∃ r, r = lenZ d ci j0 := ⟨_, rfl⟩
  rw [← hr]
  unfold lenZ recsZ at hr
  generalize anaZ d = q at c1 hana hr ⊢
  obtain ⟨⟨anm, apr, aps, aix, ⟨v1, v2, v3, v4, v5⟩, acs⟩, e⟩ := q
  simp only at c1 hana hr
  obtain ⟨kk, nm, pr, ⟨k1, i1, n1, l1, s1⟩, ⟨k2, i2, n2, l2, s2⟩, fx, cs, rp, ⟨k3, i3, n3, l3, s3⟩, rr, fs⟩ := d
  simp only at hi hana
  clear hd
  change r = (match (if e = 0 ∧ v1 ≠ 1 then (acs[ci]?).map Cn.rc else none) with | some l => fndR l j0 | none => none) at hr
  simp only [An.av, An.cells, Dc.av, Dc.cells, cells_mk, List.map, List.cons_append, List.nil_append] at c1 ⊢
  refine ACalls.of_run Try.func126 rfl ?_
  simp only [Try.ntmps126, List.length_cons, List.length_nil]
  refine Run.reg fun K hK => ?_
  simp
  refine hK _ _ _ ?_; clear hK K
  refine Run.reg fun K hK => ?_
  simp
  refine hK _ _ _ ?_; clear hK K
  refine Run.call rfl (by first | rfl | simp) (by simp) rfl (c1 _ (hh.app (by simp))) ?_ ?_
  rotate_left
  · rintro v h' ⟨hv, _⟩; cases hv
  rintro v h' ⟨hv, rfl⟩
  simp only [AOut.ret.injEq] at hv
  subst hv
  refine Run.ops fun K hK => ?_
  simp
  refine hK _ _ _ ?_; clear hK K
  by_cases e1 : e = 0
  rotate_left
  · have e1' : (e != 0) = true := by simpa using e1
    rw [if_neg (by simp [e1])] at hr
    refine Run.reg fun K hK => ?_
    simp [e1']
    refine hK _ _ _ ?_; clear hK K
    refine Run.cond (b := true) (by simp) ?_
    simp only [if_true]
    refine Run.reg fun K hK => ?_
    simp
    refine hK _ _ _ ?_; clear hK K
    refine Run.ret ?_
    exact Fin.ret' (h0 := h) (by simp) rfl hh rfl (by simp; rfl) rfl (Weak.refl _) (by simp) ⟨by rw [hr]; rfl, rfl⟩
  subst e1
  obtain ⟨hal, hinc⟩ := hana rfl
  have hcl : ci < acs.length := by rw [hal]; exact hi
  have hci : (ci : Int) < acs.length := by omega
  have hci2 : ¬ (acs.length : Int) ≤ ci := by omega
  by_cases e2 : v1 = 1
  · rw [if_neg (by simp [e2])] at hr
    refine Run.reg fun K hK => ?_
    simp [e2, hci2]
    refine hK _ _ _ ?_; clear hK K
    refine Run.cond (b := true) (by simp) ?_
    simp only [if_true]
    refine Run.reg fun K hK => ?_
    simp
    refine hK _ _ _ ?_; clear hK K
    refine Run.ret ?_
    exact Fin.ret' (h0 := h) (by simp) rfl hh rfl (by simp; rfl) rfl (Weak.refl _) (by simp) ⟨by rw [hr]; rfl, rfl⟩
  have e2' : (v1 == 1) = false := by simpa using e2
  rw [if_pos ⟨rfl, e2⟩] at hr
  have hgc : acs[ci]? = some acs[ci] := List.getElem?_eq_getElem hcl
  obtain ⟨hpw, hrl⟩ := hinc _ (List.getElem_mem hcl)
  rw [hgc] at hr
  generalize acs[ci] = cn at hgc hr hpw hrl
  obtain ⟨cnm, cfs, rs, cix⟩ := cn
  simp only [Option.map_some] at hr hpw hrl
  refine Run.reg fun K hK => ?_
  simp [e2', hci2]
  refine hK _ _ _ ?_; clear hK K
  refine Run.cond (b := false) (by simp) ?_
  simp only [Bool.false_eq_true, if_false]
  refine Run.reg fun K hK => ?_
  simp [hgc, Cn.cells]
  refine hK _ _ _ ?_; clear hK K
  refine Run.reg fun K hK => ?_
  simp
  refine hK _ _ _ ?_; clear hK K
  refine Run.loopS [1, 2, 10] (fun j : Nat => j ≤ rs.length ∧ r = fndR (rs.drop j) j0) (fun j => rs.length - j) (fun j => [(11, iA j)]) (fun _ => _) 0 (by simp [hr]) ?_ rfl ?_
  · simp
    repeat' (first | exact WeakL.nil | apply WeakL.cons)
    all_goals first | exact Weak.junk _ | exact Weak.refl _ | exact Weak.nil _ | exact Weak.own _ _ _ | exact Weak.int (by omega)
  rintro j ⟨hj, hrj⟩ IH
  simp
  refine Run.reg fun K hK => ?_
  simp
  refine hK _ _ _ ?_; clear hK K
  by_cases hjl : j < rs.length
  · have hg : rs[j]? = some rs[j] := List.getElem?_eq_getElem hjl
    rw [List.drop_eq_getElem_cons hjl] at hrj
    simp only [fndR] at hrj
    generalize rs[j] = x at hg hrj
    obtain ⟨x1, x2, x3⟩ := x
    simp only at hrj
    refine Run.cond (b := true) (by simp [hjl]) ?_
    simp only [if_true]
    refine Run.reg fun K hK => ?_
    simp [hg, Rc.cells]
    refine hK _ _ _ ?_; clear hK K
    by_cases e3 : x1 = j0
    · rw [if_pos e3] at hrj
      refine Run.cond (b := true) (by simp [e3]) ?_
      simp only [if_true]
      refine Run.reg fun K hK => ?_
      simp [hg, Rc.cells]
      refine hK _ _ _ ?_; clear hK K
      refine Run.ret ?_
      exact Fin.ret' (h0 := h) (by simp) rfl hh rfl (by simp; rfl) rfl (Weak.refl _) (by simp) ⟨by rw [hrj]; rfl, rfl⟩
    · rw [if_neg e3] at hrj
      have e3' : ¬ (x1 : Int) = j0 := by omega
      refine Run.cond (b := false) (by simp [e3']) ?_
      simp only [Bool.false_eq_true, if_false]
      refine Run.reg fun K hK => ?_
      simp
      refine hK _ _ _ ?_; clear hK K
      refine IH (j + 1) _ _ ⟨by omega, hrj⟩ (by omega) ?_ rfl
      simp
      repeat' (first | exact WeakL.nil | apply WeakL.cons)
      all_goals first | exact Weak.junk _ | exact Weak.refl _ | exact Weak.nil _ | exact Weak.own _ _ _ | exact Weak.int (by omega)
  · have hje : j = rs.length := by omega
    subst hje
    rw [List.drop_length] at hrj
    simp only [fndR] at hrj
    refine Run.cond (b := false) (by simp) ?_
    simp only [Bool.false_eq_true, if_false]
    refine Run.exit rfl ?_
    refine Run.reg fun K hK => ?_
    simp
    refine hK _ _ _ ?_; clear hK K
    refine Run.ret ?_
    exact Fin.ret' (h0 := h) (by simp) rfl hh rfl (by simp; rfl) rfl (Weak.refl _) (by simp) ⟨by rw [hrj]; rfl, rfl⟩

end Go.Proofs.Ytppgpabjcenjdaa
