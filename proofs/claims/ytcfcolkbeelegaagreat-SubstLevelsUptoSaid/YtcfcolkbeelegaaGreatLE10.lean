/-
  subst: Under, Subst.
-/
import Derived.Test.YtcfcolkbeelegaaGreatLE9
import Derived.Test.YtcfcolkbeelegaaGreatLE6
import Derived.Test.YtcfcolkbeelegaaGreatLE7

namespace Go.Proofs.YtcfcolkbeelegaaGreat

open Go Go.AI
set_option maxRecDepth 4000 in
theorem underDef_bad (h : Heap) (hh : WF h) (p q : Nat) {a b c d e0 : AV} {c0 : AV} (hp : h[p]? = some (some (.cells [a, b, c, d, e0]))) (hq : h[q]? = some (some (.cells [c0]))) (hpq : p ≠ q) (e : Int) :
    ADef Tryz.prog 153 [.ptr p 0, .ptr q 0] (some (.p (errP e))) h ((h.set p (some (.cells zTm))).set q (some (.cells [iA e]))) := by
  obtain ⟨p1, p2, p3, p4, p5, p6⟩ := idf hp
  have hq2 : (h.set p (some (.cells zTm)))[q]? = some (some (.cells [c0])) := by rw [List.getElem?_set_ne hpq]; exact hq
  refine ADef.of_run Tryz.func153 rfl rfl rfl fun K hK => ?_
  simp only [Tryz.ntmps153, List.length_cons, List.length_nil]
  simp [recA]
  refine hK _ _ ?_; clear hK K
  have hu : Tryz.prog.underlying 20 = some (.interface #[]) := by kernel_rfl
  refine nv ?_
  refine Run.reg fun K hK => ?_
  simp [hu]
  try (simp (disch := omega) only [wrap_id])
  refine hK _ _ _ ?_; clear hK K
  refine nv ?_
  refine Run.cond (b := true) (by simp) ?_
  simp only [if_true]
  refine nv ?_
  refine Run.reg fun K hK => ?_
  simp
  try (simp (disch := omega) only [wrap_id])
  refine hK _ _ _ ?_; clear hK K
  refine nv ?_
  refine Run.call (args := [.p (errP e)]) rfl rfl (by simp) rfl (caught_any h hh e) ?_ ?_
  · rintro v h' ⟨hv, rfl⟩
    simp only [AOut.ret.injEq] at hv
    subst hv
    refine Run.ops fun K hK => ?_
    simp [hp, hq2]
    try (simp (disch := omega) only [wrap_id])
    refine hK _ _ _ ?_; clear hK K
    refine nv ?_
    refine Run.nil ?_
    refine Fin.ret' (by simp) (by simp) ((hh.set (by simp)).set (by simp)) (List.append_nil _).symm rfl rfl (Weak.refl _) rfl ⟨⟨_, rfl⟩, rfl⟩
  · rintro v h' ⟨hv, _⟩; cases hv
set_option maxRecDepth 4000 in
theorem underDef_ok (h : Heap) (hh : WF h) (p q : Nat) : ADef Tryz.prog 153 [.ptr p 0, .ptr q 0] none h h := by
  refine ADef.of_run Tryz.func153 rfl rfl rfl fun K hK => ?_
  simp only [Tryz.ntmps153, List.length_cons, List.length_nil]
  simp [recA]
  refine hK _ _ ?_; clear hK K
  have hu : Tryz.prog.underlying 20 = some (.interface #[]) := by kernel_rfl
  refine nv ?_
  refine Run.reg fun K hK => ?_
  simp [hu]
  try (simp (disch := omega) only [wrap_id])
  refine hK _ _ _ ?_; clear hK K
  refine nv ?_
  refine Run.cond (b := false) (by simp) ?_
  simp only [Bool.false_eq_true, if_false]
  refine nv ?_
  refine Run.nil ?_
  exact Fin.ret' (by simp) rfl hh (List.append_nil _).symm rfl rfl (Weak.refl _) rfl ⟨⟨_, rfl⟩, rfl⟩
def DomU (t : Tm) (d : Int) : Prop := Dom 65536 t d ∧ d + t.size ≤ 2097152
theorem DomU.one : ∀ k i n ls ks d, DomU (.mk k i n ls ks) d → ks.length ≤ 1048576 ∧ 0 ≤ d ∧ d ≤ 1099511627776 := fun k i n ls ks d h => Dom.one k i n ls ks d h.1
theorem DomU.two : ∀ k i n ls ks d, DomU (.mk k i n ls ks) d → ∀ (j : Nat) (hj : j < ks.length), DomU ks[j] (d + belowZ k j) := fun k i n ls ks d h j hj => by
  refine ⟨Dom.two k i n ls ks d h.1 j hj, ?_⟩
  have h1 := h.2
  have h2 := kid_size hj
  have h3 := belowZ_01' k j
  simp only [Tm.size] at h1
  omega
def resUnder (t : Tm) (vs : List Tm) (dp : Int) : Tm × Int :=
  if dp < 0 then (zT, 2) else
  match bld (visCnt dp (vs.map fun v => (v.size : Int))) 0 t 0 with
  | .bad e _ => (zT, e)
  | .ok _ _ => match bld (visVar (repUnder dp vs)) 0 t 0 with
    | .bad e _ => (zT, e)
    | .ok t' _ => if 200 < (t'.depth : Int) then (zT, 7) else (t', 0)
def zcells (zs : List Int) (m : Nat) : List AV := (zs.map fun z => iA z) ++ List.replicate m (iA 0)
theorem zcells_len (zs : List Int) (m : Nat) : (zcells zs m).length = zs.length + m := by simp [zcells]
theorem zcells_put (zs : List Int) (m : Nat) (z : Int) : (zcells zs (m + 1)).set zs.length (iA z) = zcells (zs ++ [z]) m := by
  unfold zcells
  rw [List.set_append_right _ _ (by simp)]
  simp [List.replicate_succ]
theorem zcells_under (n : Nat) (zs : List Int) (m : Nat) : AV.underL n (zcells zs m) = true := by
  have : zcells zs m = (zs.map (fun z => iP z) ++ List.replicate m (iP 0)).map AV.p := by simp [zcells]
  rw [this]; exact underL_p _ _
set_option maxRecDepth 8000 in
set_option maxHeartbeats 8000000 in
theorem under_any (h : Heap) (hh : WF h) (t : Tm) (vs : List Tm) (dp : Int) (hd : DomU t 0) (hdp1 : dp ≤ 9223372036854775807) (hvl : vs.length ≤ 1048576) (hvd : ∀ v ∈ vs, Dom 65536 v 0) (hvs : ∀ v ∈ vs, v.size ≤ 1099511627776)
    (hout : 0 ≤ dp → ∀ t' s' u s2, bld (visCnt dp (vs.map fun v => (v.size : Int))) 0 t 0 = .ok u s2 → bld (visVar (repUnder dp vs)) 0 t 0 = .ok t' s' → t'.size ≤ 1099511627776) :
    ACalls Tryz.prog 98 [t.av, .p (.sl 5 (tmPs vs)), iA dp] h fun o h' => o = .ret (.tup [(resUnder t vs dp).1.av, iA (resUnder t vs dp).2]) ∧ h' = h := by
  obtain ⟨tc, htc⟩ : ∃ tc : List AV, tc = t.cells.map .p := ⟨_, rfl⟩
  by_cases hdp0 : dp < 0
  · have hr : resUnder t vs dp = (zT, 2) := by simp [resUnder, hdp0]
    rw [hr]
    obtain ⟨k, i, nm, ls, ks⟩ := t
    refine ACalls.of_runD Tryz.func98 rfl ?_
    simp only [Tryz.ntmps98, List.length_cons, List.length_nil, Tm.av, cells_mk, List.map]
    refine nv ?_
    refine Run.reg fun K hK => ?_
    simp
    try (simp (disch := omega) only [wrap_id])
    refine hK _ _ _ ?_; clear hK K
    refine nv ?_
    refine Run.reg fun K hK => ?_
    simp
    try (simp (disch := omega) only [wrap_id])
    refine hK _ _ _ ?_; clear hK K
    refine nv ?_
    refine Run.cond (b := true) (by simp [hdp0]) ?_
    simp only [if_true]
    refine nv ?_
    refine Run.reg fun K hK => ?_
    simp
    try (simp (disch := omega) only [wrap_id])
    refine hK _ _ _ ?_; clear hK K
    refine nv ?_
    refine Run.ret ?_
    simp only [FinD]
    refine Fin.ret' (h0 := h) (xs := [.agg zTm, iA 2]) (by simp) rfl hh rfl (by simp) rfl (Weak.tup (WeakL.cons Weak.zT (WeakL.refl _))) (by simp) ⟨rfl, rfl⟩
  have hout := hout (by omega)
  have hr : resUnder t vs dp = match bld (visCnt dp (vs.map fun v => (v.size : Int))) 0 t 0 with
    | .bad e _ => (zT, e)
    | .ok _ _ => match bld (visVar (repUnder dp vs)) 0 t 0 with
      | .bad e _ => (zT, e)
      | .ok t' _ => if 200 < (t'.depth : Int) then (zT, 7) else (t', 0) := by simp only [resUnder, hdp0, if_false]
  -- the blocks
  obtain ⟨zs, hzs⟩ : ∃ zs : List Int, zs = vs.map fun v => (v.size : Int) := ⟨_, rfl⟩
  rw [← hzs] at hr hout
  have hzl : zs.length = vs.length := by rw [hzs]; simp
  obtain ⟨B, hB⟩ : ∃ B : Int → Heap, B = fun s => h ++ [some (.cells tc), some (.cells [.p (.sl 5 (tmPs vs))]), some (.cells [iA dp]), some (.cells zTm), some (.cells [iA 0]), some (.cells [.fn (.func 154) [] [.ptr (h.length + 2) 0, .ptr (h.length + 1) 0]]),
    some (.cells (zs.map fun z => iA z)), some (.cells [.sm (h.length + 6) 0 vs.length vs.length 1]), some (.cells [iA s]), some (.cells [.ptr (h.length + 8) 0])] := ⟨_, rfl⟩
  have hlen : ∀ s, (B s).length = h.length + 10 := fun s => by rw [hB]; simp
  have hzu : ∀ n, AV.underL n (zs.map fun z => iA z) = true := fun n => by have := zcells_under n zs 0; simpa [zcells] using this
  have htu : ∀ n, AV.underL n tc = true := fun n => by rw [htc]; exact underL_p _ _
  have hwf : ∀ s, WF (B s) := fun s => by rw [hB]; exact hh.app (by simp [hzu, htu])
  have hcnt := build_any (visCnt dp zs) 156 rfl [.ptr (h.length + 5) 0, .ptr (h.length + 9) 0, .ptr (h.length + 7) 0] DomU DomU.one DomU.two t.size t 0 0 B (h.length + 10) (Nat.le_refl _) hd hlen hwf (by simp)
    (fun s t d l _ hw => cnt_any dp vs zs hzl B (h.length + 10) (h.length + 5) (h.length + 9) (h.length + 7) (h.length + 6) (h.length + 8) (h.length + 2) (h.length + 1) hlen hwf
      (fun s => by rw [hB]; simp) (fun s => by rw [hB]; simp) (fun s => by rw [hB]; simp) (fun s => by rw [hB]; simp) (fun s => by rw [hB]; simp) (fun s => by rw [hB]; simp) (fun s => by rw [hB]; simp) (fun s s' => by rw [hB]; simp) s t d l hw)
  generalize hc0 : bld (visCnt dp zs) 0 t 0 = cr at hcnt hr hout
  -- the second building
  have hbld : ∀ s, ACalls Tryz.prog 103 [.agg [.fn (.func 192) [] [.ptr (h.length + 10) 0]], t.av, iA 0] (B s ++ [some (.cells [.fn (.func 158) [] [.ptr (h.length + 5) 0, .ptr (h.length + 1) 0, .ptr (h.length + 2) 0]])])
      (BPost (fun _ => B s ++ [some (.cells [.fn (.func 158) [] [.ptr (h.length + 5) 0, .ptr (h.length + 1) 0, .ptr (h.length + 2) 0]])]) (bld (visVar (repUnder dp vs)) 0 t 0)) := by
    intro s
    obtain ⟨H, hH⟩ : ∃ H, H = B s ++ [some (.cells [.fn (.func 158) [] [.ptr (h.length + 5) 0, .ptr (h.length + 1) 0, .ptr (h.length + 2) 0]])] := ⟨_, rfl⟩
    rw [← hH]
    have hHl : H.length = h.length + 11 := by rw [hH, List.length_append, hlen]; rfl
    have hHw : WF H := by rw [hH]; exact (hwf s).app (by rw [hlen]; simp)
    have g8 : H[h.length + 5]? = some (some (.cells [.fn (.func 154) [] [.ptr (h.length + 2) 0, .ptr (h.length + 1) 0]])) := by rw [hH, hB]; simp
    have g4 : H[h.length + 1]? = some (some (.cells [.p (.sl 5 (tmPs vs))])) := by rw [hH, hB]; simp
    have g5 : H[h.length + 2]? = some (some (.cells [iA dp])) := by rw [hH, hB]; simp
    have g10 : H[h.length + 10]? = some (some (.cells [.fn (.func 158) [] [.ptr (h.length + 5) 0, .ptr (h.length + 1) 0, .ptr (h.length + 2) 0]])) := by rw [hH, hB]; simp
    exact build_any (visVar (repUnder dp vs)) 192 rfl [.ptr (h.length + 10) 0] DomU DomU.one DomU.two t.size t 0 0 (fun _ => H) (h.length + 11) (Nat.le_refl _) hd (fun _ => hHl) (fun _ => hHw) (by simp)
      (fun s t d l hd hw => var_vis (repUnder dp vs) 158 rfl [.ptr (h.length + 5) 0, .ptr (h.length + 1) 0, .ptr (h.length + 2) 0] (fun _ => H) (h.length + 11) (h.length + 10) (fun _ => hHl) (fun _ => hHw) (by simp) (fun _ => g10) s t d l hd.1.lv
        (fun l hk hw => (under4_any (H ++ l) hw dp vs (by omega) hdp1 hvl hvd (h.length + 5) (h.length + 1) (h.length + 2) ((idf g8).1 l) ((idf g4).1 l) ((idf g5).1 l) t d s hd.1 (by have := hd.2; omega) hk).mono fun _ _ hp => RPost.of_const (B := fun _ => H) (s := s) (fun _ => rfl) hp) hw)
  generalize hb0 : bld (visVar (repUnder dp vs)) 0 t 0 = br at hbld hr hout
  have hvar := fun s => variables_any (B s) (hwf s) 158 [.ptr (h.length + 5) 0, .ptr (h.length + 1) 0, .ptr (h.length + 2) 0] (by rw [hlen]; simp)
  simp only [hlen] at hvar
  have hkeep : ∀ (o : AOut), True := fun _ => trivial
  generalize resUnder t vs dp = r at hr ⊢
  obtain ⟨k, i, nm, ls, ks⟩ := t
  simp only [cells_mk, List.map] at htc
  subst htc
  refine ACalls.of_runD Tryz.func98 rfl ?_
  simp only [Tryz.ntmps98, List.length_cons, List.length_nil, Tm.av, cells_mk, List.map] at hcnt hbld ⊢
  refine nv ?_
  refine Run.reg fun K hK => ?_
  simp
  try (simp (disch := omega) only [wrap_id])
  refine hK _ _ _ ?_; clear hK K
  refine nv ?_
  refine Run.reg fun K hK => ?_
  simp
  try (simp (disch := omega) only [wrap_id])
  refine hK _ _ _ ?_; clear hK K
  refine nv ?_
  refine Run.cond (b := false) (by simp [hdp0]) ?_
  simp only [Bool.false_eq_true, if_false]
  refine nv ?_
  refine Run.reg fun K hK => ?_
  simp
  try (simp (disch := omega) only [wrap_id])
  refine hK _ _ _ ?_; clear hK K
  refine nv ?_
  refine Run.defer (i := 153) (first := []) (cap := [.ptr (h.length + 3) 0, .ptr (h.length + 4) 0]) rfl rfl rfl (by simp) ?_
  refine Run.ops fun K hK => ?_
  simp
  try (simp (disch := omega) only [wrap_id])
  refine hK _ _ _ ?_; clear hK K
  refine nv ?_
  refine Run.reg fun K hK => ?_
  simp
  try (simp (disch := omega) only [wrap_id])
  refine hK _ _ _ ?_; clear hK K
  refine nv ?_
  have hm1 : vs.length * 8 ≤ 140737488355328 := by omega
  have hm2 : vs.length ≤ 1099511627776 := by omega
  refine nv ?_
  refine Run.reg fun K hK => ?_
  simp [hm1, hm2]
  try (simp (disch := omega) only [wrap_id])
  refine hK _ _ _ ?_; clear hK K
  refine nv ?_
  rw [show List.replicate vs.length (iA 0) = zcells [] vs.length from by simp [zcells]]
  refine nv ?_
  refine Run.reg fun K hK => ?_
  simp
  try (simp (disch := omega) only [wrap_id])
  refine hK _ _ _ ?_; clear hK K
  refine nv ?_
  refine Run.loopS [3, 4, 5, 6, 7, 8, 9, 21, 22] (fun j : Nat => j ≤ vs.length) (fun j => vs.length - j) (fun j => [(23, iA j)])
    (fun j => h ++ [some (.cells [iA k, iA i, .p (sP nm), .p (.sl 2 (lvPs ls)), .p (.sl 5 (tmPs ks))]), some (.cells [.p (.sl 5 (tmPs vs))]), some (.cells [iA dp]), some (.cells zTm), some (.cells [iA 0]), some (.cells [.fn (.func 154) [] [.ptr (h.length + 2) 0, .ptr (h.length + 1) 0]]),
      some (.cells (zcells (zs.take j) (vs.length - j))), some (.cells [.sm (h.length + 6) 0 vs.length vs.length 1])]) 0 (by simp) ?_ (by simp) ?_
  · simp
    repeat' (first | exact WeakL.nil | apply WeakL.cons)
    all_goals first | exact Weak.junk _ | exact Weak.refl _ | exact Weak.nil _ | exact Weak.own _ _ _ | exact Weak.int (by omega)
  intro j hj IH
  simp
  refine nv ?_
  refine Run.reg fun K hK => ?_
  simp
  try (simp (disch := omega) only [wrap_id])
  refine hK _ _ _ ?_; clear hK K
  refine nv ?_
  by_cases hjl : j < vs.length
  · have hg : vs[j]? = some vs[j] := List.getElem?_eq_getElem hjl
    have hvj := hvs _ (List.getElem_mem hjl)
    have htk : zs.take (j + 1) = zs.take j ++ [(vs[j].size : Int)] := by
      rw [hzs, List.take_add_one, List.getElem?_map, hg]; rfl
    generalize vs[j] = u at hg hvj htk
    have hlz : (zs.take j).length = j := by rw [List.length_take, hzl]; omega
    have hj1 : j + 1 ≤ (zcells (zs.take j) (vs.length - j)).length := by rw [zcells_len, hlz]; omega
    have hput : (zcells (zs.take j) (vs.length - j)).set j (iA u.size) = zcells (zs.take (j + 1)) (vs.length - (j + 1)) := by
      have := zcells_put (zs.take j) (vs.length - (j + 1)) u.size
      rw [hlz, show vs.length - (j + 1) + 1 = vs.length - j by omega] at this
      rw [this, htk]
    have hts := fun (g : Heap) (hg : WF g) => tsize_any g hg u hvj
    refine nv ?_
    refine Run.cond (b := true) (by simp [hjl]) ?_
    simp only [if_true]
    refine nv ?_
    refine Run.reg fun K hK => ?_
    simp [hg]
    try (simp (disch := omega) only [wrap_id])
    refine hK _ _ _ ?_; clear hK K
    refine nv ?_
    refine Run.draw [0, 0, 0, 0, 1, 1] [0, 0, 0, 0, 0, 1] [0, 0, 0, 4, 15, 31] [2, 3, 0, 1, 4, 5] (by kernel_rfl) (by kernel_rfl) ?_
    refine DR.go fun K hK => ?_
    simp
    try (simp (disch := omega) only [wrap_id])
    refine hK _ _ _ _ ?_; clear hK K
    refine DR.call (args := [u.av]) rfl rfl rfl (by simp) rfl (hts _ (hh.app (by simp [zcells_under]))) ?_
    refine DR.go fun K hK => ?_
    simp [hjl, hj1, hput]
    try (simp (disch := omega) only [wrap_id])
    refine hK _ _ _ _ ?_; clear hK K
    change Run _ _ _ _ _ _ _ _
    refine nv ?_
    refine Run.reg fun K hK => ?_
    simp
    try (simp (disch := omega) only [wrap_id])
    refine hK _ _ _ ?_; clear hK K
    refine nv ?_
    refine Run.keep [3, 4, 5, 6, 7, 8, 9, 21, 22, 23] ?_
    simp
    refine Run.cutAt 8 hh rfl (by omega) (by simp) (by simp) (by simp [zcells_under]) (by simp [underD]) ?_
    refine IH (j + 1) _ _ (by omega) (by omega) ?_ (by simp)
    simp
    repeat' (first | exact WeakL.nil | apply WeakL.cons)
    all_goals first | exact Weak.junk _ | exact Weak.refl _ | exact Weak.nil _ | exact Weak.own _ _ _ | exact Weak.int (by omega)
  have hje : j = vs.length := by omega
  subst hje
  have hze : zcells (zs.take vs.length) (vs.length - vs.length) = zs.map fun z => iA z := by
    rw [← hzl, List.take_length, Nat.sub_self]; simp [zcells]
  refine nv ?_
  refine Run.cond (b := false) (by simp) ?_
  simp only [Bool.false_eq_true, if_false]
  refine nv ?_
  refine Run.exit rfl ?_
  refine nv ?_
  rw [hze]
  refine nv ?_
  refine Run.reg fun K hK => ?_
  simp
  try (simp (disch := omega) only [wrap_id])
  refine hK _ _ _ ?_; clear hK K
  refine nv ?_
  refine Run.reg fun K hK => ?_
  simp
  try (simp (disch := omega) only [wrap_id])
  refine hK _ _ _ ?_; clear hK K
  refine nv ?_
  simp only [hB] at hcnt hbld hvar
  have hcall := hcnt
  cases cr with
  | bad e s1 =>
    simp only at hr
    subst hr
    refine Run.call (args := [.agg [.fn (.func 156) [] [.ptr (h.length + 5) 0, .ptr (h.length + 9) 0, .ptr (h.length + 7) 0]], (Tm.mk k i nm ls ks).av, iA 0]) rfl rfl (by simp) rfl hcall ?_ ?_
    · intro v h' hR; simp [BPost] at hR
    · intro v h' hR
      simp only [BPost, AOut.panic.injEq] at hR
      obtain ⟨rfl, rfl⟩ := hR
      simp only [FinD]
      refine ⟨by simp, rfl, _, underDef_bad _ (hh.app (by simp [hzu])) (h.length + 3) (h.length + 4) (by simp; exact ⟨rfl, rfl, rfl, rfl, rfl⟩) (by simp; rfl) (by omega) e, ?_⟩
      simp
      refine Fin.ret' (h0 := h) (xs := [.agg zTm, iA e]) (by simp) rfl hh rfl (by simp) rfl (Weak.tup (WeakL.cons Weak.zT (WeakL.refl _))) (by simp) ⟨rfl, rfl⟩
  | ok u s1 =>
  refine Run.call (args := [.agg [.fn (.func 156) [] [.ptr (h.length + 5) 0, .ptr (h.length + 9) 0, .ptr (h.length + 7) 0]], (Tm.mk k i nm ls ks).av, iA 0]) rfl rfl (by simp) rfl hcall ?_ ?_
  rotate_left
  · intro v h' hR; simp [BPost] at hR
  intro v h' hR
  simp only [BPost, AOut.ret.injEq] at hR
  obtain ⟨rfl, rfl⟩ := hR
  obtain ⟨uk, ui, un, uls, uks⟩ := u
  have hvar := hvar s1
  have hbld := hbld s1
  simp only [List.append_assoc, List.cons_append, List.nil_append] at hbld
  cases br with
  | bad e s2 =>
    simp only at hr
    subst hr
    have hb2 := hbld.mono (R' := fun o h' => o = .panic (.p (errP e)) ∧ h' = _) (fun _ _ hp => hp)
    refine Run.ops fun K hK => ?_
    simp
    try (simp (disch := omega) only [wrap_id])
    refine hK _ _ _ ?_; clear hK K
    refine nv ?_
    refine Run.drawPanic [0, 0, 0, 1, 2] [0, 0, 0, 0, 0] [0, 1, 0, 7, 15] [0, 1, 2] 3 (by kernel_rfl) (by kernel_rfl) ?_
    refine DR.go fun K hK => ?_
    simp
    try (simp (disch := omega) only [wrap_id])
    refine hK _ _ _ _ ?_; clear hK K
    refine DR.call rfl rfl rfl (by simp) rfl hvar ?_
    refine DR.go fun K hK => ?_
    simp
    try (simp (disch := omega) only [wrap_id])
    refine hK _ _ _ _ ?_; clear hK K
    refine ⟨_, _, _, [.agg [.fn (.func 192) [] [.ptr (h.length + 10) 0]], (Tm.mk k i nm ls ks).av, iA 0], _, _, rfl, rfl, rfl, by simp, rfl, hb2, ?_⟩
    intro T' hT
    have hT6 := hT 6 (by simp)
    have hT7 := hT 7 (by simp)
    simp at hT6 hT7
    simp only [FinD]
    refine ⟨by simp, rfl, _, underDef_bad _ (hh.app (by simp [hzu])) (h.length + 3) (h.length + 4) (by simp; exact ⟨rfl, rfl, rfl, rfl, rfl⟩) (by simp; rfl) (by omega) e, ?_⟩
    simp
    refine Fin.ret' (h0 := h) (xs := [.agg zTm, iA e]) (by simp) rfl hh rfl (by simp [hT6, hT7]) rfl (Weak.tup (WeakL.cons Weak.zT (WeakL.refl _))) (by simp) ⟨rfl, rfl⟩
  | ok t2 s2 =>
    simp only at hr
    have hts := hout t2 s2 _ s1 rfl rfl
    have hb2 := hbld.mono (R' := fun o h' => o = .ret t2.av ∧ h' = _) (fun _ _ hp => hp)
    have hdep := fun (g : Heap) (hg : WF g) => tdepth_any t2.size t2 g (Nat.le_refl _) hts hg
    generalize t2.depth = dep at hr hdep
    obtain ⟨k2, i2, nm2, ls2, ks2⟩ := t2
    refine Run.ops fun K hK => ?_
    simp
    try (simp (disch := omega) only [wrap_id])
    refine hK _ _ _ ?_; clear hK K
    refine nv ?_
    refine Run.draw [0, 0, 0, 1, 2] [0, 0, 0, 1, 2] [0, 1, 0, 7, 15] [0, 1, 2, 3, 4] (by kernel_rfl) (by kernel_rfl) ?_
    refine DR.go fun K hK => ?_
    simp
    try (simp (disch := omega) only [wrap_id])
    refine hK _ _ _ _ ?_; clear hK K
    refine DR.call rfl rfl rfl (by simp) rfl hvar ?_
    refine DR.go fun K hK => ?_
    simp
    try (simp (disch := omega) only [wrap_id])
    refine hK _ _ _ _ ?_; clear hK K
    refine DR.call (args := [.agg [.fn (.func 192) [] [.ptr (h.length + 10) 0]], (Tm.mk k i nm ls ks).av, iA 0]) rfl rfl rfl (by simp) rfl hb2 ?_
    refine DR.go fun K hK => ?_
    simp
    try (simp (disch := omega) only [wrap_id])
    refine hK _ _ _ _ ?_; clear hK K
    change Run _ _ _ _ _ _ _ _
    refine nv ?_
    refine Run.reg fun K hK => ?_
    simp
    try (simp (disch := omega) only [wrap_id])
    refine hK _ _ _ ?_; clear hK K
    refine nv ?_
    refine Run.call (args := [(Tm.mk k2 i2 nm2 ls2 ks2).av]) rfl rfl (by simp) rfl (hdep _ (hh.app (by simp [hzu]))) ?_ ?_
    rotate_left
    · rintro v h' ⟨hv, _⟩; cases hv
    rintro v h' ⟨hv, rfl⟩
    simp only [AOut.ret.injEq] at hv
    subst hv
    refine Run.ops fun K hK => ?_
    simp
    try (simp (disch := omega) only [wrap_id])
    refine hK _ _ _ ?_; clear hK K
    refine nv ?_
    by_cases hdd : 200 < (dep : Int)
    · rw [if_pos hdd] at hr
      subst hr
      refine nv ?_
      refine Run.cond (b := true) (by simp [hdd]) ?_
      simp only [if_true]
      refine nv ?_
      refine Run.reg fun K hK => ?_
      simp
      try (simp (disch := omega) only [wrap_id])
      refine hK _ _ _ ?_; clear hK K
      refine nv ?_
      refine Run.ret ?_
      simp only [FinD]
      refine ⟨by simp, rfl, _, underDef_ok _ (hh.app (by simp [hzu])) (h.length + 3) (h.length + 4), ?_⟩
      refine Fin.ret' (h0 := h) (xs := [.agg zTm, iA 7]) (by simp) rfl hh rfl (by simp) rfl (Weak.tup (WeakL.cons Weak.zT (WeakL.refl _))) (by simp) ⟨rfl, rfl⟩
    · rw [if_neg hdd] at hr
      subst hr
      refine nv ?_
      refine Run.cond (b := false) (by simp [hdd]) ?_
      simp only [Bool.false_eq_true, if_false]
      refine nv ?_
      refine Run.reg fun K hK => ?_
      simp
      try (simp (disch := omega) only [wrap_id])
      refine hK _ _ _ ?_; clear hK K
      refine nv ?_
      refine Run.ret ?_
      simp only [FinD]
      refine ⟨by simp, rfl, _, underDef_ok _ (hh.app (by simp [hzu])) (h.length + 3) (h.length + 4), ?_⟩
      refine Fin.ret' (h0 := h) (by simp) rfl hh rfl (by simp; rfl) rfl (Weak.refl _) (by simp) ⟨rfl, rfl⟩

end Go.Proofs.YtcfcolkbeelegaaGreat
