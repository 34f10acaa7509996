/-
  slices.Sort at []int of this program is the sort of the kit's shelf.
-/
import Derived.Test.YtcfcolkbeelegaaGreatLM2
import Derived.Test.YtcfcolkbeelegaaGreatLE2
import Derived.Test.YtcfcolkbeelegaaGreatLLC
import Derived.Test.YtcfcolkbeelegaaGreatProg
import Derived.Shelf.Lays
import Derived.KernelRfl

namespace Go.Proofs.YtcfcolkbeelegaaGreat

open Go Go.AI
def noAt (p : Lv → Bool) (ls : List Lv) (j : Nat) : Bool := match ls[j]? with | some l => !p l | none => true
theorem noAt_all (p : Lv → Bool) (ls : List Lv) : (!allTo (noAt p ls) ls.length) = ls.any p := by
  have h1 : allTo (noAt p ls) ls.length = true ↔ ∀ l ∈ ls, p l = false := by
    rw [allTo_iff]
    constructor
    · intro h l hl
      obtain ⟨j, hj⟩ := List.getElem?_of_mem hl
      have := h j (List.getElem?_eq_some_iff.1 hj).1
      simpa [noAt, hj] using this
    · intro h j hj
      have hg : ls[j]? = some ls[j] := List.getElem?_eq_getElem hj
      simp [noAt, hg, h _ (List.getElem_mem hj)]
  cases e : ls.any p with
  | true =>
    obtain ⟨l, hl, hp⟩ := List.any_eq_true.1 e
    cases e2 : allTo (noAt p ls) ls.length with
    | false => rfl
    | true => have := h1.1 e2 l hl; rw [hp] at this; cases this
  | false =>
    have := h1.2 fun l hl => by
      have := List.any_eq_false.1 e l hl
      simpa using this
    rw [this]; rfl
set_option maxRecDepth 8000 in
set_option maxHeartbeats 4000000 in
theorem idxLv_any (g : FuncId) (hg : enterable Tryz.prog g = true) (p : Lv → Bool) (h : Heap) (hh : WF h) (ls : List Lv) (hb : ls.length ≤ 1048576) (hc : ∀ l ∈ ls, ACalls Tryz.prog g [l.av] h fun o h' => o = .ret (bA (p l)) ∧ h' = h) :
    ACalls Tryz.prog 94 [.p (.sl 2 (lvPs ls)), .p (.prim (.func (.func g) #[] #[]))] h fun o h' => ∃ r : Int, o = .ret (iA r) ∧ h' = h ∧ decide (0 ≤ r) = ls.any p := by
  refine ACalls.of_run Tryz.func94 rfl ?_
  simp only [Tryz.ntmps94, List.length_cons, List.length_nil]
  refine nv ?_
  refine Run.reg fun K hK => ?_
  simp
  try (simp (disch := omega) only [wrap_id])
  refine hK _ _ _ ?_; clear hK K
  refine nv ?_
  refine Run.reg fun K hK => ?_
  simp
  try (simp (disch := omega) only [wrap_id])
  refine hK _ _ _ ?_; clear hK K
  refine nv ?_
  refine Run.loopS [0, 1, 6, 7] (fun j : Nat => j ≤ ls.length ∧ allTo (noAt p ls) j = true) (fun j => ls.length - j) (fun j => [(8, iA j)]) (fun _ => _) 0 (by simp [allTo]) ?_ rfl ?_
  · simp
    repeat' (first | exact WeakL.nil | apply WeakL.cons)
    all_goals first | exact Weak.junk _ | exact Weak.refl _ | exact Weak.nil _ | exact Weak.own _ _ _ | exact Weak.int (by omega)
  · rintro j ⟨hj, hall⟩ IH
    simp
    refine nv ?_
    refine Run.reg fun K hK => ?_
    simp
    try (simp (disch := omega) only [wrap_id])
    refine hK _ _ _ ?_; clear hK K
    refine nv ?_
    by_cases hjl : j < ls.length
    · have hg' : ls[j]? = some ls[j] := List.getElem?_eq_getElem hjl
      have hcu := hc _ (List.getElem_mem hjl)
      generalize ls[j] = u at hg' hcu
      refine nv ?_
      refine Run.cond (b := true) (by simp [hjl]) ?_
      simp only [if_true]
      refine nv ?_
      refine Run.reg fun K hK => ?_
      simp
      try (simp (disch := omega) only [wrap_id])
      refine hK _ _ _ ?_; clear hK K
      refine nv ?_
      refine Run.reg fun K hK => ?_
      simp [hg']
      try (simp (disch := omega) only [wrap_id])
      refine hK _ _ _ ?_; clear hK K
      refine nv ?_
      refine Run.call (args := [u.av]) rfl rfl (by simp) hg hcu ?_ ?_
      · rintro v h' ⟨hv, rfl⟩
        simp only [AOut.ret.injEq] at hv
        subst hv
        refine Run.ops fun K hK => ?_
        simp
        try (simp (disch := omega) only [wrap_id])
        refine hK _ _ _ ?_; clear hK K
        refine nv ?_
        by_cases h1 : p u = true
        · refine nv ?_
          refine Run.cond (b := true) (by simp [h1]) ?_
          simp only [if_true]
          refine nv ?_
          repeat (first
            | refine Run.seq ?_ | refine Run.block ?_ | refine Run.skip ?_ | refine Run.inBlock ?_ | refine Run.opsNil ?_
            | (refine Run.reg fun K hK => ?_; simp; (try (simp (disch := omega) only [wrap_id])); refine hK _ _ _ ?_; clear hK K)
            | (refine Run.cond (b := true) rfl ?_; simp only [if_true])
            | (refine Run.cond (b := false) rfl ?_; simp only [Bool.false_eq_true, if_false])
            | refine Run.exit rfl ?_ | refine Run.ret ?_)
          have := allTo_false (p := noAt p ls) hjl (by simp only [noAt, hg']; simp [h1])
          exact Fin.ret' (by simp) rfl hh (List.append_nil _).symm rfl rfl (Weak.refl _) rfl ⟨j, rfl, rfl, by rw [← noAt_all, this]; simp⟩
        · have h1 : p u = false := by simpa using h1
          refine nv ?_
          refine Run.cond (b := false) (by simp [h1]) ?_
          simp only [Bool.false_eq_true, if_false]
          refine nv ?_
          refine Run.reg fun K hK => ?_
          simp
          try (simp (disch := omega) only [wrap_id])
          refine hK _ _ _ ?_; clear hK K
          refine nv ?_
          refine IH (j + 1) _ _ ⟨by omega, by rw [allTo_succ, hall]; simp only [noAt, hg']; simp [h1]⟩ (by omega) ?_ rfl
          simp
          repeat' (first | exact WeakL.nil | apply WeakL.cons)
          all_goals first | exact Weak.junk _ | exact Weak.refl _ | exact Weak.nil _ | exact Weak.own _ _ _ | exact Weak.int (by omega)
      · rintro v h' ⟨hv, _⟩; cases hv
    · have hje : j = ls.length := by omega
      subst hje
      refine nv ?_
      refine Run.cond (b := false) (by simp) ?_
      simp only [Bool.false_eq_true, if_false]
      refine nv ?_
      refine Run.exit rfl ?_
      refine nv ?_
      repeat (first
        | refine Run.seq ?_ | refine Run.block ?_ | refine Run.skip ?_ | refine Run.inBlock ?_ | refine Run.opsNil ?_
        | (refine Run.reg fun K hK => ?_; simp; (try (simp (disch := omega) only [wrap_id])); refine hK _ _ _ ?_; clear hK K)
        | (refine Run.cond (b := true) rfl ?_; simp only [if_true])
        | (refine Run.cond (b := false) rfl ?_; simp only [Bool.false_eq_true, if_false])
        | refine Run.exit rfl ?_ | refine Run.ret ?_)
      exact Fin.ret' (by simp) rfl hh (List.append_nil _).symm rfl rfl (Weak.refl _) rfl ⟨-1, rfl, rfl, by rw [← noAt_all, hall]; simp⟩
set_option maxRecDepth 4000 in
theorem anyLv_any (g : FuncId) (hg : enterable Tryz.prog g = true) (p : Lv → Bool) (h : Heap) (hh : WF h) (ls : List Lv) (hb : ls.length ≤ 1048576) (hc : ∀ l ∈ ls, ACalls Tryz.prog g [l.av] h fun o h' => o = .ret (bA (p l)) ∧ h' = h) :
    ACalls Tryz.prog 46 [.p (.sl 2 (lvPs ls)), .p (.prim (.func (.func g) #[] #[]))] h fun o h' => o = .ret (bA (ls.any p)) ∧ h' = h := by
  have hi := idxLv_any g hg p h hh ls hb hc
  generalize ls.any p = r0 at hi ⊢
  refine ACalls.of_run Tryz.func46 rfl ?_
  simp only [Tryz.ntmps46, List.length_cons, List.length_nil]
  refine nv ?_
  refine Run.reg fun K hK => ?_
  simp
  try (simp (disch := omega) only [wrap_id])
  refine hK _ _ _ ?_; clear hK K
  refine nv ?_
  refine Run.reg fun K hK => ?_
  simp
  try (simp (disch := omega) only [wrap_id])
  refine hK _ _ _ ?_; clear hK K
  refine nv ?_
  refine Run.call rfl rfl (by simp) rfl hi ?_ ?_
  · rintro v h' ⟨r, hv, rfl, hr⟩
    simp only [AOut.ret.injEq] at hv
    subst hv
    refine Run.ops fun K hK => ?_
    simp
    try (simp (disch := omega) only [wrap_id])
    refine hK _ _ _ ?_; clear hK K
    refine nv ?_
    refine Run.ret ?_
    exact Fin.ret' (by simp) rfl hh (List.append_nil _).symm rfl rfl (Weak.of_eq (by simp [← hr])) rfl ⟨rfl, rfl⟩
  · rintro v h' ⟨r, hv, _⟩; cases hv
set_option maxRecDepth 8000 in
theorem notValid_any (h : Heap) (hh : WF h) (l : Lv) (hb : l.vars.length ≤ 1048576) : ACalls Tryz.prog 161 [l.av] h fun o h' => o = .ret (bA (!validB l)) ∧ h' = h := by
  have hv := fun (g : Heap) (hg : WF g) => tvalid_any g hg l hb
  obtain ⟨c, vs⟩ := l
  generalize validB ⟨c, vs⟩ = b at hv ⊢
  simp only [Lv.av, Lv.cells, List.map] at hv ⊢
  refine ACalls.of_run Tryz.func161 rfl ?_
  simp only [Tryz.ntmps161, List.length_cons, List.length_nil]
  refine nv ?_
  refine Run.reg fun K hK => ?_
  simp
  try (simp (disch := omega) only [wrap_id])
  refine hK _ _ _ ?_; clear hK K
  refine nv ?_
  refine Run.reg fun K hK => ?_
  simp
  try (simp (disch := omega) only [wrap_id])
  refine hK _ _ _ ?_; clear hK K
  refine nv ?_
  refine Run.call rfl (by first | rfl | simp) (by simp) rfl (hv _ (hh.app (by simp))) ?_ ?_
  rotate_left
  · rintro v h' ⟨hv, _⟩; cases hv
  rintro v h' ⟨hv, rfl⟩
  simp only [AOut.ret.injEq] at hv
  subst hv
  refine Run.ops fun K hK => ?_
  simp
  try (simp (disch := omega) only [wrap_id])
  refine hK _ _ _ ?_; clear hK K
  refine nv ?_
  refine Run.ret ?_
  exact Fin.ret' (h0 := h) (by simp) rfl hh rfl (by simp; rfl) rfl (Weak.refl _) (by simp) ⟨rfl, rfl⟩
set_option maxRecDepth 8000 in
theorem tallValid_any (h : Heap) (hh : WF h) (ls : List Lv) (hb : ls.length ≤ 1048576) (hbv : ∀ l ∈ ls, l.vars.length ≤ 1048576) : ACalls Tryz.prog 108 [.p (.sl 2 (lvPs ls))] h fun o h' => o = .ret (bA (ls.all validB)) ∧ h' = h := by
  have hv := fun (g : Heap) (hg : WF g) => anyLv_any 161 (by kernel_rfl) (fun l => !validB l) g hg ls hb fun l hl => notValid_any g hg l (hbv l hl)
  rw [show ls.any (fun l => !validB l) = !ls.all validB by simp [List.not_all_eq_any_not]] at hv
  generalize ls.all validB = b at hv ⊢
  refine ACalls.of_run Tryz.func108 rfl ?_
  simp only [Tryz.ntmps108, List.length_cons, List.length_nil]
  refine nv ?_
  refine Run.reg fun K hK => ?_
  simp
  try (simp (disch := omega) only [wrap_id])
  refine hK _ _ _ ?_; clear hK K
  refine nv ?_
  refine Run.reg fun K hK => ?_
  simp
  try (simp (disch := omega) only [wrap_id])
  refine hK _ _ _ ?_; clear hK K
  refine nv ?_
  refine Run.call rfl (by first | rfl | simp) (by simp) rfl (hv _ hh) ?_ ?_
  rotate_left
  · rintro v h' ⟨hv, _⟩; cases hv
  rintro v h' ⟨hv, rfl⟩
  simp only [AOut.ret.injEq] at hv
  subst hv
  refine Run.ops fun K hK => ?_
  simp
  try (simp (disch := omega) only [wrap_id])
  refine hK _ _ _ ?_; clear hK K
  refine nv ?_
  refine Run.ret ?_
  exact Fin.ret' (by simp) rfl hh (List.append_nil _).symm rfl rfl (Weak.of_eq (by simp)) rfl ⟨rfl, rfl⟩
def longOrBad (l : Lv) : Bool := decide (12 < (l.vars.length : Int)) || !validB l
set_option maxRecDepth 8000 in
theorem lawLv1_any (h : Heap) (hh : WF h) (l : Lv) (hb : l.vars.length ≤ 1048576) : ACalls Tryz.prog 47 [l.av] h fun o h' => o = .ret (bA (longOrBad l)) ∧ h' = h := by
  have hv := fun (g : Heap) (hg : WF g) => valid_any g hg l hb
  obtain ⟨c, vs⟩ := l
  unfold longOrBad
  generalize validB ⟨c, vs⟩ = b at hv ⊢
  simp only [Lv.av, Lv.cells, List.map] at hv ⊢
  refine ACalls.of_run Tryz.func47 rfl ?_
  simp only [Tryz.ntmps47, List.length_cons, List.length_nil]
  refine nv ?_
  refine Run.reg fun K hK => ?_
  simp
  try (simp (disch := omega) only [wrap_id])
  refine hK _ _ _ ?_; clear hK K
  refine nv ?_
  by_cases h1 : 12 < (vs.length : Int)
  · refine nv ?_
    refine Run.reg fun K hK => ?_
    simp [h1]
    try (simp (disch := omega) only [wrap_id])
    refine hK _ _ _ ?_; clear hK K
    refine nv ?_
    refine Run.ret ?_
    exact Fin.ret' (h0 := h) (by simp) rfl hh rfl (by simp; rfl) rfl (Weak.of_eq (by simp [h1])) (by simp) ⟨rfl, rfl⟩
  · refine nv ?_
    refine Run.reg fun K hK => ?_
    simp [h1]
    try (simp (disch := omega) only [wrap_id])
    refine hK _ _ _ ?_; clear hK K
    refine nv ?_
    refine Run.call rfl (by first | rfl | simp) (by simp) rfl (hv _ (hh.app (by simp))) ?_ ?_
    rotate_left
    · rintro v h' ⟨hv, _⟩; cases hv
    rintro v h' ⟨hv, rfl⟩
    simp only [AOut.ret.injEq] at hv
    subst hv
    refine Run.ops fun K hK => ?_
    simp
    try (simp (disch := omega) only [wrap_id])
    refine hK _ _ _ ?_; clear hK K
    refine nv ?_
    refine Run.ret ?_
    exact Fin.ret' (h0 := h) (by simp) rfl hh rfl (by simp; rfl) rfl (Weak.of_eq (by simp [h1])) (by simp) ⟨rfl, rfl⟩
def lawLvs (ls : List Lv) : Bool := decide ((ls.length : Int) ≤ 12) && !ls.any longOrBad
set_option maxRecDepth 8000 in
theorem lawLv_any (h : Heap) (hh : WF h) (ls : List Lv) (hb : ls.length ≤ 1048576) (hbv : ∀ l ∈ ls, l.vars.length ≤ 1048576) : ACalls Tryz.prog 12 [.p (.sl 2 (lvPs ls))] h fun o h' => o = .ret (bA (lawLvs ls)) ∧ h' = h := by
  have hv := fun (g : Heap) (hg : WF g) => anyLv_any 47 (by kernel_rfl) longOrBad g hg ls hb fun l hl => lawLv1_any g hg l (hbv l hl)
  unfold lawLvs
  generalize ls.any longOrBad = b at hv ⊢
  refine ACalls.of_run Tryz.func12 rfl ?_
  simp only [Tryz.ntmps12, List.length_cons, List.length_nil]
  refine nv ?_
  refine Run.reg fun K hK => ?_
  simp
  try (simp (disch := omega) only [wrap_id])
  refine hK _ _ _ ?_; clear hK K
  refine nv ?_
  by_cases h1 : (ls.length : Int) ≤ 12
  · refine nv ?_
    refine Run.reg fun K hK => ?_
    simp [h1]
    try (simp (disch := omega) only [wrap_id])
    refine hK _ _ _ ?_; clear hK K
    refine nv ?_
    refine Run.call rfl (by first | rfl | simp) (by simp) rfl (hv _ hh) ?_ ?_
    rotate_left
    · rintro v h' ⟨hv, _⟩; cases hv
    rintro v h' ⟨hv, rfl⟩
    simp only [AOut.ret.injEq] at hv
    subst hv
    refine Run.ops fun K hK => ?_
    simp
    try (simp (disch := omega) only [wrap_id])
    refine hK _ _ _ ?_; clear hK K
    refine nv ?_
    refine Run.ret ?_
    exact Fin.ret' (by simp) rfl hh (List.append_nil _).symm rfl rfl (Weak.of_eq (by simp [h1])) rfl ⟨rfl, rfl⟩
  · refine nv ?_
    refine Run.reg fun K hK => ?_
    simp [h1]
    try (simp (disch := omega) only [wrap_id])
    refine hK _ _ _ ?_; clear hK K
    refine nv ?_
    refine Run.ret ?_
    exact Fin.ret' (by simp) rfl hh (List.append_nil _).symm rfl rfl (Weak.of_eq (by simp [h1])) rfl ⟨rfl, rfl⟩

end Go.Proofs.YtcfcolkbeelegaaGreat

namespace Go.Proofs.YtcfcolkbeelegaaGreat

open Go.Shelf Go.Proofs
def lays189_ren : Go.Shelf.Ren := ⟨fun | 189 => 196 | 125 => 226 | 257 => 225 | 128 => 254 | 129 => 255 | 294 => 245 | 295 => 246 | 296 => 247 | 297 => 248 | 298 => 249 | 299 => 250 | 216 => 251 | 300 => 252 | 301 => 253 | 328 => 268 | 329 => 269 | 330 => 270 | 331 => 271 | 332 => 272 | 215 => 273 | 343 => 278 | n => n, fun | 28 => 187 | 3 => 3 | 46 => 245 | 0 => 0 | 51 => 54 | 53 => 322 | 4 => 4 | 183 => 314 | 182 => 313 | 131 => 79 | 5 => 5 | 9 => 9 | 218 => 332 | 222 => 336 | 228 => 340 | 229 => 176 | n => n, fun | n => n⟩
theorem lays189 : Go.Proofs.Lays.n189 Tryz.prog lays189_ren := {
  mixed := by kernel_rfl
  f125 := Tryz.func226.trans (congrArg some (by kernel_rfl))
  f128 := Tryz.func254.trans (congrArg some (by kernel_rfl))
  f129 := Tryz.func255.trans (congrArg some (by kernel_rfl))
  f189 := Tryz.func196.trans (congrArg some (by kernel_rfl))
  f215 := Tryz.func273.trans (congrArg some (by kernel_rfl))
  f216 := Tryz.func251.trans (congrArg some (by kernel_rfl))
  f257 := Tryz.func225.trans (congrArg some (by kernel_rfl))
  f294 := Tryz.func245.trans (congrArg some (by kernel_rfl))
  f295 := Tryz.func246.trans (congrArg some (by kernel_rfl))
  f296 := Tryz.func247.trans (congrArg some (by kernel_rfl))
  f297 := Tryz.func248.trans (congrArg some (by kernel_rfl))
  f298 := Tryz.func249.trans (congrArg some (by kernel_rfl))
  f299 := Tryz.func250.trans (congrArg some (by kernel_rfl))
  f300 := Tryz.func252.trans (congrArg some (by kernel_rfl))
  f301 := Tryz.func253.trans (congrArg some (by kernel_rfl))
  f328 := Tryz.func268.trans (congrArg some (by kernel_rfl))
  f329 := Tryz.func269.trans (congrArg some (by kernel_rfl))
  f330 := Tryz.func270.trans (congrArg some (by kernel_rfl))
  f331 := Tryz.func271.trans (congrArg some (by kernel_rfl))
  f332 := Tryz.func272.trans (congrArg some (by kernel_rfl))
  f343 := Tryz.func278.trans (congrArg some (by kernel_rfl))
  t0 := Tryz.underlying0
  a0 := Tryz.isAgg0
  z0 := Tryz.sizeOf0
  v0 := Tryz.zeroValue0
  t3 := Tryz.underlying3
  a3 := Tryz.isAgg3
  z3 := Tryz.sizeOf3
  v3 := Tryz.zeroValue3
  t4 := Tryz.underlying4
  a4 := Tryz.isAgg4
  z4 := Tryz.sizeOf4
  v4 := Tryz.zeroValue4
  t5 := Tryz.underlying5
  a5 := Tryz.isAgg5
  z5 := Tryz.sizeOf5
  v5 := Tryz.zeroValue5
  t9 := Tryz.underlying9
  a9 := Tryz.isAgg9
  z9 := Tryz.sizeOf9
  v9 := Tryz.zeroValue9
  t28 := Tryz.underlying187
  a28 := Tryz.isAgg187
  z28 := Tryz.sizeOf187
  v28 := Tryz.zeroValue187
  t46 := Tryz.underlying245
  a46 := Tryz.isAgg245
  z46 := Tryz.sizeOf245
  v46 := Tryz.zeroValue245
  t51 := Tryz.underlying54
  a51 := Tryz.isAgg54
  z51 := Tryz.sizeOf54
  v51 := Tryz.zeroValue54
  t53 := Tryz.underlying322
  a53 := Tryz.isAgg322
  z53 := Tryz.sizeOf322
  v53 := Tryz.zeroValue322
  t131 := Tryz.underlying79
  a131 := Tryz.isAgg79
  z131 := Tryz.sizeOf79
  v131 := Tryz.zeroValue79
  t182 := Tryz.underlying313
  a182 := Tryz.isAgg313
  z182 := Tryz.sizeOf313
  v182 := Tryz.zeroValue313
  t183 := Tryz.underlying314
  a183 := Tryz.isAgg314
  z183 := Tryz.sizeOf314
  v183 := Tryz.zeroValue314
  t218 := Tryz.underlying332
  a218 := Tryz.isAgg332
  z218 := Tryz.sizeOf332
  v218 := Tryz.zeroValue332
  t222 := Tryz.underlying336
  a222 := Tryz.isAgg336
  z222 := Tryz.sizeOf336
  v222 := Tryz.zeroValue336
  t228 := Tryz.underlying340
  a228 := Tryz.isAgg340
  z228 := Tryz.sizeOf340
  v228 := Tryz.zeroValue340
  t229 := Tryz.underlying176
  a229 := Tryz.isAgg176
  z229 := Tryz.sizeOf176
  v229 := Tryz.zeroValue176 }

end Go.Proofs.YtcfcolkbeelegaaGreat
