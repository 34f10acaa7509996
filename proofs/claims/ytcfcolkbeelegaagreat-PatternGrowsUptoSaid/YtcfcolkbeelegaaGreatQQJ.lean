import Derived.Test.YtcfcolkbeelegaaGreatQPZ
import Derived.Test.YtcfcolkbeelegaaGreatQQH
import Derived.Test.YtcfcolkbeelegaaGreatQQI
import Derived.Test.YtcfcolkbeelegaaGreatQH9
import Derived.Test.YtcfcolkbeelegaaGreatQFL
import Derived.Test.YtcfcolkbeelegaaGreatQPN

namespace Go.Proofs.YtcfcolkbeelegaaGreat

open Go Go.AI
theorem Run.heapIs {P : Program} {rd : Option Nat} {nb : Nat} {k : List It} {T : List AV} {h h' : Heap} {D : List AD} {Q : AX → List AV → Heap → List AD → Prop} (e : h = h') (r : Run P rd nb k T h' D Q) : Run P rd nb k T h D Q := e ▸ r
theorem wrap_u32 {n : Int} (h1 : 0 ≤ n) (h2 : n ≤ 4294967295) : IntKind.u32.wrap n = n := by
 simp only [IntKind.wrap, IntKind.bits, IntKind.signed]
 simp
 omega
theorem cclone_ne (h : Heap) (hh : WF h) (ts : List Cl) (hl : ts.length ≤ 1048576) (hne : 0 < ts.length) :
  ACalls Tryz.prog 35 [.p (.sl 6 (clPs ts))] h fun o g => ∃ v, o = .ret v ∧ ∃ (G : Heap) (cap : Nat), WF (h ++ G) ∧ ts.length ≤ cap ∧ v = .sm (h.length + G.length) 0 ts.length cap 6 ∧ g = h ++ (G ++ [crow ts (cap - ts.length)]) := by
 refine (cclone_any h hh ts hl).mono ?_
 rintro o g (⟨rfl, _⟩ | ⟨G, cap, h1, h2, h3, h4⟩)
 ·simp at hne
 ·exact ⟨_, h3, G, cap, h1, h2, rfl, h4⟩
set_option maxRecDepth 8000 in
set_option maxHeartbeats 16000000 in
theorem patternGrows_any (h : Heap) (hh : WF h) (env : List Dc) (hg : Env.good env) (cls : List Cl) (v : List Pt) (s : Int) (hs0 : 0 ≤ s) (_hs1 : s ≤ 4294967295) (hs : PSmall cls v) (hl1 : cls.length + 1 ≤ 1048576) :
  ACalls Tryz.prog 9 [envA env, .p (.sl 6 (clPs cls)), vecA v s] h fun o h' => o = .ret (bA true) ∧ h' = h := by
 have c1 := fun (g : Heap) (hw : WF g) => few18_any env hg cls v hs g hw
 have c2 := fun (g : Heap) (hw : WF g) => awake18_any g hw
 unfold vecA
 refine ACalls.of_run Tryz.func9 rfl ?_
 simp only [Tryz.ntmps9, List.length_cons, List.length_nil]
 refine nv ?_
 refine Run.reg fun K J => ?_
 simp
 refine J _ _ _ (nv ?_); clear J
 refine Run.reg fun K J => ?_
 simp
 refine J _ _ _ (nv ?_); clear J
 refine Run.reg fun K J => ?_
 simp
 refine J _ _ _ ?_; clear J
 refine Run.call rfl (by first | rfl | simp) (by simp) rfl (c1 _ (hh.app (by simp))) ?_ ?_
 rotate_left
 ·rintro v h' ⟨⟨_, hv, _⟩, _⟩; cases hv
 rintro v h' ⟨⟨b, hv, hb⟩, rfl⟩
 simp only [AOut.ret.injEq] at hv
 subst hv
 cases b with
 | false =>
  refine Run.ops fun K J => ?_
  simp
  refine J _ _ _ (nv ?_); clear J
  refine ct (by simp) (nv ?_)
  refine Run.reg fun K J => ?_
  simp
  refine J _ _ _ ?_; clear J
  refine rl rfl (by first | rfl | simp) (by simp) rfl (c2 _ (hh.app (by simp))) ?_
  refine Run.ops fun K J => ?_
  simp
  refine J _ _ _ (nv ?_); clear J
  refine Run.ret ?_
  exact Fin.ret' (h0 := h) (by simp) rfl hh rfl (by simp; rfl) rfl (Weak.refl _) (by simp) ⟨by simp, rfl⟩
 | true =>
 have hf := hb rfl
 by_cases hc0 : cls.length = 0
 ·have hc0' : ((cls.length : Int) == 0) = true := by simp [hc0]
  refine Run.ops fun K J => ?_
  simp [hc0']
  refine J _ _ _ (nv ?_); clear J
  refine ct (by simp) (nv ?_)
  refine Run.reg fun K J => ?_
  simp
  refine J _ _ _ ?_; clear J
  refine rl rfl (by first | rfl | simp) (by simp) rfl (c2 _ (hh.app (by simp))) ?_
  refine Run.ops fun K J => ?_
  simp
  refine J _ _ _ (nv ?_); clear J
  refine Run.ret ?_
  exact Fin.ret' (h0 := h) (by simp) rfl hh rfl (by simp; rfl) rfl (Weak.refl _) (by simp) ⟨by simp, rfl⟩
 have hcn : ¬ cls = [] := fun e => hc0 (by rw [e]; rfl)
 have hc0' : ((cls.length : Int) == 0) = false := by simpa using hcn
 have hpos : 0 < cls.length := by omega
 have c3 := fun (g : Heap) (hw : WF g) => covers_any env hf hg cls v hs g hw
 obtain ⟨r, hr⟩ : ∃ r, coversB env cls v = r := ⟨_, rfl⟩
 rw [hr] at c3
 refine Run.ops fun K J => ?_
 simp [hc0']
 refine J _ _ _ ?_; clear J
 refine rl rfl (by first | rfl | simp) (by simp) rfl (c3 _ (hh.app (by simp))) ?_
 cases r with
 | false =>
  refine Run.ops fun K J => ?_
  simp
  refine J _ _ _ (nv ?_); clear J
  refine ct (by simp) (nv ?_)
  refine Run.reg fun K J => ?_
  simp
  refine J _ _ _ ?_; clear J
  refine rl rfl (by first | rfl | simp) (by simp) rfl (c2 _ (hh.app (by simp))) ?_
  refine Run.ops fun K J => ?_
  simp
  refine J _ _ _ (nv ?_); clear J
  refine Run.ret ?_
  exact Fin.ret' (h0 := h) (by simp) rfl hh rfl (by simp; rfl) rfl (Weak.refl _) (by simp) ⟨by simp, rfl⟩
 | true =>
 refine Run.ops fun K J => ?_
 simp
 refine J _ _ _ (nv ?_); clear J
 refine cf (by simp) (nv ?_)
 obtain ⟨i, hi⟩ : ∃ i : Nat, Int.tmod s (cls.length : Int) = i := ⟨(Int.tmod s (cls.length : Int)).toNat, by have := Int.tmod_nonneg (cls.length : Int) hs0; omega⟩
 have hil : i < cls.length := by have := Int.tmod_lt_of_pos s (show (0 : Int) < cls.length by omega); omega
 have hw32 : IntKind.u32.wrap (cls.length : Int) = cls.length := wrap_u32 (by omega) (by omega)
 have hwi : IntKind.i64.wrap (i : Int) = i := wrap_id (by omega) (by omega)
 have hgi : cls[i]? = some cls[i] := List.getElem?_eq_getElem hil
 have hmem := List.getElem_mem hil
 generalize cls[i] = c at hgi hmem
 have hc0n : ¬ (cls.length : Int) = 0 := by omega
 have hsn := hs.snoc hmem hl1
 have hend := grows_end hmem hr
 have cl0 : (clPs cls).length = cls.length := by simp
 obtain ⟨cc, hcc⟩ : ∃ cc, cc = c.cells := ⟨_, rfl⟩
 have hccl : cc.length = 6 := by rw [hcc]; simp
 have hrow : clPs cls ++ [cc] = clPs (cls ++ [c]) := by rw [hcc]; simp
 have hcav : (cc.map AV.p).length = 6 := by simpa using hccl
 have c5 := covers_any env hf hg (cls ++ [c]) v hsn [] WF.nil
 rw [hend] at c5
 have c6 := fun (g : Heap) (hw : WF g) => simple30_any env hg hf.1 cls v hs g hw
 have c8 : (simZ (simS env cls v)).2.2 = true → ACalls Tryz.prog 26 [envA env, .p (.sl 6 (clPs (cls ++ [c]).reverse)), .p (.sl 3 (ptPs v))] [] fun o h' => o = .ret (bA true) ∧ h' = [] := fun h1 => by
  obtain ⟨mn, hm1, hm2⟩ := simple_of h1
  have := covers_any env hf hg (cls ++ [c]).reverse v hsn.rev [] WF.nil
  rw [grows_rev hf hsn (m := mn) (fun x hx => by
   rcases List.mem_append.1 hx with hx | hx
   ·exact hm1 x hx
   ·simp at hx; subst hx; exact hm1 _ hmem) hm2 hend] at this
  exact this
 generalize simZ (simS env cls v) = z at c6 c8
 obtain ⟨d, j, ok⟩ := z
 simp only at c6 c8
 have hgi' : ∀ q : i < cls.length, cls[i]'q = c := fun q => by
  rw [List.getElem?_eq_getElem q] at hgi
  exact Option.some.inj hgi
 refine ND.Run.draw2 (pc := []) 1 12 [0, 0, 0, 0, 0, 0, 0, 0, 0, 0, 0, 0, 1, 1, 2] [0, 0, 0, 0, 0, 0, 0, 0, 0, 0, 0, 0, 0, 1, 0] [0, 1, 0, 0, 8, 0, 32, 96, 248, 504, 1020, 2044, 4095, 8191, 16383] [0, 1, 2, 3, 4, 5, 6, 7, 8, 9, 10, 11, 12, 13, 14] [0, 0, 0, 0, 0, 0, 0, 0, 0, 0, 0, 0, 0, 1, 2] [0, 0, 0, 0, 0, 0, 0, 0, 0, 0, 0, 0, 0, 1, 0] [0, 8189, 0, 0, 8, 0, 32, 96, 248, 504, 1020, 2044, 4092, 8191, 16383] [0, 2, 3, 5, 4, 6, 7, 8, 9, 10, 11, 12, 1, 13, 14] (by kernel_rfl) (by kernel_rfl) (by kernel_rfl) (by kernel_rfl) ?_ ?_
 all_goals
  refine ND.DR.go fun K J => ?_
  simp [hw32, hi, hil, hcn, hwi]
  refine J _ _ _ _ ?_; clear J
  refine ND.DR.callR rfl rfl rfl (by simp) rfl rfl (cclone_ne _ (hh.app (by simp)) cls (by omega) hpos) ⟨_, _, [], cls.length, by simpa using hh.app (by simp), Nat.le_refl _, rfl, rfl⟩ ?_
  rintro v' g ⟨G, cap, hw, hcap, rfl, rfl⟩
  have hget : ∀ (x o : Option AO), (h ++ x :: (G ++ [o]))[h.length + 1 + G.length]? = some o := fun x o => by
   rw [show h ++ x :: (G ++ [o]) = (h ++ [x] ++ G) ++ [o] by simp, List.getElem?_append_right (by simp <;> omega), show h.length + 1 + G.length - (h ++ [x] ++ G).length = 0 by simp <;> omega]; rfl
  have hset : ∀ (x o o' : Option AO), (h ++ x :: (G ++ [o])).set (h.length + 1 + G.length) o' = h ++ x :: (G ++ [o']) := fun x o o' => by
   rw [show h ++ x :: (G ++ [o]) = (h ++ [x] ++ G) ++ [o] by simp, List.set_append_right _ _ (by simp <;> omega), show h.length + 1 + G.length - (h ++ [x] ++ G).length = 0 by simp <;> omega]; simp
  refine ND.DR.go fun K J => ?_
  simp [hw32, hi, hil, hcn, hwi]
  refine J _ _ _ _ ?_; clear J
  refine ND.DR.appendS (id := h.length + 1 + G.length) (es := clPs cls) (ys := [cc]) (cap := cap) (sz := 6) (by_ := 104) (e := 53) rfl rfl (by simp) rfl rfl rfl rfl rfl (by simp) (by simp only [Heap.at]; rw [hget]; simp [cbuf]) (clPs_len6 cls) (by simpa using hcap) (by simp [hgi', hcc]) (by simp) (by simp) (by simp; omega) (by simp; omega) ?_ ?_
  ·intro hroom
   rw [hset]
   refine ND.DR.go fun K J => ?_
   simp
   refine J _ _ _ _ ?_; clear J
   change Run _ _ _ _ _ _ _ _
   refine nv ?_
   refine Run.heapIs (h' := h ++ (some (.cells [.p (.sl 3 (ptPs v)), u32A s]) :: (G ++ [crow (cls ++ [c]) (cap - (cls.length + 1))]))) (by simp [cbuf, hcc]) ?_
   obtain ⟨m, hm⟩ : ∃ m, cap - (cls.length + 1) = m := ⟨_, rfl⟩
   obtain ⟨id, hide⟩ : ∃ id, List.length h + 1 + List.length G = id := ⟨_, rfl⟩
   rw [hm, hide]
   have hX : WF (h ++ (some (AO.cells [.p (.sl 3 (ptPs v)), u32A s]) :: (G ++ [crow (cls ++ [c]) m]))) := by
    have := hw.app (l := [crow (cls ++ [c]) m]) (by simp only [List.all_cons, crow_under, List.all_nil, Bool.and_self])
    simpa using this
   have hid : (h ++ (some (AO.cells [.p (.sl 3 (ptPs v)), u32A s]) :: (G ++ [crow (cls ++ [c]) m])))[id]? = some (crow (cls ++ [c]) m) := by rw [← hide]; exact hget _ _
   have hcap2 : cls.length + 1 ≤ cap := by simpa using hroom
   have hidg : h.length ≤ id := by omega
   have hidl : id < (h ++ (some (AO.cells [.p (.sl 3 (ptPs v)), u32A s]) :: (G ++ [crow (cls ++ [c]) m]))).length := (List.getElem?_eq_some_iff.1 hid).1
   generalize (some (AO.cells [.p (.sl 3 (ptPs v)), u32A s]) :: (G ++ [crow (cls ++ [c]) m])) = X at hX hid hidl ⊢
   have hl5 : LendL (h ++ X) [envA env, .sm id 0 (cls.length + 1) cap 6, .p (.sl 3 (ptPs v))] [envA env, .p (.sl 6 (clPs (cls ++ [c]))), .p (.sl 3 (ptPs v))] :=
    LendL.cons (Lend.p _) (LendL.cons (Lend.sm (m := m) (by simp only [Heap.at, hid]; rfl) (clPs_len6 _) (by simp) hcap2) (LendL.cons (Lend.p _) LendL.nil))
   refine Run.reg fun K J => ?_
   simp
   refine J _ _ _ ?_; clear J
   refine Run.call rfl (by first | rfl | simp) (by simp) rfl (ACalls.lend hl5 (rep_prim _) c5) ?_ ?_
   rotate_left
   ·rintro v h' ⟨hv, _⟩; cases hv
   rintro v' h' ⟨hv, rfl⟩
   simp only [AOut.ret.injEq] at hv
   subst hv
   refine Run.ops fun K J => ?_
   simp
   refine J _ _ _ (nv ?_); clear J
   refine cf (by simp) (nv ?_)
   refine Run.reg fun K J => ?_
   simp
   refine J _ _ _ ?_; clear J
   refine Run.call rfl (by first | rfl | simp) (by simp) rfl (c6 _ hX) ?_ ?_
   rotate_left
   ·rintro v h' ⟨hv, _⟩; cases hv
   rintro v h' ⟨hv, rfl⟩
   simp only [AOut.ret.injEq] at hv
   subst hv
   refine Run.ops fun K J => ?_
   simp [Dc.row_one, Dc.row_patch]
   refine J _ _ _ (nv ?_); clear J
   have hY : WF (h ++ (X ++ [some (AO.cells d.row)])) := by
    have := hX.app (l := [some (AO.cells d.row)]) (by simp)
    rwa [List.append_assoc] at this
   cases ok with
   | false =>
    refine Run.reg fun K J => ?_
    simp
    refine J _ _ _ (nv ?_); clear J
    refine ct (by simp) (nv ?_)
    refine Run.reg fun K J => ?_
    simp
    refine J _ _ _ ?_; clear J
    refine Run.call rfl (by first | rfl | simp) (by simp) rfl (c2 _ hY) ?_ ?_
    rotate_left
    ·rintro v h' ⟨hv, _⟩; cases hv
    rintro v h' ⟨hv, rfl⟩
    simp only [AOut.ret.injEq] at hv
    subst hv
    refine Run.ops fun K J => ?_
    simp
    refine J _ _ _ (nv ?_); clear J
    refine Run.ret ?_
    exact Fin.ret' (h0 := h) (by simp) rfl hh rfl (by simp; rfl) rfl (Weak.refl _) (by simp) ⟨by simp, rfl⟩
   | true =>
    have c8 := c8 rfl
    obtain ⟨rv, hrv⟩ : ∃ rv, (cls ++ [c]).reverse = rv := ⟨_, rfl⟩
    have hrvl : rv.length = cls.length + 1 := by rw [← hrv]; simp
    rw [hrv] at c8
    have c7 := creverse_any (h ++ (X ++ [some (AO.cells d.row)])) hY (cls ++ [c]) id cap m (by simp; omega) (by rw [← List.append_assoc, List.getElem?_append_left hidl]; exact hid)
    rw [hrv] at c7
    have hW2 : WF ((h ++ (X ++ [some (AO.cells d.row)])).set id (crow rv m)) := hY.set (crow_under _ _ _)
    have hid2 : ((h ++ (X ++ [some (AO.cells d.row)])).set id (crow rv m))[id]? = some (crow rv m) := List.getElem?_set_self (by simp at hidl ⊢; omega)
    have hl8 : LendL ((h ++ (X ++ [some (AO.cells d.row)])).set id (crow rv m)) [envA env, .sm id 0 (cls.length + 1) cap 6, .p (.sl 3 (ptPs v))] [envA env, .p (.sl 6 (clPs rv)), .p (.sl 3 (ptPs v))] :=
     LendL.cons (Lend.p _) (LendL.cons (Lend.sm (m := m) (by simp only [Heap.at, hid2]; rfl) (clPs_len6 _) (by simp [hrvl]) hcap2) (LendL.cons (Lend.p _) LendL.nil))
    simp only [List.length_append, List.length_singleton] at c7
    refine Run.reg fun K J => ?_
    simp
    refine J _ _ _ (nv ?_); clear J
    refine cf (by simp) (nv ?_)
    refine Run.reg fun K J => ?_
    simp
    refine J _ _ _ ?_; clear J
    refine Run.call rfl (by first | rfl | simp) (by simp) rfl (c7) ?_ ?_
    rotate_left
    ·rintro v h' ⟨hv, _⟩; cases hv
    rintro v h' ⟨hv, rfl⟩
    simp only [AOut.ret.injEq] at hv
    subst hv
    refine Run.ops fun K J => ?_
    simp
    refine J _ _ _ (nv ?_); clear J
    refine Run.reg fun K J => ?_
    simp
    refine J _ _ _ ?_; clear J
    refine Run.call rfl (by first | rfl | simp) (by simp) rfl (ACalls.lend hl8 (rep_prim _) c8) ?_ ?_
    rotate_left
    ·rintro v h' ⟨hv, _⟩; cases hv
    rintro v' h' ⟨hv, rfl⟩
    simp only [AOut.ret.injEq] at hv
    subst hv
    refine Run.ops fun K J => ?_
    simp
    refine J _ _ _ ?_; clear J
    refine Run.call rfl (by first | rfl | simp) (by simp) rfl (c2 _ hW2) ?_ ?_
    rotate_left
    ·rintro v h' ⟨hv, _⟩; cases hv
    rintro v h' ⟨hv, rfl⟩
    simp only [AOut.ret.injEq] at hv
    subst hv
    refine Run.ops fun K J => ?_
    simp
    refine J _ _ _ (nv ?_); clear J
    refine Run.ret ?_
    refine Fin.ret' (h0 := h) (by simp) rfl hh (l := (X ++ [some (AO.cells d.row)]).set (id - h.length) (crow rv m)) ?_ (by simp; rfl) rfl (Weak.refl _) (by simp) ⟨by simp, rfl⟩
    rw [List.set_append_right _ _ hidg]
  ·intro c' hc'
   refine ND.DR.go fun K J => ?_
   simp
   refine J _ _ _ _ ?_; clear J
   change Run _ _ _ _ _ _ _ _
   refine nv ?_
   refine Run.heapIs (h' := h ++ (some (.cells [.p (.sl 3 (ptPs v)), u32A s]) :: (G ++ [crow cls (cap - cls.length), crow (cls ++ [c]) (c' - (cls.length + 1))]))) (by simp [cbuf, hcc]) ?_
   obtain ⟨m, hm⟩ : ∃ m, c' - (cls.length + 1) = m := ⟨_, rfl⟩
   obtain ⟨id, hide⟩ : ∃ id, List.length h + (List.length G + 1 + 1) = id := ⟨_, rfl⟩
   rw [hm, hide]
   have hX : WF (h ++ (some (AO.cells [.p (.sl 3 (ptPs v)), u32A s]) :: (G ++ [crow cls (cap - cls.length), crow (cls ++ [c]) m]))) := by
    have := hw.app (l := [crow cls (cap - cls.length), crow (cls ++ [c]) m]) (by simp only [List.all_cons, crow_under, List.all_nil, Bool.and_self])
    simpa using this
   have hid : (h ++ (some (AO.cells [.p (.sl 3 (ptPs v)), u32A s]) :: (G ++ [crow cls (cap - cls.length), crow (cls ++ [c]) m])))[id]? = some (crow (cls ++ [c]) m) := by
    rw [show h ++ (some (AO.cells [.p (.sl 3 (ptPs v)), u32A s]) :: (G ++ [crow cls (cap - cls.length), crow (cls ++ [c]) m])) = (h ++ [some (AO.cells [.p (.sl 3 (ptPs v)), u32A s])] ++ G ++ [crow cls (cap - cls.length)]) ++ [crow (cls ++ [c]) m] by simp, List.getElem?_append_right (by simp <;> omega), show id - (h ++ [some (AO.cells [AV.p (.sl 3 (ptPs v)), u32A s])] ++ G ++ [crow cls (cap - cls.length)]).length = 0 by simp <;> omega]
    rfl
   have hcap2 : cls.length + 1 ≤ c' := by simpa using hc'
   have hidg : h.length ≤ id := by omega
   have hidl : id < (h ++ (some (AO.cells [.p (.sl 3 (ptPs v)), u32A s]) :: (G ++ [crow cls (cap - cls.length), crow (cls ++ [c]) m]))).length := (List.getElem?_eq_some_iff.1 hid).1
   generalize (some (AO.cells [.p (.sl 3 (ptPs v)), u32A s]) :: (G ++ [crow cls (cap - cls.length), crow (cls ++ [c]) m])) = X at hX hid hidl ⊢
   have hl5 : LendL (h ++ X) [envA env, .sm id 0 (cls.length + 1) c' 6, .p (.sl 3 (ptPs v))] [envA env, .p (.sl 6 (clPs (cls ++ [c]))), .p (.sl 3 (ptPs v))] :=
    LendL.cons (Lend.p _) (LendL.cons (Lend.sm (m := m) (by simp only [Heap.at, hid]; rfl) (clPs_len6 _) (by simp) hcap2) (LendL.cons (Lend.p _) LendL.nil))
   refine Run.reg fun K J => ?_
   simp
   refine J _ _ _ ?_; clear J
   refine Run.call rfl (by first | rfl | simp) (by simp) rfl (ACalls.lend hl5 (rep_prim _) c5) ?_ ?_
   rotate_left
   ·rintro v h' ⟨hv, _⟩; cases hv
   rintro v' h' ⟨hv, rfl⟩
   simp only [AOut.ret.injEq] at hv
   subst hv
   refine Run.ops fun K J => ?_
   simp
   refine J _ _ _ (nv ?_); clear J
   refine cf (by simp) (nv ?_)
   refine Run.reg fun K J => ?_
   simp
   refine J _ _ _ ?_; clear J
   refine Run.call rfl (by first | rfl | simp) (by simp) rfl (c6 _ hX) ?_ ?_
   rotate_left
   ·rintro v h' ⟨hv, _⟩; cases hv
   rintro v h' ⟨hv, rfl⟩
   simp only [AOut.ret.injEq] at hv
   subst hv
   refine Run.ops fun K J => ?_
   simp [Dc.row_one, Dc.row_patch]
   refine J _ _ _ (nv ?_); clear J
   have hY : WF (h ++ (X ++ [some (AO.cells d.row)])) := by
    have := hX.app (l := [some (AO.cells d.row)]) (by simp)
    rwa [List.append_assoc] at this
   cases ok with
   | false =>
    refine Run.reg fun K J => ?_
    simp
    refine J _ _ _ (nv ?_); clear J
    refine ct (by simp) (nv ?_)
    refine Run.reg fun K J => ?_
    simp
    refine J _ _ _ ?_; clear J
    refine Run.call rfl (by first | rfl | simp) (by simp) rfl (c2 _ hY) ?_ ?_
    rotate_left
    ·rintro v h' ⟨hv, _⟩; cases hv
    rintro v h' ⟨hv, rfl⟩
    simp only [AOut.ret.injEq] at hv
    subst hv
    refine Run.ops fun K J => ?_
    simp
    refine J _ _ _ (nv ?_); clear J
    refine Run.ret ?_
    exact Fin.ret' (h0 := h) (by simp) rfl hh rfl (by simp; rfl) rfl (Weak.refl _) (by simp) ⟨by simp, rfl⟩
   | true =>
    have c8 := c8 rfl
    obtain ⟨rv, hrv⟩ : ∃ rv, (cls ++ [c]).reverse = rv := ⟨_, rfl⟩
    have hrvl : rv.length = cls.length + 1 := by rw [← hrv]; simp
    rw [hrv] at c8
    have c7 := creverse_any (h ++ (X ++ [some (AO.cells d.row)])) hY (cls ++ [c]) id c' m (by simp; omega) (by rw [← List.append_assoc, List.getElem?_append_left hidl]; exact hid)
    rw [hrv] at c7
    have hW2 : WF ((h ++ (X ++ [some (AO.cells d.row)])).set id (crow rv m)) := hY.set (crow_under _ _ _)
    have hid2 : ((h ++ (X ++ [some (AO.cells d.row)])).set id (crow rv m))[id]? = some (crow rv m) := List.getElem?_set_self (by simp at hidl ⊢; omega)
    have hl8 : LendL ((h ++ (X ++ [some (AO.cells d.row)])).set id (crow rv m)) [envA env, .sm id 0 (cls.length + 1) c' 6, .p (.sl 3 (ptPs v))] [envA env, .p (.sl 6 (clPs rv)), .p (.sl 3 (ptPs v))] :=
     LendL.cons (Lend.p _) (LendL.cons (Lend.sm (m := m) (by simp only [Heap.at, hid2]; rfl) (clPs_len6 _) (by simp [hrvl]) hcap2) (LendL.cons (Lend.p _) LendL.nil))
    simp only [List.length_append, List.length_singleton] at c7
    refine Run.reg fun K J => ?_
    simp
    refine J _ _ _ (nv ?_); clear J
    refine cf (by simp) (nv ?_)
    refine Run.reg fun K J => ?_
    simp
    refine J _ _ _ ?_; clear J
    refine Run.call rfl (by first | rfl | simp) (by simp) rfl (c7) ?_ ?_
    rotate_left
    ·rintro v h' ⟨hv, _⟩; cases hv
    rintro v h' ⟨hv, rfl⟩
    simp only [AOut.ret.injEq] at hv
    subst hv
    refine Run.ops fun K J => ?_
    simp
    refine J _ _ _ (nv ?_); clear J
    refine Run.reg fun K J => ?_
    simp
    refine J _ _ _ ?_; clear J
    refine Run.call rfl (by first | rfl | simp) (by simp) rfl (ACalls.lend hl8 (rep_prim _) c8) ?_ ?_
    rotate_left
    ·rintro v h' ⟨hv, _⟩; cases hv
    rintro v' h' ⟨hv, rfl⟩
    simp only [AOut.ret.injEq] at hv
    subst hv
    refine Run.ops fun K J => ?_
    simp
    refine J _ _ _ ?_; clear J
    refine Run.call rfl (by first | rfl | simp) (by simp) rfl (c2 _ hW2) ?_ ?_
    rotate_left
    ·rintro v h' ⟨hv, _⟩; cases hv
    rintro v h' ⟨hv, rfl⟩
    simp only [AOut.ret.injEq] at hv
    subst hv
    refine Run.ops fun K J => ?_
    simp
    refine J _ _ _ (nv ?_); clear J
    refine Run.ret ?_
    refine Fin.ret' (h0 := h) (by simp) rfl hh (l := (X ++ [some (AO.cells d.row)]).set (id - h.length) (crow rv m)) ?_ (by simp; rfl) rfl (Weak.refl _) (by simp) ⟨by simp, rfl⟩
    rw [List.set_append_right _ _ hidg]

end Go.Proofs.YtcfcolkbeelegaaGreat
