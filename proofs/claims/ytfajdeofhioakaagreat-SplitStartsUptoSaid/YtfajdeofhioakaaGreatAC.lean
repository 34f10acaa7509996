import Derived.Test.YtfajdeofhioakaaGreatAA
import Derived.Test.YtfajdeofhioakaaGreatAFD
set_option maxRecDepth 8000


namespace Go.Proofs.YtfajdeofhioakaaGreat

open Go Go.AI
abbrev errP (e : Int) : PV := .ifc 210 (iP e)
theorem stop_any (h : Heap) (hh : WF h) (e : Int) : ACalls Tryz.prog 102 [iA e] h fun o h' => o = .panic (.p (errP e)) ∧ h' = h := by
 refine ACalls.of_run Tryz.func102 rfl ?_
 simp only [Tryz.ntmps102, List.length_cons, List.length_nil]
 refine Run.reg fun K J => ?_
 simp
 refine J _ _ _ ?_; clear J
 refine Run.panic (t := 210) (y := iP e) rfl rfl (by simp) ?_
 exact Fin.pan rfl hh (List.append_nil _).symm ⟨rfl, rfl⟩
theorem moved_any (h : Heap) (hh : WF h) (i : Int) : ACalls Tryz.prog 103 [iA i] h fun o h' => (if 65535 < i then o = .panic (.p (errP 24)) else o = .ret (vr i).av) ∧ h' = h := by
 refine ACalls.of_run Tryz.func103 rfl ?_
 simp only [Tryz.ntmps103, List.length_cons, List.length_nil]
 refine Run.seq (Run.reg fun K J => ?_)
 simp
 refine J _ _ _ (Run.opsNil ?_); clear J
 refine Run.seq (Run.seq (Run.reg fun K J => ?_))
 simp
 refine J _ _ _ (Run.opsNil ?_); clear J
 by_cases he : 65535 < i
 ·refine ct (by simp [he]) ?_
  refine Run.reg fun K J => ?_
  simp
  refine J _ _ _ ?_; clear J
  refine Run.call (args := [iA 24]) rfl rfl (by simp) rfl (stop_any _ (hh.app (by simp)) 24) ?_ ?_
  ·rintro v h' ⟨hv, _⟩; cases hv
  ·rintro v h' ⟨hv, rfl⟩
   simp only [AOut.panic.injEq] at hv
   subst hv
   exact Fin.pan rfl hh rfl ⟨by simp [he], rfl⟩
 ·refine cf (by simp [he]) ?_
  refine Run.skip (Run.seq (Run.reg fun K J => ?_))
  simp
  refine J _ _ _ (Run.opsNil ?_); clear J
  refine Run.ret ?_
  refine Fin.ret' (h0 := h) (by simp) rfl hh rfl (by simp; rfl) rfl ?_ (y := (vr i).av) ?_ ⟨by simp [he], rfl⟩
  ·simp only [vr]
   refine Weak.agg ?_
   repeat' first | exact wn | apply wc
   all_goals first | exact Weak.refl _ | exact Weak.nil _
  ·simp
theorem binds_any (h : Heap) (hh : WF h) (k i : Int) : ACalls Tryz.prog 146 [iA k, iA i] h fun o h' => o = .ret (iA (belowZ k i)) ∧ h' = h := by
 refine ACalls.of_run Tryz.func146 rfl ?_
 simp only [Tryz.ntmps146, List.length_cons, List.length_nil]
 refine Run.seq (Run.reg fun K J => ?_)
 simp
 refine J _ _ _ (Run.opsNil ?_); clear J
 refine Run.seq (Run.block ?_)
 repeat refine Run.seq ?_
 refine Run.reg fun K J => ?_
 have hcase : ((i == 1) = true ∧ (k == 5) = true) ∨ ((i == 1) = true ∧ (k == 5) = false ∧ (k == 6) = true) ∨ ((i == 1) = true ∧ (k == 5) = false ∧ (k == 6) = false ∧ (k == 7) = true) ∨
   ((i == 1) = true ∧ (k == 5) = false ∧ (k == 6) = false ∧ (k == 7) = false ∧ (i == 2) = false) ∨ ((i == 1) = false ∧ (i == 2) = true ∧ (k == 11) = true) ∨ ((i == 1) = false ∧ (i == 2) = true ∧ (k == 11) = false) ∨ ((i == 1) = false ∧ (i == 2) = false) := by
  simp; omega
 rcases hcase with ⟨e1, e2⟩ | ⟨e1, e2, e3⟩ | ⟨e1, e2, e3, e4⟩ | ⟨e1, e2, e3, e4, e5⟩ | ⟨e1, e2, e3⟩ | ⟨e1, e2, e3⟩ | ⟨e1, e2⟩
 all_goals
  simp [*, -J]
  refine J _ _ _ (Run.opsNil ?_); clear J
  refine Run.cond rfl ?_
  first
  | (simp only [if_true]
     refine Run.skip (Run.cond rfl ?_)
     simp only [if_true]
     refine Run.seq (Run.reg fun K J => ?_)
     simp
     refine J _ _ _ (Run.opsNil ?_); clear J
     refine Run.ret ?_
     simp only [beq_iff_eq, beq_eq_false_iff_ne, ne_eq] at *
     exact Fin.ret' (by simp) rfl hh (List.append_nil _).symm rfl rfl (Weak.refl _) rfl ⟨by simp [belowZ, *], rfl⟩)
  | (simp only [Bool.false_eq_true, if_false]
     refine Run.reg fun K J => ?_
     simp [*, -J]
     refine J _ _ _ (Run.opsNil ?_); clear J
     refine Run.cond rfl ?_
     simp only [beq_iff_eq, beq_eq_false_iff_ne, ne_eq] at *
     first
     | (simp only [if_true]
        refine Run.seq (Run.reg fun K J => ?_)
        simp
        refine J _ _ _ (Run.opsNil ?_); clear J
        refine Run.ret ?_
        exact Fin.ret' (by simp) rfl hh (List.append_nil _).symm rfl rfl (Weak.refl _) rfl ⟨by simp [belowZ, *], rfl⟩)
     | (simp only [Bool.false_eq_true, if_false]
        refine Run.skip (Run.inBlock (Run.seq (Run.reg fun K J => ?_)))
        simp
        refine J _ _ _ (Run.opsNil ?_); clear J
        refine Run.ret ?_
        exact Fin.ret' (by simp) rfl hh (List.append_nil _).symm rfl rfl (Weak.refl _) rfl ⟨by simp [belowZ, *], rfl⟩))
def Tm.bare : Tm → Tm
 | .mk k i n ls _ => .mk k i n ls []
theorem lvPs_snoc (l : List Lv) (t : Lv) : lvPs (l ++ [t]) = lvPs l ++ [t.cells] := by simp [lvPs]
def lvBound (ls : List Lv) : Prop := ls.length ≤ 1048576 ∧ ∀ l ∈ ls, l.vars.length ≤ 1048576
theorem plain_any (h : Heap) (hh : WF h) (t : Tm) (hb : lvBound t.levels) : ACalls Tryz.prog 101 [t.av] h fun o h' => o = .ret t.bare.av ∧ h' = h := by
 obtain ⟨k, i, n, ls, ks⟩ := t
 simp only [Tm.levels] at hb
 refine ACalls.of_run Tryz.func101 rfl ?_
 simp only [Tryz.ntmps101, List.length_cons, List.length_nil, Tm.av, cells_mk, List.map]
 refine nv ?_
 refine Run.reg fun K J => ?_
 simp
 try (simp (disch := omega) only [wrap_id])
 refine J _ _ _ (nv ?_); clear J
 refine Run.reg fun K J => ?_
 simp
 try (simp (disch := omega) only [wrap_id])
 refine J _ _ _ (nv ?_); clear J
 refine Run.reg fun K J => ?_
 simp
 try (simp (disch := omega) only [wrap_id])
 refine J _ _ _ (nv ?_); clear J
 refine Run.tokAt (h.length + 2) 3 2 (by simp; rfl) (by simp) ?_
 simp
 refine Run.loopS [1, 2, 3, 14, 15] (fun j : Nat => j ≤ ls.length) (fun j => ls.length - j) (fun j => [(16, iA j)])
   (fun j => h ++ [some (.cells [iA k, iA i, .p (sP n), .p (.sl 2 (lvPs ls)), .p (.sl 5 (tmPs ks))]), some (.cells [iA 0, iA 0, .p (sP []), .p (.prim (.slice none 0 0)), .p (.prim (.slice none 0 0))]),
    some (.cells [iA k, iA i, .p (sP n), .own (h.length + 3) 2 (lvPs (ls.take j)), .p (.prim (.slice none 0 0))]), some (.tok j 2)])
   0 (by simp) ?_ (by simp [lvPs]) ?_
 ·simp
  repeat' first | exact wn | apply wc | exact wj _ | exact wr _ | exact wz _ | exact wo _ _ _ | exact wi (by omega)
 ·intro j hj IH
  simp
  refine nv ?_
  refine Run.reg fun K J => ?_
  simp
  try (simp (disch := omega) only [wrap_id])
  refine J _ _ _ (nv ?_); clear J
  by_cases hjl : j < ls.length
  ·have hg : ls[j]? = some ls[j] := List.getElem?_eq_getElem hjl
   have hvl := hb.2 _ (List.getElem_mem hjl)
   have hmin : min j ls.length = j := Nat.min_eq_left hj
   have hb0 := hb.1
   refine nv ?_
   refine ct (by simp [hjl]) (nv ?_)
   refine Run.reg fun K J => ?_
   simp [hg, Lv.cells]
   try (simp (disch := omega) only [wrap_id])
   refine J _ _ _ (nv ?_); clear J
   refine Run.draw [0, 0, 0, 0, 0, 0, 0, 1, 1, 1, 2, 2] [0, 0, 0, 0, 0, 0, 0, 0, 0, 1, 0, 2] [0, 1, 0, 4, 0, 16, 48, 124, 252, 511, 1023, 2047] [4, 5, 6, 0, 1, 2, 3, 7, 8, 9, 10, 11] (by kernel_rfl) (by kernel_rfl) ?_
   have hb1 : ls[j].vars.length * 16 ≤ 140737488355328 := by omega
   have hb2 : ls[j].vars.length ≤ 9223372036854775807 := by omega
   have hb3 : (j + 1) * 32 ≤ 140737488355328 := by omega
   have hb4 : j + 1 ≤ 9223372036854775807 := by omega
   refine DR.go fun K J => ?_
   simp [hmin, hb1, hb2, hb3, hb4]
   try (simp (disch := omega) only [wrap_id])
   refine J _ _ _ _ ?_; clear J
   change Run _ _ _ _ _ _ _ _
   refine nv ?_
   refine Run.reg fun K J => ?_
   simp
   try (simp (disch := omega) only [wrap_id])
   refine J _ _ _ (nv ?_); clear J
   have htk : ls.take (j + 1) = ls.take j ++ [ls[j]] := List.take_succ_eq_append_getElem hjl
   refine Run.keep [1, 2, 3, 14, 15, 16] ?_
   simp
   refine Run.cutAt 4 hh rfl (by omega) (by simp) (by simp) (by simp) rfl ?_
   refine IH (j + 1) _ _ (by omega) (by omega) ?_ ?_
   ·simp
    repeat' first | exact wn | apply wc | exact wj _ | exact wr _ | exact wz _ | exact wo _ _ _ | exact wi (by omega)
   ·rw [htk, lvPs_snoc]
    simp [Lv.cells]
  ·have hje : j = ls.length := by omega
   subst hje
   refine nv ?_
   refine cf (by simp) (nv ?_)
   refine Run.exit rfl ?_
   refine nv ?_
   refine Run.reg fun K J => ?_
   simp
   try (simp (disch := omega) only [wrap_id])
   refine J _ _ _ (nv ?_); clear J
   refine Run.ret ?_
   refine Fin.ret' (h0 := h) (by simp) rfl hh rfl (by simp; rfl) rfl (y := (Tm.mk k i n ls []).av) ?_ (by simp) ⟨rfl, rfl⟩
   refine Weak.agg ?_
   repeat' first | exact wn | apply wc | exact wj _ | exact wr _ | exact wz _ | exact wo _ _ _ | exact wi (by omega)


open Go Go.AI

inductive VO where
 | done (t : Tm) (s : Int)
 | go (t : Tm) (s : Int)
 | bad (e s : Int)

inductive BO (α : Type) where
 | ok (x : α) (s : Int)
 | bad (e s : Int)
def Tm.withKids : Tm → List Tm → Tm
 | .mk k i n ls _, ks => .mk k i n ls ks

mutual
def bld (vis : Int → Tm → Int → VO) (s : Int) : Tm → Int → BO Tm
 | .mk k i n ls ks, d => match vis s (.mk k i n ls ks) d with
  | .bad e s' => .bad e s'
  | .done t' s' => .ok t' s'
  | .go t' s' => match bldL vis s' k d 0 ks with
   | .bad e s'' => .bad e s''
   | .ok ks' s'' => .ok (t'.withKids ks') s''
def bldL (vis : Int → Tm → Int → VO) (s : Int) (k d : Int) (idx : Nat) : List Tm → BO (List Tm)
 | [] => .ok [] s
 | t :: ts => match bld vis s t (d + belowZ k idx) with
  | .bad e s' => .bad e s'
  | .ok t' s' => match bldL vis s' k d (idx + 1) ts with
   | .bad e s'' => .bad e s''
   | .ok ts' s'' => .ok (t' :: ts') s''
end
theorem bldL_snoc (vis : Int → Tm → Int → VO) (k d : Int) : ∀ (l : List Tm) (s : Int) (idx : Nat) (t : Tm), bldL vis s k d idx (l ++ [t]) = match bldL vis s k d idx l with
  | .bad e s' => .bad e s'
  | .ok l' s' => match bld vis s' t (d + belowZ k (idx + l.length : Nat)) with
   | .bad e s'' => .bad e s''
   | .ok t' s'' => .ok (l' ++ [t']) s''
 | [], s, idx, t => by
  simp only [List.nil_append, bldL, List.length_nil, Nat.add_zero]
 | x :: l, s, idx, t => by
  simp only [List.cons_append, bldL]
  cases h1 : bld vis s x (d + belowZ k idx) with
  | bad e s' => simp
  | ok x' s' =>
   simp only
   rw [bldL_snoc vis k d l s' (idx + 1) t]
   cases h2 : bldL vis s' k d (idx + 1) l with
   | bad e s'' => simp
   | ok l' s'' =>
    simp only [List.length_cons]
    rw [show idx + 1 + l.length = idx + (l.length + 1) by omega]
    cases h3 : bld vis s'' t (d + belowZ k (idx + (l.length + 1) : Nat)) with
    | bad e s3 => simp
    | ok t' s3 => simp
theorem bldL_bad (vis : Int → Tm → Int → VO) (k d : Int) (e s' : Int) : ∀ (l r : List Tm) (s : Int) (idx : Nat), bldL vis s k d idx l = .bad e s' → bldL vis s k d idx (l ++ r) = .bad e s'
 | [], r, s, idx, h => by simp [bldL] at h
 | x :: l, r, s, idx, h => by
  simp only [List.cons_append, bldL] at h ⊢
  cases h1 : bld vis s x (d + belowZ k idx) with
  | bad e1 s1 => rw [h1] at h; simpa using h
  | ok x' s1 =>
   rw [h1] at h
   simp only at h ⊢
   cases h2 : bldL vis s1 k d (idx + 1) l with
   | bad e2 s2 => rw [h2] at h; simp at h; obtain ⟨rfl, rfl⟩ := h; rw [bldL_bad vis k d _ _ l r s1 (idx + 1) h2]
   | ok l' s2 => rw [h2] at h; simp at h
theorem bldL_len (vis : Int → Tm → Int → VO) (k d : Int) : ∀ (l : List Tm) (s : Int) (idx : Nat) (l' : List Tm) (s' : Int), bldL vis s k d idx l = .ok l' s' → l'.length = l.length
 | [], s, idx, l', s', h => by simp [bldL] at h; simp [← h.1]
 | x :: l, s, idx, l', s', h => by
  simp only [bldL] at h
  cases h1 : bld vis s x (d + belowZ k idx) with
  | bad e1 s1 => rw [h1] at h; simp at h
  | ok x' s1 =>
   rw [h1] at h
   simp only at h
   cases h2 : bldL vis s1 k d (idx + 1) l with
   | bad e2 s2 => rw [h2] at h; simp at h
   | ok l2 s2 => rw [h2] at h; simp at h; rw [← h.1]; simp [bldL_len vis k d l s1 (idx + 1) l2 s2 h2]
def VPost (B : Int → Heap) (l : List (Option AO)) : VO → AOut → Heap → Prop
 | .done t s, o, h' => o = .ret (.tup [t.av, bA true]) ∧ h' = B s ++ l
 | .go t s, o, h' => o = .ret (.tup [t.av, bA false]) ∧ h' = B s ++ l
 | .bad e s, o, h' => o = .panic (.p (errP e)) ∧ h' = B s ++ l
def BPost (B : Int → Heap) : BO Tm → AOut → Heap → Prop
 | .ok t s, o, h' => o = .ret t.av ∧ h' = B s
 | .bad e s, o, h' => o = .panic (.p (errP e)) ∧ h' = B s
abbrev z5 : List PV := [iP 0, iP 0, sP [], .prim (.slice none 0 0), .prim (.slice none 0 0)]
def kidCells (dn : List Tm) (m : Nat) : List AV := (tmPs dn ++ List.replicate m z5).flatten.map AV.p
theorem kid_len5 (dn : List Tm) (m : Nat) : ∀ e ∈ tmPs dn ++ List.replicate m z5, e.length = 5 := by
 intro e he
 rcases List.mem_append.1 he with h | h
 ·rw [tmPs_eq] at h; obtain ⟨t, _, rfl⟩ := List.mem_map.1 h; simp
 ·rw [(List.mem_replicate.1 h).2]; rfl
theorem kid_under (m : Nat) (dn : List Tm) (q : Nat) : AV.underL m (kidCells dn q) = true := underL_p _ _
theorem kidCells_length (dn : List Tm) (m : Nat) : (kidCells dn m).length = (dn.length + m) * 5 := by
 unfold kidCells
 rw [List.length_map, flat_length (kid_len5 dn m)]; simp
theorem kidCells_zero (m : Nat) : (List.replicate m [iA 0, iA 0, AV.p (sP []), AV.p (.prim (.slice none 0 0)), AV.p (.prim (.slice none 0 0))]).flatten = kidCells [] m := by
 unfold kidCells
 induction m with
 | zero => rfl
 | succ m ih => rw [List.replicate_succ, List.flatten_cons, ih]; simp [tmPs, List.replicate_succ]
theorem kidCells_put (dn : List Tm) (m : Nat) (t : Tm) : patch (kidCells dn (m + 1)) (dn.length * 5) (t.cells.map AV.p) = kidCells (dn ++ [t]) m := by
 unfold kidCells
 rw [← map_patch, ← flat_set 5 _ dn.length t.cells (kid_len5 dn (m + 1)) (by simp) (by simp)]
 congr 2
 rw [List.set_append_right _ _ (by simp), tmPs_length, Nat.sub_self, List.replicate_succ, List.set_cons_zero, tmPs_eq, tmPs_eq]
 simp
theorem belowZ_01' (k i : Int) : 0 ≤ belowZ k i ∧ belowZ k i ≤ 1 := by unfold belowZ; split <;> omega
theorem build_any (vis : Int → Tm → Int → VO) (g : FuncId) (hg : enterable Tryz.prog g = true) (cap : List AV) (Dom : Tm → Int → Prop)
  (hD1 : ∀ k i n ls ks d, Dom (.mk k i n ls ks) d → ks.length ≤ 1048576 ∧ 0 ≤ d ∧ d ≤ 1099511627776)
  (hD2 : ∀ k i n ls ks d, Dom (.mk k i n ls ks) d → ∀ (j : Nat) (hj : j < ks.length), Dom ks[j] (d + belowZ k j)) (N : Nat) :
  ∀ (t : Tm) (s d : Int) (B : Int → Heap) (n : Nat), t.size ≤ N → Dom t d → (∀ s, (B s).length = n) → (∀ s, WF (B s)) → AV.underL n cap = true →
   (∀ s t d l, Dom t d → WF (B s ++ l) → ACalls Tryz.prog g ([t.av, iA d] ++ cap) (B s ++ l) (VPost B l (vis s t d))) →
   ACalls Tryz.prog 104 [.agg [.fn (.func g) [] cap], t.av, iA d] (B s) (BPost B (bld vis s t d)) := by
 induction N with
 | zero => intro t _ _ _ _ hN; have := t.size_pos; omega
 | succ N ih =>
 intro t s d B n hN hdom hlen hwf hcap HV
 obtain ⟨k, i, nm, ls, ks⟩ := t
 obtain ⟨hks, hd0, hd1⟩ := hD1 _ _ _ _ _ _ hdom
 have gl : ∀ s (l : List (Option AO)) (k : Nat), (B s ++ l)[n + k]? = l[k]? := fun s l k => get_lastN (hlen s)
 have gl0 : ∀ s (l : List (Option AO)), (B s ++ l)[n]? = l[0]? := fun s l => get_lastN0 (hlen s)
 have sl : ∀ s (l : List (Option AO)) (k : Nat) (o : Option AO), (B s ++ l).set (n + k) o = B s ++ l.set k o := fun s l k o => set_lastN (hlen s)
 have sl0 : ∀ s (l : List (Option AO)) (o : Option AO), (B s ++ l).set n o = B s ++ l.set 0 o := fun s l o => set_lastN0 (hlen s)
 have wfl : ∀ s (l : List (Option AO)), l.all (AO.under (n + l.length)) = true → WF (B s ++ l) := fun s l hl => (hwf s).app (by rw [hlen]; exact hl)
 have hcapm : ∀ m, AV.underL (n + m) cap = true := fun m => AV.underL_mono (by omega) hcap
 simp only [Tm.size] at hN
 refine ACalls.of_run Tryz.func104 rfl ?_
 simp only [Tryz.ntmps104, List.length_cons, List.length_nil, Tm.av, cells_mk, List.map]
 refine nv ?_
 rw [hlen s]
 refine nv ?_
 refine Run.reg fun K J => ?_
 simp [hlen]
 try (simp (disch := omega) only [wrap_id])
 refine J _ _ _ (nv ?_); clear J
 refine Run.reg fun K J => ?_
 simp [gl, gl0]
 try (simp (disch := omega) only [wrap_id])
 refine J _ _ _ (nv ?_); clear J
 have hv0 : ∃ vo, vis s (.mk k i nm ls ks) d = vo := ⟨_, rfl⟩
 obtain ⟨vo, hvo⟩ := hv0
 have hc := HV s (.mk k i nm ls ks) d [some (.cells [.fn (.func g) [] cap]), some (.cells [iA k, iA i, .p (sP nm), .p (.sl 2 (lvPs ls)), .p (.sl 5 (tmPs ks))]), some (.cells [iA 0, iA 0, .p (sP []), .p (.prim (.slice none 0 0)), .p (.prim (.slice none 0 0))])] hdom (wfl _ _ (by simp [hcapm]))
 rw [hvo] at hc
 simp only [Tm.av, cells_mk, List.map] at hc
 refine Run.call rfl rfl (by simp) hg hc ?_ ?_
 ·intro v h' hR
  cases vo with
  | bad e s' => simp [VPost] at hR
  | done t' s' =>
   simp only [VPost, AOut.ret.injEq] at hR
   obtain ⟨rfl, rfl⟩ := hR
   obtain ⟨k', i', n', ls', ks'⟩ := t'
   refine Run.ops fun K J => ?_
   simp [hlen, sl]
   try (simp (disch := omega) only [wrap_id])
   refine J _ _ _ (nv ?_); clear J
   refine Run.reg fun K J => ?_
   simp
   try (simp (disch := omega) only [wrap_id])
   refine J _ _ _ (nv ?_); clear J
   refine ct (by simp) (nv ?_)
   refine Run.reg fun K J => ?_
   simp [gl, sl]
   try (simp (disch := omega) only [wrap_id])
   refine J _ _ _ (nv ?_); clear J
   refine Run.ret ?_
   refine Fin.ret' (h0 := B s') (by simp) (hlen s') (hwf s') rfl (by simp [gl]; rfl) rfl (Weak.refl _) (by simp) ?_
   simp [bld, hvo, BPost]
  | go t' s' =>
   simp only [VPost, AOut.ret.injEq] at hR
   obtain ⟨rfl, rfl⟩ := hR
   obtain ⟨k', i', n', ls', ks'⟩ := t'
   refine Run.ops fun K J => ?_
   simp [hlen, sl]
   try (simp (disch := omega) only [wrap_id])
   refine J _ _ _ (nv ?_); clear J
   refine Run.reg fun K J => ?_
   simp
   try (simp (disch := omega) only [wrap_id])
   refine J _ _ _ (nv ?_); clear J
   refine cf (by simp) (nv ?_)
   refine Run.reg fun K J => ?_
   simp [gl, sl]
   try (simp (disch := omega) only [wrap_id])
   refine J _ _ _ (nv ?_); clear J
   refine Run.reg fun K J => ?_
   simp [gl]
   try (simp (disch := omega) only [wrap_id])
   refine J _ _ _ (nv ?_); clear J
   by_cases hk0 : 0 < ks.length
   ·refine nv ?_
    refine ct (by simp [hk0]) (nv ?_)
    have hm1 : ks.length * 80 ≤ 140737488355328 := by omega
    have hm2 : ks.length ≤ 1099511627776 := by omega
    refine nv ?_
    refine Run.reg fun K J => ?_
    simp [sl, hm1, hm2, hlen]
    try (simp (disch := omega) only [wrap_id])
    refine J _ _ _ (nv ?_); clear J
    rw [kidCells_zero]
    refine nv ?_
    refine Run.reg fun K J => ?_
    simp [gl]
    try (simp (disch := omega) only [wrap_id])
    refine J _ _ _ (nv ?_); clear J
    refine Run.loopS (ι := Nat × List Tm × Int) [2, 3, 4, 6, 7, 32, 33] (fun p => p.1 ≤ ks.length ∧ bldL vis s' k d 0 (ks.take p.1) = .ok p.2.1 p.2.2) (fun p => ks.length - p.1) (fun p => [(34, iA p.1)])
     (fun p => B p.2.2 ++ [some (.cells [.fn (.func g) [] cap]), some (.cells [iA k, iA i, .p (sP nm), .p (.sl 2 (lvPs ls)), .p (.sl 5 (tmPs ks))]), some (.cells [iA 0, iA 0, .p (sP []), .p (.prim (.slice none 0 0)), .p (.prim (.slice none 0 0))]),
      some (.cells [iA k', iA i', .p (sP n'), .p (.sl 2 (lvPs ls')), .sm (n + 4) 0 ks.length ks.length 5]), some (.cells (kidCells p.2.1 (ks.length - p.1)))])
     (0, [], s') (by simp [bldL]) ?_ (by simp) ?_
    ·simp
     repeat' first | exact wn | apply wc | exact wj _ | exact wr _ | exact wz _ | exact wo _ _ _ | exact wi (by omega)
    ·rintro ⟨j, dn, sj⟩ ⟨hj, hbl⟩ IH
     simp only at hj hbl
     have hdl : dn.length = j := by rw [bldL_len _ _ _ _ _ _ _ _ hbl]; simp; omega
     simp
     refine nv ?_
     refine Run.reg fun K J => ?_
     simp
     try (simp (disch := omega) only [wrap_id])
     refine J _ _ _ (nv ?_); clear J
     by_cases hjl : j < ks.length
     ·have hgj : ks[j]? = some ks[j] := List.getElem?_eq_getElem hjl
      have htk : ks.take (j + 1) = ks.take j ++ [ks[j]] := List.take_succ_eq_append_getElem hjl
      have hbz := belowZ_01' k j
      refine nv ?_
      refine ct (by simp [hjl]) (nv ?_)
      refine Run.reg fun K J => ?_
      simp [hgj, hlen, sl]
      try (simp (disch := omega) only [wrap_id])
      refine J _ _ _ (nv ?_); clear J
      -- the locals, and the contract of the recursive call over them
      obtain ⟨L, hL⟩ : ∃ L : List (Option AO), L = [some (.cells [.fn (.func g) [] cap]), some (.cells [iA k, iA i, .p (sP nm), .p (.sl 2 (lvPs ls)), .p (.sl 5 (tmPs ks))]), some (.cells [iA 0, iA 0, .p (sP []), .p (.prim (.slice none 0 0)), .p (.prim (.slice none 0 0))]),
       some (.cells [iA k', iA i', .p (sP n'), .p (.sl 2 (lvPs ls')), .sm (n + 4) 0 ks.length ks.length 5]), some (.cells (kidCells dn (ks.length - j))), some (.cells (ks[j].cells.map .p))] := ⟨_, rfl⟩
      have hLl : L.length = 6 := by rw [hL]; rfl
      have hLu : L.all (AO.under (n + L.length)) = true := by rw [hLl, hL]; simp [hcapm, kid_under]
      have hsz : ks[j].size ≤ N := by
       have h1 := sizes_take ks j _ hgj
       have h2 := sizes_take_le ks (j + 1)
       omega
      have hcall := ih ks[j] sj (d + belowZ k j) (fun s => B s ++ L) (n + 6) hsz (hD2 _ _ _ _ _ _ hdom j hjl) (fun s => by rw [List.length_append, hlen, hLl]) (fun s => wfl s L hLu) (hcapm 6)
       (fun s t d l hd hw => by
        have := HV s t d (L ++ l) hd (by rw [← List.append_assoc]; exact hw)
        rw [List.append_assoc]
        refine this.mono ?_
        intro o h' hp
        cases hvv : vis s t d <;> rw [hvv] at hp <;> simp only [VPost] at hp ⊢ <;> exact ⟨hp.1, by rw [hp.2, List.append_assoc]⟩)
      obtain ⟨bo, hbo⟩ : ∃ bo, bld vis sj ks[j] (d + belowZ k j) = bo := ⟨_, rfl⟩
      rw [hbo] at hcall
      have hsn := bldL_snoc vis k d (ks.take j) s' 0 ks[j]
      rw [hbl] at hsn
      simp only [Nat.zero_add, List.length_take, Nat.min_eq_left hj, hbo] at hsn
      have hwn : WF (B sj ++ L) := wfl sj L hLu
      rw [hL] at hwn
      cases bo with
      | ok t2 s2 =>
       have hcall2 := hcall.mono (R' := fun o h' => o = .ret t2.av ∧ h' = B s2 ++ L) (fun _ _ hp => hp)
       rw [hL] at hcall2
       refine nv ?_
       refine Run.draw [0, 0, 0, 0, 0, 0, 0, 0, 0, 0, 1, 1, 2, 2] [0, 0, 0, 0, 0, 0, 0, 0, 0, 0, 0, 1, 0, 2] [0, 1, 0, 0, 0, 0, 0, 64, 0, 448, 992, 2040, 4095, 8191] [6, 7, 8, 9, 3, 4, 5, 10, 11, 0, 1, 2, 12, 13] (by kernel_rfl) (by kernel_rfl) ?_
       refine DR.go fun K J => ?_
       simp [gl]
       try (simp (disch := omega) only [wrap_id])
       refine J _ _ _ _ ?_; clear J
       refine DR.call (args := [iA k, iA j]) rfl rfl rfl (by simp) rfl (binds_any _ hwn k j) ?_
       refine DR.go fun K J => ?_
       simp [gl, gl0]
       try (simp (disch := omega) only [wrap_id])
       refine J _ _ _ _ ?_; clear J
       refine DR.call (args := [.agg [.fn (.func g) [] cap], ks[j].av, iA (d + belowZ k j)]) rfl rfl rfl (by simp) rfl hcall2 ?_
       have hj5 : j * 5 + 5 ≤ (kidCells dn (ks.length - j)).length := by rw [kidCells_length]; omega
       have hput : patch (kidCells dn (ks.length - j)) (j * 5) (List.map AV.p t2.cells) = kidCells (dn ++ [t2]) (ks.length - (j + 1)) := by
        have := kidCells_put dn (ks.length - (j + 1)) t2
        rw [hdl, show ks.length - (j + 1) + 1 = ks.length - j by omega] at this
        exact this
       refine DR.go fun K J => ?_
       simp [gl, sl, hjl, hj5, hput]
       try (simp (disch := omega) only [wrap_id])
       refine J _ _ _ _ ?_; clear J
       change Run _ _ _ _ _ _ _ _
       refine nv ?_
       refine Run.reg fun K J => ?_
       simp
       try (simp (disch := omega) only [wrap_id])
       refine J _ _ _ (nv ?_); clear J
       refine Run.keep [2, 3, 4, 6, 7, 32, 33, 34] ?_
       simp
       refine Run.cutAt 5 (hwf s2) rfl (by rw [hlen]; omega) (by simp) (by simp [hlen]) (by simp [hlen, hcapm, kid_under]) rfl ?_
       refine IH (j + 1, dn ++ [t2], s2) _ _ ⟨by simp; omega, ?_⟩ (by simp; omega) ?_ ?_
       ·rw [htk]; exact hsn
       ·simp
        repeat' first | exact wn | apply wc | exact wj _ | exact wr _ | exact wz _ | exact wo _ _ _ | exact wi (by omega)
       ·simp
      | bad e s2 =>
       have hcall2 := hcall.mono (R' := fun o h' => o = .panic (.p (errP e)) ∧ h' = B s2 ++ L) (fun _ _ hp => hp)
       rw [hL] at hcall2
       have hbad : bldL vis s' k d 0 ks = .bad e s2 := by
        have h1 : bldL vis s' k d 0 (ks.take (j + 1)) = .bad e s2 := by rw [htk]; exact hsn
        have := bldL_bad vis k d e s2 (ks.take (j + 1)) (ks.drop (j + 1)) s' 0 h1
        rwa [List.take_append_drop] at this
       refine nv ?_
       refine Run.drawPanic [0, 0, 0, 0, 0, 0, 0, 0, 0, 0, 1, 1, 2, 2] [0, 0, 0, 0, 0, 0, 0, 0, 0, 0, 0, 0, 0, 0] [0, 1, 0, 0, 0, 0, 0, 64, 0, 448, 992, 2040, 4095, 8191] [6, 7, 8, 9, 0, 1, 2, 3, 4, 5, 10] 11 (by kernel_rfl) (by kernel_rfl) ?_
       refine DR.go fun K J => ?_
       simp [gl]
       try (simp (disch := omega) only [wrap_id])
       refine J _ _ _ _ ?_; clear J
       refine DR.call (args := [iA k, iA j]) rfl rfl rfl (by simp) rfl (binds_any _ hwn k j) ?_
       refine DR.go fun K J => ?_
       simp [gl, gl0]
       try (simp (disch := omega) only [wrap_id])
       refine J _ _ _ _ ?_; clear J
       refine ⟨_, _, _, [.agg [.fn (.func g) [] cap], ks[j].av, iA (d + belowZ k j)], _, _, rfl, rfl, rfl, by simp, rfl, hcall2, ?_⟩
       intro T' hT
       exact Fin.pan (hlen s2) (hwf s2) rfl (by simp [bld, hvo, hbad, BPost])
     ·have hje : j = ks.length := by omega
      subst hje
      rw [List.take_length] at hbl
      refine nv ?_
      refine cf (by simp) (nv ?_)
      refine Run.exit rfl ?_
      refine nv ?_
      refine Run.reg fun K J => ?_
      simp [gl, sl]
      try (simp (disch := omega) only [wrap_id])
      refine J _ _ _ (nv ?_); clear J
      refine Run.ret ?_
      refine Fin.retS (h0 := B sj) (xs := [.agg [iA k', iA i', .p (sP n'), .p (.sl 2 (lvPs ls')), .sm (n + 4) 0 ks.length ks.length 5]]) (by simp) (hlen sj) (hwf sj) (by simp [gl]) rfl
       (Settles.kids (xs := [iA k', iA i', .p (sP n'), .p (.sl 2 (lvPs ls'))]) (id := n + 4) (n := ks.length) (sz := 5) (es := tmPs dn) (by simp [gl, kidCells]) (fun e he => by rw [tmPs_eq] at he; obtain ⟨t, _, rfl⟩ := List.mem_map.1 he; simp) (by simp [hdl])) (by rw [sl]) (by simp) ?_
      simp [bld, hvo, hbl, BPost, Tm.withKids]
   ·refine nv ?_
    refine cf (by simp [hk0]) (nv ?_)
    refine Run.reg fun K J => ?_
    simp [gl, sl]
    try (simp (disch := omega) only [wrap_id])
    refine J _ _ _ (nv ?_); clear J
    refine Run.ret ?_
    refine Fin.ret' (h0 := B s') (by simp) (hlen s') (hwf s') rfl (by simp [gl]; rfl) rfl (y := (Tm.mk k' i' n' ls' []).av) ?_ (by simp) ?_
    ·refine Weak.agg ?_
     repeat' first | exact wn | apply wc | exact wj _ | exact wr _ | exact wz _ | exact wo _ _ _ | exact wi (by omega)
    ·have : ks = [] := by cases ks <;> simp at hk0 ⊢
     subst this
     simp [bld, hvo, BPost, bldL, Tm.withKids]
 ·intro v h' hR
  cases vo with
  | bad e s' =>
   simp only [VPost, AOut.panic.injEq] at hR
   obtain ⟨rfl, rfl⟩ := hR
   exact Fin.pan (hlen s') (hwf s') rfl (by simp [bld, hvo, BPost])
  | done t' s' => simp [VPost] at hR
  | go t' s' => simp [VPost] at hR


open Go Go.AI
theorem caught_any (h : Heap) (hh : WF h) (e : Int) : ACalls Tryz.prog 94 [.p (errP e)] h fun o h' => o = .ret (iA e) ∧ h' = h := by
 refine ACalls.of_run Tryz.func94 rfl ?_
 simp only [Tryz.ntmps94, List.length_cons, List.length_nil]
 refine nv ?_
 refine Run.reg fun K J => ?_
 simp
 try (simp (disch := omega) only [wrap_id])
 refine J _ _ _ (nv ?_); clear J
 have hu : Tryz.prog.underlying 210 = some (.int .i64) := by kernel_rfl
 refine nv ?_
 refine Run.reg fun K J => ?_
 simp [hu]
 try (simp (disch := omega) only [wrap_id])
 refine J _ _ _ (nv ?_); clear J
 refine Run.reg fun K J => ?_
 simp
 try (simp (disch := omega) only [wrap_id])
 refine J _ _ _ (nv ?_); clear J
 refine cf (by simp) (nv ?_)
 refine Run.reg fun K J => ?_
 simp
 try (simp (disch := omega) only [wrap_id])
 refine J _ _ _ (nv ?_); clear J
 refine Run.ret ?_
 exact Fin.ret' (by simp) rfl hh (List.append_nil _).symm rfl rfl (Weak.refl _) rfl ⟨rfl, rfl⟩
abbrev zTm : List AV := [iA 0, iA 0, .p (sP []), .p (.prim (.slice none 0 0)), .p (.prim (.slice none 0 0))]
theorem shiftDef_bad (h : Heap) (hh : WF h) (p q : Nat) {a b c d e0 : AV} {c0 : AV} (hp : h[p]? = some (some (.cells [a, b, c, d, e0]))) (hq : h[q]? = some (some (.cells [c0]))) (hpq : p ≠ q) (e : Int) :
  ADef Tryz.prog 93 [.ptr p 0, .ptr q 0] (some (.p (errP e))) h ((h.set p (some (.cells zTm))).set q (some (.cells [iA e]))) := by
 obtain ⟨p1, p2, p3, p4, p5, p6⟩ := idf hp
 have hq2 : (h.set p (some (.cells zTm)))[q]? = some (some (.cells [c0])) := by rw [List.getElem?_set_ne hpq]; exact hq
 refine ADef.of_run Tryz.func93 rfl rfl rfl fun K J => ?_
 simp only [Tryz.ntmps93, List.length_cons, List.length_nil]
 simp [recA]
 refine J _ _ ?_; clear J
 have hu : Tryz.prog.underlying 20 = some (.interface #[]) := by kernel_rfl
 refine nv ?_
 refine Run.reg fun K J => ?_
 simp [hu]
 try (simp (disch := omega) only [wrap_id])
 refine J _ _ _ (nv ?_); clear J
 refine ct (by simp) (nv ?_)
 refine Run.reg fun K J => ?_
 simp
 try (simp (disch := omega) only [wrap_id])
 refine J _ _ _ (nv ?_); clear J
 refine Run.call (args := [.p (errP e)]) rfl rfl (by simp) rfl (caught_any h hh e) ?_ ?_
 ·rintro v h' ⟨hv, rfl⟩
  simp only [AOut.ret.injEq] at hv
  subst hv
  refine Run.ops fun K J => ?_
  simp [hp, hq2]
  try (simp (disch := omega) only [wrap_id])
  refine J _ _ _ (nv ?_); clear J
  refine Run.nil ?_
  refine Fin.ret' (by simp) (by simp) ((hh.set (by simp)).set (by simp)) (List.append_nil _).symm rfl rfl (Weak.refl _) rfl ⟨⟨_, rfl⟩, rfl⟩
 ·rintro v h' ⟨hv, _⟩; cases hv
theorem shiftDef_ok (h : Heap) (hh : WF h) (p q : Nat) : ADef Tryz.prog 93 [.ptr p 0, .ptr q 0] none h h := by
 refine ADef.of_run Tryz.func93 rfl rfl rfl fun K J => ?_
 simp only [Tryz.ntmps93, List.length_cons, List.length_nil]
 simp [recA]
 refine J _ _ ?_; clear J
 have hu : Tryz.prog.underlying 20 = some (.interface #[]) := by kernel_rfl
 refine nv ?_
 refine Run.reg fun K J => ?_
 simp [hu]
 try (simp (disch := omega) only [wrap_id])
 refine J _ _ _ (nv ?_); clear J
 refine cf (by simp) (nv ?_)
 refine Run.nil ?_
 exact Fin.ret' (by simp) rfl hh (List.append_nil _).symm rfl rfl (Weak.refl _) rfl ⟨⟨_, rfl⟩, rfl⟩

end Go.Proofs.YtfajdeofhioakaaGreat


namespace Go.AI

open Go
theorem Fin.retM {P : Program} {fn : Func} {R : AOut → Heap → Prop} {T : List AV} {h h0 : Heap} {n : Nat} {l : List (Option AO)} {x y : AV} {xs : List AV} {ax : AX} (hax : (∀ v, ax ≠ .panic v) ∧ ∀ i, ax ≠ .exit i) (hn : n ≤ h0.length) (hh : WF h0) (e : h = h0 ++ l) (hr : aresults P T h fn.results.toList = some xs) (hx : atuple xs = x) (hw : Weak x y) (hy : y.under h0.length = true) (hR : R (.ret y) h0) :
  Fin P fn n R ax T h [] := by
 subst e hx
 have : ∃ l' y' h' m, aresults P T (h0 ++ l) fn.results.toList = some l' ∧ Settles (atuple l') (h0 ++ l) y' h' ∧ n ≤ m ∧ m ≤ h'.length ∧ y'.under m = true ∧ (h'.take m).all (AO.under m) = true ∧ R (.ret y') (h'.take m) := by
  refine ⟨xs, y, h0 ++ l, h0.length, hr, Settles.weak hw _, hn, by simp, hy, ?_, ?_⟩
  ·rw [take_last]; exact hh
  ·rw [take_last]; exact hR
 cases ax with
 | panic v => exact absurd rfl (hax.1 v)
 | exit i => exact absurd rfl (hax.2 i)
 | normal => exact ⟨rfl, this⟩
 | ret => exact ⟨rfl, this⟩

end Go.AI

namespace Go.Proofs.YtfajdeofhioakaaGreat

open Go Go.AI
theorem variables_any (h : Heap) (hh : WF h) (g : FuncId) (cap : List AV) (hu : AV.underL h.length cap = true) :
  ACalls Tryz.prog 99 [.fn (.func g) [] cap] h fun o h' => o = .ret (.agg [.fn (.func 145) [] [.ptr h.length 0]]) ∧ h' = h ++ [some (.cells [.fn (.func g) [] cap])] := by
 have hu1 : ∀ k, AV.underL (h.length + k) cap = true := fun k => AV.underL_mono (by omega) hu
 refine ACalls.of_run Tryz.func99 rfl ?_
 simp only [Tryz.ntmps99, List.length_cons, List.length_nil]
 refine nv ?_
 refine Run.reg fun K J => ?_
 simp
 try (simp (disch := omega) only [wrap_id])
 refine J _ _ _ (nv ?_); clear J
 refine Run.reg fun K J => ?_
 simp
 try (simp (disch := omega) only [wrap_id])
 refine J _ _ _ (nv ?_); clear J
 refine Run.ret ?_
 refine Fin.retM (h0 := h ++ [some (.cells [.fn (.func g) [] cap])]) (l := [some (.cells [.fn (.func 145) [] [.ptr h.length 0]])]) (by simp) (by simp) (hh.app (by simp [hu1])) (by simp) (by simp; rfl) rfl (Weak.refl _) (by simp) ⟨rfl, rfl⟩
def visVar (rep : Int → Tm → Int → BO Tm) (s : Int) (t : Tm) (d : Int) : VO :=
 if t.kind = 0 then (match rep s t d with
  | .ok t' s' => .done t' s'
  | .bad e s' => .bad e s') else .go t.bare s
def RPost (B : Int → Heap) (l : List (Option AO)) : BO Tm → AOut → Heap → Prop
 | .ok t s, o, h' => o = .ret t.av ∧ h' = B s ++ l
 | .bad e s, o, h' => o = .panic (.p (errP e)) ∧ h' = B s ++ l
theorem var_vis (rep : Int → Tm → Int → BO Tm) (g : FuncId) (hg : enterable Tryz.prog g = true) (cap : List AV) (B : Int → Heap) (n q : Nat) (hlen : ∀ s, (B s).length = n) (hwf : ∀ s, WF (B s)) (_hcap : AV.underL n cap = true)
  (hq : ∀ s, (B s)[q]? = some (some (.cells [.fn (.func g) [] cap]))) (s : Int) (t : Tm) (d : Int) (l : List (Option AO)) (hb : lvBound t.levels)
  (HV : ∀ l, t.kind = 0 → WF (B s ++ l) → ACalls Tryz.prog g ([t.av, iA d] ++ cap) (B s ++ l) (RPost B l (rep s t d))) (hw : WF (B s ++ l)) :
  ACalls Tryz.prog 145 ([t.av, iA d] ++ [.ptr q 0]) (B s ++ l) (VPost B l (visVar rep s t d)) := by
 have hqlt : q < n := by have := (List.getElem?_eq_some_iff.1 (hq s)).1; rw [hlen] at this; exact this
 have hql : ∀ s (l : List (Option AO)), (B s ++ l)[q]? = some (some (.cells [.fn (.func g) [] cap])) := fun s l => by rw [List.getElem?_append_left (by rw [hlen]; exact hqlt), hq]
 have gl : ∀ s (l' : List (Option AO)) (k : Nat), (B s ++ (l ++ l'))[n + (l.length + k)]? = l'[k]? := fun s l' k => by rw [get_lastN (hlen s), get_last]
 have gl0 : ∀ s (l' : List (Option AO)), (B s ++ (l ++ l'))[n + l.length]? = l'[0]? := fun s l' => gl s l' 0
 have sl : ∀ s (l' : List (Option AO)) (k : Nat) (o : Option AO), (B s ++ (l ++ l')).set (n + (l.length + k)) o = B s ++ (l ++ l'.set k o) := fun s l' k o => by rw [set_lastN (hlen s), set_last]
 have sl0 : ∀ s (l' : List (Option AO)) (o : Option AO), (B s ++ (l ++ l')).set (n + l.length) o = B s ++ (l ++ l'.set 0 o) := fun s l' o => sl s l' 0 o
 have hwl : ∀ s' (l' : List (Option AO)), (l ++ l').all (AO.under (n + (l ++ l').length)) = true → WF (B s' ++ (l ++ l')) := fun s' l' hl => (hwf s').app (by rw [hlen]; exact hl)
 have hl0 : l.all (AO.under (n + l.length)) = true := by
  have := hw.all; rw [List.all_append, Bool.and_eq_true, List.length_append, hlen] at this; exact this.2
 have hl1 : ∀ k, l.all (AO.under (n + (l.length + k))) = true := fun k => by
  rw [List.all_eq_true] at hl0 ⊢; exact fun o ho => AO.under_mono (by omega) (hl0 o ho)
 have hwB : ∀ s', WF (B s' ++ l) := fun s' => (hwf s').app (by rw [hlen]; exact hl0)
 obtain ⟨k, i, nm, ls, ks⟩ := t
 simp only [List.cons_append, List.nil_append]
 refine ACalls.of_run Tryz.func145 rfl ?_
 simp only [Tryz.ntmps145, List.length_cons, List.length_nil, Tm.av, cells_mk, List.map]
 refine nv ?_
 refine Run.reg fun K J => ?_
 simp [hlen]
 try (simp (disch := omega) only [wrap_id])
 refine J _ _ _ (nv ?_); clear J
 refine Run.reg fun K J => ?_
 simp [gl0]
 try (simp (disch := omega) only [wrap_id])
 refine J _ _ _ (nv ?_); clear J
 by_cases hk : k = 0
 ·subst hk
  refine nv ?_
  refine ct (by simp) (nv ?_)
  refine Run.reg fun K J => ?_
  simp [hql, hlen]
  try (simp (disch := omega) only [wrap_id])
  refine J _ _ _ (nv ?_); clear J
  obtain ⟨bo, hbo⟩ : ∃ bo, rep s (.mk 0 i nm ls ks) d = bo := ⟨_, rfl⟩
  have hw2 : WF (B s ++ (l ++ [some (.cells [iA 0, iA i, .p (sP nm), .p (.sl 2 (lvPs ls)), .p (.sl 5 (tmPs ks))]), some (.cells zTm)])) := hwl s _ (by rw [List.all_append, Bool.and_eq_true]; exact ⟨by simpa using hl1 _, by simp⟩)
  have hc := HV (l ++ [some (.cells [iA 0, iA i, .p (sP nm), .p (.sl 2 (lvPs ls)), .p (.sl 5 (tmPs ks))]), some (.cells zTm)]) rfl hw2
  rw [hbo] at hc
  refine Run.call rfl rfl (by simp) hg hc ?_ ?_
  ·intro v h' hR
   cases bo with
   | bad e s' => simp [RPost] at hR
   | ok t' s' =>
    obtain ⟨k', i', n', ls', ks'⟩ := t'
    simp only [RPost, AOut.ret.injEq] at hR
    obtain ⟨rfl, rfl⟩ := hR
    refine Run.ops fun K J => ?_
    simp [hlen, sl]
    try (simp (disch := omega) only [wrap_id])
    refine J _ _ _ (nv ?_); clear J
    refine Run.ret ?_
    refine Fin.ret' (h0 := B s' ++ l) (by simp) (by simp [hlen]) (hwB s') (by simp; rfl) (by simp [gl]; rfl) rfl (Weak.refl _) (by simp) ?_
    simp [visVar, Tm.kind, hbo, VPost]
  ·intro v h' hR
   cases bo with
   | ok t' s' => simp [RPost] at hR
   | bad e s' =>
    simp only [RPost, AOut.panic.injEq] at hR
    obtain ⟨rfl, rfl⟩ := hR
    refine Fin.pan (h0 := B s' ++ l) (by simp [hlen]) (hwB s') (by simp; rfl) ?_
    simp [visVar, Tm.kind, hbo, VPost]
 ·refine nv ?_
  refine cf (by simp [hk]) (nv ?_)
  refine Run.reg fun K J => ?_
  simp [hlen]
  try (simp (disch := omega) only [wrap_id])
  refine J _ _ _ (nv ?_); clear J
  have hw2 : WF (B s ++ (l ++ [some (.cells [iA k, iA i, .p (sP nm), .p (.sl 2 (lvPs ls)), .p (.sl 5 (tmPs ks))]), some (.cells zTm)])) := hwl s _ (by rw [List.all_append, Bool.and_eq_true]; exact ⟨by simpa using hl1 _, by simp⟩)
  refine Run.call (args := [(Tm.mk k i nm ls ks).av]) rfl rfl (by simp) rfl (plain_any _ hw2 (.mk k i nm ls ks) hb) ?_ ?_
  ·rintro v h' ⟨hv, rfl⟩
   simp only [AOut.ret.injEq] at hv
   subst hv
   refine Run.ops fun K J => ?_
   simp [hlen, sl, Tm.bare]
   try (simp (disch := omega) only [wrap_id])
   refine J _ _ _ (nv ?_); clear J
   refine Run.ret ?_
   refine Fin.ret' (h0 := B s ++ l) (by simp) (by simp [hlen]) hw (by simp; rfl) (by simp [gl]; rfl) rfl (Weak.refl _) (by simp) ?_
   simp [visVar, Tm.kind, hk, VPost, Tm.bare]
  ·rintro v h' ⟨hv, _⟩; cases hv
def Tm.okN (m : Int) (k i : Int) (n : List UInt8) (ls : List Lv) (ks : List Tm) : Prop :=
 (k = 0 → 0 ≤ i ∧ i < m ∧ n = [] ∧ ls = [] ∧ ks = []) ∧ ls.length ≤ 8 ∧ (∀ l ∈ ls, l.vars.length ≤ 1048576) ∧ ks.length ≤ 3

mutual
def Tm.ok (m : Int) : Tm → Prop
 | .mk k i n ls ks => Tm.okN m k i n ls ks ∧ Tm.oks m k 0 ks
def Tm.oks (m k : Int) (idx : Nat) : List Tm → Prop
 | [] => True
 | t :: ts => t.ok (m + belowZ k idx) ∧ Tm.oks m k (idx + 1) ts
end
theorem Tm.oks_at {m k : Int} : ∀ {l : List Tm} {idx : Nat}, Tm.oks m k idx l → ∀ (j : Nat) (hj : j < l.length), l[j].ok (m + belowZ k (idx + j : Nat))
 | [], _, _, j, hj => by simp at hj
 | x :: l, idx, h, j, hj => by
  simp only [Tm.oks] at h
  cases j with
  | zero => simpa using h.1
  | succ j =>
   have := Tm.oks_at h.2 j (by simpa using hj)
   simp only [List.getElem_cons_succ]
   rw [show idx + (j + 1) = idx + 1 + j by omega]; exact this
theorem kid_size {l : List Tm} {j : Nat} (hj : j < l.length) : l[j].size ≤ Tm.sizes l := by
 have h1 := sizes_take l j _ (List.getElem?_eq_getElem hj)
 have h2 := sizes_take_le l (j + 1)
 omega
def Dom (m0 : Int) (t : Tm) (d : Int) : Prop := t.ok (m0 + d) ∧ 0 ≤ d ∧ d + t.size ≤ 1099511627776
theorem Dom.one {m0 : Int} : ∀ k i n ls ks d, Dom m0 (.mk k i n ls ks) d → ks.length ≤ 1048576 ∧ 0 ≤ d ∧ d ≤ 1099511627776 := by
 intro k i n ls ks d ⟨h1, h2, h3⟩
 simp only [Tm.ok, Tm.okN] at h1
 simp only [Tm.size] at h3
 exact ⟨by omega, h2, by omega⟩
theorem Dom.two {m0 : Int} : ∀ k i n ls ks d, Dom m0 (.mk k i n ls ks) d → ∀ (j : Nat) (hj : j < ks.length), Dom m0 ks[j] (d + belowZ k j) := by
 intro k i n ls ks d ⟨h1, h2, h3⟩ j hj
 have h4 := Tm.oks_at h1.2 j hj
 have h5 := belowZ_01' k j
 have h6 := kid_size hj
 simp only [Tm.size] at h3
 refine ⟨?_, by omega, by omega⟩
 rw [show m0 + (d + belowZ k j) = m0 + d + belowZ k (0 + j : Nat) by simp; omega]; exact h4
theorem Dom.lv {m0 : Int} {t : Tm} {d : Int} (h : Dom m0 t d) : lvBound t.levels := by
 obtain ⟨k, i, n, ls, ks⟩ := t
 have := h.1.1
 simp only [Tm.okN] at this
 exact ⟨by simp only [Tm.levels]; omega, by simpa only [Tm.levels] using this.2.2.1⟩
theorem Dom.var {m0 : Int} {t : Tm} {d : Int} (h : Dom m0 t d) (hk : t.kind = 0) : 0 ≤ t.index ∧ t.index < m0 + d ∧ t = vr t.index := by
 obtain ⟨k, i, n, ls, ks⟩ := t
 obtain ⟨h1, h2, rfl, rfl, rfl⟩ := h.1.1.1 hk
 simp only [Tm.kind] at hk
 subst hk
 exact ⟨h1, h2, rfl⟩
def repShift (d_ from_ : Int) (s : Int) (t : Tm) (d : Int) : BO Tm :=
 if t.index - d < from_ then .ok t.bare s
 else if d_ < 0 ∧ t.index - d < from_ - d_ then .bad 24 s
 else if 65535 < t.index + d_ then .bad 24 s else .ok (vr (t.index + d_)) s
theorem repShift_any (h : Heap) (hh : WF h) (by_ fr : Int) (hb1 : -1099511627776 ≤ by_) (hb2 : by_ ≤ 1099511627776) (hf1 : 0 ≤ fr) (hf2 : fr ≤ 9223372036854775807) (p q : Nat) (hp : h[p]? = some (some (.cells [iA fr]))) (hq : h[q]? = some (some (.cells [iA by_]))) (t : Tm) (d s : Int) (hd : Dom 65536 t d) (hk : t.kind = 0) :
  ACalls Tryz.prog 142 ([t.av, iA d] ++ [.ptr p 0, .ptr q 0]) h (RPost (fun _ => h) [] (repShift by_ fr s t d)) := by
 obtain ⟨p1, p2, p3, p4, p5, p6⟩ := idf hp
 obtain ⟨q1, q2, q3, q4, q5, q6⟩ := idf hq
 obtain ⟨i1, i2, i3⟩ := hd.var hk
 have hd2 := hd.2.1
 have hd3 := hd.2.2
 generalize t.index = i at *
 subst i3
 simp only [vr, List.cons_append, List.nil_append]
 refine ACalls.of_run Tryz.func142 rfl ?_
 simp only [Tryz.ntmps142, List.length_cons, List.length_nil, Tm.av, cells_mk, List.map]
 refine nv ?_
 refine Run.reg fun K J => ?_
 simp
 try (simp (disch := omega) only [wrap_id])
 refine J _ _ _ (nv ?_); clear J
 refine Run.reg fun K J => ?_
 simp
 try (simp (disch := omega) only [wrap_id])
 refine J _ _ _ (nv ?_); clear J
 refine Run.reg fun K J => ?_
 simp [p1]
 try (simp (disch := omega) only [wrap_id])
 refine J _ _ _ (nv ?_); clear J
 by_cases c1 : i - d < fr
 ·refine nv ?_
  refine ct (by simp [c1]) (nv ?_)
  refine Run.reg fun K J => ?_
  simp
  try (simp (disch := omega) only [wrap_id])
  refine J _ _ _ (nv ?_); clear J
  refine Run.call (args := [(vr i).av]) rfl rfl (by simp [vr]) rfl (plain_any _ (hh.app (by simp)) (vr i) ⟨by simp [vr, Tm.levels], by simp [vr, Tm.levels]⟩) ?_ ?_
  ·rintro v h' ⟨hv, rfl⟩
   simp only [AOut.ret.injEq] at hv
   subst hv
   refine Run.ops fun K J => ?_
   simp [vr, Tm.bare]
   try (simp (disch := omega) only [wrap_id])
   refine J _ _ _ (nv ?_); clear J
   refine Run.ret ?_
   refine Fin.ret' (h0 := h) (by simp) rfl hh rfl (by simp; rfl) rfl (Weak.of_eq (y := (vr i).bare.av) (by simp [vr, Tm.bare])) (by simp) ?_
   simp [repShift, Tm.index, vr, c1, RPost, Tm.bare]
  ·rintro v h' ⟨hv, _⟩; cases hv
 ·refine nv ?_
  refine cf (by simp [c1]) (nv ?_)
  have hc : (by_ < 0 ∧ i - d < fr - by_) ∨ (by_ < 0 ∧ ¬ (i - d < fr - by_)) ∨ ¬ by_ < 0 := by omega
  have hw0 : by_ < 0 → IntKind.i64.wrap (fr - by_) = fr - by_ := fun h => wrap_id (by omega) (by omega)
  rcases hc with ⟨c2, c3⟩ | ⟨c2, c3⟩ | c2
  ·refine nv ?_
   refine Run.reg fun K J => ?_
   simp [c2, c3, p1, q1, hw0 c2]
   try (simp (disch := omega) only [wrap_id])
   refine J _ _ _ (nv ?_); clear J
   refine ct (by simp) (nv ?_)
   refine Run.reg fun K J => ?_
   simp
   try (simp (disch := omega) only [wrap_id])
   refine J _ _ _ (nv ?_); clear J
   refine Run.call (args := [iA 24]) rfl rfl (by simp) rfl (stop_any _ (hh.app (by simp)) 24) ?_ ?_
   ·rintro v h' ⟨hv, _⟩; cases hv
   ·rintro v h' ⟨hv, rfl⟩
    simp only [AOut.panic.injEq] at hv
    subst hv
    exact Fin.pan rfl hh rfl (by simp [repShift, Tm.index, c1, c2, c3, RPost])
  all_goals
   first
   | (
    refine nv ?_
    refine Run.reg fun K J => ?_
    simp [c2, c3, p1, q1, hw0 c2]
    try (simp (disch := omega) only [wrap_id])
    refine J _ _ _ (nv ?_); clear J
    skip)
   | (
    refine nv ?_
    refine Run.reg fun K J => ?_
    simp [c2, q1]
    try (simp (disch := omega) only [wrap_id])
    refine J _ _ _ (nv ?_); clear J
    skip)
   refine nv ?_
   refine cf (by simp) (nv ?_)
   refine Run.reg fun K J => ?_
   simp [q1]
   try (simp (disch := omega) only [wrap_id])
   refine J _ _ _ (nv ?_); clear J
   have hcall := moved_any (h ++ [some (.cells [iA 0, iA i, .p (sP []), .p (.sl 2 (lvPs [])), .p (.sl 5 (tmPs []))]), some (.cells zTm)]) (hh.app (by simp)) (i + by_)
   refine Run.call (args := [iA (i + by_)]) rfl rfl (by simp) rfl hcall ?_ ?_
   ·rintro v h' ⟨hv, rfl⟩
    by_cases c4 : 65535 < i + by_
    ·simp [c4] at hv
    ·simp only [c4, if_false, AOut.ret.injEq] at hv
     subst hv
     refine Run.ops fun K J => ?_
     simp [vr]
     try (simp (disch := omega) only [wrap_id])
     refine J _ _ _ (nv ?_); clear J
     refine Run.ret ?_
     refine Fin.ret' (h0 := h) (by simp) rfl hh rfl (by simp; rfl) rfl (Weak.of_eq (y := (vr (i + by_)).av) (by simp [vr])) (by simp) ?_
     have c5 : ¬ (by_ < 0 ∧ i - d < fr - by_) := by omega
     simp [repShift, Tm.index, vr, c1, c5, c4, RPost]
   ·rintro v h' ⟨hv, rfl⟩
    by_cases c4 : 65535 < i + by_
    ·simp only [c4, if_true, AOut.panic.injEq] at hv
     subst hv
     have c5 : ¬ (by_ < 0 ∧ i - d < fr - by_) := by omega
     exact Fin.pan rfl hh rfl (by simp [repShift, Tm.index, c1, c5, c4, RPost])
    ·simp [c4] at hv


open Go Go.AI
def shiftB (by_ fr : Int) (t : Tm) : BO Tm := bld (visVar (repShift by_ fr)) 0 t 0
theorem RPost.of_const {B : Int → Heap} {l : List (Option AO)} {s : Int} (hB : ∀ s', B s' = B s) {r : BO Tm} {o : AOut} {h' : Heap} (hp : RPost (fun _ => B s ++ l) [] r o h') : RPost B l r o h' := by
 cases r <;> simp only [RPost, List.append_nil] at hp ⊢ <;> exact ⟨hp.1, hp.2.trans (congrArg (· ++ l) (hB _).symm)⟩
theorem shifted_any (h : Heap) (hh : WF h) (t : Tm) (by_ fr : Int) (hb1 : -1099511627776 ≤ by_) (hb2 : by_ ≤ 1099511627776) (hf1 : 0 ≤ fr) (hf2 : fr ≤ 9223372036854775807) (hd : Dom 65536 t 0) :
  ACalls Tryz.prog 95 [t.av, iA by_, iA fr] h (BPost (fun _ => h) (shiftB by_ fr t)) := by
 obtain ⟨H, hH⟩ : ∃ H : Heap, H = h ++ [some (.cells (t.cells.map .p)), some (.cells [iA by_]), some (.cells [iA fr]), some (.cells zTm), some (.cells [.fn (.func 142) [] [.ptr (h.length + 2) 0, .ptr (h.length + 1) 0]])] := ⟨_, rfl⟩
 have hlen : H.length = h.length + 5 := by rw [hH]; simp
 have hwf : WF H := by rw [hH]; exact hh.app (by simp)
 have e1 : H[h.length + 1]? = some (some (.cells [iA by_])) := by rw [hH]; simp
 have e2 : H[h.length + 2]? = some (some (.cells [iA fr])) := by rw [hH]; simp
 have e4 : H[h.length + 4]? = some (some (.cells [.fn (.func 142) [] [.ptr (h.length + 2) 0, .ptr (h.length + 1) 0]])) := by rw [hH]; simp
 have hbuild := build_any (visVar (repShift by_ fr)) 145 rfl [.ptr (h.length + 4) 0] (Dom 65536) Dom.one Dom.two t.size t 0 0 (fun _ => H) (h.length + 5) (Nat.le_refl _) hd (fun _ => hlen) (fun _ => hwf) (by simp)
  (fun s t d l hd hw => var_vis (repShift by_ fr) 142 rfl [.ptr (h.length + 2) 0, .ptr (h.length + 1) 0] (fun _ => H) (h.length + 5) (h.length + 4) (fun _ => hlen) (fun _ => hwf) (by simp) (fun _ => e4) s t d l hd.lv
   (fun l hk hw => (repShift_any (H ++ l) hw by_ fr hb1 hb2 hf1 hf2 (h.length + 2) (h.length + 1) ((idf e2).1 l) ((idf e1).1 l) t d s hd hk).mono fun _ _ hp => RPost.of_const (B := fun _ => H) (s := s) (fun _ => rfl) hp) hw)
 have hvar := variables_any (h ++ [some (.cells (t.cells.map .p)), some (.cells [iA by_]), some (.cells [iA fr]), some (.cells zTm)]) (hh.app (by simp)) 142 [.ptr (h.length + 2) 0, .ptr (h.length + 1) 0] (by simp)
 have hdef : bld (visVar (repShift by_ fr)) 0 t 0 = shiftB by_ fr t := rfl
 rw [hdef] at hbuild
 rw [hH] at hbuild
 clear hH hlen hwf e1 e2 e4
 obtain ⟨k, i, nm, ls, ks⟩ := t
 cases hbo : shiftB by_ fr (.mk k i nm ls ks) with
 | ok t' s' =>
  rw [hbo] at hbuild
  have hb2 := hbuild.mono (R' := fun o h' => o = .ret t'.av ∧ h' = _) (fun _ _ hp => hp)
  refine ACalls.of_run Tryz.func95 rfl ?_
  simp only [Tryz.ntmps95, List.length_cons, List.length_nil, Tm.av, cells_mk, List.map]
  refine nv ?_
  refine Run.reg fun K J => ?_
  simp
  try (simp (disch := omega) only [wrap_id])
  refine J _ _ _ (nv ?_); clear J
  refine Run.draw [0, 0, 0, 1, 2] [0, 0, 0, 1, 2] [0, 1, 0, 7, 15] [0, 1, 2, 3, 4] (by kernel_rfl) (by kernel_rfl) ?_
  refine DR.go fun K J => ?_
  simp
  try (simp (disch := omega) only [wrap_id])
  refine J _ _ _ _ ?_; clear J
  refine DR.call rfl rfl rfl (by simp) rfl hvar ?_
  refine DR.go fun K J => ?_
  simp
  try (simp (disch := omega) only [wrap_id])
  refine J _ _ _ _ ?_; clear J
  refine DR.call rfl rfl rfl (by simp) rfl hb2 ?_
  obtain ⟨k', i', n', ls', ks'⟩ := t'
  refine DR.go fun K J => ?_
  simp
  try (simp (disch := omega) only [wrap_id])
  refine J _ _ _ _ ?_; clear J
  change Run _ _ _ _ _ _ _ _
  refine nv ?_
  refine Run.ret ?_
  refine Fin.ret' (h0 := h) (by simp) rfl hh rfl (by simp; rfl) rfl (Weak.refl _) (by simp) ?_
  simp [BPost]
 | bad e s' =>
  rw [hbo] at hbuild
  have hb2 := hbuild.mono (R' := fun o h' => o = .panic (.p (errP e)) ∧ h' = _) (fun _ _ hp => hp)
  refine ACalls.of_run Tryz.func95 rfl ?_
  simp only [Tryz.ntmps95, List.length_cons, List.length_nil, Tm.av, cells_mk, List.map]
  refine nv ?_
  refine Run.reg fun K J => ?_
  simp
  try (simp (disch := omega) only [wrap_id])
  refine J _ _ _ (nv ?_); clear J
  refine Run.drawPanic [0, 0, 0, 1, 2] [0, 0, 0, 0, 0] [0, 1, 0, 7, 15] [0, 1, 2] 3 (by kernel_rfl) (by kernel_rfl) ?_
  refine DR.go fun K J => ?_
  simp
  try (simp (disch := omega) only [wrap_id])
  refine J _ _ _ _ ?_; clear J
  refine DR.call rfl rfl rfl (by simp) rfl hvar ?_
  refine DR.go fun K J => ?_
  simp
  try (simp (disch := omega) only [wrap_id])
  refine J _ _ _ _ ?_; clear J
  refine ⟨_, _, _, _, _, _, rfl, rfl, rfl, by simp, rfl, hb2, ?_⟩
  intro T' hT
  exact Fin.pan rfl hh rfl (by simp [BPost])
def zT : Tm := .mk 0 0 [] [] []
def resB : BO Tm → Tm × Int
 | .ok t _ => (t, 0)
 | .bad e _ => (zT, e)
def resShift (by_ fr : Int) (t : Tm) : Tm × Int :=
 if fr < 0 ∨ by_ < -65536 ∨ 65536 < by_ then (zT, 2) else resB (shiftB by_ fr t)
theorem Weak.zT : Weak (.agg zTm) zT.av := by
 refine Weak.agg ?_
 simp only [Go.Proofs.YtfajdeofhioakaaGreat.zT, cells_mk, List.map]
 repeat' first | exact wn | apply wc | exact wj _ | exact wr _ | exact wz _ | exact wo _ _ _ | exact wi (by omega)
theorem shift_any (h : Heap) (hh : WF h) (t : Tm) (by_ fr : Int) (hb1 : -9223372036854775808 ≤ by_) (hb2 : by_ ≤ 9223372036854775807) (hf2 : fr ≤ 9223372036854775807) (hd : Dom 65536 t 0) :
  ACalls Tryz.prog 46 [t.av, iA by_, iA fr] h fun o h' => o = .ret (.tup [(resShift by_ fr t).1.av, iA (resShift by_ fr t).2]) ∧ h' = h := by
 have hcase : ((fr < 0) ∧ resShift by_ fr t = (zT, 2)) ∨ (¬ fr < 0 ∧ by_ < -65536 ∧ resShift by_ fr t = (zT, 2)) ∨ (¬ fr < 0 ∧ ¬ by_ < -65536 ∧ 65536 < by_ ∧ resShift by_ fr t = (zT, 2)) ∨ (¬ fr < 0 ∧ ¬ by_ < -65536 ∧ ¬ 65536 < by_ ∧ resShift by_ fr t = resB (shiftB by_ fr t)) := by
  unfold resShift
  by_cases c1 : fr < 0
  ·simp [c1]
  ·by_cases c2 : by_ < -65536
   ·simp [c1, c2]
   ·by_cases c3 : 65536 < by_
    ·simp [c1, c2, c3]
    ·simp [c1, c2, c3]
 obtain ⟨L, hL⟩ : ∃ L : List AV, L = t.cells.map .p := ⟨_, rfl⟩
 have hs := shifted_any (h ++ [some (.cells (t.cells.map .p)), some (.cells zTm), some (.cells [iA 0])]) (hh.app (by simp)) t by_ fr
 generalize resShift by_ fr t = r at hcase ⊢
 obtain ⟨k, i, nm, ls, ks⟩ := t
 refine ACalls.of_runD Tryz.func46 rfl ?_
 simp only [Tryz.ntmps46, List.length_cons, List.length_nil, Tm.av, cells_mk, List.map]
 refine nv ?_
 refine Run.reg fun K J => ?_
 simp
 try (simp (disch := omega) only [wrap_id])
 refine J _ _ _ (nv ?_); clear J
 rcases hcase with ⟨c1, rfl⟩ | ⟨c1, c2, rfl⟩ | ⟨c1, c2, c3, rfl⟩ | ⟨c1, c2, c3, rfl⟩
 case inr.inr.inr =>
  refine nv ?_
  refine Run.reg fun K J => ?_
  simp [c1, c2, c3]
  try (simp (disch := omega) only [wrap_id])
  refine J _ _ _ (nv ?_); clear J
  refine cf (by simp) (nv ?_)
  refine Run.reg fun K J => ?_
  simp
  try (simp (disch := omega) only [wrap_id])
  refine J _ _ _ (nv ?_); clear J
  refine Run.defer (i := 93) (first := []) (cap := [.ptr (h.length + 1) 0, .ptr (h.length + 2) 0]) rfl rfl rfl (by simp) ?_
  refine Run.ops fun K J => ?_
  simp
  try (simp (disch := omega) only [wrap_id])
  refine J _ _ _ (nv ?_); clear J
  refine Run.reg fun K J => ?_
  simp
  try (simp (disch := omega) only [wrap_id])
  refine J _ _ _ (nv ?_); clear J
  have hs := hs (by omega) (by omega) (by omega) hf2 hd
  refine Run.call (args := [(Tm.mk k i nm ls ks).av, iA by_, iA fr]) rfl rfl (by simp) rfl hs ?_ ?_
  ·intro v h' hR
   cases hbo : shiftB by_ fr (.mk k i nm ls ks) with
   | bad e s' => rw [hbo] at hR; simp [BPost] at hR
   | ok t' s' =>
    rw [hbo] at hR
    simp only [BPost, AOut.ret.injEq] at hR
    obtain ⟨rfl, rfl⟩ := hR
    obtain ⟨k', i', nm', ls', ks'⟩ := t'
    refine Run.ops fun K J => ?_
    simp
    try (simp (disch := omega) only [wrap_id])
    refine J _ _ _ (nv ?_); clear J
    refine Run.ret ?_
    simp only [FinD]
    refine ⟨by simp, rfl, _, shiftDef_ok _ (hh.app (by simp)) (h.length + 1) (h.length + 2), ?_⟩
    refine Fin.ret' (h0 := h) (by simp) rfl hh rfl (by simp; rfl) rfl (Weak.refl _) (by simp) ⟨by simp [resB], rfl⟩
  ·intro v h' hR
   cases hbo : shiftB by_ fr (.mk k i nm ls ks) with
   | ok t' s' => rw [hbo] at hR; simp [BPost] at hR
   | bad e s' =>
    rw [hbo] at hR
    simp only [BPost, AOut.panic.injEq] at hR
    obtain ⟨rfl, rfl⟩ := hR
    simp only [FinD]
    refine ⟨by simp, rfl, _, shiftDef_bad _ (hh.app (by simp)) (h.length + 1) (h.length + 2) (by simp; exact ⟨rfl, rfl, rfl, rfl, rfl⟩) (by simp; rfl) (by omega) e, ?_⟩
    simp
    refine Fin.ret' (h0 := h) (xs := [.agg zTm, iA e]) (by simp) rfl hh rfl (by simp) rfl (Weak.tup (WeakL.cons Weak.zT (WeakL.refl _))) (by simp) ⟨by simp [resB], rfl⟩
 ·refine nv ?_
  refine Run.reg fun K J => ?_
  simp [c1]
  try (simp (disch := omega) only [wrap_id])
  refine J _ _ _ (nv ?_); clear J
  refine ct (by simp) (nv ?_)
  refine Run.reg fun K J => ?_
  simp
  try (simp (disch := omega) only [wrap_id])
  refine J _ _ _ (nv ?_); clear J
  refine Run.ret ?_
  simp only [FinD]
  refine Fin.ret' (h0 := h) (xs := [.agg zTm, iA 2]) (by simp) rfl hh rfl (by simp) rfl (Weak.tup (WeakL.cons Weak.zT (WeakL.refl _))) (by simp) ⟨rfl, rfl⟩
 ·refine nv ?_
  refine Run.reg fun K J => ?_
  simp [c1, c2]
  try (simp (disch := omega) only [wrap_id])
  refine J _ _ _ (nv ?_); clear J
  refine ct (by simp) (nv ?_)
  refine Run.reg fun K J => ?_
  simp
  try (simp (disch := omega) only [wrap_id])
  refine J _ _ _ (nv ?_); clear J
  refine Run.ret ?_
  simp only [FinD]
  refine Fin.ret' (h0 := h) (xs := [.agg zTm, iA 2]) (by simp) rfl hh rfl (by simp) rfl (Weak.tup (WeakL.cons Weak.zT (WeakL.refl _))) (by simp) ⟨rfl, rfl⟩
 ·refine nv ?_
  refine Run.reg fun K J => ?_
  simp [c1, c2, c3]
  try (simp (disch := omega) only [wrap_id])
  refine J _ _ _ (nv ?_); clear J
  refine ct (by simp) (nv ?_)
  refine Run.reg fun K J => ?_
  simp
  try (simp (disch := omega) only [wrap_id])
  refine J _ _ _ (nv ?_); clear J
  refine Run.ret ?_
  simp only [FinD]
  refine Fin.ret' (h0 := h) (xs := [.agg zTm, iA 2]) (by simp) rfl hh rfl (by simp) rfl (Weak.tup (WeakL.cons Weak.zT (WeakL.refl _))) (by simp) ⟨rfl, rfl⟩

end Go.Proofs.YtfajdeofhioakaaGreat
