import Derived.Test.YtfajdeofhioakaaGreatAYB
import Derived.Test.YtfajdeofhioakaaGreatAFQ
import Derived.Test.YtfajdeofhioakaaGreatAFL
set_option maxRecDepth 8000

namespace Go.Proofs.YtfajdeofhioakaaGreat

open Go Go.AI
theorem WF.at_ {h : Heap} (hh : WF h) {i : Nat} {o : Option AO} (hi : h[i]? = some o) : AO.under h.length o = true := by
 unfold WF at hh
 rw [List.all_eq_true] at hh
 exact hh o (List.mem_of_getElem? hi)
def shL : Int → List Tm → List Tm
 | _, [] => []
 | n, t :: ts => (resShift n 0 t).1 :: shL (n - 1) ts
theorem shL_length (n : Int) (ts : List Tm) : (shL n ts).length = ts.length := by
 induction ts generalizing n with
 | nil => rfl
 | cons t ts ih => simp [shL, ih]
theorem shL_get (n : Int) (ts : List Tm) (j : Nat) : (shL n ts)[j]? = (ts[j]?).map fun t => (resShift (n - j) 0 t).1 := by
 induction ts generalizing n j with
 | nil => rfl
 | cons t ts ih =>
  cases j with
  | zero => simp [shL]
  | succ j =>
   rw [shL, List.getElem?_cons_succ, List.getElem?_cons_succ, ih, show n - 1 - (j : Int) = n - ((j + 1 : Nat) : Int) by omega]
theorem start44_any (t : Tm) (b : Int) (hb : -100000 ≤ b ∧ b ≤ 100000) (hd : Dom 65536 t 0) (he : (resShift b 0 t).2 = 0) (H L : Heap) (p : Nat) (hh : WF (H ++ [some (.cells [iA b])] ++ L)) (hp : p = H.length) :
  ACalls Tryz.prog 44 [t.av, .ptr p 0] (H ++ [some (.cells [iA b])] ++ L) fun o h' => o = .ret (resShift b 0 t).1.av ∧ h' = H ++ [some (.cells [iA (b - 1)])] ++ L := by
 subst hp
 have c1 := fun (g : Heap) (hw : WF g) => shift_any g hw t b 0 (by omega) (by omega) (by omega) hd
 have hw : IntKind.i64.wrap (b - 1) = b - 1 := wrap_id (by omega) (by omega)
 generalize resShift b 0 t = r at he c1 ⊢
 obtain ⟨x, e⟩ := r
 simp only at he
 subst he
 have c2 := fun (g : Heap) (hw : WF g) => must45_ok g hw x
 have hg0 : (H ++ [some (AO.cells [iA b])] ++ L)[H.length]? = some (some (AO.cells [iA b])) := by simp
 obtain ⟨g1, g2, g3, g4, g5, hlt⟩ := idf hg0
 have hs : (H ++ [some (AO.cells [iA b])] ++ L).set H.length (some (AO.cells [iA (b - 1)])) = H ++ [some (AO.cells [iA (b - 1)])] ++ L := by
  rw [List.append_assoc, List.set_append_right _ _ (by omega), Nat.sub_self]
  simp
 obtain ⟨hh1, e1⟩ : ∃ G, (H ++ [some (AO.cells [iA b])] ++ L) = G := ⟨_, rfl⟩
 rw [e1] at hh hg0 g1 g2 g3 g4 g5 hlt hs ⊢
 obtain ⟨t0, t1, t2, t3, t4⟩ := t
 obtain ⟨x0, x1, x2, x3, x4⟩ := x
 simp only [Tm.av, cells_mk, List.map] at c1 c2 ⊢
 refine ACalls.of_run Tryz.func44 rfl ?_
 simp only [Tryz.ntmps44, List.length_cons, List.length_nil]
 refine nv ?_
 refine Run.reg fun K J => ?_
 simp
 try (simp (disch := omega) only [wrap_id])
 refine J _ _ _ (nv ?_); clear J
 refine Run.reg fun K J => ?_
 simp [g1]
 try (simp (disch := omega) only [wrap_id])
 refine J _ _ _ (nv ?_); clear J
 refine rl rfl (by first | rfl | simp) (by simp) rfl (c1 _ (hh.app (by simp))) ?_
 refine Run.ops fun K J => ?_
 simp
 try (simp (disch := omega) only [wrap_id])
 refine J _ _ _ (nv ?_); clear J
 refine rl rfl (by first | rfl | simp) (by simp) rfl (c2 _ (hh.app (by simp))) ?_
 refine Run.ops fun K J => ?_
 simp
 try (simp (disch := omega) only [wrap_id])
 refine J _ _ _ (nv ?_); clear J
 refine Run.reg fun K J => ?_
 simp [g1, g2, hw]
 try (simp (disch := omega) only [wrap_id])
 refine J _ _ _ (nv ?_); clear J
 refine Run.reg fun K J => ?_
 simp
 try (simp (disch := omega) only [wrap_id])
 refine J _ _ _ (nv ?_); clear J
 refine Run.ret ?_
 exact Fin.ret' (h0 := hh1.set H.length (some (.cells [iA (b - 1)]))) (by simp) (by simp) (hh.set (by simp)) rfl (by simp; rfl) rfl (Weak.refl _) (by simp) ⟨rfl, hs⟩
def ShOk (n : Int) (ts : List Tm) : Prop := ∀ (j : Nat) (t : Tm), ts[j]? = some t → Dom 65536 t 0 ∧ (resShift (n - j) 0 t).2 = 0
theorem start42_any (ts : List Tm) (n : Int) (hn : (ts.length : Int) = n) (hl : ts.length ≤ 100000) (hok : ShOk n ts) (H : Heap) (hh : WF H) (pa pt pp : Nat) (hpa : H[pa]? = some (some (.cells [iA n]))) (hpt : H[pt]? = some (some (.cells [.p (.sl 5 (tmPs ts))]))) {a b c d e f g i : AV} (hpp : H[pp]? = some (some (.cells [a, b, c, d, e, f, g, i]))) :
  ACalls Tryz.prog 42 [.ptr pa 0, .ptr pt 0, .ptr pp 0] H fun o h' => o = .ret (.tup []) ∧ h' = H.set pp (some (.cells [.p (.sl 5 (tmPs (shL n ts))), b, c, d, e, f, g, i])) := by
 have hal := (List.getElem?_eq_some_iff.1 hpa).1
 have htl := (List.getElem?_eq_some_iff.1 hpt).1
 have hpl := (List.getElem?_eq_some_iff.1 hpp).1
 have c1 := each43_any 44 (by kernel_rfl) [.ptr H.length 0] ts (shL n ts) (shL_length n ts) (by omega) (H.length + 1) (fun j => H ++ [some (.cells [iA (n - j)])]) (by simp) (fun j => hh.app (by simp)) (by simp) (fun j t x ht hx L hw => by
  have hj := (List.getElem?_eq_some_iff.1 ht).1
  rw [shL_get, ht] at hx
  simp only [Option.map_some, Option.some.injEq] at hx
  subst hx
  have := start44_any t (n - j) (by omega) (hok j t ht).1 (hok j t ht).2 H L H.length hw rfl
  rw [show n - (j : Int) - 1 = n - ((j + 1 : Nat) : Int) by omega] at this
  exact this)
 simp only [Int.natCast_zero, Int.sub_zero, hn] at c1
 have g1 : ∀ l : Heap, (H ++ l)[pp]? = some (some (.cells [a, b, c, d, e, f, g, i])) := fun l => by rw [List.getElem?_append_left hpl]; exact hpp
 have g2 : ∀ (l : Heap) o, (H ++ l).set pp o = H.set pp o ++ l := fun l o => List.set_append_left _ _ hpl
 have g3 : ∀ l : Heap, (H ++ l)[pt]? = some (some (.cells [.p (.sl 5 (tmPs ts))])) := fun l => by rw [List.getElem?_append_left htl]; exact hpt
 have g4 : ∀ l : Heap, (H ++ l)[pa]? = some (some (.cells [iA n])) := fun l => by rw [List.getElem?_append_left hal]; exact hpa
 refine ACalls.of_run Tryz.func42 rfl ?_
 simp only [Tryz.ntmps42, List.length_cons, List.length_nil]
 refine nv ?_
 refine Run.reg fun K J => ?_
 simp [hpa]
 try (simp (disch := omega) only [wrap_id])
 refine J _ _ _ (nv ?_); clear J
 refine Run.reg fun K J => ?_
 simp [g3]
 try (simp (disch := omega) only [wrap_id])
 refine J _ _ _ (nv ?_); clear J
 refine Run.call (args := [_, .fn (.func 44) [] [.ptr H.length 0]]) rfl rfl (by simp) rfl c1 ?_ ?_
 rotate_left
 ·rintro v h' ⟨hv, _⟩; cases hv
 rintro v h' ⟨hv, rfl⟩
 simp only [AOut.ret.injEq] at hv
 subst hv
 refine Run.ops fun K J => ?_
 simp [g1, g2, patch]
 try (simp (disch := omega) only [wrap_id])
 refine J _ _ _ (nv ?_); clear J
 refine Run.nil ?_
 exact Fin.ret' (h0 := H.set pp (some (.cells [.p (.sl 5 (tmPs (shL n ts))), b, c, d, e, f, g, i]))) (by simp) (by simp) (hh.set (by have := WF.at_ hh hpp; simp at this; simp [this])) rfl rfl rfl (Weak.refl _) rfl ⟨rfl, rfl⟩
def zRow (N : Nat) : List (List PV) := List.replicate N [iP 0, iP 0, sP [], .prim (.slice none 0 0), .prim (.slice none 0 0)]
def fRow (N : Nat) : List (List PV) := List.replicate N [bP false]
theorem zRow_len (N : Nat) : ∀ e ∈ zRow N, e.length = 5 := fun e he => by rw [List.eq_of_mem_replicate he]; rfl
theorem fRow_len (N : Nat) : ∀ e ∈ fRow N, e.length = 1 := fun e he => by rw [List.eq_of_mem_replicate he]; rfl
theorem fRow_eq (N : Nat) : fRow N = boPs (List.replicate N false) := by simp [fRow, boPs]
theorem map_flatten_rep {α β : Type} (f : α → β) (N : Nat) (l : List α) : ((List.replicate N l).flatten).map f = (List.replicate N (l.map f)).flatten := by
 rw [List.map_flatten, List.map_replicate]
theorem zRow_buf (N : Nat) : (List.replicate N [AV.p (.prim (.int .i64 0)), AV.p (.prim (.int .i64 0)), AV.p (.prim (.string ⟨#[]⟩)), AV.p (.prim (.slice none 0 0)), AV.p (.prim (.slice none 0 0))]).flatten = buf 5 (zRow N) 0 := by
 simp only [buf, zRow, Nat.zero_mul, List.replicate_zero, List.append_nil, map_flatten_rep]
 rfl
theorem fRow_buf (N : Nat) : List.replicate N (AV.p (.prim (.bool false))) = buf 1 (fRow N) 0 := by
 simp [buf, fRow, bP]
theorem zRow_weak : ∀ N : Nat, WeakPs (zRow N) (tmPs (List.replicate N zT))
 | 0 => WeakPs.nil
 | N + 1 => by
  have := zRow_weak N
  unfold zRow at this ⊢
  simp only [List.replicate_succ, tmPs, zT, cells_mk]
  refine WeakPs.cons ?_ this
  repeat' (first | exact WeakPL.nil | apply WeakPL.cons)
  all_goals first | exact WeakP.refl _ | exact WeakP.nil _
def stP (t : Tm) (n : Int) : Pb × Int :=
 if (resOpen t n).2.2 ≠ 0 then (zPb, (resOpen t n).2.2) else (⟨shL n (resOpen t n).1, List.replicate n.toNat false, List.replicate n.toNat zT, (resOpen t n).2.1⟩, 0)
abbrev zPbC : List AV := [.p (.prim (.slice none 0 0)), .p (.prim (.slice none 0 0)), .p (.prim (.slice none 0 0)), iA 0, iA 0, .p (sP []), .p (.prim (.slice none 0 0)), .p (.prim (.slice none 0 0))]
theorem zPb_weak : Weak (.agg zPbC) zPb.av := by
 refine Weak.agg (show WeakL zPbC [.p (.sl 5 []), .p (.sl 1 []), .p (.sl 5 []), iA 0, iA 0, .p (sP []), .p (.sl 2 []), .p (.sl 5 [])] from ?_)
 repeat' first | exact wn | apply wc | exact wj _ | exact wr _ | exact wz _ | exact wo _ _ _ | exact wi (by omega)
theorem startG_any (ts : List Tm) (n : Int) (hn : (ts.length : Int) = n) (hl : ts.length ≤ 100000) (hok : ShOk n ts) (H : Heap) (hh : WF H) (pa pt pp : Nat) {a b c d e f g i : AV} (hpp : H[pp]? = some (some (.cells [a, b, c, d, e, f, g, i]))) (hpa : H[pa]? = some (some (.cells [iA n]))) (hpt : H[pt]? = some (some (.cells [.p (.sl 5 (tmPs ts))]))) :
  ACalls Tryz.prog 41 [.fn (.func 42) [] [.ptr pa 0, .ptr pt 0, .ptr pp 0]] H fun o h' => o = .ret (iA 0) ∧ h' = H.set pp (some (.cells [.p (.sl 5 (tmPs (shL n ts))), b, c, d, e, f, g, i])) := by
 have hal := (List.getElem?_eq_some_iff.1 hpa).1
 have htl := (List.getElem?_eq_some_iff.1 hpt).1
 have hpl := (List.getElem?_eq_some_iff.1 hpp).1
 have hu := WF.at_ hh hpp
 have hw : WF (H.set pp (some (.cells [.p (.sl 5 (tmPs (shL n ts))), b, c, d, e, f, g, i]))) := hh.set (by simp at hu; simp [hu])
 have c := start42_any ts n hn hl hok (H ++ [some (.cells [iA 0])]) (hh.app (by simp)) pa pt pp (by rw [List.getElem?_append_left hal]; exact hpa) (by rw [List.getElem?_append_left htl]; exact hpt) (by rw [List.getElem?_append_left hpl]; exact hpp)
 rw [List.set_append_left _ _ hpl] at c
 exact guarded41_ok 42 (by kernel_rfl) _ H _ hw (by simp) hh (by simp [hal, htl, hpl]) c
set_option maxHeartbeats 8000000 in
theorem start10_any (h : Heap) (hh : WF h) (t : Tm) (n : Int) (hsz : t.size ≤ 1048576) (hn2 : n ≤ 9223372036854775807) (hl : (resOpen t n).1.length ≤ 100000)
  (hlen : (resOpen t n).2.2 = 0 → ((resOpen t n).1.length : Int) = n) (hok : (resOpen t n).2.2 = 0 → ShOk n (resOpen t n).1) :
  ACalls Tryz.prog 10 [t.av, iA n] h fun o h' => o = .ret (.tup [(stP t n).1.av, iA (stP t n).2]) ∧ h' = h := by
 have c1 := fun (g : Heap) (hw : WF g) => open67_any g hw t n hsz hn2
 obtain ⟨r, hr⟩ : ∃ r, stP t n = r := ⟨_, rfl⟩
 rw [hr]
 unfold stP at hr
 generalize resOpen t n = q at c1 hl hlen hok hr
 obtain ⟨tel, ed, e⟩ := q
 simp only at c1 hl hlen hok hr
 obtain ⟨k, i, nm, ls, ks⟩ := t
 obtain ⟨d0, d1, d2, d3, d4⟩ := ed
 simp only [Tm.av, cells_mk, List.map] at c1 ⊢
 by_cases he : e = 0
 rotate_left
 ·rw [if_pos he] at hr
  subst hr
  have heb : (e != (0 : Int)) = true := by simpa using he
  refine ACalls.of_run Tryz.func10 rfl ?_
  simp only [Tryz.ntmps10, List.length_cons, List.length_nil]
  refine nv ?_
  refine Run.reg fun K J => ?_
  simp
  try (simp (disch := omega) only [wrap_id])
  refine J _ _ _ (nv ?_); clear J
  refine Run.reg fun K J => ?_
  simp
  try (simp (disch := omega) only [wrap_id])
  refine J _ _ _ (nv ?_); clear J
  refine rl rfl (by first | rfl | simp) (by simp) rfl (c1 _ (hh.app (by simp))) ?_
  refine Run.ops fun K J => ?_
  simp
  try (simp (disch := omega) only [wrap_id])
  refine J _ _ _ (nv ?_); clear J
  refine Run.reg fun K J => ?_
  simp [heb]
  try (simp (disch := omega) only [wrap_id])
  refine J _ _ _ (nv ?_); clear J
  refine ct (by simp) (nv ?_)
  refine Run.reg fun K J => ?_
  simp
  try (simp (disch := omega) only [wrap_id])
  refine J _ _ _ (nv ?_); clear J
  refine Run.ret ?_
  exact Fin.ret' (h0 := h) (xs := [.agg zPbC, iA e]) (by simp) rfl hh rfl (by simp) rfl (Weak.tup (WeakL.cons zPb_weak (WeakL.refl _))) (by simp [zT]) ⟨rfl, rfl⟩
 subst he
 rw [if_neg (by simp)] at hr
 have hlen := hlen rfl
 have hok := hok rfl
 obtain ⟨N, rfl⟩ : ∃ N : Nat, n = N := ⟨tel.length, hlen.symm⟩
 have hNl : tel.length = N := by omega
 have hm1 : N ≤ 140737488355328 := by omega
 have hm2 : N ≤ 1099511627776 := by omega
 have hm3 : N * 80 ≤ 140737488355328 := by omega
 have hm4 : N * 24 ≤ 140737488355328 := by omega
 have c2 := fun (H : Heap) (hw : WF H) => start42_any tel N hlen hl hok H hw
 refine ACalls.of_run Tryz.func10 rfl ?_
 simp only [Tryz.ntmps10, List.length_cons, List.length_nil]
 refine nv ?_
 refine Run.reg fun K J => ?_
 simp
 try (simp (disch := omega) only [wrap_id])
 refine J _ _ _ (nv ?_); clear J
 refine Run.reg fun K J => ?_
 simp
 try (simp (disch := omega) only [wrap_id])
 refine J _ _ _ (nv ?_); clear J
 refine rl rfl (by first | rfl | simp) (by simp) rfl (c1 _ (hh.app (by simp))) ?_
 refine Run.ops fun K J => ?_
 simp
 try (simp (disch := omega) only [wrap_id])
 refine J _ _ _ (nv ?_); clear J
 refine Run.reg fun K J => ?_
 simp
 try (simp (disch := omega) only [wrap_id])
 refine J _ _ _ (nv ?_); clear J
 refine cf (by simp) (nv ?_)
 have hb1 : ∀ n, AV.underL n (buf 1 (fRow N) 0) = true := fun n => by simp only [buf, Nat.zero_mul, List.replicate_zero, List.append_nil]; exact underL_p _ _
 have hb2 : ∀ n, AV.underL n (buf 5 (zRow N) 0) = true := fun n => by simp only [buf, Nat.zero_mul, List.replicate_zero, List.append_nil]; exact underL_p _ _
 have hwk : Weak (.tup [.agg (.p (.sl 5 (tmPs (shL N tel))) :: .p (.sl 1 (fRow N)) :: .p (.sl 5 (zRow N)) :: [iA d0, iA d1, .p (sP d2), .p (.sl 2 (lvPs d3)), .p (.sl 5 (tmPs d4))]), iA 0]) (.tup [r.1.av, iA r.2]) := by
  subst hr
  refine Weak.tup (WeakL.cons (Weak.agg ?_) (WeakL.refl _))
  simp only [Int.toNat_natCast, fRow_eq]
  refine WeakL.cons (Weak.refl _) (WeakL.cons (Weak.refl _) (WeakL.cons (WeakP.sl (zRow_weak N)).av (WeakL.refl _)))
 refine nv ?_
 refine ND.Run.draw3 (pc := []) 2 4 6 [0, 0, 0, 0, 1, 2, 2, 3] [0, 0, 0, 0, 1, 0, 2, 3] [0, 0, 2, 0, 14, 31, 30, 127] [1, 2, 3, 4, 6, 0, 5, 7] [0, 0, 0, 0, 2, 3, 1, 3] [0, 0, 0, 0, 2, 0, 1, 3] [0, 0, 2, 0, 78, 95, 6, 127] [1, 2, 6, 3, 4, 0, 5, 7] [0, 0, 1, 0, 0, 2, 2, 3] [0, 0, 1, 0, 0, 0, 2, 3] [0, 0, 26, 0, 8, 31, 30, 127] [3, 4, 1, 2, 6, 0, 5, 7] [0, 0, 2, 0, 0, 3, 1, 3] [0, 0, 2, 0, 0, 0, 1, 3] [0, 0, 90, 0, 8, 95, 24, 127] [3, 4, 6, 1, 2, 0, 5, 7] [0, 0, 1, 0, 2, 3, 0, 3] [0, 0, 1, 0, 2, 0, 0, 3] [0, 0, 66, 0, 78, 95, 0, 127] [6, 1, 2, 3, 4, 0, 5, 7] [0, 0, 2, 0, 1, 3, 0, 3] [0, 0, 2, 0, 1, 0, 0, 3] [0, 0, 90, 0, 72, 95, 0, 127] [6, 3, 4, 1, 2, 0, 5, 7] (by kernel_rfl) (by kernel_rfl) (by kernel_rfl) (by kernel_rfl) (by kernel_rfl) (by kernel_rfl) (by kernel_rfl) (by kernel_rfl) ?_ ?_ ?_ ?_ ?_ ?_
 all_goals
  refine ND.DR.go fun K J => ?_
  simp [hm1, hm2, hm3]
  try (simp (disch := omega) only [wrap_id])
  refine J _ _ _ _ ?_; clear J
  change Run _ _ _ _ _ _ _ _
  refine nv ?_
  refine Run.reg fun K J => ?_
  simp
  try (simp (disch := omega) only [wrap_id])
  refine J _ _ _ (nv ?_); clear J
  simp only [fRow_buf, zRow_buf]
  refine Run.call rfl rfl (by simp; rfl) rfl (startG_any tel N hlen hl hok _ (hh.app (by simp [hb1, hb2])) (h.length + 1) (h.length + 3) _ (by simp; exact ⟨rfl, rfl, rfl, rfl, rfl, rfl, rfl, rfl⟩) (by simp) (by simp)) ?_ ?_
  rotate_left
  ·rintro v h' ⟨hv, _⟩; cases hv
  rintro v h' ⟨hv, rfl⟩
  simp only [AOut.ret.injEq] at hv
  subst hv
  simp
  refine Run.ops fun K J => ?_
  simp
  try (simp (disch := omega) only [wrap_id])
  refine J _ _ _ (nv ?_); clear J
  refine Run.reg fun K J => ?_
  simp
  try (simp (disch := omega) only [wrap_id])
  refine J _ _ _ (nv ?_); clear J
  refine cf (by simp) (nv ?_)
  first
   | (refine Run.freezeAt (h.length + 7) 1 (sz := 1) (m := 0) (es := fRow N) (n := N) (cap := N) (by simp; rfl) (by simp; rfl) (by simp) (by omega) (fRow_len N) (by simp [fRow]) (Nat.le_refl _) ?_)
   | (refine Run.freezeAt (h.length + 6) 1 (sz := 1) (m := 0) (es := fRow N) (n := N) (cap := N) (by simp; rfl) (by simp; rfl) (by simp) (by omega) (fRow_len N) (by simp [fRow]) (Nat.le_refl _) ?_)
   | (refine Run.freezeAt (h.length + 5) 1 (sz := 1) (m := 0) (es := fRow N) (n := N) (cap := N) (by simp; rfl) (by simp; rfl) (by simp) (by omega) (fRow_len N) (by simp [fRow]) (Nat.le_refl _) ?_)
  simp
  first
   | (refine Run.freezeAt (h.length + 7) 2 (sz := 5) (m := 0) (es := zRow N) (n := N) (cap := N) (by simp; rfl) (by simp; rfl) (by simp) (by omega) (zRow_len N) (by simp [zRow]) (Nat.le_refl _) ?_)
   | (refine Run.freezeAt (h.length + 6) 2 (sz := 5) (m := 0) (es := zRow N) (n := N) (cap := N) (by simp; rfl) (by simp; rfl) (by simp) (by omega) (zRow_len N) (by simp [zRow]) (Nat.le_refl _) ?_)
   | (refine Run.freezeAt (h.length + 5) 2 (sz := 5) (m := 0) (es := zRow N) (n := N) (cap := N) (by simp; rfl) (by simp; rfl) (by simp) (by omega) (zRow_len N) (by simp [zRow]) (Nat.le_refl _) ?_)
  simp
  refine nv ?_
  refine Run.reg fun K J => ?_
  simp
  try (simp (disch := omega) only [wrap_id])
  refine J _ _ _ (nv ?_); clear J
  refine Run.ret ?_
  exact Fin.ret' (h0 := h) (xs := [.agg (.p (.sl 5 (tmPs (shL N tel))) :: .p (.sl 1 (fRow N)) :: .p (.sl 5 (zRow N)) :: [iA d0, iA d1, .p (sP d2), .p (.sl 2 (lvPs d3)), .p (.sl 5 (tmPs d4))]), iA 0]) (by simp) rfl hh rfl (by simp) rfl hwk (by simp) ⟨rfl, rfl⟩

end Go.Proofs.YtfajdeofhioakaaGreat
