import Derived.Test.YtcfcolkbeelegaaGreatVX1
import Derived.Test.YtcfcolkbeelegaaGreatVFG
set_option maxRecDepth 8000
set_option maxHeartbeats 8000000

namespace Go.Proofs.YtcfcolkbeelegaaGreat

open Go Go.AI
def applyT (t : Tm) (args : List Tm) : Tm := args.foldl appT t
theorem appT_weak (a b : Tm) : WeakL [AV.p (iP 4), AV.p (iP 0), AV.p (sP []), AV.p (.prim (.slice none 0 0)), AV.p (.sl 5 [a.cells, b.cells])] ((appT a b).cells.map .p) := by
 simp only [appT, cells_mk, List.map, lvPs, tmPs]
 repeat' first | exact wn | apply wc
 all_goals first | exact Weak.refl _ | exact Weak.nil _
def spG : Nat → Tm → Tm × List Tm
 | 0, t => (t, [])
 | n + 1, t => match isB 4 t with
  | some (f, a) => ((spG n f).1, (spG n f).2 ++ [a])
  | none => (t, [])
def resSpine (t : Tm) : Tm × List Tm := spG t.size t
theorem isB_size {k : Int} {t a b : Tm} (h : isB k t = some (a, b)) : a.size + b.size + 1 ≤ t.size := by
 obtain ⟨k', i, n, ls, ks⟩ := t
 match ks, h with
 | [x, y], h =>
  simp only [isB] at h
  split at h
  ·injection h with h; injection h with h1 h2
   subst h1; subst h2
   simp only [Tm.size, Tm.sizes]; omega
  ·cases h
theorem spG_fuel : ∀ (n m : Nat) (t : Tm), t.size ≤ n → t.size ≤ m → spG n t = spG m t
 | 0, _, t, h, _ => by have := t.size_pos; omega
 | _ + 1, 0, t, _, h => by have := t.size_pos; omega
 | n + 1, m + 1, t, h1, h2 => by
  simp only [spG]
  cases hb : isB 4 t with
  | none => rfl
  | some p =>
   obtain ⟨f, a⟩ := p
   have := isB_size hb
   have := a.size_pos
   simp only
   rw [spG_fuel n m f (by omega) (by omega)]
theorem resSpine_step {t f a : Tm} (h : isB 4 t = some (f, a)) : resSpine t = ((resSpine f).1, (resSpine f).2 ++ [a]) := by
 have hs := isB_size h
 have ha := a.size_pos
 obtain ⟨m, hm⟩ : ∃ m, t.size = m + 1 := ⟨t.size - 1, by have := t.size_pos; omega⟩
 unfold resSpine
 rw [hm, spG, h]
 simp only
 rw [spG_fuel m f.size f (by omega) (Nat.le_refl _)]
theorem resSpine_end {t : Tm} (h : isB 4 t = none) : resSpine t = (t, []) := by
 obtain ⟨m, hm⟩ : ∃ m, t.size = m + 1 := ⟨t.size - 1, by have := t.size_pos; omega⟩
 unfold resSpine
 rw [hm, spG, h]


open Go Go.AI
abbrev SpI := Option (List Tm × Heap × Nat)
def spA : SpI → List Tm
 | none => []
 | some (a, _, _) => a
def spV (n : Nat) : SpI → AV
 | none => .p (.prim (.slice none 0 0))
 | some (a, G, c) => .sm (n + 2 + G.length) 0 a.length c 5
def spB : SpI → Heap
 | none => []
 | some (a, G, c) => G ++ [row a (c - a.length)]
def SpOk (h : Heap) : SpI → Prop
 | none => True
 | some (a, G, c) => a.length ≤ c ∧ 0 < a.length ∧ ∀ x y : Option AO, (∀ n, AO.under n x = true) → (∀ n, AO.under n y = true) → WF (h ++ x :: y :: G)
theorem spine72_any (h : Heap) (hh : WF h) (t : Tm) (hsz : t.size ≤ 1048576) :
  ACalls Tryz.prog 174 [t.av] h fun o h' => o = .ret (.tup [(resSpine t).1.av, .p (.sl 5 (tmPs (resSpine t).2))]) ∧ h' = h := by
 obtain ⟨r, hr⟩ : ∃ r, r = resSpine t := ⟨_, rfl⟩
 rw [← hr]
 obtain ⟨tc, htc⟩ : ∃ tc, tc = t.cells.map AV.p := ⟨_, rfl⟩
 simp only [Tm.av]
 rw [← htc]
 have htl : tc.length = 5 := by rw [htc]; simp
 refine ACalls.of_run Tryz.func174 rfl ?_
 simp only [Tryz.ntmps174, List.length_cons, List.length_nil]
 refine nv ?_
 refine Run.reg fun K J => ?_
 simp
 refine J _ _ _ (nv ?_); clear J
 refine Run.reg fun K J => ?_
 simp
 refine J _ _ _ (nv ?_); clear J
 rw [htc]
 refine Run.loopS (ι := SpI × Tm) [1, 2, 3] (fun p => SpOk h p.1 ∧ (spA p.1).length + p.2.size ≤ t.size ∧ r = ((resSpine p.2).1, (resSpine p.2).2 ++ (spA p.1).reverse)) (fun p => p.2.size) (fun p => [(4, spV h.length p.1)])
  (fun p => h ++ some (.cells (p.2.cells.map .p)) :: some (.cells zTm) :: spB p.1) (none, t) ⟨trivial, by simp [spA], by simp [spA, hr]⟩ ?_ (by simp [spB]) ?_
 ·simp [spV]
  repeat' first | exact wn | apply wc | exact wj _ | exact wr _ | exact wz _ | exact wo _ _ _ | exact wi (by omega)
 rintro ⟨st, cur⟩ ⟨hok, hle, hra⟩ IH
 simp only at hok hle hra IH
 simp
 obtain ⟨k, i, nm, ls, ks⟩ := cur
 cases hb : isB 4 (Tm.mk k i nm ls ks) with
 | none =>
  have hc : (k == 4) = false ∨ (k = 4 ∧ ((ks.length : Int) == 2) = false) := by
   by_cases hk : k = 4
   ·refine .inr ⟨hk, ?_⟩
    subst hk
    match ks, hb with
    | [], _ => rfl
    | [_], _ => rfl
    | [_, _], hb => simp [isB] at hb
    | _ :: _ :: _ :: q, _ => simp; omega
   ·exact .inl (by simpa using hk)
  rw [resSpine_end hb] at hra
  simp only [List.nil_append] at hra
  subst hra
  rcases hc with hc | ⟨rfl, hc⟩
  ·refine nv ?_
   refine Run.reg fun K J => ?_
   simp [hc]
   refine J _ _ _ (nv ?_); clear J
   refine cf (by simp) ?_
   refine Run.exit rfl ?_
   refine nv ?_
   match st, hok with
   | none, _ =>
    simp only [spV, spB, spA]
    refine Run.reg fun K J => ?_
    simp
    refine J _ _ _ ?_; clear J
    refine rl (args := [.p (.prim (.slice none 0 0))]) rfl (by first | rfl | simp) (by simp) rfl (ACalls.weak (WeakL.cons (Weak.nil 5) WeakL.nil) (reverse_nil _ (hh.app (by simp)))) ?_
    refine Run.ops fun K J => ?_
    simp
    refine J _ _ _ (nv ?_); clear J
    refine Run.reg fun K J => ?_
    simp
    refine J _ _ _ (nv ?_); clear J
    refine Run.ret ?_
    refine Fin.ret' (h0 := h) (xs := [.agg [.p (iP k), .p (iP i), .p (sP nm), .p (.sl 2 (lvPs ls)), .p (.sl 5 (tmPs ks))], .p (.prim (.slice none 0 0))]) (by simp) rfl hh rfl (by simp) rfl (Weak.tup (WeakL.cons (Weak.refl _) (WeakL.cons (Weak.nil 5) WeakL.nil))) (by simp) ⟨by simp [tmPs], rfl⟩
   | some (acc, G, cap), hok =>
    obtain ⟨hcap, hpos, hW⟩ := hok
    simp only [spA] at hle
    have hget : ∀ (x y o : Option AO), (h ++ x :: y :: (G ++ [o]))[h.length + 2 + G.length]? = some o := fun x y o => by
     rw [show h ++ x :: y :: (G ++ [o]) = (h ++ [x, y] ++ G) ++ [o] by simp, List.getElem?_append_right (by simp <;> omega), show h.length + 2 + G.length - (h ++ [x, y] ++ G).length = 0 by simp <;> omega]; rfl
    have hset : ∀ (x y o o' : Option AO), (h ++ x :: y :: (G ++ [o])).set (h.length + 2 + G.length) o' = h ++ x :: y :: (G ++ [o']) := fun x y o o' => by
     rw [show h ++ x :: y :: (G ++ [o]) = (h ++ [x, y] ++ G) ++ [o] by simp, List.set_append_right _ _ (by simp <;> omega), show h.length + 2 + G.length - (h ++ [x, y] ++ G).length = 0 by simp <;> omega]; simp
    have hwf : ∀ (x y o : Option AO), (∀ n, AO.under n x = true) → (∀ n, AO.under n y = true) → (∀ n, AO.under n o = true) → WF (h ++ x :: y :: (G ++ [o])) := fun x y o hx hy ho => by
     have := (hW x y hx hy).app (l := [o]) (by simp only [List.all_cons, ho, List.all_nil, Bool.and_self])
     simpa using this
    simp only [spV, spB, spA]
    refine Run.reg fun K J => ?_
    simp
    refine J _ _ _ ?_; clear J
    have hrv := fun (x y : Option AO) hx hy => reverse_any _ (hwf x y (row acc (cap - acc.length)) hx hy (fun n => row_under n _ _)) acc (h.length + 2 + G.length) cap (cap - acc.length) (by omega) (hget _ _ _)
    simp only [hset] at hrv
    refine Run.call (args := [.sm (h.length + 2 + G.length) 0 acc.length cap 5]) rfl (by first | rfl | simp) (by simp) rfl (hrv _ _ (fun n => by simp) (fun n => by simp)) ?_ ?_
    rotate_left
    ·rintro v h' ⟨hv, _⟩; cases hv
    rintro v h' ⟨hv, rfl⟩
    simp only [AOut.ret.injEq] at hv
    subst hv
    refine Run.ops fun K J => ?_
    simp
    refine J _ _ _ (nv ?_); clear J
    refine Run.freezeS 4 (id := h.length + 2 + G.length) (n := acc.length) (cap := cap) (sz := 5) (m := cap - acc.length) (es := tmPs acc.reverse) (by simp) (by simp only [Heap.at]; rw [hget]; rfl) (tmPs_len5 _) (by simp) hcap ?_
    rw [hset]
    simp
    refine Run.reg fun K J => ?_
    simp
    refine J _ _ _ (nv ?_); clear J
    refine Run.ret ?_
    refine Fin.ret' (h0 := h) (by simp) rfl hh rfl (by simp; rfl) rfl (Weak.refl _) (by simp) ⟨by simp, rfl⟩
  ·refine nv ?_
   refine Run.reg fun K J => ?_
   simp [hc]
   refine J _ _ _ (nv ?_); clear J
   refine cf (by simp) ?_
   refine Run.exit rfl ?_
   refine nv ?_
   match st, hok with
   | none, _ =>
    simp only [spV, spB, spA]
    refine Run.reg fun K J => ?_
    simp
    refine J _ _ _ ?_; clear J
    refine rl (args := [.p (.prim (.slice none 0 0))]) rfl (by first | rfl | simp) (by simp) rfl (ACalls.weak (WeakL.cons (Weak.nil 5) WeakL.nil) (reverse_nil _ (hh.app (by simp)))) ?_
    refine Run.ops fun K J => ?_
    simp
    refine J _ _ _ (nv ?_); clear J
    refine Run.reg fun K J => ?_
    simp
    refine J _ _ _ (nv ?_); clear J
    refine Run.ret ?_
    refine Fin.ret' (h0 := h) (xs := [.agg [.p (iP 4), .p (iP i), .p (sP nm), .p (.sl 2 (lvPs ls)), .p (.sl 5 (tmPs ks))], .p (.prim (.slice none 0 0))]) (by simp) rfl hh rfl (by simp) rfl (Weak.tup (WeakL.cons (Weak.refl _) (WeakL.cons (Weak.nil 5) WeakL.nil))) (by simp) ⟨by simp [tmPs], rfl⟩
   | some (acc, G, cap), hok =>
    obtain ⟨hcap, hpos, hW⟩ := hok
    simp only [spA] at hle
    have hget : ∀ (x y o : Option AO), (h ++ x :: y :: (G ++ [o]))[h.length + 2 + G.length]? = some o := fun x y o => by
     rw [show h ++ x :: y :: (G ++ [o]) = (h ++ [x, y] ++ G) ++ [o] by simp, List.getElem?_append_right (by simp <;> omega), show h.length + 2 + G.length - (h ++ [x, y] ++ G).length = 0 by simp <;> omega]; rfl
    have hset : ∀ (x y o o' : Option AO), (h ++ x :: y :: (G ++ [o])).set (h.length + 2 + G.length) o' = h ++ x :: y :: (G ++ [o']) := fun x y o o' => by
     rw [show h ++ x :: y :: (G ++ [o]) = (h ++ [x, y] ++ G) ++ [o] by simp, List.set_append_right _ _ (by simp <;> omega), show h.length + 2 + G.length - (h ++ [x, y] ++ G).length = 0 by simp <;> omega]; simp
    have hwf : ∀ (x y o : Option AO), (∀ n, AO.under n x = true) → (∀ n, AO.under n y = true) → (∀ n, AO.under n o = true) → WF (h ++ x :: y :: (G ++ [o])) := fun x y o hx hy ho => by
     have := (hW x y hx hy).app (l := [o]) (by simp only [List.all_cons, ho, List.all_nil, Bool.and_self])
     simpa using this
    simp only [spV, spB, spA]
    refine Run.reg fun K J => ?_
    simp
    refine J _ _ _ ?_; clear J
    have hrv := fun (x y : Option AO) hx hy => reverse_any _ (hwf x y (row acc (cap - acc.length)) hx hy (fun n => row_under n _ _)) acc (h.length + 2 + G.length) cap (cap - acc.length) (by omega) (hget _ _ _)
    simp only [hset] at hrv
    refine Run.call (args := [.sm (h.length + 2 + G.length) 0 acc.length cap 5]) rfl (by first | rfl | simp) (by simp) rfl (hrv _ _ (fun n => by simp) (fun n => by simp)) ?_ ?_
    rotate_left
    ·rintro v h' ⟨hv, _⟩; cases hv
    rintro v h' ⟨hv, rfl⟩
    simp only [AOut.ret.injEq] at hv
    subst hv
    refine Run.ops fun K J => ?_
    simp
    refine J _ _ _ (nv ?_); clear J
    refine Run.freezeS 4 (id := h.length + 2 + G.length) (n := acc.length) (cap := cap) (sz := 5) (m := cap - acc.length) (es := tmPs acc.reverse) (by simp) (by simp only [Heap.at]; rw [hget]; rfl) (tmPs_len5 _) (by simp) hcap ?_
    rw [hset]
    simp
    refine Run.reg fun K J => ?_
    simp
    refine J _ _ _ (nv ?_); clear J
    refine Run.ret ?_
    refine Fin.ret' (h0 := h) (by simp) rfl hh rfl (by simp; rfl) rfl (Weak.refl _) (by simp) ⟨by simp, rfl⟩
 | some p =>
  obtain ⟨f, a⟩ := p
  obtain ⟨rfl, rfl⟩ : k = 4 ∧ ks = [f, a] := by
   match ks, hb with
   | [x, y], hb =>
    simp only [isB] at hb
    split at hb
    ·rename_i hk
     injection hb with hb; injection hb with h1 h2
     exact ⟨hk, by rw [h1, h2]⟩
    ·cases hb
  have hst := resSpine_step hb
  simp only [Tm.size, Tm.sizes] at hle
  have hfp := f.size_pos
  have hap := a.size_pos
  rw [hst] at hra
  simp only [List.append_assoc] at hra
  match st, hok with
  | none, _ =>
   simp only [spV, spB]
   refine nv ?_
   refine Run.reg fun K J => ?_
   simp
   refine J _ _ _ (nv ?_); clear J
   refine ct (by simp) (nv ?_)
   refine Run.regPre 6 fun K J => ?_
   simp only [List.take_succ_cons, List.take_zero]
   simp [tmPs]
   refine J _ _ _ ?_; clear J
   simp only [List.nil_append, List.drop_succ_cons, List.drop_zero]
   refine Run.appendN (ys := [a.cells]) (sz := 5) (by_ := 80) (e := 25) rfl rfl rfl rfl rfl rfl (by simp) (by simp) (by simp) (by simp) (by simp) (by simp) fun c' hc' => ?_
   refine Run.ops fun K J => ?_
   simp
   refine J _ _ _ (nv ?_); clear J
   refine Run.reg fun K J => ?_
   simp
   refine J _ _ _ (nv ?_); clear J
   refine IH (some ([a], [], c'), f) _ _ ⟨⟨by simpa using hc', by simp, fun x y hx hy => hh.app (by simp only [List.all_cons, hx, hy, List.all_nil, Bool.and_self])⟩, by simp [spA] at hle ⊢; omega, by simp [spA]; simpa [spA] using hra⟩ (by simp only [Tm.size, Tm.sizes]; omega) ?_ ?_
   ·simp [spV]
    repeat' first | exact wn | apply wc | exact wj _ | exact wr _ | exact wz _ | exact wo _ _ _ | exact wi (by omega)
   ·simp [spB, row, tmPs]
  | some (acc, G, cap), hok =>
   obtain ⟨hcap, hpos, hW⟩ := hok
   simp only [spA] at hle hra
   have hget : ∀ (x y o : Option AO), (h ++ x :: y :: (G ++ [o]))[h.length + 2 + G.length]? = some o := fun x y o => by
    rw [show h ++ x :: y :: (G ++ [o]) = (h ++ [x, y] ++ G) ++ [o] by simp, List.getElem?_append_right (by simp <;> omega), show h.length + 2 + G.length - (h ++ [x, y] ++ G).length = 0 by simp <;> omega]; rfl
   have hset : ∀ (x y o o' : Option AO), (h ++ x :: y :: (G ++ [o])).set (h.length + 2 + G.length) o' = h ++ x :: y :: (G ++ [o']) := fun x y o o' => by
    rw [show h ++ x :: y :: (G ++ [o]) = (h ++ [x, y] ++ G) ++ [o] by simp, List.set_append_right _ _ (by simp <;> omega), show h.length + 2 + G.length - (h ++ [x, y] ++ G).length = 0 by simp <;> omega]; simp
   simp only [spV, spB]
   refine nv ?_
   refine Run.reg fun K J => ?_
   simp
   refine J _ _ _ (nv ?_); clear J
   refine ct (by simp) (nv ?_)
   refine Run.regPre 6 fun K J => ?_
   simp only [List.take_succ_cons, List.take_zero]
   simp [tmPs]
   refine J _ _ _ ?_; clear J
   simp only [List.nil_append, List.drop_succ_cons, List.drop_zero]
   refine Run.appendS (id := h.length + 2 + G.length) (es := tmPs acc) (ys := [a.cells]) (cap := cap) (sz := 5) (by_ := 80) (e := 25) rfl rfl rfl rfl rfl rfl (by simp) (by simp only [Heap.at]; rw [hget]; simp only [tmPs_length]; rfl) (tmPs_len5 _) (by simpa using hcap) (by simp) (by simp) (by simp) (by simp; omega) (by simp; omega) ?_ ?_
   ·intro hc1
    rw [hset]
    refine Run.ops fun K J => ?_
    simp
    refine J _ _ _ (nv ?_); clear J
    refine Run.reg fun K J => ?_
    simp
    refine J _ _ _ (nv ?_); clear J
    refine IH (some (acc ++ [a], G, cap), f) _ _ ⟨⟨by simpa using hc1, by simp, hW⟩, by simp [spA]; omega, by simp [spA]; simpa using hra⟩ (by simp only [Tm.size, Tm.sizes]; omega) ?_ ?_
    ·simp [spV]
     repeat' first | exact wn | apply wc | exact wj _ | exact wr _ | exact wz _ | exact wo _ _ _ | exact wi (by omega)
    ·simp [spB, row, tmPs_snoc]
   ·intro c' hc1
    refine Run.ops fun K J => ?_
    simp
    refine J _ _ _ (nv ?_); clear J
    refine Run.reg fun K J => ?_
    simp
    refine J _ _ _ (nv ?_); clear J
    refine IH (some (acc ++ [a], G ++ [row acc (cap - acc.length)], c'), f) _ _ ⟨⟨by simpa using hc1, by simp, fun x y hx hy => ?_⟩, by simp [spA]; omega, by simp [spA]; simpa using hra⟩ (by simp only [Tm.size, Tm.sizes]; omega) ?_ ?_
    ·have := (hW x y hx hy).app (l := [row acc (cap - acc.length)]) (by simp only [List.all_cons, row_under, List.all_nil, Bool.and_self])
     simpa using this
    ·simp [spV]
     repeat' first | exact wn | apply wc
     all_goals first | exact Weak.junk _ | exact Weak.refl _ | exact Weak.of_eq (by congr 1; omega)
    ·simp [spB, row, tmPs_snoc]


open Go Go.AI
theorem spG_len : ∀ (n : Nat) (t : Tm), (spG n t).2.length ≤ t.size
 | 0, t => by simp [spG]
 | n + 1, t => by
  simp only [spG]
  cases hb : isB 4 t with
  | none => simp
  | some p =>
   obtain ⟨f, a⟩ := p
   have := isB_size hb
   have := spG_len n f
   simp; omega
theorem resSpine_len (t : Tm) : (resSpine t).2.length ≤ t.size := spG_len _ _
theorem spine44_any (N : Nat) : ∀ (t : Tm) (h : Heap), t.size ≤ N → t.size ≤ 1048576 → WF h →
  ACalls Tryz.prog 137 [t.av] h fun o h' => ∃ G : Heap, WF (h ++ G) ∧ o = .ret (.tup [(resSpine t).1.av, .own (h.length + G.length) 5 (tmPs (resSpine t).2)]) ∧ h' = h ++ (G ++ [some (.tok (resSpine t).2.length 5)]) := by
 induction N with
 | zero => intro t _ hN; have := t.size_pos; omega
 | succ N ih =>
 intro t h hN hsz hh
 obtain ⟨r, hr⟩ : ∃ r, r = resSpine t := ⟨_, rfl⟩
 rw [← hr]
 obtain ⟨k, i, nm, ls, ks⟩ := t
 have hend : ∀ (hb : isB 4 (Tm.mk k i nm ls ks) = none), ((k != 4) = true ∨ (k = 4 ∧ ((ks.length : Int) != 2) = true)) → ACalls Tryz.prog 137 [(Tm.mk k i nm ls ks).av] h fun o h' => ∃ G : Heap, WF (h ++ G) ∧ o = .ret (.tup [r.1.av, .own (h.length + G.length) 5 (tmPs r.2)]) ∧ h' = h ++ (G ++ [some (.tok r.2.length 5)]) := by
  intro hb hc
  rw [resSpine_end hb] at hr
  subst hr
  refine ACalls.of_run Tryz.func137 rfl ?_
  simp only [Tryz.ntmps137, List.length_cons, List.length_nil, Tm.av, cells_mk, List.map]
  refine nv ?_
  refine Run.reg fun K J => ?_
  simp
  refine J _ _ _ (nv ?_); clear J
  rcases hc with hc | ⟨rfl, hc⟩
  ·skip
   refine Run.reg fun K J => ?_
   simp [hc]
   refine J _ _ _ (nv ?_); clear J
   refine ct (by simp) (nv ?_)
   refine Run.reg fun K J => ?_
   simp
   refine J _ _ _ (nv ?_); clear J
   refine Run.tok 3 5 (by simp) ?_
   simp
   refine Run.ret ?_
   refine Fin.retM (h0 := h ++ ([some (.cells [iA k, iA i, .p (sP nm), .p (.sl 2 (lvPs ls)), .p (.sl 5 (tmPs ks))]), some (.cells [iA k, iA i, .p (sP nm), .p (.sl 2 (lvPs ls)), .p (.sl 5 (tmPs ks))])] ++ [some (.tok 0 5)])) (l := []) (by simp) (by simp) (hh.app (by simp)) (by simp) (by simp; rfl) rfl (Weak.refl _) (by simp) ⟨_, hh.app (by simp), rfl, rfl⟩
  ·skip
   refine Run.reg fun K J => ?_
   simp [hc]
   refine J _ _ _ (nv ?_); clear J
   refine ct (by simp) (nv ?_)
   refine Run.reg fun K J => ?_
   simp
   refine J _ _ _ (nv ?_); clear J
   refine Run.tok 3 5 (by simp) ?_
   simp
   refine Run.ret ?_
   refine Fin.retM (h0 := h ++ ([some (.cells [iA 4, iA i, .p (sP nm), .p (.sl 2 (lvPs ls)), .p (.sl 5 (tmPs ks))]), some (.cells [iA 4, iA i, .p (sP nm), .p (.sl 2 (lvPs ls)), .p (.sl 5 (tmPs ks))])] ++ [some (.tok 0 5)])) (l := []) (by simp) (by simp) (hh.app (by simp)) (by simp) (by simp; rfl) rfl (Weak.refl _) (by simp) ⟨_, hh.app (by simp), rfl, rfl⟩
 by_cases hk : k = 4
 ·by_cases hks : ks.length = 2
  ·subst hk
   obtain ⟨a, b, rfl⟩ : ∃ a b, ks = [a, b] := by
    match ks, hks with
    | [a, b], _ => exact ⟨a, b, rfl⟩
   have hb : isB 4 (Tm.mk 4 i nm ls [a, b]) = some (a, b) := by simp [isB]
   have hst := resSpine_step hb
   rw [hst] at hr
   subst hr
   simp only [Tm.size, Tm.sizes] at hN hsz
   have hbp := b.size_pos
   obtain ⟨f1, xs, hfa⟩ : ∃ f1 xs, resSpine a = (f1, xs) := ⟨_, _, rfl⟩
   simp only [hfa]
   have ih' := ih a
   rw [hfa] at ih'
   refine ACalls.of_run Tryz.func137 rfl ?_
   simp only [Tryz.ntmps137, List.length_cons, List.length_nil, Tm.av, cells_mk, List.map]
   refine nv ?_
   refine Run.reg fun K J => ?_
   simp
   refine J _ _ _ (nv ?_); clear J
   refine Run.reg fun K J => ?_
   simp
   refine J _ _ _ (nv ?_); clear J
   refine cf (by simp) (nv ?_)
   refine Run.regPre 4 fun K J => ?_
   simp only [List.take_succ_cons, List.take_zero]
   simp [tmPs]
   refine J _ _ _ ?_; clear J
   simp only [List.nil_append, List.drop_succ_cons, List.drop_zero]
   refine Run.call (args := [a.av]) rfl (by first | rfl | simp) (by simp) rfl (ih' _ (by omega) (by omega) (hh.app (by simp))) ?_ ?_
   rotate_left
   ·rintro v h' ⟨_, _, hv, _⟩; cases hv
   rintro v h' ⟨G, hG, hv, rfl⟩
   simp only [AOut.ret.injEq] at hv
   subst hv
   refine Run.ops fun K J => ?_
   simp
   refine J _ _ _ (nv ?_); clear J
   have hxl := resSpine_len a
   rw [hfa] at hxl
   simp only at hxl
   obtain ⟨fk, fi, fn, fls, fks⟩ := f1
   have hb1 : (xs.length + 1) * 80 ≤ 140737488355328 := by omega
   have hb2 : xs.length ≤ 9223372036854775806 := by omega
   have q1 : ∀ (a b c d : Option AO), (h ++ a :: b :: (G ++ [c, d]))[h.length + 2 + G.length]? = some c := fun a b c d => by
    rw [show h ++ a :: b :: (G ++ [c, d]) = (h ++ [a, b] ++ G) ++ [c, d] by simp, List.getElem?_append_right (by simp <;> omega), show h.length + 2 + G.length - (h ++ [a, b] ++ G).length = 0 by simp <;> omega]; rfl
   have q2 : ∀ (a b c d c' : Option AO), (h ++ a :: b :: (G ++ [c, d])).set (h.length + 2 + G.length) c' = h ++ a :: b :: (G ++ [c', d]) := fun a b c d c' => by
    rw [show h ++ a :: b :: (G ++ [c, d]) = (h ++ [a, b] ++ G) ++ [c, d] by simp, List.set_append_right _ _ (by simp <;> omega), show h.length + 2 + G.length - (h ++ [a, b] ++ G).length = 0 by simp <;> omega]; simp
   have q3 : ∀ (a b c d : Option AO), (h ++ a :: b :: (G ++ [c, d]))[h.length + (G.length + 1 + 1 + 1)]? = some d := fun a b c d => by
    rw [show h ++ a :: b :: (G ++ [c, d]) = (h ++ [a, b] ++ G ++ [c]) ++ [d] by simp, List.getElem?_append_right (by simp <;> omega), show h.length + (G.length + 1 + 1 + 1) - (h ++ [a, b] ++ G ++ [c]).length = 0 by simp <;> omega]; rfl
   refine Run.draw [0, 0, 0, 0, 0, 0, 0, 0, 1, 2] [0, 0, 0, 0, 0, 0, 0, 0, 1, 0] [0, 0, 0, 4, 12, 28, 60, 126, 255, 511] [1, 2, 3, 4, 5, 6, 7, 0, 8, 9] (by kernel_rfl) (by kernel_rfl) ?_
   refine DR.go fun K J => ?_
   simp [q1, q2, hb1, hb2]
   refine J _ _ _ _ ?_; clear J
   change Run _ _ _ _ _ _ _ _
   refine Run.ret ?_
   have hw := hG.set (id := h.length + 1) (o := some (.cells [.p (iP fk), .p (iP fi), .p (sP fn), .p (.sl 2 (lvPs fls)), .p (.sl 5 (tmPs fks))])) (by simp)
   simp at hw
   refine Fin.retM (h0 := h ++ ([some (.cells [.p (iP 4), .p (iP i), .p (sP nm), .p (.sl 2 (lvPs ls)), .p (.sl 5 [a.cells, b.cells])]), some (.cells [.p (iP fk), .p (iP fi), .p (sP fn), .p (.sl 2 (lvPs fls)), .p (.sl 5 (tmPs fks))])] ++ G ++ [some (.tok (xs.length + 1) 5)])) (l := [some (.cells [.p (iP fk), .p (iP fi), .p (sP fn), .p (.sl 2 (lvPs fls)), .p (.sl 5 (tmPs fks))])]) (by simp) (by simp) ?_ (by simp) (by simp; rfl) rfl (Weak.refl _) (by simp; omega) ⟨[some (.cells [.p (iP 4), .p (iP i), .p (sP nm), .p (.sl 2 (lvPs ls)), .p (.sl 5 [a.cells, b.cells])]), some (.cells [.p (iP fk), .p (iP fi), .p (sP fn), .p (.sl 2 (lvPs fls)), .p (.sl 5 (tmPs fks))])] ++ G, ?_, ?_, ?_⟩
   ·have := hw.app (l := [some (.tok (xs.length + 1) 5)]) (by simp)
    simpa using this
   ·simpa using hw
   ·simp [tmPs_snoc]; omega
   ·simp
  ·have hk2 : ((ks.length : Int) != 2) = true := by simp; omega
   refine hend ?_ (.inr ⟨hk, hk2⟩)
   match ks, hks with
   | [], _ => rfl
   | [_], _ => rfl
   | _ :: _ :: _ :: _, _ => rfl
 ·have hkb : (k != 4) = true := by simpa using hk
  refine hend ?_ (.inl hkb)
  match ks with
  | [] => rfl
  | [_] => rfl
  | [_, _] => simp [isB, hk]
  | _ :: _ :: _ :: _ => rfl

end Go.Proofs.YtcfcolkbeelegaaGreat

namespace Go.Proofs.YtcfcolkbeelegaaGreat.aw05

open Go Go.AI
def nat : Tm := conT [78, 97, 116]
def kv : Tm := conT [86, 101, 99]
def ke : Tm := conT [69, 113]
def z : Tm := conT [122, 101, 114, 111]
def s : Tm := conT [115, 111, 109, 101]
def vec : Tm := appT kv (vr 0)
def eq : Tm := appT (appT ke (vr 1)) (vr 0)
def ps : Tm := bindT 6 [nat, vec] eq
def lk : Tm := appT kv (vr 2)
def it : Tm := appT (appT ke z) s
theorem r1 : resOpen ps 2 = ([nat, vec], eq, 0) := by kernel_rfl
theorem r2 : resOpen ps 3 = ([], zT, 13) := by kernel_rfl
theorem r3 : resLook [nat, vec, nat] 1 = (lk, 0) := by kernel_rfl
theorem r4 : resInst [nat, vec] eq [z, s] = (it, 0) := by kernel_rfl
theorem r5 : varL 3 1 = [vr 3, vr 2, vr 1] := by kernel_rfl
theorem o1 : nat.ok 65536 ∧ nat.size ≤ 1048576 := by simp [nat, conT, Tm.ok, Tm.oks, Tm.okN, Tm.size, Tm.sizes]
theorem o2 : vec.ok 65536 ∧ vec.size ≤ 1048576 := by simp [vec, kv, appT, conT, vr, Tm.ok, Tm.oks, Tm.okN, Tm.size, Tm.sizes, belowZ]
theorem o3 : eq.ok 65536 ∧ eq.size ≤ 4096 := by simp [eq, ke, appT, conT, vr, Tm.ok, Tm.oks, Tm.okN, Tm.size, Tm.sizes, belowZ]
theorem o4 : z.ok 65536 ∧ z.size ≤ 4096 := by simp [z, conT, Tm.ok, Tm.oks, Tm.okN, Tm.size, Tm.sizes]
theorem o5 : s.ok 65536 ∧ s.size ≤ 4096 := by simp [s, conT, Tm.ok, Tm.oks, Tm.okN, Tm.size, Tm.sizes]
theorem sm (t : Tm) (ht : t.ok 65536 ∧ t.size ≤ 4096) (g : Heap) (hg : WF g) : ACalls Tryz.prog 18 [t.av, t.av] g fun o h' => o = .ret (bA true) ∧ h' = g := by
 have := same_any t.size t t g (Nat.le_refl _) (by have := ht.2; omega) (ok_lvs _ _ ht.1) hg
 rwa [sameT_refl] at this

end Go.Proofs.YtcfcolkbeelegaaGreat.aw05

namespace Go.Proofs.YtcfcolkbeelegaaGreat

open Go Go.AI
theorem isB_some {k : Int} {t a b : Tm} (h : isB k t = some (a, b)) (hl : t.lvs) : a.lvs ∧ b.lvs ∧ a.size + b.size + 1 ≤ t.size := by
 obtain ⟨k', i, n, ls, ks⟩ := t
 match ks, h with
 | [x, y], h =>
  simp only [isB] at h
  split at h
  ·injection h with h; injection h with h1 h2
   subst h1; subst h2
   simp only [Tm.lvs, Tm.lvss, Tm.size, Tm.sizes] at hl ⊢
   exact ⟨hl.2.2.1, hl.2.2.2.1, by omega⟩
  ·cases h
theorem allF_ok (k : Int) (M : Nat) : ∀ (n : Nat) (acc : List Tm) (t : Tm), (∀ u ∈ acc, u.lvs ∧ u.size ≤ M) → t.lvs → t.size ≤ M → (∀ u ∈ (allF k n acc t).1, u.lvs ∧ u.size ≤ M) ∧ (allF k n acc t).2.lvs ∧ (allF k n acc t).2.size ≤ M ∧ (allF k n acc t).1.length ≤ acc.length + t.size
 | 0, acc, t, ha, hl, hs => ⟨ha, hl, hs, by simp only [allF]; omega⟩
 | n + 1, acc, t, ha, hl, hs => by
  simp only [allF]
  cases hb : isB k t with
  | none => exact ⟨ha, hl, hs, by simp only; omega⟩
  | some p =>
   obtain ⟨a, b⟩ := p
   have h := isB_some hb hl
   simp only
   have ih := allF_ok k M n (acc ++ [a]) b (fun u hu => by
    rcases List.mem_append.1 hu with hu | hu
    ·exact ha u hu
    ·simp at hu; subst hu; exact ⟨h.1, by omega⟩) h.2.1 (by omega)
   refine ⟨ih.1, ih.2.1, ih.2.2.1, ?_⟩
   have := ih.2.2.2
   simp only [List.length_append, List.length_singleton] at this
   omega
theorem resAll_ok (t : Tm) (hl : t.lvs) : (∀ u ∈ (resAll t).1, u.lvs ∧ u.size ≤ t.size) ∧ (resAll t).2.lvs ∧ (resAll t).2.size ≤ t.size ∧ (resAll t).1.length ≤ t.size := by
 have := allF_ok 6 t.size t.size [] t (by simp) hl (Nat.le_refl _)
 simpa [resAll] using this

end Go.Proofs.YtcfcolkbeelegaaGreat
