import Derived.Test.YtcfcolkbeelegaaGreatQPG
import Derived.Test.YtcfcolkbeelegaaGreatQX12
import Derived.Test.YtcfcolkbeelegaaGreatQFZ
set_option maxRecDepth 8000
set_option maxHeartbeats 8000000

namespace Go.AI

open Go

mutual
theorem RepP.roMono {E E' : Env} {w : World} (h : ∀ b off, E.ro b off → E'.ro b off) : ∀ {x : PV} {v : Value}, RepP E w x v → RepP E' w x v
 | .prim _, _, r => by simpa only [RepP] using r
 | .sl sz es, v, r => by
  simp only [RepP] at r ⊢
  obtain ⟨a, cap, e, hc, r⟩ := r
  refine ⟨a, cap, e, hc, r.imp id ?_⟩
  rintro ⟨b, off, ea, r⟩
  exact ⟨b, off, ea, RepEs.roMono h r⟩
 | .ro cs, v, r => by
  simp only [RepP] at r ⊢
  obtain ⟨b, off, e, r⟩ := r
  exact ⟨b, off, e, RepAt.roMono h r⟩
 | .ifc t x, v, r => by
  simp only [RepP] at r ⊢; obtain ⟨u, e, r⟩ := r; exact ⟨u, e, RepP.roMono h r⟩
theorem RepAt.roMono {E E' : Env} {w : World} (h : ∀ b off, E.ro b off → E'.ro b off) {b : Nat} : ∀ {xs : List PV} {off : Nat}, RepAt E w b off xs → RepAt E' w b off xs
 | [], _, _ => by simp only [RepAt]
 | x :: xs, off, r => by
  simp only [RepAt] at r ⊢
  obtain ⟨v, ho, e, r1, r2⟩ := r
  exact ⟨v, h _ _ ho, e, RepP.roMono h r1, RepAt.roMono h r2⟩
theorem RepEs.roMono {E E' : Env} {w : World} (h : ∀ b off, E.ro b off → E'.ro b off) {b sz : Nat} : ∀ {es : List (List PV)} {off : Nat}, RepEs E w b sz off es → RepEs E' w b sz off es
 | [], _, _ => by simp only [RepEs]
 | e :: es, off, r => by
  simp only [RepEs] at r ⊢
  exact ⟨r.1, RepAt.roMono h r.2.1, RepEs.roMono h r.2.2⟩
end
def roW (W : World) : Env := { ro := fun b _ => b < W.heap.size, g := fun _ => none, t := fun _ => none }
theorem roW_no (W : World) (b : Nat) : ¬ InG (roW W) (Heap.at []) b := by
 rintro ⟨id, h⟩
 rcases h with ⟨o, h1, _⟩ | ⟨o, x, c, m, h1, _⟩ <;> simp [Heap.at] at h1
theorem roW_rel (W : World) : Rel (roW W) (Heap.at []) W where
 objsO := fun id o h => by simp [Heap.at] at h
 toks := fun id o n sz m cs h => by simp [Heap.at] at h
 inj := fun id id' b h _ => absurd ⟨id, h⟩ (roW_no W b)
 sepO := fun id o b off h => by simp [Heap.at] at h
 sepT := fun id o n sz m cs b c k off h => by simp [Heap.at] at h
 lt := fun b off h => h
theorem roW_fresh (W : World) (n : Nat) : Fresh (roW W) n := fun _ _ => ⟨rfl, rfl⟩
theorem Rel.later {E : Env} {h : Nat → Option AO} {w w' : World} (r : Rel E h w) (hs : ∀ b, b < w.heap.size → w'.heap[b]? = w.heap[b]?) (hsz : w.heap.size ≤ w'.heap.size) (kp : Kp w w') : Rel E h w' ∧ Fr E h w E h w' := by
 have hx : Ext E w E w' := ⟨fun _ _ h => h, fun b off hb => cell_of_heap (hs b (r.lt b off hb)) off, fun _ _ h => h, fun _ L h => ⟨L, h, Nat.le_refl _, fun _ => rfl⟩⟩
 refine ⟨⟨fun id o h1 h2 => ?_, fun id o n sz m cs h1 h2 => ?_, r.inj, r.sepO, r.sepT, fun b off hb => Nat.lt_of_lt_of_le (r.lt b off hb) hsz⟩, ⟨fun b hb _ => hs b hb, hx, fun _ _ h => .inl h, hsz, fun _ h => .inl h, kp⟩⟩
 ·obtain ⟨b, g, hb⟩ := r.objsO id o h1 h2
  exact ⟨b, g, hb.move hx (hs b hb.lt)⟩
 ·obtain ⟨blk, cap, g1, g2, g3, g4⟩ := r.toks id o n sz m cs h1 h2
  refine ⟨blk, cap, g1, g2, g3, fun b hb => ?_⟩
  obtain ⟨vs, k1, k2, k3⟩ := g4 b hb
  exact ⟨vs, k1.same (hs b k1.lt), k2, k3.ext hx⟩
def Lend (h : Heap) (x y : AV) : Prop := ∀ E w v, Rel E h.at w → Rep E w x v → Rep (roW w) w y v
def LendL (h : Heap) (xs ys : List AV) : Prop := ∀ E w vs, Rel E h.at w → RepL E w xs vs → RepL (roW w) w ys vs
theorem LendL.nil {h : Heap} : LendL h [] [] := fun E w vs _ r => by simpa only [RepL] using r
theorem LendL.cons {h : Heap} {x y : AV} {xs ys : List AV} (a : Lend h x y) (b : LendL h xs ys) : LendL h (x :: xs) (y :: ys) := fun E w vs hr r => by
 simp only [RepL] at r ⊢
 obtain ⟨v, us, e, r1, r2⟩ := r
 exact ⟨v, us, e, a E w v hr r1, b E w us hr r2⟩
theorem Lend.p {h : Heap} (x : PV) : Lend h (.p x) (.p x) := fun E w v hr r => by
 simp only [Rep] at r ⊢
 exact r.roMono fun b off hb => hr.lt b off hb
theorem Lend.sm {h : Heap} {id n cap sz m : Nat} {es : List (List PV)} (hat : h.at id = some (.cells (buf sz es m))) (hes : ∀ e ∈ es, e.length = sz) (hn : es.length = n) (hcap : n ≤ cap) : Lend h (.sm id 0 n cap sz) (.p (.sl sz es)) := fun E w v hr r => by
 simp only [Rep] at r
 obtain ⟨b, hg, hv⟩ := r
 obtain ⟨b', vals, hg', hrow, hreps⟩ := hr.objs id _ hat
 rw [hg] at hg'; cases hg'
 have hel : (es.flatten.map AV.p).length = es.length * sz := by rw [List.length_map, flat_length hes]
 simp only [Rep, RepP]
 refine ⟨_, cap, by rw [hn]; exact hv, by omega, .inr ⟨b, 0, rfl, ?_⟩⟩
 refine RepEs.of_row (vs := vals.take (es.length * sz)) hes (fun j v hj => ⟨hrow.lt, ?_⟩) ?_
 ·rw [hrow.cell, Nat.zero_add]
  rw [List.getElem?_take] at hj
  split at hj
  ·exact hj
  ·cases hj
 ·have := hreps.take (es.length * sz)
  unfold buf at this
  rw [List.take_append_of_le_length (by omega), List.take_of_length_le (by omega)] at this
  have key : ∀ {ps : List PV} {vs : List Value}, RepL E w (ps.map .p) vs → RepL (roW w) w (ps.map .p) vs := by
   intro ps
   induction ps with
   | nil => intro vs r; simpa only [List.map_nil, RepL] using r
   | cons p ps ih =>
    intro vs r
    simp only [List.map_cons, RepL] at r ⊢
    obtain ⟨v, us, e, r1, r2⟩ := r
    exact ⟨v, us, e, Lend.p p E w v hr r1, ih r2⟩
  exact key this
theorem ACalls.lend {P : Program} {f : FuncId} {args args' : List AV} {h : Heap} {v : AV} (hargs : LendL h args args') (hv : ∀ E w u E' w', Rep E w v u → Rep E' w' v u) (hc : ACalls P f args' [] fun o h' => o = .ret v ∧ h' = []) : ACalls P f args h fun o h' => o = .ret v ∧ h' = h := by
 intro E w vs hrel hfr hrep
 refine (hc (roW w) w vs (roW_rel w) (roW_fresh w 0) (hargs E w vs hrel hrep)).mono fun e w1 ⟨out, h', E', ⟨ho, hh⟩, hr, hf, hre, hfr'⟩ => ?_
 subst ho
 simp only [RepO] at hre
 obtain ⟨u, rfl, hu⟩ := hre
 obtain ⟨r1, f1⟩ := hrel.later (fun b hb => hfr'.same b hb (roW_no w b)) hfr'.size hfr'.kp
 exact ⟨.ret v, h, E, ⟨rfl, rfl⟩, r1, hfr, ⟨u, rfl, hv _ _ _ _ _ hu⟩, f1⟩
theorem rep_prim (x : Value) : ∀ E w u E' w', Rep E w (.p (.prim x)) u → Rep E' w' (.p (.prim x)) u := fun E w u E' w' r => by simpa only [Rep, RepP] using r

end Go.AI

namespace Go.Proofs.YtcfcolkbeelegaaGreat

open Go Go.AI
theorem indexF_any (h : Heap) (hh : WF h) (l : List Tm) (hl : l.length ≤ 1048576) (hg : ∀ t ∈ l, t.good) : ACalls Tryz.prog 121 [.p (.sl 5 (tmPs l)), .p (.prim (.func (.func 66) #[] #[]))] h fun o h' => RetI (fun _ => True) o ∧ h' = h := by
 refine ACalls.of_run Tryz.func121 rfl ?_
 simp only [Tryz.ntmps121, List.length_cons, List.length_nil]
 refine nv ?_
 refine Run.reg fun K J => ?_
 simp
 refine J _ _ _ (nv ?_); clear J
 refine Run.reg fun K J => ?_
 simp
 refine J _ _ _ (nv ?_); clear J
 refine Run.loopS [0, 1, 7] (fun j : Nat => j ≤ l.length) (fun j => l.length - j) (fun j => [(8, iA j)]) (fun _ => _) 0 (by simp) ?_ rfl ?_
 ·simp
  repeat' first | exact wn | apply wc | exact wj _ | exact wr _ | exact wz _ | exact wo _ _ _ | exact wi (by omega)
 rintro j hj IH
 simp
 refine nv ?_
 refine Run.reg fun K J => ?_
 simp
 refine J _ _ _ (nv ?_); clear J
 by_cases hjl : j < l.length
 ·have hge : l[j]? = some l[j] := List.getElem?_eq_getElem hjl
  have c1 := fun (g : Heap) (hw : WF g) => high_any g hw _ (hg _ (List.getElem_mem hjl))
  generalize (checkZ 60000 8 65536 65536 l[j] != 0) = b at c1
  generalize l[j] = t at hge c1
  obtain ⟨k, i, n, ls, ks⟩ := t
  simp only [Tm.av, cells_mk, List.map] at c1
  refine ct (by simp [hjl]) (nv ?_)
  refine Run.reg fun K J => ?_
  simp
  refine J _ _ _ (nv ?_); clear J
  refine Run.reg fun K J => ?_
  simp [hge]
  refine J _ _ _ ?_; clear J
  refine Run.call rfl (by first | rfl | simp) (by simp) rfl (c1 _ hh) ?_ ?_
  rotate_left
  ·rintro v h' ⟨hv, _⟩; cases hv
  rintro v h' ⟨hv, rfl⟩
  simp only [AOut.ret.injEq] at hv
  subst hv
  cases b with
  | false =>
   refine Run.ops fun K J => ?_
   simp
   refine J _ _ _ (nv ?_); clear J
   refine cf (by simp) (nv ?_)
   refine Run.reg fun K J => ?_
   simp
   try (simp (disch := omega) only [wrap_id])
   refine J _ _ _ (nv ?_); clear J
   refine IH (j + 1) _ _ (by omega) (by omega) ?_ rfl
   simp
   repeat' first | exact wn | apply wc | exact wj _ | exact wr _ | exact wz _ | exact wo _ _ _ | exact wi (by omega)
  | true =>
   refine Run.ops fun K J => ?_
   simp
   refine J _ _ _ (nv ?_); clear J
   refine ct (by simp) (nv ?_)
   repeat (first | refine nw ?_ | (refine Run.reg fun K J => ?_; simp; (try (simp (disch := omega) only [wrap_id])); refine J _ _ _ ?_; clear J) | refine ct rfl ?_ | refine cf rfl ?_ | refine Run.exit rfl ?_ | refine Run.ret ?_)
   exact Fin.ret' (by simp) rfl hh (List.append_nil _).symm rfl rfl (Weak.refl _) rfl ⟨⟨_, rfl, trivial⟩, rfl⟩
 ·have hje : j = l.length := by omega
  subst hje
  refine cf (by simp) ?_
  refine Run.exit rfl ?_
  refine nv ?_
  repeat (first | refine nw ?_ | (refine Run.reg fun K J => ?_; simp; (try (simp (disch := omega) only [wrap_id])); refine J _ _ _ ?_; clear J) | refine ct rfl ?_ | refine cf rfl ?_ | refine Run.exit rfl ?_ | refine Run.ret ?_)
  exact Fin.ret' (by simp) rfl hh (List.append_nil _).symm rfl rfl (Weak.refl _) rfl ⟨⟨_, rfl, trivial⟩, rfl⟩
theorem containsF_any (h : Heap) (hh : WF h) (l : List Tm) (hl : l.length ≤ 1048576) (hg : ∀ t ∈ l, t.good) : ACalls Tryz.prog 65 [.p (.sl 5 (tmPs l)), .p (.prim (.func (.func 66) #[] #[]))] h fun o h' => RetB (fun _ => True) o ∧ h' = h := by
 refine ACalls.of_run Tryz.func65 rfl ?_
 simp only [Tryz.ntmps65, List.length_cons, List.length_nil]
 refine nv ?_
 refine Run.reg fun K J => ?_
 simp
 refine J _ _ _ (nv ?_); clear J
 refine Run.reg fun K J => ?_
 simp
 refine J _ _ _ ?_; clear J
 refine Run.call rfl (by first | rfl | simp) (by simp) rfl (indexF_any _ hh l hl hg) ?_ ?_
 rotate_left
 ·rintro v h' ⟨⟨_, hv, _⟩, _⟩; cases hv
 rintro v h' ⟨⟨e, hv, he⟩, rfl⟩
 simp only [AOut.ret.injEq] at hv
 subst hv
 refine Run.ops fun K J => ?_
 simp
 refine J _ _ _ (nv ?_); clear J
 refine Run.ret ?_
 exact Fin.ret' (by simp) rfl hh (List.append_nil _).symm (by simp; rfl) rfl (Weak.refl _) (by simp) ⟨⟨_, rfl, trivial⟩, rfl⟩
theorem small08_any (h : Heap) (hh : WF h) (env : List Dc) (l : List Tm) (hg : Env.good env) (hsz : Tm.sizes l ≤ 1048576) (hlv : Tm.lvss l) (hf : Tm.fits l) (hgl : ∀ t ∈ l, t.good) :
  ACalls Tryz.prog 20 [envA env, .p (.sl 5 (tmPs l))] h fun o h' => RetB (fun b => b = true → EnvFine env ∧ goodB l = true) o ∧ h' = h := by
 have hll := length_le_sizes l
 have c1 := fun (g : Heap) (hw : WF g) => nodes_any (Tm.sizes l) l 60 g (Nat.le_refl _) (by omega) (by omega) (by omega) hw
 have c2 := fun (g : Heap) (hw : WF g) => good_any g hw l (by omega) hlv hf
 have c3 := fun (g : Heap) (hw : WF g) => goodEnv_any g hw env hg
 have c4 := fun (g : Heap) (hw : WF g) => containsF_any g hw l (by omega) hgl
 generalize goodB l = gb at c2 ⊢
 generalize nd 60 0 l = n at c1
 refine ACalls.of_run Tryz.func20 rfl ?_
 simp only [Tryz.ntmps20, List.length_cons, List.length_nil]
 refine nv ?_
 refine Run.reg fun K J => ?_
 simp
 refine J _ _ _ (nv ?_); clear J
 refine Run.reg fun K J => ?_
 simp
 refine J _ _ _ ?_; clear J
 refine Run.call rfl (by first | rfl | simp) (by simp) rfl (c1 _ hh) ?_ ?_
 rotate_left
 ·rintro v h' ⟨hv, _⟩; cases hv
 rintro v h' ⟨hv, rfl⟩
 simp only [AOut.ret.injEq] at hv
 subst hv
 by_cases e1 : n ≤ 60
 rotate_left
 ·refine Run.ops fun K J => ?_
  simp [e1]
  refine J _ _ _ (nv ?_); clear J
  refine Run.ret ?_
  exact Fin.ret' (by simp) rfl hh (List.append_nil _).symm (by simp; rfl) rfl (Weak.refl _) (by simp) ⟨⟨_, rfl, fun h => by cases h⟩, rfl⟩
 refine Run.ops fun K J => ?_
 simp [e1]
 refine J _ _ _ ?_; clear J
 refine Run.call rfl (by first | rfl | simp) (by simp) rfl (c2 _ hh) ?_ ?_
 rotate_left
 ·rintro v h' ⟨hv, _⟩; cases hv
 rintro v h' ⟨hv, rfl⟩
 simp only [AOut.ret.injEq] at hv
 subst hv
 cases gb with
 | false =>
  refine Run.ops fun K J => ?_
  simp
  refine J _ _ _ (nv ?_); clear J
  refine Run.ret ?_
  exact Fin.ret' (by simp) rfl hh (List.append_nil _).symm (by simp; rfl) rfl (Weak.refl _) (by simp) ⟨⟨_, rfl, fun h => by cases h⟩, rfl⟩
 | true =>
 refine Run.ops fun K J => ?_
 simp
 refine J _ _ _ ?_; clear J
 refine Run.call rfl (by first | rfl | simp) (by simp) rfl (c3 _ hh) ?_ ?_
 rotate_left
 ·rintro v h' ⟨⟨_, hv, _⟩, _⟩; cases hv
 rintro v h' ⟨⟨b, hv, hb⟩, rfl⟩
 simp only [AOut.ret.injEq] at hv
 subst hv
 cases b with
 | false =>
  refine Run.ops fun K J => ?_
  simp
  refine J _ _ _ (nv ?_); clear J
  refine Run.ret ?_
  exact Fin.ret' (by simp) rfl hh (List.append_nil _).symm (by simp; rfl) rfl (Weak.refl _) (by simp) ⟨⟨_, rfl, fun h => by cases h⟩, rfl⟩
 | true =>
  have he := hb rfl
  refine Run.ops fun K J => ?_
  simp
  refine J _ _ _ ?_; clear J
  refine Run.call rfl (by first | rfl | simp) (by simp) rfl (c4 _ hh) ?_ ?_
  rotate_left
  ·rintro v h' ⟨⟨_, hv, _⟩, _⟩; cases hv
  rintro v h' ⟨⟨b, hv, hb⟩, rfl⟩
  simp only [AOut.ret.injEq] at hv
  subst hv
  refine Run.ops fun K J => ?_
  simp
  refine J _ _ _ (nv ?_); clear J
  refine Run.ret ?_
  exact Fin.ret' (by simp) rfl hh (List.append_nil _).symm (by simp; rfl) rfl (Weak.refl _) (by simp) ⟨⟨_, rfl, fun _ => ⟨he, rfl⟩⟩, rfl⟩


open Go Go.AI

mutual
def smP (m : Int) : Pt → Option Int
 | .mk _ n qs => if m ≤ 0 ∨ 80 < (n.length : Int) then none else smPs (m - 1) qs
def smPs (m : Int) : List Pt → Option Int
 | [] => some m
 | p :: ps => match smP m p with | none => none | some k => smPs k ps
end

mutual
theorem smP_eq : ∀ (p : Pt) (m k : Int), smP m p = some k → k = m - p.size ∧ 0 ≤ k
 | .mk _ n qs, m, k, h => by
  simp only [smP] at h
  split at h
  ·cases h
  ·rename_i hc
   have h1 := smPs_eq qs (m - 1) k h
   simp only [Pt.size]
   refine ⟨by rw [h1.1]; omega, h1.2 (by omega)⟩
theorem smPs_eq : ∀ (l : List Pt) (m k : Int), smPs m l = some k → k = m - Pt.sizes l ∧ (0 ≤ m → 0 ≤ k)
 | [], m, k, h => by simp only [smPs, Option.some.injEq] at h; subst h; simp [Pt.sizes]
 | p :: ps, m, k, h => by
  simp only [smPs] at h
  split at h
  ·cases h
  ·rename_i k1 he
   have h1 := smP_eq p m k1 he
   have h2 := smPs_eq ps k1 k h
   simp only [Pt.sizes]
   refine ⟨by rw [h2.1, h1.1]; omega, fun _ => h2.2 h1.2⟩
end
def smA : Option Int → AV
 | some k => .tup [iA k, bA true]
 | none => .tup [iA 0, bA false]
theorem smPs_drop {m k : Int} {l : List Pt} {j : Nat} (h : smPs m l = smPs k (l.drop j)) {x : Pt} (hg : l[j]? = some x) : smPs m l = match smP k x with | none => none | some k => smPs k (l.drop (j + 1)) := by
 rw [h, drop_of_get hg, smPs]
theorem psmall_any (N : Nat) : ∀ (l : List Pt) (m : Int), Pt.sizes l ≤ N → Pt.sizes l ≤ 1048576 → -1 ≤ m → m ≤ 1048576 → ∀ h, WF h → ACalls Tryz.prog 37 [.p (.sl 3 (ptPs l)), iA m] h fun o h' => o = .ret (smA (smPs m l)) ∧ h' = h := by
 have key : ∀ (l : List Pt) (m : Int), Pt.sizes l ≤ 1048576 → -1 ≤ m → m ≤ 1048576 → (∀ p ∈ l, ∀ k, -1 ≤ k → k ≤ 1048576 → ∀ g, WF g → ACalls Tryz.prog 37 [.p (.sl 3 (ptPs p.args)), iA k] g fun o h' => o = .ret (smA (smPs k p.args)) ∧ h' = g) →
   ∀ h, WF h → ACalls Tryz.prog 37 [.p (.sl 3 (ptPs l)), iA m] h fun o h' => o = .ret (smA (smPs m l)) ∧ h' = h := by
  intro l m hB hm1 hm2 ih h hh
  have hll := psz_len l
  refine ACalls.of_run Tryz.func37 rfl ?_
  simp only [Tryz.ntmps37, List.length_cons, List.length_nil]
  refine nv ?_
  refine Run.reg fun K J => ?_
  simp
  refine J _ _ _ (nv ?_); clear J
  refine Run.reg fun K J => ?_
  simp
  refine J _ _ _ (nv ?_); clear J
  refine Run.loopS (ι := Nat × Int) [10, 11] (fun p => p.1 ≤ l.length ∧ -1 ≤ p.2 ∧ p.2 ≤ 1048576 ∧ smPs m l = smPs p.2 (l.drop p.1)) (fun p => l.length - p.1) (fun p => [(1, iA p.2), (12, iA p.1)]) (fun _ => h) (0, m) ⟨by simp, hm1, hm2, by simp⟩ ?_ rfl ?_
  ·simp
   repeat' first | exact wn | apply wc | exact wj _ | exact wr _ | exact wz _ | exact wo _ _ _ | exact wi (by omega)
  rintro ⟨j, k⟩ ⟨hj, hk1, hk2, hd⟩ IH
  simp only at hj hk1 hk2 hd
  simp
  refine nv ?_
  refine Run.reg fun K J => ?_
  simp
  refine J _ _ _ (nv ?_); clear J
  by_cases hjl : j < l.length
  ·have hg : l[j]? = some l[j] := List.getElem?_eq_getElem hjl
   have hmem := List.getElem_mem hjl
   generalize l[j] = x at hg hmem
   have hd2 := smPs_drop hd hg
   have ihx := ih x hmem (k - 1)
   have hsm := smP_eq x k
   have hsz := Pt.size_at hmem
   obtain ⟨pk, pn, qs⟩ := x
   simp only [smP] at hd2 hsm
   simp only [Pt.args] at ihx
   refine ct (by simp [hjl]) (nv ?_)
   refine Run.reg fun K J => ?_
   simp [hg, pcells_mk]
   refine J _ _ _ (nv ?_); clear J
   by_cases h1 : k ≤ 0
   ·simp only [h1, true_or, if_true] at hd2
    rw [hd2]
    refine Run.reg fun K J => ?_
    simp [h1]
    refine J _ _ _ (nv ?_); clear J
    refine ct (by simp) (nv ?_)
    refine Run.reg fun K J => ?_
    simp
    refine J _ _ _ (nv ?_); clear J
    refine Run.ret ?_
    exact Fin.ret' (h0 := h) (by simp) rfl hh rfl (by simp; rfl) rfl (Weak.refl _) (by simp) ⟨by simp [smA], rfl⟩
   by_cases h2 : 80 < pn.length
   ·have h2i : 80 < (pn.length : Int) := by omega
    simp only [h2i, or_true, if_true] at hd2
    rw [hd2]
    refine Run.reg fun K J => ?_
    simp [h1, h2i]
    refine J _ _ _ (nv ?_); clear J
    refine ct (by simp) (nv ?_)
    refine Run.reg fun K J => ?_
    simp
    refine J _ _ _ (nv ?_); clear J
    refine Run.ret ?_
    exact Fin.ret' (h0 := h) (by simp) rfl hh rfl (by simp; rfl) rfl (Weak.refl _) (by simp) ⟨by simp [smA], rfl⟩
   have h2i : ¬ 80 < (pn.length : Int) := by omega
   simp only [h1, h2i, or_self, if_false] at hd2 hsm
   have ihx := fun g hw => ihx (by omega) (by omega) g hw
   refine Run.reg fun K J => ?_
   simp [h1, h2i]
   refine J _ _ _ (nv ?_); clear J
   refine cf (by simp) (nv ?_)
   refine Run.reg fun K J => ?_
   simp
   try (simp (disch := omega) only [wrap_id])
   refine J _ _ _ ?_; clear J
   refine rl rfl (by first | rfl | simp) (by simp) rfl (ihx _ (hh.app (by simp))) ?_
   cases hr : smPs (k - 1) qs with
   | none =>
    rw [hr] at hd2
    simp only at hd2
    rw [hd2]
    simp only [smA]
    refine Run.ops fun K J => ?_
    simp
    refine J _ _ _ (nv ?_); clear J
    refine Run.reg fun K J => ?_
    simp
    refine J _ _ _ (nv ?_); clear J
    refine ct (by simp) (nv ?_)
    refine Run.reg fun K J => ?_
    simp
    refine J _ _ _ (nv ?_); clear J
    refine Run.ret ?_
    exact Fin.ret' (h0 := h) (by simp) rfl hh rfl (by simp; rfl) rfl (Weak.refl _) (by simp) ⟨by simp, rfl⟩
   | some k2 =>
    rw [hr] at hd2
    simp only at hd2
    have hs2 := hsm k2 hr
    have := Pt.size_pos (.mk pk pn qs)
    simp only [smA]
    refine Run.ops fun K J => ?_
    simp
    refine J _ _ _ (nv ?_); clear J
    refine Run.reg fun K J => ?_
    simp
    refine J _ _ _ (nv ?_); clear J
    refine cf (by simp) (nv ?_)
    refine Run.reg fun K J => ?_
    simp
    refine J _ _ _ (nv ?_); clear J
    refine Run.reg fun K J => ?_
    simp
    try (simp (disch := omega) only [wrap_id])
    refine J _ _ _ (nv ?_); clear J
    refine Run.keep [1, 10, 11, 12] ?_
    simp
    refine Run.cutAt 0 hh rfl (by omega) (by simp) (by simp) (by simp) rfl ?_
    simp
    refine IH (j + 1, k2) _ _ ⟨by simp only; omega, by simp only; omega, by simp only; omega, hd2⟩ (by simp only; omega) ?_ (by simp)
    simp
    repeat' first | exact wn | apply wc | exact wj _ | exact wr _ | exact wz _ | exact wo _ _ _ | exact wi (by omega)
  ·have hje : j = l.length := by omega
   subst hje
   rw [List.drop_length, smPs] at hd
   rw [hd]
   refine cf (by simp) ?_
   refine Run.exit rfl ?_
   refine nv ?_
   refine Run.reg fun K J => ?_
   simp
   refine J _ _ _ (nv ?_); clear J
   refine Run.ret ?_
   exact Fin.ret' (by simp) rfl hh (List.append_nil _).symm (by simp; rfl) rfl (Weak.refl _) (by simp) ⟨by simp [smA], rfl⟩
 induction N with
 | zero =>
  intro l m hl hB hm1 hm2
  cases l with
  | nil => exact key [] m hB hm1 hm2 (by simp)
  | cons p l => have := p.size_pos; simp only [Pt.sizes] at hl; omega
 | succ N ih =>
  intro l m hl hB hm1 hm2
  refine key l m hB hm1 hm2 fun p hp k hk1 hk2 g hw => ?_
  have h2 := Pt.size_at hp
  obtain ⟨pk, pn, qs⟩ := p
  simp only [Pt.size] at h2
  exact ih qs k (by omega) (by omega) hk1 hk2 g hw

end Go.Proofs.YtcfcolkbeelegaaGreat
