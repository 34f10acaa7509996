import Derived.Test.YtcfcolkbeelegaaGreatOM4
import Derived.Test.YtcfcolkbeelegaaGreatOX0
import Derived.Test.YtcfcolkbeelegaaGreatOE11
import Derived.Test.YtcfcolkbeelegaaGreatOG1
import Derived.Test.YtcfcolkbeelegaaGreatOFS
import Derived.Test.YtcfcolkbeelegaaGreatOM1
import Derived.Test.YtcfcolkbeelegaaGreatOFF
set_option maxRecDepth 8000
set_option maxHeartbeats 16000000

namespace Go.Proofs.YtcfcolkbeelegaaGreat

open Go Go.AI

mutual
def Tm.nm : Tm → Prop
 | .mk _ _ n _ ks => n.length ≤ 1099511627776 ∧ Tm.nms ks
def Tm.nms : List Tm → Prop
 | [] => True
 | t :: ts => t.nm ∧ Tm.nms ts
end
theorem Tm.nms_at {l : List Tm} (h : Tm.nms l) : ∀ t ∈ l, t.nm := by
 induction l with
 | nil => intro t ht; cases ht
 | cons x l ih =>
  simp only [Tm.nms] at h
  intro t ht
  cases List.mem_cons.1 ht with
  | inl e => subst e; exact h.1
  | inr e => exact ih h.2 t e
def PreC (t : Tm) (d : Int) : Prop := t.fit ∧ t.nm ∧ 0 ≤ d ∧ d + t.size ≤ 1099511627776
theorem preC_kid : ∀ k i n ls ks d, PreC (.mk k i n ls ks) d → ∀ (j : Nat) (hj : j < ks.length), PreC ks[j] (d + belowZ k j) := by
 intro k i n ls ks d h j hj
 obtain ⟨h1, h2, h3, h4⟩ := h
 simp only [Tm.fit] at h1
 simp only [Tm.nm] at h2
 simp only [Tm.size] at h4
 have hs := kid_size hj
 have hb := belowZ_01' k j
 exact ⟨Tm.fits_at h1.2.2.2.2 _ (List.getElem_mem hj), Tm.nms_at h2.2 _ (List.getElem_mem hj), by omega, by omega⟩
theorem checkZ_vis (v p m l : Int) (t : Tm) (hsz : t.size ≤ 1099511627776) (c e : Int) (h : (vis (stChk (pos0 v) (pos0 p) (pos0 m) (pos0 l)) (0, 0) 0 t).1 = (c, e)) :
  checkZ v p m l t = if e = 0 then (if 4096 < c then 5 else if 200 < (t.depth : Int) then 7 else 0) else e := by
 obtain ⟨a1, a2⟩ := vis_chk (pos0 v) (pos0 p) (pos0 m) (pos0 l) t 0 0 (by omega) (by omega)
 rw [← checkP_eq v p m l t hsz]
 unfold checkP
 by_cases hz : chk (pos0 v) (pos0 p) (pos0 m) (pos0 l) 0 t = 0
 ·rw [a1 hz] at h ⊢
  simp only [Prod.mk.injEq] at h
  obtain ⟨rfl, rfl⟩ := h
  simp
 ·obtain ⟨b1, b2⟩ := a2 hz
  rw [h] at b2
  simp only at b2
  rw [b1, h, if_pos rfl, if_neg (by rw [b2]; exact hz)]
theorem tcheck_any (h : Heap) (hh : WF h) (t : Tm) (v p m l : Int) (hfit : t.fit) (hnm : t.nm) (hsz : t.size ≤ 1099511627776) : ACalls Tryz.prog 89 [t.av, iA v, iA p, iA m, iA l] h fun o h' => o = .ret (iA (checkZ v p m l t)) ∧ h' = h := by
 have hmax : ∀ x : Int, (if x < 0 then 0 else x) = pos0 x := fun _ => rfl
 have hp0 : 0 ≤ pos0 p := by unfold pos0; split <;> omega
 have hck := checkZ_vis v p m l t hsz
 obtain ⟨r, hr⟩ : ∃ r, r = checkZ v p m l t := ⟨_, rfl⟩
 rw [← hr] at hck ⊢
 clear hr
 have hpre : PreC t 0 := ⟨hfit, hnm, by omega, by omega⟩
 obtain ⟨pv, hpv⟩ : ∃ x, pos0 v = x := ⟨_, rfl⟩
 obtain ⟨pp, hpp⟩ : ∃ x, pos0 p = x := ⟨_, rfl⟩
 obtain ⟨pm, hpm⟩ : ∃ x, pos0 m = x := ⟨_, rfl⟩
 obtain ⟨pl, hpl⟩ : ∃ x, pos0 l = x := ⟨_, rfl⟩
 rw [hpv, hpp, hpm, hpl] at hck
 rw [hpp] at hp0
 have hno := iterOf_any (h ++ [some (.cells (t.cells.map .p)), some (.cells [iA 0]), some (.cells [iA pv, iA pp, iA pm, iA pl]), some (.cells [iA 0])]) (hh.app (by simp)) t
 have hdep := fun (g : Heap) (hg : WF g) => tdepth_any t.size t g (Nat.le_refl _) hsz hg
 obtain ⟨k, i, nm, ls, ks⟩ := t
 refine ACalls.of_runM Tryz.func89 rfl ?_
 simp only [Tryz.ntmps89, List.length_cons, List.length_nil, Tm.av, cells_mk, List.map] at hno hdep ⊢
 refine nv ?_
 refine Run.reg fun K hK => ?_
 simp
 refine hK _ _ _ (nv ?_); clear hK
 refine Run.reg fun K hK => ?_
 simp [hmax, hpv, hpp, hpm, hpl]
 refine hK _ _ _ (nv ?_); clear hK
 refine Run.reg fun K hK => ?_
 simp
 refine hK _ _ _ (nv ?_); clear hK
 refine Run.reg fun K hK => ?_
 simp
 refine hK _ _ _ ?_; clear hK
 refine Run.call rfl (by first | rfl | simp) (by simp) rfl (hno) ?_ ?_
 rotate_left
 ·rintro v h' ⟨hv, _⟩; cases hv
 rintro v h' ⟨hv, rfl⟩
 simp only [AOut.ret.injEq] at hv
 subst hv
 refine Run.ops fun K hK => ?_
 simp
 refine hK _ _ _ (nv ?_); clear hK
 refine Run.keep [5, 10, 11, 12, 26] ?_
 simp
 refine Run.rangeG (gf := 184) (cap := [.ptr (h.length + 4) 0]) (by simp) rfl fun y Tl ag' bd' hT hag hbd => ?_
 have hTu : ∀ k, AV.underL (h.length + (5 + k)) Tl = true := fun k => by rw [hT]; simp; omega
 obtain ⟨tc, htc⟩ : ∃ tc : List AV, tc = [.p (iP k), .p (iP i), .p (sP nm), .p (.sl 2 (lvPs ls)), .p (.sl 5 (tmPs ks))] := ⟨_, rfl⟩
 have htu : ∀ n, AV.underL n tc = true := fun n => by rw [htc]; simp
 obtain ⟨B, hB⟩ : ∃ B : Int × Int → Heap, B = fun s => h ++ [some (.cells tc), some (.cells [iA s.2]), some (.cells [iA pv, iA pp, iA pm, iA pl]), some (.cells [iA s.1]), some (.cells tc), some (.aux .dblk), some (.aux (.loop y (if s.2 = 0 then .ready else .done) (if s.2 = 0 then none else some .ret) Tl #[27, 28] ag' bd'))] := ⟨_, rfl⟩
 obtain ⟨Z, hZ⟩ : ∃ Z : Int → Int → Heap, Z = fun c e => h ++ [some (.cells tc), some (.cells [iA e]), some (.cells [iA pv, iA pp, iA pm, iA pl]), some (.cells [iA c]), some (.cells tc), some (.aux .dblk), some (.aux (.loop y .busy none Tl #[27, 28] ag' bd'))] := ⟨_, rfl⟩
 have hlen : ∀ s, (B s).length = h.length + 7 := fun s => by rw [hB]; simp
 have hlenZ : ∀ c e, (Z c e).length = h.length + 7 := fun c e => by rw [hZ]; simp
 have hwf : ∀ s, WF (B s) := fun s => by rw [hB]; exact hh.app (by simp [AO.under, hTu 2, htu])
 have hwfZ : ∀ c e, WF (Z c e) := fun c e => by rw [hZ]; exact hh.app (by simp [AO.under, hTu 2, htu])
 have hat : ∀ c (l : List (Option AO)), Heap.at (B (c, 0) ++ l) (h.length + 6) = some (.aux (.loop y .ready none Tl #[27, 28] ag' bd')) := fun c l => by rw [hB]; simp
 have hatZ : ∀ c e (l : List (Option AO)), Heap.at (Z c e ++ l) (h.length + 6) = some (.aux (.loop y .busy none Tl #[27, 28] ag' bd')) := fun c e l => by rw [hZ]; simp
 have hbusy : ∀ c (l : List (Option AO)), (B (c, 0) ++ l).set (h.length + 6) (some (.aux (.loop y .busy none Tl #[27, 28] ag' bd'))) = Z c 0 ++ l := fun c l => by rw [hB, hZ]; simp
 have hnorm : ∀ c (l : List (Option AO)), (Z c 0 ++ l).set (h.length + 6) (some (.aux (.loop y .ready none Tl #[27, 28] ag' bd'))) = B (c, 0) ++ l := fun c l => by rw [hB, hZ]; simp
 have hdone : ∀ c e (l : List (Option AO)), e ≠ 0 → (Z c e ++ l).set (h.length + 6) (some (.aux (.loop y .done (some .ret) Tl #[27, 28] ag' bd'))) = B (c, e) ++ l := fun c e l he => by rw [hB, hZ]; simp [he]
 have c2 : ∀ c e (l : List (Option AO)), (Z c e ++ l)[h.length + 2]? = some (some (.cells [iA pv, iA pp, iA pm, iA pl])) := fun c e l => by rw [hZ]; simp
 have c1 : ∀ c e (l : List (Option AO)), (Z c e ++ l)[h.length + 1]? = some (some (.cells [iA e])) := fun c e l => by rw [hZ]; simp
 have c3 : ∀ c e (l : List (Option AO)), (Z c e ++ l)[h.length + 3]? = some (some (.cells [iA c])) := fun c e l => by rw [hZ]; simp
 have s1 : ∀ c e e' (l : List (Option AO)), (Z c e ++ l).set (h.length + 1) (some (.cells [iA e'])) = Z c e' ++ l := fun c e e' l => by rw [hZ]; simp
 have s3 : ∀ c c' e (l : List (Option AO)), (Z c e ++ l).set (h.length + 3) (some (.cells [iA c'])) = Z c' e ++ l := fun c c' e l => by rw [hZ]; simp
 have glZ : ∀ c e (l l' : List (Option AO)), (Z c e ++ (l ++ l'))[h.length + 7 + l.length]? = l'[0]? := fun c e l l' => by rw [get_lastN (hlenZ c e), get_last0]
 have slZ : ∀ c e (l l' : List (Option AO)) (o : Option AO), (Z c e ++ (l ++ l')).set (h.length + 7 + l.length) o = Z c e ++ (l ++ l'.set 0 o) := fun c e l l' o => by rw [set_lastN (hlenZ c e), set_last0]
 have htk : ∀ s (l l' : List (Option AO)), (B s ++ (l ++ l')).take (h.length + 7 + l.length) = B s ++ l := fun s l l' => by rw [← List.append_assoc, show h.length + 7 + l.length = (B s ++ l).length by rw [List.length_append, hlen], take_last]
 have hit := iterL_any (stChk pv pp pm pl) y (h.length + 4) PreC preC_kid (fun s => s.2 = 0) (fun s d u hs _ hg => by
   simp only [stChk] at hg ⊢
   split
   ·rfl
   ·rename_i hne; rw [if_neg hne] at hg; cases hg) (.mk k i nm ls ks) (0, 0) B (h.length + 7) rfl hpre hsz hlen hwf (fun s => by rw [hB, htc]; simp)
  (fun s d u l hs hp hw => by
   obtain ⟨c, e⟩ := s
   simp only at hs
   subst hs
   refine AYield.of_run (hat c l) (by simp) ?_
   refine Run.codeEq hag ?_
   refine Run.tEq (congrArg (fun T => putMany T _ _) hT) ?_
   obtain ⟨uk, ui, un, uls, uks⟩ := u
   obtain ⟨hp1, hp2, hp3, hp4⟩ := hp
   simp only [Tm.nm] at hp2
   simp
   refine nv ?_
   refine Run.reg fun K hK => ?_
   simp
   refine hK _ _ _ (nv ?_); clear hK
   refine Run.reg fun K hK => ?_
   simp [hlen]
   refine hK _ _ _ (nv ?_); clear hK
   refine Run.nil ⟨rfl, rfl, hat _ _, ?_⟩
   rw [hbusy]
   refine Run.codeEq hbd ?_
   have hst : stChk pv pp pm pl (c, 0) d (.mk uk ui un uls uks) = if nodeZ pv pp pm pl d (.mk uk ui un uls uks) = 0 then ((IntKind.i64.wrap (c + 1), 0), true) else ((c, nodeZ pv pp pm pl d (.mk uk ui un uls uks)), false) := rfl
   have hu := (hwf (c, 0)).all
   have hwl : l.all (AO.under (h.length + 7 + l.length)) = true := by
    have := hw.all
    rw [List.all_append, Bool.and_eq_true, List.length_append, hlen] at this
    exact this.2
   have hw2 : ∀ s, WF (B s ++ l) := fun s => (hwf s).app (by rw [hlen]; exact hwl)
   have hwZ : ∀ c e, WF (Z c e ++ l) := fun c e => (hwfZ c e).app (by rw [hlenZ]; exact hwl)
   have hcall := tnode_any (Z c 0 ++ (l ++ [some (.cells ((Tm.mk uk ui un uls uks).cells.map .p))])) (by rw [← List.append_assoc]; exact (hwZ c 0).app (by simp)) uk ui un uls uks pv pp pm pl d hp0 hp1 hp2.1 hp3 (by omega)
   rw [hst, hlen]
   generalize nodeZ pv pp pm pl d (.mk uk ui un uls uks) = z at hcall
   simp only [Tm.av, cells_mk, List.map] at hcall
   refine nv ?_
   refine Run.reg fun K hK => ?_
   simp [glZ, c2]
   refine hK _ _ _ ?_; clear hK
   refine Run.call rfl (by first | rfl | simp) (by simp) rfl (hcall) ?_ ?_
   rotate_left
   ·rintro v h' ⟨hv, _⟩; cases hv
   rintro v h' ⟨hv, rfl⟩
   simp only [AOut.ret.injEq] at hv
   subst hv
   refine Run.ops fun K hK => ?_
   simp
   refine hK _ _ _ (nv ?_); clear hK
   refine Run.reg fun K hK => ?_
   simp
   refine hK _ _ _ (nv ?_); clear hK
   by_cases hz : z = 0
   ·subst hz
    simp only [if_true]
    refine cf (by simp) (nv ?_)
    refine Run.reg fun K hK => ?_
    simp [c3, s3]
    refine hK _ _ _ (nv ?_); clear hK
    refine Run.nil ?_
    refine ⟨none, h.length + 7 + l.length, rfl, rfl, Nat.le_refl _, by simp [hlenZ], hatZ _ 0 _, ?_, ?_⟩
    ·rw [show stOf none = .ready from rfl, hnorm, htk]
     have := (hw2 (IntKind.i64.wrap (c + 1), 0)).all
     rwa [List.length_append, hlen] at this
    ·rw [show stOf none = .ready from rfl, hnorm, htk]
     exact ⟨rfl, rfl⟩
   ·rw [if_neg hz]
    refine ct (by simp [hz]) (nv ?_)
    refine Run.reg fun K hK => ?_
    simp [c1, s1]
    refine hK _ _ _ (nv ?_); clear hK
    refine Run.ret ?_
    refine ⟨some .ret, h.length + 7 + l.length, rfl, rfl, Nat.le_refl _, by simp [hlenZ], hatZ c z _, ?_, ?_⟩
    ·rw [show stOf (some Code.ret) = .done from rfl, hdone _ _ _ hz, htk]
     have := (hw2 (c, z)).all
     rwa [List.length_append, hlen] at this
    ·rw [show stOf (some Code.ret) = .done from rfl, hdone _ _ _ hz, htk]
     exact ⟨rfl, rfl⟩)
 have hB0 : B (0, 0) = (h ++ [some (.cells tc), some (.cells [iA 0]), some (.cells [iA pv, iA pp, iA pm, iA pl]), some (.cells [iA 0]), some (.cells tc)]) ++ [some (.aux .dblk), some (.aux (.loop y .ready none Tl #[27, 28] ag' bd'))] := by rw [hB]; simp
 rw [htc] at hB0
 refine ⟨_, hB0 ▸ hit, ?_⟩
 rintro o h' ⟨rfl, rfl⟩
 have hck := fun c e => hck c e
 obtain ⟨⟨c, e⟩, hce⟩ : ∃ s, (vis (stChk pv pp pm pl) (0, 0) 0 (Tm.mk k i nm ls ks)).1 = s := ⟨_, rfl⟩
 have hck := hck c e hce
 rw [hce]
 refine ⟨_, (if e = 0 then .ready else .done), (if e = 0 then none else some .ret), rfl, by rw [hB, htc]; simp [Nat.add_assoc], by split <;> simp, ?_⟩
 rw [hB, htc]
 simp [Nat.add_assoc]
 by_cases he : e = 0
 ·subst he
  simp only [if_true] at hck ⊢
  refine nv ?_
  refine Run.reg fun K hK => ?_
  simp
  refine hK _ _ _ (nv ?_); clear hK
  by_cases h1 : 4096 < c
  ·rw [if_pos h1] at hck
   refine ct (by simp [h1]) (nv ?_)
   refine Run.reg fun K hK => ?_
   simp
   refine hK _ _ _ (nv ?_); clear hK
   refine Run.ret ?_
   refine ⟨by simp, ?_⟩
   exact Fin.ret' (h0 := h) (by simp) rfl hh (by simp; rfl) (by simp; rfl) rfl (Weak.refl _) rfl ⟨by rw [hck]; rfl, rfl⟩
  ·rw [if_neg h1] at hck
   refine cf (by simp [h1]) (nv ?_)
   refine Run.reg fun K hK => ?_
   simp
   refine hK _ _ _ ?_; clear hK
   refine rc rfl (by first | rfl | simp) (by simp) rfl (hdep _ (hh.app (by simp [AO.under, hTu 2]))) ?_
   refine Run.ops fun K hK => ?_
   simp
   refine hK _ _ _ (nv ?_); clear hK
   by_cases h2 : 200 < ((Tm.mk k i nm ls ks).depth : Int)
   ·rw [if_pos h2] at hck
    refine ct (by simp [h2]) (nv ?_)
    refine Run.reg fun K hK => ?_
    simp
    refine hK _ _ _ (nv ?_); clear hK
    refine Run.ret ?_
    refine ⟨by simp, ?_⟩
    exact Fin.ret' (h0 := h) (by simp) rfl hh (by simp; rfl) (by simp; rfl) rfl (Weak.refl _) rfl ⟨by rw [hck]; rfl, rfl⟩
   ·rw [if_neg h2] at hck
    refine cf (by simp [h2]) (nv ?_)
    refine Run.reg fun K hK => ?_
    simp
    refine hK _ _ _ (nv ?_); clear hK
    refine Run.ret ?_
    refine ⟨by simp, ?_⟩
    exact Fin.ret' (h0 := h) (by simp) rfl hh (by simp; rfl) (by simp; rfl) rfl (Weak.refl _) rfl ⟨by rw [hck]; rfl, rfl⟩
 ·rw [if_neg he] at hck
  simp [he]
  refine Run.ret ?_
  refine ⟨by simp, ?_⟩
  exact Fin.ret' (h0 := h) (by simp) rfl hh (by simp; rfl) (by simp; rfl) rfl (Weak.refl _) rfl ⟨by rw [hck]; rfl, rfl⟩


open Go Go.AI

mutual
def rsub (vs : List Tm) (e n d : Int) : Tm → Tm × Int × Int
 | .mk k i nm ls ks =>
  if 4096 < n then (.mk k i nm ls ks, e, n)
  else if k = 0 then
   (if d ≤ i then
    (match vs[(i - d).toNat]? with
     | some x => (shiftT d 0 0 x, errIf (shiftBad d 0 0 x) e, n + x.size)
     | none => (vr (i - vs.length), errIf (decide (65535 < i - vs.length)) e, n + 1))
   else (.mk k i nm ls ks, e, n + 1))
  else (.mk k i nm ls (rsubL vs e (n + 1) d k 0 ks).1, (rsubL vs e (n + 1) d k 0 ks).2.1, (rsubL vs e (n + 1) d k 0 ks).2.2)
def rsubL (vs : List Tm) (e n d k : Int) (idx : Nat) : List Tm → List Tm × Int × Int
 | [] => ([], e, n)
 | t :: ts =>
  ((rsub vs e n (d + belowZ k idx) t).1 :: (rsubL vs (rsub vs e n (d + belowZ k idx) t).2.1 (rsub vs e n (d + belowZ k idx) t).2.2 d k (idx + 1) ts).1,
   (rsubL vs (rsub vs e n (d + belowZ k idx) t).2.1 (rsub vs e n (d + belowZ k idx) t).2.2 d k (idx + 1) ts).2.1,
   (rsubL vs (rsub vs e n (d + belowZ k idx) t).2.1 (rsub vs e n (d + belowZ k idx) t).2.2 d k (idx + 1) ts).2.2)
end
def capD (dp : Int) : Int := if 65536 < dp then 65536 else dp
def resRefUnder (t : Tm) (vs : List Tm) (dp : Int) : Tm × Int :=
 if dp < 0 then (zT, 2)
 else if 4096 < (rsub vs 0 0 (capD dp) t).2.2 then (zT, 5)
 else if (rsub vs 0 0 (capD dp) t).2.1 ≠ 0 then (zT, (rsub vs 0 0 (capD dp) t).2.1)
 else if 200 < ((rsub vs 0 0 (capD dp) t).1.depth : Int) then (zT, 7) else ((rsub vs 0 0 (capD dp) t).1, 0)



open Go Go.AI
def intPs (l : List Int) : List (List PV) := l.map fun x => [iP x]
@[simp] theorem intPs_length (l : List Int) : (intPs l).length = l.length := by simp [intPs]
@[simp] theorem intPs_get (l : List Int) (i : Nat) : (intPs l)[i]? = (l[i]?).map fun x => [iP x] := by simp [intPs]
def repRen (to : List Int) (s : Int) (t : Tm) (d : Int) : BO Tm :=
 if t.index - d < 0 then .ok t.bare s
 else match to[(t.index - d).toNat]? with
  | none => .bad 24 s
  | some x => if x < 0 ∨ 65535 - d < x then .bad 24 s else .ok (vr (x + d)) s



open Go Go.AI
def ins1 (n : Int) : List Int → List Int
 | [] => [n]
 | x :: l => if n < x then n :: x :: l else x :: ins1 n l
theorem asc_ext : ∀ {l m : List Int}, l.Pairwise (· < ·) → m.Pairwise (· < ·) → (∀ x, x ∈ l ↔ x ∈ m) → l = m
 | [], [], _, _, _ => rfl
 | [], y :: m, _, _, h => by have := (h y).2 (by simp); cases this
 | x :: l, [], _, _, h => by have := (h x).1 (by simp); cases this
 | x :: l, y :: m, hl, hm, h => by
  have hl' := List.pairwise_cons.1 hl
  have hm' := List.pairwise_cons.1 hm
  have e : x = y := by
   rcases List.mem_cons.1 ((h x).1 (by simp)) with e | e
   ·exact e
   ·rcases List.mem_cons.1 ((h y).2 (by simp)) with e' | e'
    ·exact e'.symm
    ·have := hm'.1 x e; have := hl'.1 y e'; omega
  subst e
  congr 1
  refine asc_ext hl'.2 hm'.2 fun z => ⟨fun hz => ?_, fun hz => ?_⟩
  ·rcases List.mem_cons.1 ((h z).1 (by simp [hz])) with e | e
   ·have := hl'.1 z hz; omega
   ·exact e
  ·rcases List.mem_cons.1 ((h z).2 (by simp [hz])) with e | e
   ·have := hm'.1 z hz; omega
   ·exact e

end Go.Proofs.YtcfcolkbeelegaaGreat

namespace Go.AI

open Go
theorem Run.weakAt {P : Program} {rd : Option Nat} {nb : Nat} {k : List It} {T : List AV} {h : Heap} {D : List AD} {Q : AX → List AV → Heap → List AD → Prop} (slot : Nat) (y : AV) (hw : Weak (tget T slot) y) (r : Run P rd nb k (T.set slot y) h D Q) : Run P rd nb k T h D Q := by
 refine Run.weak ?_ r
 intro E w vs hT
 have hv := hT.get slot
 rw [← tget_eq] at hv
 have hset := hT.set (hw E w _ hv) slot
 have hsame : vs.set slot (vs.getD slot undef) = vs := by
  apply List.ext_getElem?
  intro j
  rw [List.getElem?_set]
  split
  ·rename_i e; subst e
   rcases Nat.lt_or_ge slot vs.length with l | l
   ·simp [l]
   ·have l' : ¬ slot < vs.length := by omega
    simp [l']
  ·rfl
 rwa [hsame] at hset

end Go.AI

namespace Go.Proofs.YtcfcolkbeelegaaGreat.aw03

open Go Go.AI
def lt : List Tm := [.mk 3 0 [78, 97, 116] [] [], .mk 4 0 [] [] [vr 0, vr 1]]
def ls : List Lv := [⟨0, [(1, 0)]⟩]
def t3 : Tm := .mk 3 0 [78, 97, 116] [] [vr 0]
def t4 : Tm := .mk 0 7 [120] [] []

end Go.Proofs.YtcfcolkbeelegaaGreat.aw03

namespace Go.Proofs.YtcfcolkbeelegaaGreat

open Go Go.AI
theorem tmPs_len5 (l : List Tm) : ∀ e ∈ tmPs l, e.length = 5 := by
 intro e he
 rw [tmPs_eq] at he; obtain ⟨t, _, rfl⟩ := List.mem_map.1 he; simp
abbrev row (l : List Tm) (m : Nat) : Option AO := some (.cells (buf 5 (tmPs l) m))
theorem row_get {l : List Tm} {m k : Nat} (hk : k < l.length) : ((buf 5 (tmPs l) m).drop (k * 5)).take 5 = (l[k]).cells.map .p := by
 rw [buf_get (tmPs_len5 l) (by simpa using hk)]; simp [tmPs_eq]
theorem row_set {l : List Tm} {m k : Nat} (t : Tm) (hk : k < l.length) : patch (buf 5 (tmPs l) m) (k * 5) (t.cells.map .p) = buf 5 (tmPs (l.set k t)) m := by
 rw [buf_set (tmPs_len5 l) (by simpa using hk) (by simp)]; simp [tmPs_eq, List.map_set]
theorem row_len (l : List Tm) (m : Nat) : (buf 5 (tmPs l) m).length = (l.length + m) * 5 := by rw [buf_len (tmPs_len5 l)]; simp
theorem row_under (n : Nat) (l : List Tm) (m : Nat) : AO.under n (row l m) = true := buf_under n 5 (tmPs l) m
def Turned (ts l : List Tm) (i : Nat) : Prop := l.length = ts.length ∧ ∀ k, k < ts.length → l[k]? = if k < i ∨ ts.length ≤ k + i then ts[ts.length - 1 - k]? else ts[k]?
theorem turned_zero (ts : List Tm) : Turned ts ts 0 := ⟨rfl, fun k hk => by rw [if_neg (by omega)]⟩
theorem turned_done {ts l : List Tm} {i : Nat} (h : Turned ts l i) (hi : ts.length ≤ 2 * i + 1) : l = ts.reverse := by
 apply List.ext_getElem?
 intro k
 rcases Nat.lt_or_ge k ts.length with hk | hk
 ·rw [h.2 k hk, List.getElem?_reverse hk]
  by_cases hc : k < i ∨ ts.length ≤ k + i
  ·rw [if_pos hc]
  ·rw [if_neg hc]
   congr 1; omega
 ·rw [List.getElem?_eq_none (by rw [h.1]; exact hk), List.getElem?_eq_none (by simpa using hk)]
theorem turned_step {ts l : List Tm} {i : Nat} (h : Turned ts l i) (hi : 2 * i + 1 < ts.length) (x y : Tm) (hx : l[i]? = some x) (hy : l[ts.length - 1 - i]? = some y) : Turned ts ((l.set i y).set (ts.length - 1 - i) x) (i + 1) := by
 refine ⟨by simp [h.1], fun k hk => ?_⟩
 have h1 := h.2 i (by omega)
 have h2 := h.2 (ts.length - 1 - i) (by omega)
 rw [if_neg (by omega)] at h1 h2
 rw [hx] at h1
 rw [hy] at h2
 rw [List.getElem?_set, List.getElem?_set]
 by_cases e1 : ts.length - 1 - i = k
 ·rw [if_pos e1, if_pos (by simp [h.1]; omega), if_pos (by omega)]
  rw [show ts.length - 1 - k = i by omega]; exact h1
 ·rw [if_neg e1]
  by_cases e2 : i = k
  ·rw [if_pos e2, if_pos (by rw [h.1]; omega), if_pos (by omega), ← e2]; exact h2
  ·rw [if_neg e2, h.2 k hk]
   by_cases hc : k < i ∨ ts.length ≤ k + i
   ·rw [if_pos hc, if_pos (by omega)]
   ·rw [if_neg hc, if_neg (by omega)]
theorem reverse_any (h : Heap) (hh : WF h) (ts : List Tm) (id cap m : Nat) (hl : ts.length ≤ 1048576) (hid : h[id]? = some (row ts m)) :
  ACalls Tryz.prog 212 [.sm id 0 ts.length cap 5] h fun o h' => o = .ret (.tup []) ∧ h' = h.set id (row ts.reverse m) := by
 obtain ⟨g1, g2, g3, g4, g5, hlt⟩ := idf hid
 refine ACalls.of_run Tryz.func212 rfl ?_
 simp only [Tryz.ntmps212, List.length_cons, List.length_nil]
 refine nv ?_
 refine Run.reg fun K hK => ?_
 simp
 try (simp (disch := omega) only [wrap_id])
 refine hK _ _ _ (nv ?_); clear hK
 refine Run.loopS (ι := Nat × List Tm) [0] (fun p => 2 * p.1 ≤ ts.length + 1 ∧ Turned ts p.2 p.1) (fun p => ts.length - p.1) (fun p => [(2, iA p.1), (3, iA ((ts.length : Int) - 1 - p.1))]) (fun p => h.set id (row p.2 m)) (0, ts) ⟨by simp, turned_zero ts⟩ ?_ (by simp [set_same hid]) ?_
 ·simp
  repeat' first | exact wn | apply wc | exact wj _ | exact wr _ | exact wz _ | exact wo _ _ _ | exact wi (by omega)
 rintro ⟨i, l⟩ ⟨hi, ht⟩ IH
 simp only at hi ht
 simp
 have hll := ht.1
 by_cases hc : 2 * i + 1 < ts.length
 ·obtain ⟨j, hj⟩ : ∃ j : Nat, j = ts.length - 1 - i := ⟨_, rfl⟩
  have hje : (ts.length : Int) - 1 - i = (j : Int) := by omega
  rw [hje]
  have hc2 : i < j := by omega
  have hil : i < l.length := by omega
  have hjl : j < l.length := by omega
  obtain ⟨x, hx⟩ : ∃ x, l[i] = x := ⟨_, rfl⟩
  obtain ⟨y, hy⟩ : ∃ y, l[j] = y := ⟨_, rfl⟩
  have hstep := turned_step ht hc x y (by rw [List.getElem?_eq_getElem hil, hx]) (by rw [← hj, List.getElem?_eq_getElem hjl, hy])
  rw [← hj] at hstep
  have gx : ((buf 5 (tmPs l) m).drop (i * 5)).take 5 = x.cells.map .p := by rw [row_get hil, hx]
  have gy : ((buf 5 (tmPs l) m).drop (j * 5)).take 5 = y.cells.map .p := by rw [row_get hjl, hy]
  have p1 : patch (buf 5 (tmPs l) m) (i * 5) (y.cells.map .p) = buf 5 (tmPs (l.set i y)) m := row_set y hil
  have p2 : patch (buf 5 (tmPs (l.set i y)) m) (j * 5) (x.cells.map .p) = buf 5 (tmPs ((l.set i y).set j x)) m := row_set x (by simpa using hjl)
  have l1 : i * 5 + 5 ≤ (buf 5 (tmPs l) m).length := by rw [row_len]; omega
  have l2 : j * 5 + 5 ≤ (buf 5 (tmPs l) m).length := by rw [row_len]; omega
  have l3 : j * 5 + 5 ≤ (buf 5 (tmPs (l.set i y)) m).length := by rw [row_len]; simp; omega
  have hi2 : i < ts.length := by omega
  have hj2 : j < ts.length := by omega
  refine nv ?_
  refine Run.reg fun K hK => ?_
  simp
  refine hK _ _ _ (nv ?_); clear hK
  refine ct (by simp [hc2]) (nv ?_)
  refine Run.draw [0, 0, 0, 0, 0, 0, 0, 0, 0, 0, 0, 0, 0, 0, 1, 1] [0, 0, 0, 0, 0, 0, 0, 0, 0, 0, 0, 0, 0, 0, 0, 1] [0, 0, 0, 0, 0, 0, 48, 112, 0, 0, 768, 1792, 4083, 8179, 16383, 32767] [0, 1, 4, 5, 6, 7, 8, 9, 10, 11, 12, 13, 2, 3, 14, 15] (by kernel_rfl) (by kernel_rfl) ?_
  refine DR.go fun K hK => ?_
  simp [hi2, hj2, l1, l2, l3, gx, gy, p1, p2, g3]
  refine hK _ _ _ _ ?_; clear hK
  change Run _ _ _ _ _ _ _ _
  refine nv ?_
  refine Run.reg fun K hK => ?_
  simp
  try (simp (disch := omega) only [wrap_id])
  refine hK _ _ _ (nv ?_); clear hK
  refine IH (i + 1, (l.set i y).set j x) _ _ ⟨by simp only; omega, hstep⟩ (by simp only; omega) ?_ ?_
  ·simp
   repeat' first | exact wn | apply wc
   all_goals first | exact Weak.junk _ | exact Weak.refl _ | exact Weak.int (by omega)
  ·simp
 ·have hc2 : ¬ (i : Int) < (ts.length : Int) - 1 - i := by omega
  have hd := turned_done ht (by omega)
  subst hd
  refine nv ?_
  refine Run.reg fun K hK => ?_
  simp
  refine hK _ _ _ (nv ?_); clear hK
  refine cf (by simp [hc2]) ?_
  refine Run.exit rfl ?_
  refine Run.nil ?_
  exact Fin.ret' (h0 := h.set id (row ts.reverse m)) (by simp) (by simp) (hh.set (row_under _ _ _)) (List.append_nil _).symm rfl rfl (Weak.refl _) rfl ⟨rfl, rfl⟩
theorem reverse_nil (h : Heap) (hh : WF h) : ACalls Tryz.prog 212 [.p (.sl 5 [])] h fun o h' => o = .ret (.tup []) ∧ h' = h := by
 refine ACalls.of_run Tryz.func212 rfl ?_
 simp only [Tryz.ntmps212, List.length_cons, List.length_nil]
 refine nv ?_
 refine Run.reg fun K hK => ?_
 simp
 try (simp (disch := omega) only [wrap_id])
 refine hK _ _ _ (nv ?_); clear hK
 refine Run.loopS [] (fun _ : Unit => True) (fun _ => 0) (fun _ => [(2, iA 0), (3, iA (-1))]) (fun _ => h) () trivial ?_ rfl ?_
 ·simp
  repeat' first | exact wn | apply wc | exact wj _ | exact wr _ | exact wz _ | exact wo _ _ _ | exact wi (by omega)
 rintro _ _ IH
 simp
 refine nv ?_
 refine Run.reg fun K hK => ?_
 simp
 refine hK _ _ _ (nv ?_); clear hK
 refine cf (by simp) ?_
 refine Run.exit rfl ?_
 refine Run.nil ?_
 exact Fin.ret' (by simp) rfl hh (List.append_nil _).symm rfl rfl (Weak.refl _) rfl ⟨rfl, rfl⟩


open Go Go.AI
def conT (n : List UInt8) : Tm := .mk 3 0 n [] []
def sameL (xs ys : List Tm) : Bool := !((xs.length : Int) != ys.length) && allTo (tmsAt xs ys) xs.length
def resLook (ctx : List Tm) (i : Int) : Tm × Int :=
 if i < 0 ∨ (ctx.length : Int) ≤ i then (zT, 24) else match ctx[((ctx.length : Int) - 1 - i).toNat]? with
  | some t => resRefShift (i + 1) 0 t
  | none => (zT, 24)


open Go Go.AI
def isB (k : Int) : Tm → Option (Tm × Tm)
 | .mk k' _ _ _ [a, b] => if k' = k then some (a, b) else none
 | _ => none
def openA : Nat → List Tm → Tm → List Tm × Tm × Int
 | 0, acc, t => (acc, t, 0)
 | n + 1, acc, t => match isB 6 t with
  | some (a, b) => openA n (acc ++ [a]) b
  | none => ([], zT, 13)
def resOpen (t : Tm) (n : Int) : List Tm × Tm × Int := if n < 0 then ([], zT, 2) else openA n.toNat [] t


open Go Go.AI
abbrev vc (x : Int) : List PV := [iP 0, iP x, sP [], .prim (.slice none 0 0), .prim (.slice none 0 0)]
def varZ (n fr : Int) : List Int := if n < 1 ∨ 4096 < n ∨ fr < 0 then [] else (List.range n.toNat).map fun j : Nat => fr + n - 1 - j
def varL (n fr : Int) : List Tm := (varZ n fr).map vr


open Go Go.AI
def resInst (ctx : List Tm) (t : Tm) (args : List Tm) : Tm × Int := if args.length ≠ ctx.length then (zT, 6) else resRefUnder t args.reverse 0


open Go Go.AI
def bindT (k : Int) (ctx : List Tm) (t : Tm) : Tm := ctx.foldr (fun a t => .mk k 0 [] [] [a, t]) t

end Go.Proofs.YtcfcolkbeelegaaGreat
