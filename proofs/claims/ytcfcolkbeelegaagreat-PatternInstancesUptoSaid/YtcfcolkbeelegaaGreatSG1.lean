import Derived.Test.YtcfcolkbeelegaaGreatSD
import Derived.Test.YtcfcolkbeelegaaGreatSE3
import Derived.Test.YtcfcolkbeelegaaGreatSE11
set_option maxRecDepth 8000
set_option maxHeartbeats 4000000

namespace Go.Proofs.YtcfcolkbeelegaaGreat

open Go Go.AI
def checkZ (vars params metas levels : Int) (t : Tm) : Int :=
 if chk (if vars < 0 then 0 else vars) params metas levels 0 t ≠ 0 then chk (if vars < 0 then 0 else vars) params metas levels 0 t
 else if 4096 < (t.size : Int) then 5 else if 200 < (t.depth : Int) then 7 else 0
theorem check_any (h : Heap) (hh : WF h) (t : Tm) (vars params metas levels : Int) (hsz : t.size ≤ 1099511627776) (hf : t.fit) :
  ACalls Tryz.prog 45 [t.av, iA vars, iA params, iA metas, iA levels] h fun o h' => o = .ret (iA (checkZ vars params metas levels t)) ∧ h' = h := by
 have hh1 : WF (h ++ [some (.cells (t.cells.map .p))]) := hh.app (by simp)
 have hc := chk_any (if vars < 0 then 0 else vars) params metas levels t.size t 0 _ (Nat.le_refl _) hf (by omega) (by omega) hh1
 have hs := size_any t.size t _ (Nat.le_refl _) hsz hh1
 have hd := depth_any t.size t _ (Nat.le_refl _) hsz hh1
 have hz : ∃ z, checkZ vars params metas levels t = z := ⟨_, rfl⟩
 obtain ⟨z, hz⟩ := hz
 rw [hz]
 unfold checkZ at hz
 generalize chk (if vars < 0 then 0 else vars) params metas levels 0 t = e at hc hz
 generalize t.size = sz at hs hz
 generalize t.depth = dp at hd hz
 obtain ⟨k, i, n, ls, ks⟩ := t
 refine ACalls.of_run Tryz.func45 rfl ?_
 simp only [Tryz.ntmps45, List.length_cons, List.length_nil, Tm.av, cells_mk, List.map]
 refine nv ?_
 refine Run.reg fun K J => ?_
 simp
 refine J _ _ _ (nv ?_); clear J
 refine Run.reg fun K J => ?_
 simp
 refine J _ _ _ ?_; clear J
 refine Run.call rfl rfl (by simp) rfl hc ?_ ?_
 rotate_left
 ·rintro v h' ⟨hv, _⟩; cases hv
 rintro v h' ⟨hv, rfl⟩
 simp only [AOut.ret.injEq] at hv
 subst hv
 refine Run.ops fun K J => ?_
 simp
 refine J _ _ _ (nv ?_); clear J
 refine Run.reg fun K J => ?_
 simp
 refine J _ _ _ (nv ?_); clear J
 by_cases h1 : e = 0
 ·rw [if_neg (by simp [h1])] at hz
  refine cf (by simp [h1]) (nv ?_)
  refine Run.reg fun K J => ?_
  simp
  refine J _ _ _ ?_; clear J
  refine Run.call rfl rfl (by simp) rfl hs ?_ ?_
  rotate_left
  ·rintro v h' ⟨hv, _⟩; cases hv
  rintro v h' ⟨hv, rfl⟩
  simp only [AOut.ret.injEq] at hv
  subst hv
  refine Run.ops fun K J => ?_
  simp
  refine J _ _ _ (nv ?_); clear J
  by_cases h2 : 4096 < (sz : Int)
  ·rw [if_pos h2] at hz
   refine ct (by simp [h2]) (nv ?_)
   repeat (first | refine nw ?_ | (refine Run.reg fun K J => ?_; simp; (try (simp (disch := omega) only [wrap_id])); refine J _ _ _ ?_; clear J) | refine ct rfl ?_ | refine cf rfl ?_ | refine Run.exit rfl ?_ | refine Run.ret ?_)
   exact Fin.ret' (by simp) rfl hh rfl rfl rfl (Weak.refl _) rfl ⟨by rw [← hz]; rfl, rfl⟩
  rw [if_neg h2] at hz
  refine cf (by simp [h2]) (nv ?_)
  refine Run.reg fun K J => ?_
  simp
  refine J _ _ _ ?_; clear J
  refine Run.call rfl rfl (by simp) rfl hd ?_ ?_
  rotate_left
  ·rintro v h' ⟨hv, _⟩; cases hv
  rintro v h' ⟨hv, rfl⟩
  simp only [AOut.ret.injEq] at hv
  subst hv
  refine Run.ops fun K J => ?_
  simp
  refine J _ _ _ (nv ?_); clear J
  by_cases h3 : 200 < (dp : Int)
  ·rw [if_pos h3] at hz
   refine ct (by simp [h3]) (nv ?_)
   repeat (first | refine nw ?_ | (refine Run.reg fun K J => ?_; simp; (try (simp (disch := omega) only [wrap_id])); refine J _ _ _ ?_; clear J) | refine ct rfl ?_ | refine cf rfl ?_ | refine Run.exit rfl ?_ | refine Run.ret ?_)
   exact Fin.ret' (by simp) rfl hh rfl rfl rfl (Weak.refl _) rfl ⟨by rw [← hz]; rfl, rfl⟩
  rw [if_neg h3] at hz
  refine cf (by simp [h3]) (nv ?_)
  repeat (first | refine nw ?_ | (refine Run.reg fun K J => ?_; simp; (try (simp (disch := omega) only [wrap_id])); refine J _ _ _ ?_; clear J) | refine ct rfl ?_ | refine cf rfl ?_ | refine Run.exit rfl ?_ | refine Run.ret ?_)
  exact Fin.ret' (by simp) rfl hh rfl rfl rfl (Weak.refl _) rfl ⟨by rw [← hz]; rfl, rfl⟩
 ·rw [if_pos h1] at hz
  refine ct (by simp [h1]) (nv ?_)
  repeat (first | refine nw ?_ | (refine Run.reg fun K J => ?_; simp; (try (simp (disch := omega) only [wrap_id])); refine J _ _ _ ?_; clear J) | refine ct rfl ?_ | refine cf rfl ?_ | refine Run.exit rfl ?_ | refine Run.ret ?_)
  exact Fin.ret' (by simp) rfl hh rfl rfl rfl (Weak.refl _) rfl ⟨by rw [← hz]; rfl, rfl⟩
def goodAt (l : List Tm) (j : Nat) : Bool := match l[j]? with | some t => checkZ 65536 8 65536 65536 t == 0 | none => true
def goodB (l : List Tm) : Bool := fews l && allTo (goodAt l) l.length
theorem good_any (h : Heap) (hh : WF h) (l : List Tm) (hsz : Tm.sizes l ≤ 1099511627776) (hlv : Tm.lvss l) (hf : Tm.fits l) :
  ACalls Tryz.prog 11 [.p (.sl 5 (tmPs l))] h fun o h' => o = .ret (bA (goodB l)) ∧ h' = h := by
 have hll := length_le_sizes l
 have hfe := few_any (Tm.sizes l) l h (Nat.le_refl _) hsz hlv hh
 refine ACalls.of_run Tryz.func11 rfl ?_
 simp only [Tryz.ntmps11, List.length_cons, List.length_nil]
 refine nv ?_
 refine Run.reg fun K J => ?_
 simp
 refine J _ _ _ (nv ?_); clear J
 refine Run.reg fun K J => ?_
 simp
 refine J _ _ _ ?_; clear J
 refine Run.call rfl rfl (by simp) rfl hfe ?_ ?_
 rotate_left
 ·rintro v h' ⟨hv, _⟩; cases hv
 rintro v h' ⟨hv, rfl⟩
 simp only [AOut.ret.injEq] at hv
 subst hv
 cases hfb : fews l with
 | false =>
  refine Run.ops fun K J => ?_
  simp
  refine J _ _ _ (nv ?_); clear J
  repeat (first | refine nw ?_ | (refine Run.reg fun K J => ?_; simp; (try (simp (disch := omega) only [wrap_id])); refine J _ _ _ ?_; clear J) | refine ct rfl ?_ | refine cf rfl ?_ | refine Run.exit rfl ?_ | refine Run.ret ?_)
  exact Fin.ret' (by simp) rfl hh (List.append_nil _).symm rfl rfl (Weak.refl _) rfl ⟨by simp [goodB, hfb], rfl⟩
 | true =>
  refine Run.ops fun K J => ?_
  simp
  refine J _ _ _ (nv ?_); clear J
  refine cf (by simp) (nv ?_)
  refine Run.reg fun K J => ?_
  simp
  refine J _ _ _ (nv ?_); clear J
  refine Run.loopS [8, 9] (fun j : Nat => j ≤ l.length ∧ allTo (goodAt l) j = true) (fun j => l.length - j) (fun j => [(10, iA j)]) (fun _ => _) 0 (by simp [allTo]) ?_ rfl ?_
  ·simp
   repeat' first | exact wn | apply wc | exact wj _ | exact wr _ | exact wz _ | exact wo _ _ _ | exact wi (by omega)
  rintro j ⟨hj, hall⟩ IH
  simp
  refine nv ?_
  refine Run.reg fun K J => ?_
  simp
  refine J _ _ _ (nv ?_); clear J
  by_cases hjl : j < l.length
  ·have hg : l[j]? = some l[j] := List.getElem?_eq_getElem hjl
   have hs := kid_size hjl
   have hfj := Tm.fits_at hf _ (List.getElem_mem hjl)
   generalize l[j] = u at hg hs hfj
   refine ct (by simp [hjl]) (nv ?_)
   refine Run.reg fun K J => ?_
   simp [hg]
   refine J _ _ _ (nv ?_); clear J
   refine Run.reg fun K J => ?_
   simp
   refine J _ _ _ ?_; clear J
   have hck := fun (g : Heap) (hg : WF g) => check_any g hg u 65536 8 65536 65536 (by omega) hfj
   refine Run.call (args := [u.av, iA 65536, iA 8, iA 65536, iA 65536]) rfl rfl (by simp) rfl (hck _ (hh.app (by simp))) ?_ ?_
   rotate_left
   ·rintro v h' ⟨hv, _⟩; cases hv
   rintro v h' ⟨hv, rfl⟩
   simp only [AOut.ret.injEq] at hv
   subst hv
   refine Run.ops fun K J => ?_
   simp
   refine J _ _ _ (nv ?_); clear J
   by_cases h1 : checkZ 65536 8 65536 65536 u = 0
   ·skip
    refine cf (by simp [h1]) (nv ?_)
    refine Run.reg fun K J => ?_
    simp
    try (simp (disch := omega) only [wrap_id])
    refine J _ _ _ (nv ?_); clear J
    refine Run.keep [8, 9, 10] ?_
    simp
    refine Run.cutAt 0 hh rfl (by omega) (by simp) (by simp) (by simp) rfl ?_
    refine IH (j + 1) _ _ ⟨by omega, by rw [allTo_succ, hall]; simp only [goodAt, hg, h1]; rfl⟩ (by omega) ?_ (by simp)
    simp
    repeat' first | exact wn | apply wc | exact wj _ | exact wr _ | exact wz _ | exact wo _ _ _ | exact wi (by omega)
   ·skip
    refine ct (by simp [h1]) (nv ?_)
    repeat (first | refine nw ?_ | (refine Run.reg fun K J => ?_; simp; (try (simp (disch := omega) only [wrap_id])); refine J _ _ _ ?_; clear J) | refine ct rfl ?_ | refine cf rfl ?_ | refine Run.exit rfl ?_ | refine Run.ret ?_)
    have := allTo_false (p := goodAt l) hjl (by simp only [goodAt, hg]; simpa using h1)
    exact Fin.ret' (by simp) rfl hh rfl rfl rfl (Weak.refl _) rfl ⟨by simp [goodB, this], rfl⟩
  ·have hje : j = l.length := by omega
   subst hje
   refine cf (by simp) ?_
   refine Run.exit rfl ?_
   refine nv ?_
   repeat (first | refine nw ?_ | (refine Run.reg fun K J => ?_; simp; (try (simp (disch := omega) only [wrap_id])); refine J _ _ _ ?_; clear J) | refine ct rfl ?_ | refine cf rfl ?_ | refine Run.exit rfl ?_ | refine Run.ret ?_)
   exact Fin.ret' (by simp) rfl hh (List.append_nil _).symm rfl rfl (Weak.refl _) rfl ⟨by simp [goodB, hfb, hall], rfl⟩

end Go.Proofs.YtcfcolkbeelegaaGreat

namespace Go.AI

open Go

def WeakP (x y : PV) : Prop := ∀ E w v, RepP E w x v → RepP E w y v
def WeakPL (xs ys : List PV) : Prop := xs.length = ys.length ∧ ∀ E w b off, RepAt E w b off xs → RepAt E w b off ys
def WeakPs (es es' : List (List PV)) : Prop := es.length = es'.length ∧ ∀ E w b sz off, RepEs E w b sz off es → RepEs E w b sz off es'
theorem WeakP.refl (x : PV) : WeakP x x := fun _ _ _ h => h
theorem WeakP.nil (sz : Nat) : WeakP (.prim (.slice none 0 0)) (.sl sz []) := fun E w v h => Weak.nil sz E w v h
theorem WeakPL.nil : WeakPL [] [] := ⟨rfl, fun _ _ _ _ h => h⟩
theorem WeakPL.refl (x : List PV) : WeakPL x x := ⟨rfl, fun _ _ _ _ h => h⟩
theorem WeakPL.cons {x y : PV} {xs ys : List PV} (h : WeakP x y) (hs : WeakPL xs ys) : WeakPL (x :: xs) (y :: ys) := ⟨by simp [hs.1], fun E w b off r => by
 simp only [RepAt] at r ⊢
 obtain ⟨v, r1, r2, r3, r4⟩ := r
 exact ⟨v, r1, r2, h E w v r3, hs.2 E w b _ r4⟩⟩
theorem WeakPs.nil : WeakPs [] [] := ⟨rfl, fun _ _ _ _ _ h => h⟩
theorem WeakPs.cons {x y : List PV} {xs ys : List (List PV)} (h : WeakPL x y) (hs : WeakPs xs ys) : WeakPs (x :: xs) (y :: ys) := ⟨by simp [hs.1], fun E w b sz off r => by
 simp only [RepEs] at r ⊢
 obtain ⟨r1, r2, r3⟩ := r
 exact ⟨by rw [← h.1]; exact r1, h.2 E w b _ r2, hs.2 E w b sz _ r3⟩⟩
theorem WeakP.sl {sz : Nat} {es es' : List (List PV)} (h : WeakPs es es') : WeakP (.sl sz es) (.sl sz es') := fun E w v r => by
 simp only [RepP] at r ⊢
 obtain ⟨a, cap, rfl, h1, h2⟩ := r
 refine ⟨a, cap, by rw [h.1], by rw [← h.1]; exact h1, ?_⟩
 rcases h2 with rfl | ⟨b, off, rfl, h3⟩
 ·left; have := h.1; cases es' with
  | nil => rfl
  | cons _ _ => simp at this
 ·exact .inr ⟨b, off, rfl, h.2 _ _ _ _ _ h3⟩
theorem WeakP.av {x y : PV} (h : WeakP x y) : Weak (.p x) (.p y) := fun E w v r => by simp only [Rep] at r ⊢; exact h E w v r
theorem ACalls.weak {P : Program} {f : FuncId} {args args' : List AV} {h : Heap} {R : AOut → Heap → Prop} (hw : WeakL args args') (c : ACalls P f args' h R) : ACalls P f args h R :=
 fun E w vs h1 h2 h3 => c E w vs h1 h2 (hw E w vs h3)

end Go.AI

namespace Go.Proofs.YtcfcolkbeelegaaGreat

open Go Go.AI
def natB : List UInt8 := [78, 97, 116]
def natT : Tm := .mk 3 0 natB [] []
def appT (a b : Tm) : Tm := .mk 4 0 [] [] [a, b]


open Go Go.AI
theorem sameLv_refl (l : Lv) : sameLv l l = true := by
 simp only [sameLv, bne_self_eq_false, Bool.or_self, Bool.not_false, Bool.true_and]
 rw [allTo_iff]
 intro j hj
 simp [varsAt, hj, sameVar]
theorem sameLvs_refl (l : List Lv) : sameLvs l l = true := by
 simp only [sameLvs, bne_self_eq_false, Bool.not_false, Bool.true_and]
 rw [allTo_iff]
 intro j hj
 simp [lvsAt, hj, sameLv_refl]
theorem sameHead_refl (t : Tm) : sameHead t t = true := by simp [sameHead, sameLvs_refl]

mutual
theorem sameT_refl : ∀ t : Tm, sameT t t = true
 | .mk k i n ls ks => by simp only [sameT, sameHead_refl, Bool.true_and]; exact sameTs_refl ks
theorem sameTs_refl : ∀ l : List Tm, sameTs l l = true
 | [] => by simp only [sameTs]
 | t :: ts => by simp only [sameTs, sameT_refl t, sameTs_refl ts, Bool.and_self]
end



end Go.Proofs.YtcfcolkbeelegaaGreat
