import Derived.Test.YtcfcolkbeelegaaGreatVX0
import Derived.Test.YtcfcolkbeelegaaGreatVX1
import Derived.Test.YtcfcolkbeelegaaGreatVT6

namespace Go.Proofs.YtcfcolkbeelegaaGreat

open Go Go.AI

structure En where
 k : Int
 at_ : Int
 it : Int
 ps : Int
 ty : Tm
def En.cells (e : En) : List PV := iP e.k :: iP e.at_ :: iP e.it :: iP e.ps :: e.ty.cells
def En.av (e : En) : AV := .agg (e.cells.map .p)
def zEn : En := ⟨0, 0, 0, 0, zT⟩
def recB : List UInt8 := [46, 114, 101, 99]
def namesZ (d : Dc) : List (List UInt8) :=
 if d.k = 0 ∨ d.k = 1 ∨ d.k = 2 then [d.nm] else if d.k = 3 then d.nm :: (d.cs.map Ct.nm ++ [d.nm ++ recB]) else if d.k = 4 then d.fs.map Fu.nm else []
def ctEns (d : Dc) (a : Int) : List Ct → Nat → List (List UInt8 × En)
 | [], _ => []
 | c :: cs, i => (c.nm, ⟨4, a, i, d.ps, c.ty⟩) :: ctEns d a cs (i + 1)
def fuEns (d : Dc) (a : Int) : List Fu → Nat → List (List UInt8 × En)
 | [], _ => []
 | f :: fs, i => (f.nm, ⟨6, a, i, d.ps, f.ty⟩) :: fuEns d a fs (i + 1)
def entsZ (d : Dc) (a : Int) : List (List UInt8 × En) :=
 if d.k = 0 ∨ d.k = 1 ∨ d.k = 2 then [(d.nm, ⟨d.k, a, 0, d.ps, d.ty⟩)]
 else if d.k = 3 then (d.nm, ⟨3, a, 0, d.ps, d.ty⟩) :: (ctEns d a d.cs 0 ++ [(d.nm ++ recB, ⟨5, a, 0, d.rp, d.rt⟩)])
 else if d.k = 4 then fuEns d a d.fs 0 else []
def firstEn (s : List UInt8) : List (List UInt8 × En) → Option En
 | [] => none
 | (x, e) :: l => if x = s then some e else firstEn s l
def findP (s : List UInt8) : List Dc → Nat → Option En
 | [], _ => none
 | d :: env, i => match firstEn s (entsZ d i) with
  | some e => some e
  | none => findP s env (i + 1)
def ctEn (d : Dc) (a : Int) (s : List UInt8) : List Ct → Nat → Option En
 | [], _ => none
 | c :: cs, i => if c.nm = s then some ⟨4, a, i, d.ps, c.ty⟩ else ctEn d a s cs (i + 1)
def fuEn (d : Dc) (a : Int) (s : List UInt8) : List Fu → Nat → Option En
 | [], _ => none
 | f :: fs, i => if f.nm = s then some ⟨6, a, i, d.ps, f.ty⟩ else fuEn d a s fs (i + 1)
def entZ (d : Dc) (a : Int) (s : List UInt8) : En :=
 if d.k = 0 ∨ d.k = 1 ∨ d.k = 2 then ⟨d.k, a, 0, d.ps, d.ty⟩
 else if d.k = 3 then (if s = d.nm then ⟨3, a, 0, d.ps, d.ty⟩ else (ctEn d a s d.cs 0).getD ⟨5, a, 0, d.rp, d.rt⟩)
 else (fuEn d a s d.fs 0).getD ⟨0, a, 0, d.ps, d.ty⟩
def findZ (s : List UInt8) : List Dc → Nat → Option En
 | [], _ => none
 | d :: env, i => if s ∈ namesZ d then some (entZ d i s) else findZ s env (i + 1)
theorem firstEn_append (s : List UInt8) : ∀ l m : List (List UInt8 × En), firstEn s (l ++ m) = match firstEn s l with | some e => some e | none => firstEn s m
 | [], m => rfl
 | (x, e) :: l, m => by
  simp only [List.cons_append, firstEn]
  split
  ·rfl
  ·exact firstEn_append s l m
theorem first_ct (d : Dc) (a : Int) (s : List UInt8) : ∀ (l : List Ct) (i : Nat), firstEn s (ctEns d a l i) = ctEn d a s l i
 | [], _ => rfl
 | c :: l, i => by simp only [ctEns, firstEn, ctEn, first_ct d a s l (i + 1)]
theorem first_fu (d : Dc) (a : Int) (s : List UInt8) : ∀ (l : List Fu) (i : Nat), firstEn s (fuEns d a l i) = fuEn d a s l i
 | [], _ => rfl
 | c :: l, i => by simp only [fuEns, firstEn, fuEn, first_fu d a s l (i + 1)]
theorem ctEn_none (d : Dc) (a : Int) (s : List UInt8) : ∀ (l : List Ct) (i : Nat), (ctEn d a s l i).isSome = decide (s ∈ l.map Ct.nm)
 | [], _ => by simp [ctEn]
 | c :: l, i => by
  simp only [ctEn]
  by_cases h : c.nm = s
  ·simp [h]
  ·have h' : ¬ s = c.nm := fun e => h e.symm
   rw [if_neg h, ctEn_none d a s l (i + 1)]
   simp [h']
theorem fuEn_none (d : Dc) (a : Int) (s : List UInt8) : ∀ (l : List Fu) (i : Nat), (fuEn d a s l i).isSome = decide (s ∈ l.map Fu.nm)
 | [], _ => by simp [fuEn]
 | c :: l, i => by
  simp only [fuEn]
  by_cases h : c.nm = s
  ·simp [h]
  ·have h' : ¬ s = c.nm := fun e => h e.symm
   rw [if_neg h, fuEn_none d a s l (i + 1)]
   simp [h']
theorem first_ent (d : Dc) (a : Int) (s : List UInt8) : firstEn s (entsZ d a) = if s ∈ namesZ d then some (entZ d a s) else none := by
 unfold entsZ namesZ entZ
 by_cases h1 : d.k = 0 ∨ d.k = 1 ∨ d.k = 2
 ·simp only [h1, if_true, firstEn, List.mem_singleton]
  by_cases h : d.nm = s
  ·simp [h]
  ·have h' : ¬ s = d.nm := fun e => h e.symm
   simp [h, h']
 ·by_cases h2 : d.k = 3
  ·rw [if_neg h1, if_neg h1, if_neg h1, if_pos h2, if_pos h2, if_pos h2]
   simp only [firstEn, firstEn_append, first_ct]
   by_cases h : d.nm = s
   ·simp [h]
   ·have h' : ¬ s = d.nm := fun e => h e.symm
    rw [if_neg h]
    have hc := ctEn_none d a s d.cs 0
    cases hx : ctEn d a s d.cs 0 with
    | some e =>
     rw [hx] at hc
     have hm : s ∈ d.cs.map Ct.nm := by simpa using hc.symm
     have hm2 : s ∈ d.nm :: (d.cs.map Ct.nm ++ [d.nm ++ recB]) := List.mem_cons_of_mem _ (List.mem_append_left _ hm)
     rw [if_pos hm2, if_neg h']
     simp
    | none =>
     rw [hx] at hc
     have hm : ¬ s ∈ d.cs.map Ct.nm := by simpa using hc.symm
     by_cases hr : d.nm ++ recB = s
     ·have hm2 : s ∈ d.nm :: (d.cs.map Ct.nm ++ [d.nm ++ recB]) := List.mem_cons_of_mem _ (List.mem_append_right _ (by simp [hr]))
      rw [if_pos hm2, if_neg h', if_pos hr]
      simp
     ·have hm2 : ¬ s ∈ d.nm :: (d.cs.map Ct.nm ++ [d.nm ++ recB]) := by
       simp only [List.mem_cons, List.mem_append, List.not_mem_nil, or_false, not_or]
       exact ⟨h', hm, fun e => hr e.symm⟩
      rw [if_neg hm2, if_neg hr]
  ·by_cases h3 : d.k = 4
   ·rw [if_neg h1, if_neg h1, if_neg h1, if_neg h2, if_neg h2, if_neg h2, if_pos h3, if_pos h3]
    rw [first_fu]
    have hc := fuEn_none d a s d.fs 0
    cases hx : fuEn d a s d.fs 0 with
    | some e =>
     rw [hx] at hc
     have hm : s ∈ d.fs.map Fu.nm := by simpa using hc.symm
     rw [if_pos hm]; simp
    | none =>
     rw [hx] at hc
     have hm : ¬ s ∈ d.fs.map Fu.nm := by simpa using hc.symm
     rw [if_neg hm]
   ·rw [if_neg h1, if_neg h1, if_neg h2, if_neg h2, if_neg h3, if_neg h3]
    simp [firstEn]
theorem find_same (s : List UInt8) : ∀ (env : List Dc) (i : Nat), findP s env i = findZ s env i
 | [], _ => rfl
 | d :: env, i => by
  simp only [findP, findZ, first_ent]
  by_cases h : s ∈ namesZ d
  ·simp [h]
  ·simp only [if_neg h]
   exact find_same s env (i + 1)
def EnOk (env : List Dc) (i : Nat) (e : En) : Prop := ∃ (j : Nat) (d : Dc), e.at_ = ((i + j : Nat) : Int) ∧ env[j]? = some d ∧ 0 ≤ e.it ∧ (e.k = 4 → e.it < d.cs.length) ∧ ((e.k = 3 ∨ e.k = 4 ∨ e.k = 5) → d.k = 3)
theorem ctEn_ok (d : Dc) (a : Int) (s : List UInt8) : ∀ (l : List Ct) (i : Nat) (e : En), ctEn d a s l i = some e → e.k = 4 ∧ e.at_ = a ∧ (i : Int) ≤ e.it ∧ e.it < i + l.length
 | [], _, _, h => by simp [ctEn] at h
 | c :: l, i, e, h => by
  simp only [ctEn] at h
  split at h
  ·cases h; exact ⟨rfl, rfl, by simp, by simp; omega⟩
  ·have := ctEn_ok d a s l (i + 1) e h
   simp only [List.length_cons]
   exact ⟨this.1, this.2.1, by omega, by omega⟩
theorem fuEn_ok (d : Dc) (a : Int) (s : List UInt8) : ∀ (l : List Fu) (i : Nat) (e : En), fuEn d a s l i = some e → e.k = 6 ∧ e.at_ = a ∧ (i : Int) ≤ e.it
 | [], _, _, h => by simp [fuEn] at h
 | c :: l, i, e, h => by
  simp only [fuEn] at h
  split at h
  ·cases h; exact ⟨rfl, rfl, by simp⟩
  ·have := fuEn_ok d a s l (i + 1) e h
   exact ⟨this.1, this.2.1, by omega⟩
theorem entZ_ok (d : Dc) (a : Int) (s : List UInt8) (_hs : s ∈ namesZ d) : (entZ d a s).at_ = a ∧ 0 ≤ (entZ d a s).it ∧ ((entZ d a s).k = 4 → (entZ d a s).it < d.cs.length) ∧ (((entZ d a s).k = 3 ∨ (entZ d a s).k = 4 ∨ (entZ d a s).k = 5) → d.k = 3) := by
 unfold entZ
 by_cases h1 : d.k = 0 ∨ d.k = 1 ∨ d.k = 2
 ·rw [if_pos h1]; exact ⟨rfl, by simp, fun h => by simp only at h; omega, fun h => by simp only at h; omega⟩
 ·rw [if_neg h1]
  by_cases h2 : d.k = 3
  ·rw [if_pos h2]
   split
   ·exact ⟨rfl, by simp, fun h => by simp at h, fun _ => h2⟩
   ·cases hx : ctEn d a s d.cs 0 with
    | none => exact ⟨rfl, by simp, fun h => by simp at h, fun _ => h2⟩
    | some e =>
     have := ctEn_ok d a s d.cs 0 e hx
     simp only [Option.getD_some]
     exact ⟨this.2.1, by omega, fun _ => by omega, fun _ => h2⟩
  ·rw [if_neg h2]
   cases hx : fuEn d a s d.fs 0 with
   | none => exact ⟨rfl, by simp, fun h => by simp at h, fun h => by simp at h⟩
   | some e =>
    have := fuEn_ok d a s d.fs 0 e hx
    simp only [Option.getD_some]
    exact ⟨this.2.1, by omega, fun h => by omega, fun h => by omega⟩
theorem findZ_ok (s : List UInt8) : ∀ (env : List Dc) (i : Nat) (e : En), findZ s env i = some e → EnOk env i e
 | [], _, _, h => by simp [findZ] at h
 | d :: env, i, e, h => by
  simp only [findZ] at h
  split at h
  ·rename_i hs
   cases h
   have := entZ_ok d i s hs
   exact ⟨0, d, by rw [this.1]; simp, rfl, this.2⟩
  ·obtain ⟨j, d', h1, h2, h3⟩ := findZ_ok s env (i + 1) e h
   exact ⟨j + 1, d', by rw [h1]; congr 1; omega, by simpa using h2, h3⟩

end Go.Proofs.YtcfcolkbeelegaaGreat

namespace Go.AI

open Go
@[simp] theorem str_append (a b : List UInt8) : (ByteArray.mk a.toArray ++ ByteArray.mk b.toArray) = ByteArray.mk (a ++ b).toArray := by
 apply ByteArray.ext
 simp
@[simp] theorem str_size (a : List UInt8) : (ByteArray.mk a.toArray).size = a.length := by simp [ByteArray.size]

end Go.AI

namespace Go.Proofs.YtcfcolkbeelegaaGreat

open Go Go.AI
theorem strPs_len1 (l : List (List UInt8)) : ∀ e ∈ strPs l, e.length = 1 := by
 intro e he
 obtain ⟨z, _, rfl⟩ := List.mem_map.1 he
 rfl
theorem strPs_snoc (l : List (List UInt8)) (s : List UInt8) : strPs l ++ [[sP s]] = strPs (l ++ [s]) := by simp [strPs]
@[simp] theorem ctCells_get (l : List Ct) (j : Nat) : (l.map Ct.cells)[j]? = (l[j]?).map Ct.cells := by simp
theorem kcase (k : Int) : k = 0 ∨ k = 1 ∨ k = 2 ∨ k = 3 ∨ k = 4 ∨ ((k == 0) = false ∧ (k == 1) = false ∧ (k == 2) = false ∧ (k == 3) = false ∧ (k == 4) = false) := by simp; omega
set_option maxRecDepth 8000 in
set_option maxHeartbeats 8000000 in
theorem names_any (h : Heap) (hh : WF h) (d : Dc) (hn : d.nm.length ≤ 1099511627776) (hc : d.cs.length ≤ 1048576) (hf : d.fs.length ≤ 1048576) : ACalls Tryz.prog 218 [d.av] h fun o h' => o = .ret (.p (.sl 1 (strPs (namesZ d)))) ∧ h' = h := by
 have hk := kcase d.k
 obtain ⟨r, hr⟩ : ∃ r, r = namesZ d := ⟨_, rfl⟩
 rw [← hr]
 unfold namesZ at hr
 obtain ⟨k, nm, ps, ⟨k1, i1, n1, l1, s1⟩, ⟨k2, i2, n2, l2, s2⟩, fx, cs, rp, ⟨k3, i3, n3, l3, s3⟩, rr, fs⟩ := d
 simp only at hn hc hf hr hk
 simp only [Dc.av, Dc.cells, cells_mk, List.map, List.cons_append, List.nil_append]
 refine ACalls.of_run Tryz.func218 rfl ?_
 simp only [Tryz.ntmps218, List.length_cons, List.length_nil]
 refine nv ?_
 refine Run.reg fun K J => ?_
 simp
 refine J _ _ _ (nv ?_); clear J
 refine Run.reg fun K J => ?_
 simp
 refine J _ _ _ (nv ?_); clear J
 rcases hk with rfl | rfl | rfl | rfl | rfl | ⟨e0, e1, e2, e3, e4⟩
 ·rw [if_pos (by omega)] at hr
  refine Run.reg fun K J => ?_
  simp
  refine J _ _ _ (nv ?_); clear J
  refine ct (by simp) (nv ?_)
  refine ct (by simp) (nv ?_)
  refine Run.reg fun K J => ?_
  simp
  refine J _ _ _ (nv ?_); clear J
  refine Run.ret ?_
  exact Fin.ret' (h0 := h) (by simp) rfl hh rfl (by simp; rfl) rfl (Weak.refl _) (by simp) ⟨by rw [hr]; rfl, rfl⟩
 ·rw [if_pos (by omega)] at hr
  refine Run.reg fun K J => ?_
  simp
  refine J _ _ _ (nv ?_); clear J
  refine cf (by simp) (nv ?_)
  refine Run.reg fun K J => ?_
  simp
  refine J _ _ _ (nv ?_); clear J
  refine ct (by simp) (nv ?_)
  refine ct (by simp) (nv ?_)
  refine Run.reg fun K J => ?_
  simp
  refine J _ _ _ (nv ?_); clear J
  refine Run.ret ?_
  exact Fin.ret' (h0 := h) (by simp) rfl hh rfl (by simp; rfl) rfl (Weak.refl _) (by simp) ⟨by rw [hr]; rfl, rfl⟩
 ·rw [if_pos (by omega)] at hr
  refine Run.reg fun K J => ?_
  simp
  refine J _ _ _ (nv ?_); clear J
  refine cf (by simp) (nv ?_)
  refine Run.reg fun K J => ?_
  simp
  refine J _ _ _ (nv ?_); clear J
  refine cf (by simp) ?_
  refine Run.reg fun K J => ?_
  simp
  refine J _ _ _ (nv ?_); clear J
  refine ct (by simp) (nv ?_)
  refine Run.reg fun K J => ?_
  simp
  refine J _ _ _ (nv ?_); clear J
  refine Run.ret ?_
  exact Fin.ret' (h0 := h) (by simp) rfl hh rfl (by simp; rfl) rfl (Weak.refl _) (by simp) ⟨by rw [hr]; rfl, rfl⟩
 ·rw [if_neg (by omega), if_pos rfl] at hr
  refine Run.reg fun K J => ?_
  simp
  refine J _ _ _ (nv ?_); clear J
  refine cf (by simp) (nv ?_)
  refine Run.reg fun K J => ?_
  simp
  refine J _ _ _ (nv ?_); clear J
  refine cf (by simp) ?_
  refine Run.reg fun K J => ?_
  simp
  refine J _ _ _ (nv ?_); clear J
  refine cf (by simp) (nv ?_)
  refine Run.reg fun K J => ?_
  simp
  refine J _ _ _ (nv ?_); clear J
  refine ct (by simp) (nv ?_)
  refine Run.regPre 2 fun K J => ?_
  simp only [List.take_succ_cons, List.take_zero]
  simp
  refine J _ _ _ ?_; clear J
  simp only [List.nil_append, List.drop_succ_cons, List.drop_zero]
  refine Run.buildV (sz := 1) (es := [[sP nm]]) rfl (by simp [awanted]) (by simp) (by simp) ?_
  simp
  refine Run.ops fun K J => ?_
  simp
  refine J _ _ _ (nv ?_); clear J
  refine Run.reg fun K J => ?_
  simp
  refine J _ _ _ (nv ?_); clear J
  refine Run.loopS [1] (fun j : Nat => j ≤ cs.length) (fun j => cs.length - j) (fun j => [(3, .vec (h.length + 1) (j + 1)), (4, iA j)])
   (fun j => h ++ [some (.cells [iA 3, .p (sP nm), iA ps, .p (iP k1), .p (iP i1), .p (sP n1), .p (.sl 2 (lvPs l1)), .p (.sl 5 (tmPs s1)), .p (iP k2), .p (iP i2), .p (sP n2), .p (.sl 2 (lvPs l2)), .p (.sl 5 (tmPs s2)), iA fx, .p (.sl 6 (cs.map Ct.cells)), iA rp, .p (iP k3), .p (iP i3), .p (sP n3), .p (.sl 2 (lvPs l3)), .p (.sl 5 (tmPs s3)), .p (.sl 5 (tmPs rr)), .p (.sl 15 (fs.map Fu.cells))]), some (.vec 1 (strPs (nm :: (cs.take j).map Ct.nm)))]) 0 (by simp) ?_ (by simp [strPs]) ?_
  ·simp
   repeat' first | exact wn | apply wc | exact wj _ | exact wr _ | exact wz _ | exact wo _ _ _ | exact wi (by omega)
  intro j hj IH
  simp
  refine nv ?_
  refine Run.reg fun K J => ?_
  simp
  refine J _ _ _ (nv ?_); clear J
  by_cases hjl : j < cs.length
  ·have hg : cs[j]? = some cs[j] := List.getElem?_eq_getElem hjl
   have htk : cs.take (j + 1) = cs.take j ++ [cs[j]] := List.take_succ_eq_append_getElem hjl
   have hmin : min j cs.length = j := Nat.min_eq_left hj
   obtain ⟨⟨x, y⟩, hxy⟩ : ∃ c, cs[j] = c := ⟨_, rfl⟩
   rw [hxy] at hg htk
   refine ct (by simp [hjl]) (nv ?_)
   refine Run.regPre 8 fun K J => ?_
   simp only [List.take_succ_cons, List.take_zero]
   simp [hg, Ct.cells]
   refine J _ _ _ ?_; clear J
   simp only [List.nil_append, List.drop_succ_cons, List.drop_zero]
   refine Run.appendV (id := h.length + 1) (es := strPs (nm :: (cs.take j).map Ct.nm)) (ys := [[sP x]]) (sz := 1) (by_ := 16) (e := 9) rfl (by simp [awanted]) rfl rfl rfl rfl (by simp [hmin]) (by simp) (strPs_len1 _) (by simp) (by simp) (by simp) (by simp; omega) (by simp; omega) ?_
   simp [hmin]
   refine Run.ops fun K J => ?_
   simp
   refine J _ _ _ (nv ?_); clear J
   refine Run.reg fun K J => ?_
   simp
   try (simp (disch := omega) only [wrap_id])
   refine J _ _ _ (nv ?_); clear J
   refine IH (j + 1) _ _ (by omega) (by omega) ?_ ?_
   ·simp
    repeat' first | exact wn | apply wc | exact wj _ | exact wr _ | exact wz _ | exact wo _ _ _ | exact wi (by omega)
   ·rw [htk]; simp [strPs]
  ·have hje : j = cs.length := by omega
   subst hje
   have hsz : nm.length + 4 ≤ 9223372036854775807 := by omega
   have htl : List.take cs.length (cs.map Ct.nm) = cs.map Ct.nm := List.take_of_length_le (by simp)
   rw [htl]
   refine cf (by simp) ?_
   refine Run.exit rfl ?_
   refine nv ?_
   refine Run.regPre 5 fun K J => ?_
   simp only [List.take_succ_cons, List.take_zero]
   simp [hsz]
   refine J _ _ _ ?_; clear J
   simp only [List.nil_append, List.drop_succ_cons, List.drop_zero]
   refine Run.appendV (id := h.length + 1) (es := strPs (nm :: cs.map Ct.nm)) (ys := [[sP (nm ++ recB)]]) (sz := 1) (by_ := 16) (e := 9) rfl (by simp [awanted]) rfl rfl rfl rfl (by simp) (by simp) (strPs_len1 _) (by simp [recB]) (by simp) (by simp) (by simp; omega) (by simp; omega) ?_
   simp
   refine Run.ops fun K J => ?_
   simp
   refine J _ _ _ (nv ?_); clear J
   refine Run.keep [2] ?_
   simp
   refine Run.freezeV 2 (id := h.length + 1) (n := cs.length + 1 + 1) (sz := 1) (es := strPs (nm :: cs.map Ct.nm) ++ [[sP (nm ++ recB)]]) (by simp) (by simp) (by rw [strPs_snoc]; exact strPs_len1 _) (by simp) ?_
   simp
   refine Run.ret ?_
   exact Fin.ret' (h0 := h) (by simp) rfl hh rfl (by simp; rfl) rfl (Weak.refl _) (by simp) ⟨by rw [hr, strPs_snoc]; rfl, rfl⟩
 ·rw [if_neg (by omega), if_neg (by omega), if_pos rfl] at hr
  refine Run.reg fun K J => ?_
  simp
  refine J _ _ _ (nv ?_); clear J
  refine cf (by simp) (nv ?_)
  refine Run.reg fun K J => ?_
  simp
  refine J _ _ _ (nv ?_); clear J
  refine cf (by simp) ?_
  refine Run.reg fun K J => ?_
  simp
  refine J _ _ _ (nv ?_); clear J
  refine cf (by simp) (nv ?_)
  refine Run.reg fun K J => ?_
  simp
  refine J _ _ _ (nv ?_); clear J
  refine cf (by simp) (nv ?_)
  refine Run.reg fun K J => ?_
  simp
  refine J _ _ _ (nv ?_); clear J
  refine ct (by simp) (nv ?_)
  refine Run.reg fun K J => ?_
  simp
  refine J _ _ _ (nv ?_); clear J
  refine Run.tok 5 1 (by simp) ?_
  simp
  refine Run.reg fun K J => ?_
  simp
  refine J _ _ _ (nv ?_); clear J
  refine Run.loopS [1] (fun j : Nat => j ≤ fs.length) (fun j => fs.length - j) (fun j => [(5, .own (h.length + 1) 1 (strPs ((fs.take j).map Fu.nm))), (6, iA j)])
   (fun j => h ++ [some (.cells [iA 4, .p (sP nm), iA ps, .p (iP k1), .p (iP i1), .p (sP n1), .p (.sl 2 (lvPs l1)), .p (.sl 5 (tmPs s1)), .p (iP k2), .p (iP i2), .p (sP n2), .p (.sl 2 (lvPs l2)), .p (.sl 5 (tmPs s2)), iA fx, .p (.sl 6 (cs.map Ct.cells)), iA rp, .p (iP k3), .p (iP i3), .p (sP n3), .p (.sl 2 (lvPs l3)), .p (.sl 5 (tmPs s3)), .p (.sl 5 (tmPs rr)), .p (.sl 15 (fs.map Fu.cells))]), some (.tok j 1)]) 0 (by simp) ?_ (by simp) ?_
  ·simp [strPs]
   repeat' first | exact wn | apply wc | exact wj _ | exact wr _ | exact wz _ | exact wo _ _ _ | exact wi (by omega)
  intro j hj IH
  simp
  refine nv ?_
  refine Run.reg fun K J => ?_
  simp
  refine J _ _ _ (nv ?_); clear J
  by_cases hjl : j < fs.length
  ·have hg : fs[j]? = some fs[j] := List.getElem?_eq_getElem hjl
   have htk : fs.take (j + 1) = fs.take j ++ [fs[j]] := List.take_succ_eq_append_getElem hjl
   have hmin : min j fs.length = j := Nat.min_eq_left hj
   have hb1 : (j + 1) * 16 ≤ 140737488355328 := by omega
   have hb2 : j + 1 ≤ 9223372036854775807 := by omega
   obtain ⟨⟨x, y, z, w⟩, hxy⟩ : ∃ c, fs[j] = c := ⟨_, rfl⟩
   rw [hxy] at hg htk
   refine ct (by simp [hjl]) (nv ?_)
   refine Run.reg fun K J => ?_
   simp [hg, Fu.cells, hmin, hb1, hb2]
   refine J _ _ _ (nv ?_); clear J
   refine Run.reg fun K J => ?_
   simp
   try (simp (disch := omega) only [wrap_id])
   refine J _ _ _ (nv ?_); clear J
   refine IH (j + 1) _ _ (by omega) (by omega) ?_ ?_
   ·rw [htk]
    simp [strPs]
    repeat' first | exact wn | apply wc | exact wj _ | exact wr _ | exact wz _ | exact wo _ _ _ | exact wi (by omega)
   ·simp
  ·have hje : j = fs.length := by omega
   subst hje
   have htl : List.take fs.length (fs.map Fu.nm) = fs.map Fu.nm := List.take_of_length_le (by simp)
   rw [htl]
   refine cf (by simp) ?_
   refine Run.exit rfl ?_
   refine nv ?_
   refine Run.reg fun K J => ?_
   simp
   refine J _ _ _ (nv ?_); clear J
   refine Run.ret ?_
   exact Fin.ret' (h0 := h) (xs := [.own (h.length + 1) 1 (strPs (fs.map Fu.nm))]) (by simp) rfl hh rfl (by simp) rfl (Weak.own _ _ _) (by simp) ⟨by rw [hr], rfl⟩
 ·rw [if_neg (by simp at e0 e1 e2; omega), if_neg (by simpa using e3), if_neg (by simpa using e4)] at hr
  refine Run.reg fun K J => ?_
  simp [e0]
  refine J _ _ _ (nv ?_); clear J
  refine cf (by simp) (nv ?_)
  refine Run.reg fun K J => ?_
  simp [e1]
  refine J _ _ _ (nv ?_); clear J
  refine cf (by simp) ?_
  refine Run.reg fun K J => ?_
  simp [e2]
  refine J _ _ _ (nv ?_); clear J
  refine cf (by simp) (nv ?_)
  refine Run.reg fun K J => ?_
  simp [e3]
  refine J _ _ _ (nv ?_); clear J
  refine cf (by simp) (nv ?_)
  refine Run.reg fun K J => ?_
  simp [e4]
  refine J _ _ _ (nv ?_); clear J
  refine cf (by simp) (nv ?_)
  refine Run.reg fun K J => ?_
  simp
  refine J _ _ _ (nv ?_); clear J
  refine Run.ret ?_
  exact Fin.ret' (h0 := h) (xs := [.p (.prim (.slice none 0 0))]) (by simp) rfl hh rfl (by simp) rfl (Weak.nil 1) (by simp) ⟨by rw [hr]; rfl, rfl⟩

end Go.Proofs.YtcfcolkbeelegaaGreat
