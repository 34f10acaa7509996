import Derived.Test.YtcfcolkbeelegaaGreatVX14
import Derived.Test.YtcfcolkbeelegaaGreatVX4
set_option maxRecDepth 8000

namespace Go.AI

open Go
theorem Run.loopD {P : Program} {rd : Option Nat} {nb : Nat} {c : Code} {k : List It} {D : List AD} {Q : AX → List AV → Heap → List AD → Prop} {T : List AV} {h : Heap} {ι : Type} (keep : List Nat) (pre : ι → Prop) (μ : ι → Nat) (f : ι → List (Nat × AV)) (g : ι → Heap) (d : ι → List AD)
  (i0 : ι) (hp : pre i0) (hT : WeakL T (setMany (keepT keep T) (f i0))) (hh : g i0 = h) (hd : d i0 = D)
  (round : ∀ i, pre i → (∀ j T' h' D', pre j → μ j < μ i → WeakL T' (setMany (keepT keep T) (f j)) → h' = g j → D' = d j → Run P rd nb (.code (.loop c) :: k) T' h' D' Q) →
   Run P rd nb (.code c :: .code (.loop c) :: k) (setMany (keepT keep T) (f i)) (g i) (d i) Q) : Run P rd nb (.code (.loop c) :: k) T h D Q := by
 subst hh hd
 refine Run.weak hT ?_
 have : ∀ n i, μ i = n → pre i → Run P rd nb (.code (.loop c) :: k) (setMany (keepT keep T) (f i)) (g i) (d i) Q := by
  intro n
  induction n using Nat.strongRecOn with
  | _ n ih =>
   intro i hn hi
   exact Run.loop (round i hi fun j T' h' D' hj hlt hw he hd => by subst he hd; exact Run.weak hw (ih (μ j) (hn ▸ hlt) j rfl hj))
 exact this _ i0 rfl hp
theorem FinM.of {P : Program} {fn : Func} {n : Nat} {R : AOut → Heap → Prop} {x : AX} {T : List AV} (h1 : Heap) : ∀ (ids : List Nat) (G : Heap), (∀ id ∈ ids, h1.length ≤ id ∧ Heap.at (h1 ++ G) id = some (.aux .dblk)) → ids.Nodup → (∀ G' : Heap, Fin P fn n R x T (h1 ++ G') []) →
  FinM P fn n R x T (h1 ++ G) (ids.map fun id => (Fn.yield id, [], []))
 | [], G, _, _, hF => by simpa only [List.map_nil, FinM] using hF G
 | id :: ids, G, hat, hnd, hF => by
  have h0 := hat id (by simp)
  simp only [List.map_cons, FinM]
  refine ⟨h0.2, ?_⟩
  have e : (h1 ++ G).set id none = h1 ++ G.set (id - h1.length) none := List.set_append_right _ _ h0.1
  have hn := List.nodup_cons.1 hnd
  rw [e]
  refine FinM.of h1 ids _ (fun i hi => ?_) hn.2 hF
  have h2 := hat i (List.mem_cons_of_mem _ hi)
  refine ⟨h2.1, ?_⟩
  rw [← e]
  have hne : id ≠ i := fun e => hn.1 (e ▸ hi)
  unfold Heap.at at h2 ⊢
  rw [List.getElem?_set_ne hne]
  exact h2.2
theorem FinM.of' {P : Program} {fn : Func} {n : Nat} {R : AOut → Heap → Prop} {x : AX} {T : List AV} {hp : Heap} {D : List AD} (h1 : Heap) (ids : List Nat) (G : Heap) (e : hp = h1 ++ G) (eD : D = ids.map fun id => (Fn.yield id, [], [])) (hat : ∀ id ∈ ids, h1.length ≤ id ∧ G[id - h1.length]? = some (some (.aux .dblk)))
  (hnd : ids.Nodup) (hF : ∀ G' : Heap, Fin P fn n R x T (h1 ++ G') []) : FinM P fn n R x T hp D := by
 subst e eD
 refine FinM.of h1 ids G (fun id hi => ?_) hnd hF
 have h2 := hat id hi
 refine ⟨h2.1, ?_⟩
 unfold Heap.at
 rw [List.getElem?_append_right h2.1, h2.2]
 rfl

end Go.AI

namespace Go.Proofs.YtcfcolkbeelegaaGreat

open Go Go.AI
theorem entries_any (h : Heap) (hh : WF h) (d : Dc) (a : Int) : ACalls Tryz.prog 232 [d.av, iA a] h fun o h' => o = .ret (.fn (.func 259) [] [.ptr (h.length + 1) 0, .ptr h.length 0]) ∧ h' = h ++ [some (.cells (d.cells.map .p)), some (.cells [iA a])] := by
 have hdl := dc_cells_len d
 obtain ⟨dc, hdc⟩ : ∃ dc, dc = d.cells.map AV.p := ⟨_, rfl⟩
 have hdu : ∀ n, AV.underL n dc = true := fun n => by rw [hdc]; simp
 have hdl' : dc.length = 23 := by rw [hdc]; simp [hdl]
 simp only [Dc.av]
 rw [← hdc]
 have htd : List.take 23 dc = dc := List.take_of_length_le (by omega)
 refine ACalls.of_run Tryz.func232 rfl ?_
 simp only [Tryz.ntmps232, List.length_cons, List.length_nil]
 refine nv ?_
 refine Run.reg fun K J => ?_
 simp
 refine J _ _ _ (nv ?_); clear J
 refine Run.reg fun K J => ?_
 simp
 refine J _ _ _ (nv ?_); clear J
 refine Run.ret ?_
 refine Fin.retM (h0 := h ++ [some (.cells dc), some (.cells [iA a])]) (l := []) (by simp) (by simp) (hh.app (by simp [AO.under, hdu])) (by simp) (by simp; rfl) rfl (Weak.refl _) (by simp) ⟨rfl, rfl⟩
def stF (s : List UInt8) (r : Option En) (x : List UInt8 × En) : Option En × Bool := if x.1 = s then (some x.2, false) else (r, true)
theorem runP_find (s : List UInt8) : ∀ l : List (List UInt8 × En), (runP (stF s) none l).1 = firstEn s l
 | [] => rfl
 | (x, e) :: l => by
  simp only [runP, stF, firstEn]
  split
  ·simp
  ·simp; exact runP_find s l
theorem findP_skip (s : List UInt8) : ∀ (env : List Dc) (i j : Nat), (∀ k d, k < j → env[k]? = some d → firstEn s (entsZ d ((i + k : Nat) : Int)) = none) → findP s env i = findP s (env.drop j) (i + j)
 | env, i, 0, _ => by simp
 | [], i, j + 1, _ => by simp [findP]
 | d :: env, i, j + 1, h => by
  simp only [findP, List.drop_succ_cons]
  have h0 := h 0 d (by omega) rfl
  simp only [Nat.add_zero] at h0
  rw [h0, findP_skip s env (i + 1) j (fun k x hk hx => by
   have := h (k + 1) x (by omega) (by simpa using hx)
   rwa [show i + (k + 1) = i + 1 + k by omega] at this)]
  simp only
  congr 1; omega
theorem findP_hit {s : List UInt8} {env : List Dc} {j : Nat} {d : Dc} {e : En} (h : ∀ k d, k < j → env[k]? = some d → firstEn s (entsZ d k) = none) (hg : env[j]? = some d) (hc : firstEn s (entsZ d j) = some e) : findP s env 0 = some e := by
 obtain ⟨hj, e'⟩ := List.getElem?_eq_some_iff.1 hg
 rw [findP_skip s env 0 j (fun k d hk hd => by simpa using h k d hk hd), List.drop_eq_getElem_cons hj, e', findP]
 simp only [Nat.zero_add, hc]
theorem findP_miss {s : List UInt8} {env : List Dc} (h : ∀ k d, k < env.length → env[k]? = some d → firstEn s (entsZ d k) = none) : findP s env 0 = none := by
 rw [findP_skip s env 0 env.length (fun k d hk hd => by simpa using h k d hk hd)]
 simp [findP]
def enC (r : Option En) : List AV := match r with
 | some e => e.cells.map .p
 | none => [iA 0, iA 0, iA 0, iA 0, iA 0, iA 0, .p (sP []), .p (.prim (.slice none 0 0)), .p (.prim (.slice none 0 0))]
theorem enC_under (n : Nat) (r : Option En) : AV.underL n (enC r) = true := by
 cases r with
 | none => simp [enC]
 | some e => simp [enC]
set_option maxHeartbeats 16000000 in
theorem find_any (h : Heap) (hh : WF h) (env : List Dc) (s : List UInt8) (hg : Env.good env) (hn : Env.short env) : ACalls Tryz.prog 208 [envA env, .p (sP s)] h fun o h' => o = .ret (.tup [(resFind env s).1.av, iA (resFind env s).2]) ∧ h' = h := by
 obtain ⟨hl, hg⟩ := hg
 obtain ⟨r, hr⟩ : ∃ r, r = resFind env s := ⟨_, rfl⟩
 rw [← hr]
 unfold resFind at hr
 rw [← find_same] at hr
 refine ACalls.of_runM Tryz.func208 rfl ?_
 simp only [Tryz.ntmps208, List.length_cons, List.length_nil]
 refine nv ?_
 refine Run.reg fun K J => ?_
 simp
 refine J _ _ _ (nv ?_); clear J
 refine Run.reg fun K J => ?_
 simp
 refine J _ _ _ (nv ?_); clear J
 refine Run.loopD (ι := Nat × List (Option AO) × List Nat) [3, 4, 5, 10, 11] (fun p => p.1 ≤ env.length ∧ (∀ k d, k < p.1 → env[k]? = some d → firstEn s (entsZ d k) = none) ∧ p.2.1.all (AO.under (h.length + 3 + p.2.1.length)) = true ∧ p.2.2.Nodup ∧
   (∀ id ∈ p.2.2, h.length + 3 ≤ id ∧ p.2.1[id - (h.length + 3)]? = some (some (.aux .dblk)))) (fun p => env.length - p.1) (fun p => [(12, iA p.1)])
  (fun p => h ++ (some (.cells [.p (sP s)]) :: some (.cells (enC none)) :: some (.cells [iA 0]) :: p.2.1)) (fun p => p.2.2.map fun id => (Fn.yield id, [], [])) (0, [], []) (by simp) ?_ (by simp [enC]) rfl ?_
 ·simp
  repeat' first | exact wn | apply wc | exact wj _ | exact wr _ | exact wz _ | exact wo _ _ _ | exact wi (by omega)
 rintro ⟨j, G, ids⟩ ⟨hj, hall, hGu, hnd, hids⟩ IH
 simp only at hj hall hGu hids hnd
 simp
 obtain ⟨Hd, hHd⟩ : ∃ Hd : Option En → Heap, Hd = fun b => h ++ (some (.cells [.p (sP s)]) :: some (.cells (enC b)) :: some (.cells [iA 0]) :: G) := ⟨_, rfl⟩
 obtain ⟨n, hnn⟩ : ∃ n, n = h.length + 3 + G.length := ⟨_, rfl⟩
 have hlenH : ∀ b, (Hd b).length = n := fun b => by rw [hHd, hnn]; simp; omega
 have hHn : h ++ (some (.cells [.p (sP s)]) :: some (.cells (enC none)) :: some (.cells [iA 0]) :: G) = Hd none := by rw [hHd]
 have hwfH : ∀ b, WF (Hd b) := fun b => by
  rw [hHd]
  refine hh.app ?_
  rw [← hnn] at hGu
  have e : h.length + (some (AO.cells [.p (sP s)]) :: some (.cells (enC b)) :: some (.cells [iA 0]) :: G).length = n := by rw [hnn]; simp; omega
  rw [e]
  simp [AO.under, enC_under]
  simpa using hGu
 refine nv ?_
 refine Run.reg fun K J => ?_
 simp
 refine J _ _ _ (nv ?_); clear J
 by_cases hjl : j < env.length
 ·have hge : env[j]? = some env[j] := List.getElem?_eq_getElem hjl
  have hmem : env[j] ∈ env := List.getElem_mem hjl
  have hd := hg _ hmem
  have hdn := hn _ hmem
  have hdl := dc_cells_len env[j]
  have hhit := fun (e : En) (hc : firstEn s (entsZ env[j] j) = some e) => findP_hit hall hge hc
  have hnext : firstEn s (entsZ env[j] j) = none → ∀ k d, k < j + 1 → env[k]? = some d → firstEn s (entsZ d k) = none := fun h0 k d hk hd => by
   by_cases hkj : k < j
   ·exact hall k d hkj hd
   ·have hk2 : k = j := by omega
    have hd2 : d = env[j] := by rw [hk2, hge] at hd; exact (Option.some.inj hd).symm
    rw [hd2, hk2]
    exact h0
  generalize env[j] = d at hge hhit hd hdn hdl hnext
  clear hmem
  obtain ⟨dc, hdc⟩ : ∃ dc, dc = d.cells.map AV.p := ⟨_, rfl⟩
  have hdu : ∀ n, AV.underL n dc = true := fun n => by rw [hdc]; simp
  have hdl' : dc.length = 23 := by rw [hdc]; simp [hdl]
  have htd : List.take 23 dc = dc := List.take_of_length_le (by omega)
  have hone : dc.all oneA = true := by
   rw [hdc, List.all_map]
   exact List.all_eq_true.2 fun _ _ => rfl
  have hpa : ∀ l : List AV, l.length = 23 → patch l 0 dc = dc := fun l hl' => by
   have := patch_full dc l [] (by rw [hl', hdl'])
   simpa only [List.append_nil] using this
  have c1 := fun (g : Heap) (hw : WF g) => entries_any g hw d j
  simp only [Dc.av] at c1
  rw [← hdc] at c1
  have gl : ∀ b (l : List (Option AO)) (k : Nat), (Hd b ++ l)[n + k]? = l[k]? := fun b l k => get_lastN (hlenH b)
  have gl0 : ∀ b (l : List (Option AO)), (Hd b ++ l)[n]? = l[0]? := fun b l => get_lastN0 (hlenH b)
  have sl : ∀ b (l : List (Option AO)) (k : Nat) (o : Option AO), (Hd b ++ l).set (n + k) o = Hd b ++ l.set k o := fun b l k o => set_lastN (hlenH b)
  have sl0 : ∀ b (l : List (Option AO)) (o : Option AO), (Hd b ++ l).set n o = Hd b ++ l.set 0 o := fun b l o => set_lastN0 (hlenH b)
  have wfl : ∀ b (l : List (Option AO)), l.all (AO.under (n + l.length)) = true → WF (Hd b ++ l) := fun b l hl => (hwfH b).app (by rw [hlenH]; exact hl)
  refine ct (by simp [hjl]) (nv ?_)
  rw [hHn]
  refine Run.reg fun K J => ?_
  simp [hge, hdl, ← hdc, htd, hdl', hone, hpa, hlenH, sl0]
  refine J _ _ _ (nv ?_); clear J
  refine Run.reg fun K J => ?_
  simp [hdl', htd, gl0]
  refine J _ _ _ ?_; clear J
  refine Run.call rfl (by first | rfl | simp) (by simp) rfl (c1 _ (wfl _ _ (by simp [AO.under, hdu]))) ?_ ?_
  rotate_left
  ·rintro v h' ⟨hv, _⟩; cases hv
  rintro v h' ⟨hv, rfl⟩
  simp only [AOut.ret.injEq] at hv
  subst hv
  refine Run.ops fun K J => ?_
  simp [hlenH]
  refine J _ _ _ (nv ?_); clear J
  refine Run.keep [3, 4, 5, 10, 11, 12, 6, 19] ?_
  simp
  refine Run.rangeG (gf := 259) (cap := [.ptr (n + 2) 0, .ptr (n + 1) 0]) (by simp) rfl fun y Tl ag' bd' hT hag hbd => ?_
  have hTu : ∀ k, AV.underL (n + (3 + k)) Tl = true := fun k => by rw [hT]; simp; omega
  obtain ⟨B, hB⟩ : ∃ B : Option En → Heap, B = fun b => Hd b ++ [some (.cells dc), some (.cells dc), some (.cells [iA j]), some (.aux .dblk), some (.aux (.loop y (if b.isSome = true then .done else .ready) (if b.isSome = true then some .ret else none) Tl #[20, 21] ag' bd'))] := ⟨_, rfl⟩
  obtain ⟨Z, hZ⟩ : ∃ Z : Option En → Heap, Z = fun b => Hd b ++ [some (.cells dc), some (.cells dc), some (.cells [iA j]), some (.aux .dblk), some (.aux (.loop y .busy none Tl #[20, 21] ag' bd'))] := ⟨_, rfl⟩
  have hlen : ∀ b, (B b).length = n + 5 := fun b => by rw [hB]; simp [hlenH]
  have hlenZ : ∀ b, (Z b).length = n + 5 := fun b => by rw [hZ]; simp [hlenH]
  have hwf : ∀ b, WF (B b) := fun b => by rw [hB]; exact wfl _ _ (by simp [AO.under, hTu 2, hdu])
  have hat : ∀ (l : List (Option AO)), Heap.at (B none ++ l) (n + 4) = some (.aux (.loop y .ready none Tl #[20, 21] ag' bd')) := fun l => by rw [hB]; simp [gl]
  have hatZ : ∀ b (l : List (Option AO)), Heap.at (Z b ++ l) (n + 4) = some (.aux (.loop y .busy none Tl #[20, 21] ag' bd')) := fun b l => by rw [hZ]; simp [gl]
  have hbusy : ∀ (l : List (Option AO)), (B none ++ l).set (n + 4) (some (.aux (.loop y .busy none Tl #[20, 21] ag' bd'))) = Z none ++ l := fun l => by rw [hB, hZ]; simp [sl]
  have hnorm : ∀ (l : List (Option AO)), (Z none ++ l).set (n + 4) (some (.aux (.loop y .ready none Tl #[20, 21] ag' bd'))) = B none ++ l := fun l => by rw [hB, hZ]; simp [sl]
  have hdone : ∀ (e : En) (l : List (Option AO)), (Z (some e) ++ l).set (n + 4) (some (.aux (.loop y .done (some .ret) Tl #[20, 21] ag' bd'))) = B (some e) ++ l := fun e l => by rw [hB, hZ]; simp [sl]
  have c0 : ∀ b (l : List (Option AO)), (Z b ++ l)[h.length]? = some (some (.cells [.p (sP s)])) := fun b l => by rw [hZ, hHd]; simp
  have c1' : ∀ b (l : List (Option AO)), (Z b ++ l)[h.length + 1]? = some (some (.cells (enC b))) := fun b l => by rw [hZ, hHd]; simp
  have s1 : ∀ (e : En) (l : List (Option AO)), (Z none ++ l).set (h.length + 1) (some (.cells (e.cells.map .p))) = Z (some e) ++ l := fun e l => by rw [hZ, hHd]; simp [enC]
  have c2 : ∀ b (l : List (Option AO)), (Z b ++ l)[h.length + 2]? = some (some (.cells [iA 0])) := fun b l => by rw [hZ, hHd]; simp
  have s2 : ∀ b (l : List (Option AO)), (Z b ++ l).set (h.length + 2) (some (.cells [iA 0])) = Z b ++ l := fun b l => by rw [hZ, hHd]; simp
  have glZ : ∀ b (l l' : List (Option AO)), (Z b ++ (l ++ l'))[n + 5 + l.length]? = l'[0]? := fun b l l' => by rw [get_lastN (hlenZ b), get_last0]
  have slZ : ∀ b (l l' : List (Option AO)) (o : Option AO), (Z b ++ (l ++ l')).set (n + 5 + l.length) o = Z b ++ (l ++ l'.set 0 o) := fun b l l' o => by rw [set_lastN (hlenZ b), set_last0]
  have htk : ∀ b (l l' : List (Option AO)), (B b ++ (l ++ l')).take (n + 5 + l.length) = B b ++ l := fun b l l' => by rw [← List.append_assoc, show n + 5 + l.length = (B b ++ l).length by rw [List.length_append, hlen], take_last]
  have hit := ents_any (stF s) (fun b => b = none) (fun b x hs hg => by
    subst hs
    simp only [stF] at hg ⊢
    by_cases hx : x.1 = s
    ·rw [if_pos hx] at hg; simp at hg
    ·rw [if_neg hx]) y (n + 2) (n + 1) d j (by have := hdn; omega) hd.csl hd.fsl none B (n + 5) rfl hlen hwf (fun b => by rw [hB]; simp [gl]) (fun b => by rw [hB, ← hdc]; simp [gl])
   (fun b nm e l hs hw => by
    subst hs
    obtain ⟨a1, a2, a3, a4, ⟨uk, ui, un, uls, uks⟩⟩ := e
    refine AYield.of_run (hat l) (by simp) ?_
    refine Run.codeEq hag ?_
    refine Run.tEq (congrArg (fun T => putMany T _ _) hT) ?_
    simp
    refine nv ?_
    refine Run.reg fun K J => ?_
    simp
    refine J _ _ _ (nv ?_); clear J
    refine Run.reg fun K J => ?_
    simp [hlen]
    refine J _ _ _ (nv ?_); clear J
    refine Run.nil ⟨rfl, rfl, hat _, ?_⟩
    rw [hbusy]
    refine Run.codeEq hbd ?_
    have hw2 : ∀ b, WF (B b ++ l) := fun b => by
     refine (hwf b).app ?_
     have := hw.all
     rw [List.all_append, Bool.and_eq_true, List.length_append, hlen] at this
     rw [hlen]; exact this.2
    refine nv ?_
    refine Run.reg fun K J => ?_
    simp [c0]
    refine J _ _ _ (nv ?_); clear J
    by_cases hx : nm = s
    ·have hst : stF s none (nm, ⟨a1, a2, a3, a4, .mk uk ui un uls uks⟩) = (some ⟨a1, a2, a3, a4, .mk uk ui un uls uks⟩, false) := by simp only [stF]; rw [if_pos hx]
     rw [hst, hlen]
     have hs1 := fun l => s1 ⟨a1, a2, a3, a4, .mk uk ui un uls uks⟩ l
     simp only [En.cells, cells_mk, List.map] at hs1
     refine ct (by simp [hx]) (nv ?_)
     refine Run.reg fun K J => ?_
     simp [glZ, c1', hs1, enC, c2, s2, En.cells]
     refine J _ _ _ (nv ?_); clear J
     refine Run.ret ?_
     refine ⟨some .ret, n + 5 + l.length, rfl, rfl, Nat.le_refl _, by simp [hlenZ], hatZ _ _, ?_, ?_⟩
     ·rw [show stOf (some Code.ret) = .done from rfl, hdone, htk]
      have := (hw2 (some ⟨a1, a2, a3, a4, .mk uk ui un uls uks⟩)).all
      rwa [List.length_append, hlen] at this
     ·rw [show stOf (some Code.ret) = .done from rfl, hdone, htk]
      exact ⟨rfl, rfl⟩
    ·have hst : stF s none (nm, ⟨a1, a2, a3, a4, .mk uk ui un uls uks⟩) = (none, true) := by simp only [stF]; rw [if_neg hx]
     rw [hst, hlen]
     refine cf (by simp [hx]) (nv ?_)
     refine Run.nil ?_
     refine ⟨none, n + 5 + l.length, rfl, rfl, Nat.le_refl _, by simp [hlenZ], hatZ none _, ?_, ?_⟩
     ·rw [show stOf none = .ready from rfl, hnorm, htk]
      have := (hw2 none).all
      rwa [List.length_append, hlen] at this
     ·rw [show stOf none = .ready from rfl, hnorm, htk]
      exact ⟨rfl, rfl⟩)
  have hB0 : B none = (Hd none ++ [some (.cells dc), some (.cells dc), some (.cells [iA j])]) ++ [some (.aux .dblk), some (.aux (.loop y .ready none Tl #[20, 21] ag' bd'))] := by rw [hB]; simp
  rw [runP_find] at hit
  refine ⟨_, hB0 ▸ hit, ?_⟩
  rintro o h' ⟨rfl, rfl⟩
  generalize firstEn s (entsZ d j) = b at hhit hnext
  have hid2 : ∀ id ∈ (n + 3) :: ids, h.length + 3 ≤ id ∧ ∀ l4 : Option AO, (G ++ [some (.cells dc), some (.cells dc), some (.cells [iA j]), some (.aux .dblk), l4])[id - (h.length + 3)]? = some (some (.aux .dblk)) := fun id hi => by
   rcases List.mem_cons.1 hi with rfl | hi
   ·refine ⟨by omega, fun l4 => ?_⟩
    rw [show n + 3 - (h.length + 3) = G.length + 3 by omega]
    simp
   ·have := hids id hi
    refine ⟨this.1, fun l4 => ?_⟩
    have hlt := (List.getElem?_eq_some_iff.1 this.2).1
    rw [List.getElem?_append_left hlt]
    exact this.2
  have hnd2 : ((n + 3) :: ids).Nodup := List.nodup_cons.2 ⟨fun hi => by
   have := hids _ hi
   have hlt := (List.getElem?_eq_some_iff.1 this.2).1
   omega, hnd⟩
  refine ⟨_, (if b.isSome = true then .done else .ready), (if b.isSome = true then some .ret else none), rfl, by rw [hB]; simp [hlenH, Nat.add_assoc], by cases b <;> simp, ?_⟩
  rw [hB]
  simp only [List.length_append, hlenH, List.length_cons, List.length_nil, Nat.zero_add, Nat.reduceAdd, Nat.add_assoc, sl, List.set_cons_succ, List.set_cons_zero]
  cases b with
  | some e =>
   rw [hhit e rfl] at hr
   simp only at hr
   obtain ⟨a1, a2, a3, a4, ⟨uk, ui, un, uls, uks⟩⟩ := e
   rw [hHd]
   simp [enC, En.cells]
   refine Run.ret ?_
   refine FinM.of' (h ++ [some (.cells [.p (sP s)]), some (.cells [iA a1, iA a2, iA a3, iA a4, .p (iP uk), .p (iP ui), .p (sP un), .p (.sl 2 (lvPs uls)), .p (.sl 5 (tmPs uks))]), some (.cells [iA 0])]) ((n + 3) :: ids) (G ++ [some (.cells dc), some (.cells dc), some (.cells [iA j]), some (.aux .dblk), some (.aux (.loop y .exhausted (some .ret) Tl #[20, 21] ag' bd'))]) (by simp) (by simp) (fun id hi => ⟨by simpa using (hid2 id hi).1, by simpa using (hid2 id hi).2 _⟩) hnd2 fun G' => ?_
   exact Fin.ret' (h0 := h) (by simp) rfl hh (by simp; rfl) (by simp; rfl) rfl (Weak.refl _) (by simp) ⟨by rw [hr]; simp [En.av, En.cells], rfl⟩
  | none =>
   rw [← List.append_nil (Hd none ++ _)]
   simp
   refine nv ?_
   refine Run.reg fun K J => ?_
   simp
   try (simp (disch := omega) only [wrap_id])
   refine J _ _ _ (nv ?_); clear J
   refine IH (j + 1, G ++ [some (.cells dc), some (.cells dc), some (.cells [iA j]), some (.aux .dblk), some (.aux (.loop y .exhausted none Tl #[20, 21] ag' bd'))], (n + 3) :: ids) _ _ _ ⟨by simp only; omega, hnext rfl, ?_, hnd2, fun id hi => ⟨(hid2 id hi).1, (hid2 id hi).2 _⟩⟩ (by simp only; omega) ?_ (by rw [hHd]; simp) (by simp)
   ·rw [List.all_append, Bool.and_eq_true]
    refine ⟨?_, ?_⟩
    ·refine List.all_eq_true.2 fun o ho => AO.under_mono (by simp) (List.all_eq_true.1 hGu o ho)
    ·have e : h.length + 3 + (G ++ [some (.cells dc), some (.cells dc), some (.cells [iA j]), some (.aux .dblk), some (.aux (.loop y .exhausted none Tl #[20, 21] ag' bd'))] : List (Option AO)).length = n + 5 := by rw [hnn]; simp; omega
     simp only at e ⊢
     rw [e]
     simp [AO.under, hTu 2, hdu]
   ·simp
    repeat' first | exact wn | apply wc | exact wj _ | exact wr _ | exact wz _ | exact wo _ _ _ | exact wi (by omega)
 ·have hje : j = env.length := by omega
  subst hje
  rw [findP_miss hall] at hr
  simp only at hr
  refine cf (by simp) ?_
  refine Run.exit rfl ?_
  refine nv ?_
  refine Run.reg fun K J => ?_
  simp [enC]
  refine J _ _ _ (nv ?_); clear J
  refine Run.ret ?_
  refine FinM.of' (h ++ [some (.cells [.p (sP s)]), some (.cells [iA 0, iA 0, iA 0, iA 0, iA 0, iA 0, .p (sP []), .p (.prim (.slice none 0 0)), .p (.prim (.slice none 0 0))]), some (.cells [iA 9])]) ids G (by simp) (by simp) (fun id hi => ⟨by simpa using (hids id hi).1, by simpa using (hids id hi).2⟩) hnd fun G' => ?_
  exact Fin.ret' (h0 := h) (xs := [.agg [iA 0, iA 0, iA 0, iA 0, iA 0, iA 0, .p (sP []), .p (.prim (.slice none 0 0)), .p (.prim (.slice none 0 0))], iA 9]) (by simp) rfl hh (by simp; rfl) (by simp) rfl (Weak.tup (WeakL.cons en_weak0 (WeakL.refl _))) (by simp [zEn, En.av, En.cells, zT]) ⟨by rw [hr], rfl⟩

end Go.Proofs.YtcfcolkbeelegaaGreat
