import Derived.Test.YtcfcolkbeelegaaGreatProg
import Derived.Shelf.Lays
import Derived.Shelf.Strings.BuilderX
import Derived.KernelRfl
import Derived.Shelf.SlIterI.Sorted
import Derived.Test.YtcfcolkbeelegaaGreatOFS
import Derived.Shelf.Strings.OnBuilder
import Derived.Lib.Join
import Derived.Test.YtcfcolkbeelegaaGreatOLB
import Derived.Test.YtcfcolkbeelegaaGreatOX3
import Derived.Test.YtcfcolkbeelegaaGreatOH8
import Derived.Test.YtcfcolkbeelegaaGreatOM1
import Derived.Test.YtcfcolkbeelegaaGreatOT6
set_option maxRecDepth 8000

namespace Go.Proofs.YtcfcolkbeelegaaGreat

open Go.Shelf Go.Proofs
def lays156_ren : Go.Shelf.Ren := ⟨fun | 156 => 87 | 165 => 138 | 166 => 139 | 169 => 140 | 240 => 181 | 241 => 182 | 276 => 220 | 277 => 221 | n => n, fun | 31 => 146 | 9 => 9 | 3 => 3 | 4 => 4 | 0 => 0 | 20 => 20 | 72 => 201 | 76 => 204 | 70 => 198 | 37 => 199 | 75 => 203 | 127 => 246 | 164 => 283 | 5 => 5 | 80 => 206 | n => n, fun | n => n⟩
theorem lays156 : Go.Proofs.Lays.n156 Tryz.prog lays156_ren := {
 mixed := by kernel_rfl
 f156 := Tryz.func87.trans (congrArg some (by kernel_rfl))
 f165 := Tryz.func138.trans (congrArg some (by kernel_rfl))
 f166 := Tryz.func139.trans (congrArg some (by kernel_rfl))
 f169 := Tryz.func140.trans (congrArg some (by kernel_rfl))
 f240 := Tryz.func181.trans (congrArg some (by kernel_rfl))
 f241 := Tryz.func182.trans (congrArg some (by kernel_rfl))
 f276 := Tryz.func220.trans (congrArg some (by kernel_rfl))
 f277 := Tryz.func221.trans (congrArg some (by kernel_rfl))
 t0 := Tryz.underlying0
 a0 := Tryz.isAgg0
 z0 := Tryz.sizeOf0
 v0 := Tryz.zeroValue0
 t3 := Tryz.underlying3
 a3 := Tryz.isAgg3
 z3 := Tryz.sizeOf3
 v3 := Tryz.zeroValue3
 t4 := Tryz.underlying4
 a4 := Tryz.isAgg4
 z4 := Tryz.sizeOf4
 v4 := Tryz.zeroValue4
 t9 := Tryz.underlying9
 a9 := Tryz.isAgg9
 z9 := Tryz.sizeOf9
 v9 := Tryz.zeroValue9
 t20 := Tryz.underlying20
 a20 := Tryz.isAgg20
 z20 := Tryz.sizeOf20
 v20 := Tryz.zeroValue20
 t31 := Tryz.underlying146
 a31 := Tryz.isAgg146
 z31 := Tryz.sizeOf146
 v31 := Tryz.zeroValue146
 t37 := Tryz.underlying199
 a37 := Tryz.isAgg199
 z37 := Tryz.sizeOf199
 v37 := Tryz.zeroValue199
 t70 := Tryz.underlying198
 a70 := Tryz.isAgg198
 z70 := Tryz.sizeOf198
 v70 := Tryz.zeroValue198
 t72 := Tryz.underlying201
 a72 := Tryz.isAgg201
 z72 := Tryz.sizeOf201
 v72 := Tryz.zeroValue201
 t75 := Tryz.underlying203
 a75 := Tryz.isAgg203
 z75 := Tryz.sizeOf203
 v75 := Tryz.zeroValue203
 t76 := Tryz.underlying204
 a76 := Tryz.isAgg204
 z76 := Tryz.sizeOf204
 v76 := Tryz.zeroValue204
 t127 := Tryz.underlying246
 a127 := Tryz.isAgg246
 z127 := Tryz.sizeOf246
 v127 := Tryz.zeroValue246
 t164 := Tryz.underlying283
 a164 := Tryz.isAgg283
 z164 := Tryz.sizeOf283
 v164 := Tryz.zeroValue283
}
theorem lays156X : Go.Proofs.Builder.Extra Tryz.prog lays156_ren := { sizeBuilder := by kernel_rfl, liesBuilder := by kernel_rfl, t5 := Tryz.underlying5, a5 := Tryz.isAgg5, z5 := Tryz.sizeOf5, v5 := Tryz.zeroValue5, infoByte := by kernel_rfl, cellsByte := by kernel_rfl, sizeByte := by kernel_rfl, neB5 := by decide }

end Go.Proofs.YtcfcolkbeelegaaGreat

namespace Go.AI

open Go Go.Shelf Go.Sort Go.Proofs Go.MapKept Go.Maps Go.WideElems
theorem Rel.below {E : Env} {h : Nat → Option AO} {w w' : World} (r : Rel E h w) (hb : RowKit.Below w.heap.size w w') :
  Rel { E with ro := fun b off => E.ro b off ∨ (w.heap.size ≤ b ∧ b < w'.heap.size) } h w' ∧
  Fr E h w { E with ro := fun b off => E.ro b off ∨ (w.heap.size ≤ b ∧ b < w'.heap.size) } h w' := by
 have hx : Ext E w { E with ro := fun b off => E.ro b off ∨ (w.heap.size ≤ b ∧ b < w'.heap.size) } w' :=
  ⟨fun _ _ h => .inl h, fun b off hb' => cell_of_heap (hb.block b (r.lt b off hb')) off, fun _ _ h => h, fun _ L h => ⟨L, h, Nat.le_refl _, fun _ => rfl⟩⟩
 refine ⟨⟨fun id o hc hn => ?_, fun id o n sz m cs hc hk => ?_, r.inj, fun id o b off hc hn hg => ?_, fun id o n sz k cs b c m off hc hk hg hl => ?_, ?_⟩, ⟨fun b hb' _ => hb.block b hb', hx, ?_, hb.size, fun b hb' => .inl hb', hb.os, hb.output⟩⟩
 ·obtain ⟨b, hg, ho⟩ := r.objsO id o hc hn
  exact ⟨b, hg, ho.move hx (hb.block b ho.lt)⟩
 ·obtain ⟨blk, cap, ht, h1, h2, h3⟩ := r.toks id o n sz m cs hc hk
  refine ⟨blk, cap, ht, h1, h2, fun b hb' => ?_⟩
  obtain ⟨us, hr, hl, hp⟩ := h3 b hb'
  exact ⟨us, hr.same (hb.block b hr.lt), hl, hp.ext hx⟩
 ·rintro (h1 | h1)
  ·exact r.sepO id o b off hc hn hg h1
  ·have := r.owns_lt (.inl ⟨o, hc, hn, hg⟩); omega
 ·rintro (h1 | h1)
  ·exact r.sepT id o n sz k cs b c m off hc hk hg hl h1
  ·have := r.owns_lt (.inr ⟨o, _, c, m, hc, hk, hg⟩); omega
 ·rintro b off (h1 | h1)
  ·have := r.lt b off h1; have := hb.size; omega
  ·omega
 ·rintro b off (h1 | h1)
  ·exact .inl h1
  ·exact .inr (.inr h1.1)
def keyI : Value → Int
 | .int _ a => a
 | _ => 0


open Go Go.Shelf Go.Proofs
def strsE (l : List (List UInt8)) : List (List PV) := l.map fun s => [.prim (.string ⟨s.toArray⟩)]
theorem repEs_strs {E w b} : ∀ {l : List (List UInt8)} {off : Nat}, RepEs E w b 1 off (strsE l) → ∀ (j : Nat) (x : ByteArray), (l.map fun s => (⟨s.toArray⟩ : ByteArray))[j]? = some x → w.cell? ⟨b, off + j, none⟩ = some (.string x)
 | [], _, _, j, x, hj => by simp at hj
 | z :: l, off, r, j, x, hj => by
  simp only [strsE, List.map_cons, RepEs, RepAt, RepP] at r
  obtain ⟨_, ⟨v, _, hv, ⟨rfl, _⟩, _⟩, r⟩ := r
  cases j with
  | zero => simp at hj; subst hj; simpa using hv
  | succ j =>
   have := repEs_strs (l := l) r j x (by simpa using hj)
   rw [show off + (j + 1) = off + 1 + j by omega]
   exact this
theorem join_calls {P : Program} {ρ : Ren} (L : Lays.n156 P ρ) (X : Builder.Extra P ρ) {h : Heap} (xs : List (List UInt8)) (sep : List UInt8) (hN : xs.length ≤ 140737488355328) (hlen : (Lib.join xs sep).length ≤ 140737488355328) :
  ACalls P (ρ.f 156) [.p (.sl 1 (strsE xs)), .p (.prim (.string ⟨sep.toArray⟩))] h fun out h' => out = .ret (.p (.prim (.string ⟨(Lib.join xs sep).toArray⟩))) ∧ h' = h := by
 intro E w vs hrel hfresh hargs
 simp only [RepL, Rep, RepP] at hargs
 obtain ⟨v, us, rfl, ⟨a, cap, rfl, hcap, hr⟩, v2, us2, rfl, ⟨rfl, _⟩, rfl⟩ := hargs
 have hl : (strsE xs).length = xs.length := by simp [strsE]
 have hmap : ((xs.map fun s => (⟨s.toArray⟩ : ByteArray)).map (·.data.toList)) = xs := by simp [List.map_map, Function.comp_def]
 rcases hr with h0 | ⟨b, off, rfl, hr⟩
 ·have : xs = [] := by simpa [strsE] using h0
  subst this
  refine Calls.mono (Any.strings_Join_none L X a cap ⟨sep.toArray⟩ w) ?_
  rintro e w' ⟨rfl, rfl⟩
  exact ⟨_, _, E, ⟨rfl, rfl⟩, hrel, hfresh, ⟨_, rfl, by simp [Rep, RepP, isPrim, Lib.join_nil]⟩, Fr.refl _ _ _⟩
 ·by_cases hx : xs = []
  ·subst hx
   refine Calls.mono (Any.strings_Join_none L X _ cap ⟨sep.toArray⟩ w) ?_
   rintro e w' ⟨rfl, rfl⟩
   exact ⟨_, _, E, ⟨rfl, rfl⟩, hrel, hfresh, ⟨_, rfl, by simp [Rep, RepP, isPrim, Lib.join_nil]⟩, Fr.refl _ _ _⟩
  ·have hb : b < w.heap.size := by
    obtain ⟨x, r, rfl⟩ := List.exists_cons_of_ne_nil hx
    simp only [strsE, List.map_cons, RepEs, RepAt] at hr
    obtain ⟨_, ⟨_, hro, _⟩, _⟩ := hr
    exact hrel.lt b off hro
   have hc := Any.strings_Join L X b off cap (xs.map fun s => ⟨s.toArray⟩) ⟨sep.toArray⟩ w (repEs_strs hr) hb (by simpa using hN) (by simpa [strsE] using hcap) (by rw [hmap]; exact hlen)
   rw [hmap] at hc
   have e1 : (xs.map fun s => (⟨s.toArray⟩ : ByteArray)).length = (strsE xs).length := by simp [strsE]
   rw [e1] at hc
   refine Calls.mono hc ?_
   rintro e w' ⟨rfl, hB⟩
   obtain ⟨r2, f2⟩ := hrel.below hB
   refine ⟨_, _, _, ⟨rfl, rfl⟩, r2, ?_, ⟨_, rfl, by simp [Rep, RepP, isPrim]⟩, f2⟩
   exact fun i hi => hfresh i hi

end Go.AI

namespace Go.Proofs.YtcfcolkbeelegaaGreat

open Go Go.AI

mutual
def textP : Pt → List UInt8
 | .mk k n qs => if k = 0 then [95] else if k = 2 then [46, 95] else if k = 3 then [40, 41] else if k = 1 then (if qs = [] then n else 40 :: (n ++ textT qs ++ [41])) else []
def textT : List Pt → List UInt8
 | [] => []
 | p :: ps => 32 :: (textP p ++ textT ps)
end
theorem textT_snoc : ∀ (l : List Pt) (p : Pt), textT (l ++ [p]) = textT l ++ 32 :: textP p
 | [], p => by simp [textT]
 | q :: l, p => by simp only [List.cons_append, textT, textT_snoc l p, List.append_assoc]
theorem textT_join (n : List UInt8) (l : List Pt) : Lib.join (n :: l.map textP) [32] = n ++ textT l := by
 rw [Lib.join_cons]
 congr 1
 induction l with
 | nil => rfl
 | cons p l ih => simp only [List.map_cons, Lib.joinTail, List.flatten_cons, textT] at ih ⊢; rw [ih]; simp
theorem textT_mem {l : List Pt} {p : Pt} (h : p ∈ l) : (textP p).length ≤ (textT l).length := by
 induction l with
 | nil => simp at h
 | cons q l ih =>
  simp only [textT, List.length_cons, List.length_append]
  rcases List.mem_cons.1 h with rfl | h
  ·omega
  ·have := ih h; omega
theorem joinW_any (h : Heap) (xs : List (List UInt8)) (sep : List UInt8) (hN : xs.length ≤ 140737488355328) (hlen : (Lib.join xs sep).length ≤ 140737488355328) :
  ACalls Tryz.prog 87 [.p (.sl 1 (strPs xs)), .p (sP sep)] h fun o h' => o = .ret (.p (sP (Lib.join xs sep))) ∧ h' = h := join_calls lays156 lays156X xs sep hN hlen
set_option maxHeartbeats 16000000 in
theorem ptext_any (N : Nat) : ∀ (p : Pt), p.size ≤ N → p.size ≤ 1048576 → (textP p).length ≤ 1099511627776 → ∀ h, WF h → ACalls Tryz.prog 39 [p.av] h fun o h' => o = .ret (.p (sP (textP p))) ∧ h' = h := by
 induction N with
 | zero => intro p hp; have := p.size_pos; omega
 | succ N ih =>
 intro p hp hB hL h hh
 obtain ⟨k, n, qs⟩ := p
 simp only [Pt.size] at hp hB
 obtain ⟨r, hr⟩ : ∃ r, textP (.mk k n qs) = r := ⟨_, rfl⟩
 rw [hr] at hL ⊢
 rw [textP] at hr
 simp only [Pt.av, pcells_mk, List.map]
 have hql := psz_len qs
 refine ACalls.of_run Tryz.func39 rfl ?_
 simp only [Tryz.ntmps39, List.length_cons, List.length_nil]
 refine nv ?_
 refine Run.reg fun K hK => ?_
 simp
 refine hK _ _ _ (nv ?_); clear hK
 refine Run.reg fun K hK => ?_
 simp
 refine hK _ _ _ (nv ?_); clear hK
 refine Run.reg fun K hK => ?_
 simp
 refine hK _ _ _ (nv ?_); clear hK
 by_cases k0 : k = 0
 ·subst k0
  rw [if_pos rfl] at hr; subst hr
  refine ct (by simp) (nv ?_)
  refine Run.reg fun K hK => ?_
  simp
  refine hK _ _ _ (nv ?_); clear hK
  refine Run.ret ?_
  exact Fin.ret' (h0 := h) (by simp) rfl hh rfl (by simp; rfl) rfl (Weak.refl _) (by simp) ⟨by simp, rfl⟩
 have k0b : (k == (0 : Int)) = false := by simpa using k0
 rw [if_neg k0] at hr
 refine cf (by simp [k0b]) (nv ?_)
 refine Run.reg fun K hK => ?_
 simp
 refine hK _ _ _ (nv ?_); clear hK
 by_cases k2 : k = 2
 ·subst k2
  rw [if_pos rfl] at hr; subst hr
  refine ct (by simp) (nv ?_)
  refine Run.reg fun K hK => ?_
  simp
  refine hK _ _ _ (nv ?_); clear hK
  refine Run.ret ?_
  exact Fin.ret' (h0 := h) (by simp) rfl hh rfl (by simp; rfl) rfl (Weak.refl _) (by simp) ⟨by simp, rfl⟩
 have k2b : (k == (2 : Int)) = false := by simpa using k2
 rw [if_neg k2] at hr
 refine cf (by simp [k2b]) (nv ?_)
 refine Run.reg fun K hK => ?_
 simp
 refine hK _ _ _ (nv ?_); clear hK
 by_cases k3 : k = 3
 ·subst k3
  rw [if_pos rfl] at hr; subst hr
  refine ct (by simp) (nv ?_)
  refine Run.reg fun K hK => ?_
  simp
  refine hK _ _ _ (nv ?_); clear hK
  refine Run.ret ?_
  exact Fin.ret' (h0 := h) (by simp) rfl hh rfl (by simp; rfl) rfl (Weak.refl _) (by simp) ⟨by simp, rfl⟩
 have k3b : (k == (3 : Int)) = false := by simpa using k3
 rw [if_neg k3] at hr
 refine cf (by simp [k3b]) (nv ?_)
 refine Run.reg fun K hK => ?_
 simp
 refine hK _ _ _ (nv ?_); clear hK
 by_cases k1 : k = 1
 rotate_left
 ·have k1b : (k == (1 : Int)) = false := by simpa using k1
  rw [if_neg k1] at hr; subst hr
  refine cf (by simp [k1b]) (nv ?_)
  refine Run.reg fun K hK => ?_
  simp
  refine hK _ _ _ (nv ?_); clear hK
  refine Run.ret ?_
  exact Fin.ret' (h0 := h) (by simp) rfl hh rfl (by simp; rfl) rfl (Weak.refl _) (by simp) ⟨by simp, rfl⟩
 subst k1
 rw [if_pos rfl] at hr
 refine ct (by simp) (nv ?_)
 refine Run.regPre 2 fun K hK => ?_
 simp only [List.take_succ_cons, List.take_zero]
 simp
 refine hK _ _ _ ?_; clear hK
 simp only [List.nil_append, List.drop_succ_cons, List.drop_zero]
 refine Run.buildV (sz := 1) (es := [[sP n]]) rfl (by simp [awanted]) (by simp) (by simp) ?_
 simp
 refine Run.ops fun K hK => ?_
 simp
 refine hK _ _ _ (nv ?_); clear hK
 refine Run.reg fun K hK => ?_
 simp
 refine hK _ _ _ (nv ?_); clear hK
 have hqb : qs ≠ [] → (textT qs).length + n.length + 2 ≤ 1099511627776 := fun hne => by
  rw [if_neg hne] at hr
  rw [← hr] at hL
  simp at hL
  omega
 refine Run.loopS [1, 20, 21] (fun j : Nat => j ≤ qs.length) (fun j => qs.length - j) (fun j => [(3, .vec (h.length + 1) (j + 1)), (22, iA j)])
  (fun j => h ++ [some (.cells [iA 1, .p (sP n), .p (.sl 3 (ptPs qs))]), some (.vec 1 (strPs (n :: (qs.take j).map textP)))]) 0 (by simp) ?_ (by simp [strPs]) ?_
 ·simp
  repeat' first | exact wn | apply wc | exact wj _ | exact wr _ | exact wz _ | exact wo _ _ _ | exact wi (by omega)
 rintro j hj IH
 simp
 refine nv ?_
 refine Run.reg fun K hK => ?_
 simp
 refine hK _ _ _ (nv ?_); clear hK
 by_cases hjl : j < qs.length
 ·have hg : qs[j]? = some qs[j] := List.getElem?_eq_getElem hjl
  have hmem := List.getElem_mem hjl
  have htk : qs.take (j + 1) = qs.take j ++ [qs[j]] := List.take_succ_eq_append_getElem hjl
  have hmin : min j qs.length = j := Nat.min_eq_left hj
  generalize qs[j] = q at hg hmem htk
  have hsz := Pt.size_at hmem
  have hne : qs ≠ [] := by intro e; subst e; simp at hjl
  have hqb := hqb hne
  have hml := textT_mem hmem
  have c1 := ih q (by omega) (by omega) (by omega)
  obtain ⟨pk, pn, ps⟩ := q
  simp only [Pt.av, pcells_mk, List.map] at c1
  obtain ⟨tx, htx⟩ : ∃ tx, textP (Pt.mk pk pn ps) = tx := ⟨_, rfl⟩
  rw [htx] at c1 hml
  refine ct (by simp [hjl]) (nv ?_)
  refine Run.reg fun K hK => ?_
  simp [hg, pcells_mk]
  refine hK _ _ _ (nv ?_); clear hK
  refine Run.reg fun K hK => ?_
  simp
  refine hK _ _ _ ?_; clear hK
  refine rc rfl (by first | rfl | simp) (by simp) rfl (c1 _ (hh.app (by simp))) ?_
  refine Run.opsPre 1 fun K hK => ?_
  simp only [List.take_succ_cons, List.take_zero]
  simp
  refine hK _ _ _ ?_; clear hK
  simp only [List.nil_append, List.drop_succ_cons, List.drop_zero]
  refine Run.appendV (id := h.length + 1) (es := strPs (n :: (qs.take j).map textP)) (ys := [[sP tx]]) (sz := 1) (by_ := 16) (e := 9) rfl (by simp [awanted]) rfl rfl rfl rfl (by simp [hmin]) (by simp) (strPs_len1 _) (by simp) (by simp) (by simp) (by simp; omega) (by simp; omega) ?_
  simp [hmin]
  refine Run.ops fun K hK => ?_
  simp
  refine hK _ _ _ (nv ?_); clear hK
  refine Run.keep [1, 3, 20, 21, 22] ?_
  simp only [keepT, keepT.go, List.contains_cons]
  simp
  refine Run.cutAt 2 hh rfl (by omega) (by simp) (by simp) (by simp) rfl ?_
  simp
  refine Run.reg fun K hK => ?_
  simp
  try (simp (disch := omega) only [wrap_id])
  refine hK _ _ _ (nv ?_); clear hK
  refine IH (j + 1) _ _ (by omega) (by omega) ?_ ?_
  ·simp
   repeat' first | exact wn | apply wc | exact wj _ | exact wr _ | exact wz _ | exact wo _ _ _ | exact wi (by omega)
  ·rw [htk]; simp [strPs, htx]
 ·have hje : j = qs.length := by omega
  subst hje
  have htl : List.take qs.length (qs.map textP) = qs.map textP := List.take_of_length_le (by simp)
  rw [htl]
  refine cf (by simp) ?_
  refine Run.exit rfl ?_
  refine nv ?_
  refine Run.keep [1, 3] ?_
  simp only [keepT, keepT.go, List.contains_cons]
  simp
  refine Run.freezeV 3 (id := h.length + 1) (n := qs.length + 1) (sz := 1) (es := strPs (n :: qs.map textP)) (by simp) (by simp) (strPs_len1 _) (by simp) ?_
  simp
  by_cases hq0 : qs = []
  ·subst hq0
   rw [if_pos rfl] at hr; subst hr
   refine Run.reg fun K hK => ?_
   simp
   refine hK _ _ _ (nv ?_); clear hK
   refine ct (by simp) (nv ?_)
   refine Run.reg fun K hK => ?_
   simp
   refine hK _ _ _ (nv ?_); clear hK
   refine Run.ret ?_
   exact Fin.ret' (h0 := h) (by simp) rfl hh rfl (by simp; rfl) rfl (Weak.refl _) (by simp) ⟨by simp, rfl⟩
  ·have hqb := hqb hq0
   rw [if_neg hq0] at hr
   have hlb : ((qs.length : Int) + 1 == 1) = false := by
    have : 0 < qs.length := List.length_pos_iff.2 hq0
    simp; omega
   have hjn := textT_join n qs
   have c2 := joinW_any (h ++ [some (.cells [iA 1, .p (sP n), .p (.sl 3 (ptPs qs))]), none]) (n :: qs.map textP) [32] (by simp; omega) (by rw [hjn]; simp; omega)
   rw [hjn] at c2
   have hb1 : 1 + (n.length + (textT qs).length) ≤ 9223372036854775807 := by omega
   refine Run.reg fun K hK => ?_
   simp [hlb]
   refine hK _ _ _ (nv ?_); clear hK
   refine cf (by simp) (nv ?_)
   refine Run.reg fun K hK => ?_
   simp
   refine hK _ _ _ ?_; clear hK
   refine Run.call rfl (by first | rfl | simp) (by simp) rfl (c2) ?_ ?_
   rotate_left
   ·rintro v h' ⟨hv, _⟩; cases hv
   rintro v h' ⟨hv, rfl⟩
   simp only [AOut.ret.injEq] at hv
   subst hv
   have hb2 : n.length + (textT qs).length + 1 + 1 ≤ 9223372036854775807 := by omega
   refine Run.ops fun K hK => ?_
   simp [hb1, hb2]
   refine hK _ _ _ (nv ?_); clear hK
   refine Run.ret ?_
   subst hr
   exact Fin.ret' (h0 := h) (by simp) rfl hh rfl (by simp; rfl) rfl (Weak.refl _) (by simp) ⟨by simp, rfl⟩


open Go Go.AI

open Rows (uptoBulk uptoBulkAll)

open Go.ChangeShapes Go.WideShapes Go.ChangeAt Go.RowKit

section

variable {H : Type} {enc : TypeId × Value → H} {W : World} {sp : Nat → Bool} {held : Bool}
def GTn (t : Tm) (d : DataW H) : Prop := uptoBulk d ≤ 1048576 → t.size ≤ uptoBulk d ∧ t.fit ∧ t.lvs ∧ t.nm
theorem GL_tmn : ∀ {ts : List Tm} {ds : List (DataW H)}, GL GTn ts ds → uptoBulkAll ds ≤ 1048576 → Tm.sizes ts ≤ uptoBulkAll ds ∧ Tm.fits ts ∧ Tm.lvss ts ∧ Tm.nms ts
 | [], [], _, _ => by simp [Tm.sizes, Tm.fits, Tm.lvss, Tm.nms]
 | t :: ts, d :: ds, h, hb => by
  simp only [uptoBulkAll] at hb
  have h1 := h.1 (by omega)
  have h2 := GL_tmn h.2 (by omega)
  simp only [Tm.sizes, Tm.fits, Tm.lvss, Tm.nms, uptoBulkAll]
  exact ⟨by omega, ⟨h1.2.1, h2.2.1⟩, ⟨h1.2.2.1, h2.2.2.1⟩, h1.2.2.2, h2.2.2.2⟩
 | [], _ :: _, h, _ => h.elim
 | _ :: _, [], h, _ => h.elim
theorem open_tmn (N : Nat) : ∀ (n : Nat) (cs : List Value) (x : DataW H × List MemPlace), n ≤ N → DataW.trod enc Tryz.prog W 0 sp held n 25 cs = some x →
  ∃ t : Tm, RepL (roAll W) W (t.cells.map .p) cs ∧ GTn t x.1 := by
 induction N with
 | zero => intro n cs x hn h; obtain rfl : n = 0 := by omega
           simp [DataW.trod] at h
 | succ N ih =>
 intro n cs x hn h
 obtain ⟨xs, m, rfl, rfl, hl, hlen, hf⟩ := DataW.trod_struct Tryz.underlying25 h
 rw [cells25] at hl
 obtain ⟨c0, c1, c2, c3, c4, rfl⟩ : ∃ a b c d e, cs = [a, b, c, d, e] := by match cs, hl with | [a, b, c, d, e], _ => exact ⟨a, b, c, d, e, rfl⟩
 obtain ⟨x0, x1, x2, x3, x4, rfl⟩ : ∃ a b c d e, xs = [a, b, c, d, e] := by match xs, hlen with | [a, b, c, d, e], _ => exact ⟨a, b, c, d, e, rfl⟩
 have h0 := hf 0 _ rfl
 have h1 := hf 1 _ rfl
 have h2 := hf 2 _ rfl
 have h3 := hf 3 _ rfl
 have h4 := hf 4 _ rfl
 simp only [List.getElem?_cons_zero, List.getElem?_cons_succ] at h0 h1 h2 h3 h4
 obtain ⟨k, e0, r0, _, _⟩ := open_i h0
 obtain ⟨i, e1, r1, b1, b1'⟩ := open_i h1
 obtain ⟨s, e2, es, _⟩ := DataW.trod_string Tryz.underlying9 h2
 obtain ⟨ls, v3, e3, r3, hG3⟩ := open_slice (α := Lv) Tryz.underlying22 cells90 (by decide) Lv.cells GLv (fun _ => rfl) (fun m _ cs y hy => open_lv hy) h3
 obtain ⟨ks, v4, e4, r4, hG4⟩ := open_slice (α := Tm) Tryz.underlying23 cells25 (by decide) Tm.cells GTn (fun t => by cases t; rfl) (fun m' hm cs y hy => ih m' cs y (by omega) hy) h4
 injection e0 with e0; injection e1 with e1; injection e2 with e2; injection e3 with e3; injection e4 with e4
 subst e0; subst e1; subst e2; subst e3; subst e4
 refine ⟨.mk k i s.data.toList ls ks, ?_, ?_⟩
 ·simp only [cells_mk, List.map_cons, List.map_nil, RepL, Rep, lvPs, tmPs_eq]
  exact ⟨_, _, rfl, r0, _, _, rfl, r1, _, _, rfl, by simp [RepP, isPrim], _, _, rfl, r3, _, _, rfl, r4, rfl⟩
 ·intro hb
  simp only [List.map_cons, List.map_nil, uptoBulk, uptoBulkAll] at hb ⊢
  have hk : Tm.sizes ks ≤ uptoBulk x4.1 ∧ Tm.fits ks ∧ Tm.lvss ks ∧ Tm.nms ks := by
   rcases hG4 with ⟨rfl, _⟩ | ⟨elems, rest, he, hG⟩
   ·simp [Tm.sizes, Tm.fits, Tm.lvss, Tm.nms]
   ·rw [he] at hb ⊢
    simp only [uptoBulk] at hb ⊢
    have := GL_tmn hG (by omega)
    exact ⟨by omega, this.2⟩
  have hlv : ls.length ≤ 1048576 ∧ ∀ l ∈ ls, l.vars.length ≤ 1048576 ∧ ∀ v ∈ l.vars, -9223372036854775808 ≤ v.1 := by
   rcases hG3 with ⟨rfl, _⟩ | ⟨elems, rest, he, hG⟩
   ·simp
   ·rw [he] at hb
    simp only [uptoBulk] at hb
    have := length_le elems
    have := GL_len hG
    refine ⟨by omega, fun l hl => ?_⟩
    obtain ⟨d, hd, hg⟩ := GL_mem hG l hl
    have := part_le hd
    exact ⟨by have := hg.1; omega, hg.2⟩
  have hsl : s.data.toList.length ≤ 1048576 := by
   rw [es] at hb
   simp only [uptoBulk] at hb
   omega
  simp only [Tm.size, Tm.fit, Tm.lvs, Tm.nm]
  exact ⟨by omega, ⟨hlv.1, hlv.2, b1, b1', hk.2.1⟩, ⟨hlv.1, fun l hl => (hlv.2 l hl).1, hk.2.2.1⟩, by omega, hk.2.2.2⟩
def GPn (p : Pt) (d : DataW H) : Prop := uptoBulk d ≤ 1048576 → p.size ≤ uptoBulk d ∧ (textP p).length + 1 ≤ uptoBulk d
theorem GL_ptn : ∀ {ts : List Pt} {ds : List (DataW H)}, GL GPn ts ds → uptoBulkAll ds ≤ 1048576 → Pt.sizes ts ≤ uptoBulkAll ds ∧ (textT ts).length ≤ uptoBulkAll ds ∧ ∀ p ∈ ts, (textP p).length ≤ 1048576
 | [], [], _, _ => by simp [Pt.sizes, textT]
 | t :: ts, d :: ds, h, hb => by
  simp only [uptoBulkAll] at hb
  have h1 := h.1 (by omega)
  have h2 := GL_ptn h.2 (by omega)
  simp only [Pt.sizes, textT, uptoBulkAll, List.length_cons, List.length_append, List.forall_mem_cons]
  exact ⟨by omega, by omega, by omega, h2.2.2⟩
 | [], _ :: _, h, _ => h.elim
 | _ :: _, [], h, _ => h.elim
theorem open_ptn (N : Nat) : ∀ (n : Nat) (cs : List Value) (x : DataW H × List MemPlace), n ≤ N → DataW.trod enc Tryz.prog W 0 sp held n 74 cs = some x →
  ∃ p : Pt, RepL (roAll W) W (p.cells.map .p) cs ∧ GPn p x.1 := by
 induction N with
 | zero => intro n cs x hn h; obtain rfl : n = 0 := by omega
           simp [DataW.trod] at h
 | succ N ih =>
 intro n cs x hn h
 obtain ⟨xs, m, rfl, rfl, hl, hlen, hf⟩ := DataW.trod_struct Tryz.underlying74 h
 rw [cells74] at hl
 obtain ⟨c0, c1, c2, rfl⟩ : ∃ a b c, cs = [a, b, c] := by match cs, hl with | [a, b, c], _ => exact ⟨a, b, c, rfl⟩
 obtain ⟨x0, x1, x2, rfl⟩ : ∃ a b c, xs = [a, b, c] := by match xs, hlen with | [a, b, c], _ => exact ⟨a, b, c, rfl⟩
 have h0 := hf 0 _ rfl
 have h1 := hf 1 _ rfl
 have h2 := hf 2 _ rfl
 simp only [List.getElem?_cons_zero, List.getElem?_cons_succ] at h0 h1 h2
 obtain ⟨k, e0, r0, _, _⟩ := open_i h0
 obtain ⟨s, e1, es, _⟩ := DataW.trod_string Tryz.underlying9 h1
 obtain ⟨ps, w, e2, r2, hG2⟩ := open_slice (α := Pt) Tryz.underlying50 cells74 (by decide) Pt.cells GPn (fun p => by cases p; rfl) (fun m' hm cs y hy => ih m' cs y (by omega) hy) h2
 injection e0 with e0; injection e1 with e1; injection e2 with e2
 subst e0; subst e1; subst e2
 refine ⟨.mk k s.data.toList ps, ?_, fun hb => ?_⟩
 ·simp only [pcells_mk, ptPs_eq', List.map_cons, List.map_nil, RepL, Rep]
  exact ⟨_, _, rfl, r0, _, _, rfl, by simp [RepP, isPrim], _, _, rfl, r2, rfl⟩
 ·simp only [List.map_cons, List.map_nil, uptoBulk, uptoBulkAll] at hb ⊢
  have h0 := one_le x0.1
  have hq : Pt.sizes ps + 1 ≤ uptoBulk x2.1 ∧ (textT ps).length + 1 ≤ uptoBulk x2.1 := by
   rcases hG2 with ⟨rfl, _⟩ | ⟨elems, rest, he, hG⟩
   ·have := one_le x2.1
    simp only [Pt.sizes, textT, List.length_nil]
    omega
   ·rw [he] at hb ⊢
    simp only [uptoBulk] at hb ⊢
    have := GL_ptn hG (by omega)
    omega
  have hs : uptoBulk x1.1 = s.data.toList.length + 1 := by rw [es]; simp only [uptoBulk]
  have ht : (textP (.mk k s.data.toList ps)).length ≤ s.data.toList.length + (textT ps).length + 2 := by
   simp only [textP]
   repeat' split
   all_goals try simp only [List.length_cons, List.length_nil, List.length_append]
   all_goals omega
  simp only [Pt.size]
  omega
def GCn (c : Cl) (d : DataW H) : Prop := uptoBulk d ≤ 1048576 → Pt.sizes c.ps ≤ 1048576 ∧ c.b.good ∧ c.b.nm ∧ ∀ p ∈ c.ps, (textP p).length ≤ 1048576
theorem open_cln {n : Nat} {cs : List Value} {x : DataW H × List MemPlace} (h : DataW.trod enc Tryz.prog W 0 sp held n 53 cs = some x) : ∃ c : Cl, RepL (roAll W) W (c.cells.map .p) cs ∧ GCn c x.1 := by
 obtain ⟨xs, m, rfl, rfl, hl, hlen, hf⟩ := DataW.trod_struct Tryz.underlying53 h
 rw [cells53] at hl
 obtain ⟨c0, c1, c2, c3, c4, c5, rfl⟩ : ∃ a b c d e f, cs = [a, b, c, d, e, f] := by match cs, hl with | [a, b, c, d, e, f], _ => exact ⟨a, b, c, d, e, f, rfl⟩
 obtain ⟨x0, x1, rfl⟩ : ∃ a b, xs = [a, b] := by match xs, hlen with | [a, b], _ => exact ⟨a, b, rfl⟩
 have h0 := hf 0 _ rfl
 have h1 := hf 1 _ rfl
 simp only [List.getElem?_cons_zero, List.getElem?_cons_succ] at h0 h1
 obtain ⟨ps, w, e0, r0, hG0⟩ := open_slice (α := Pt) Tryz.underlying50 cells74 (by decide) Pt.cells GPn (fun p => by cases p; rfl) (fun m' _ cs y hy => open_ptn m' m' cs y (Nat.le_refl _) hy) h0
 obtain ⟨t, r1, g1⟩ := open_tmn _ _ _ _ (Nat.le_refl _) h1
 injection e0 with e0; subst e0
 refine ⟨⟨ps, t⟩, ?_, fun hb => ?_⟩
 ·simp only [Cl.cells, ptPs_eq', List.map_cons, RepL, Rep]
  exact ⟨_, _, rfl, r0, r1⟩
 ·simp only [List.map_cons, List.map_nil, uptoBulk, uptoBulkAll] at hb
  have g := g1 (by omega)
  have hq : Pt.sizes ps ≤ 1048576 ∧ ∀ p ∈ ps, (textP p).length ≤ 1048576 := by
   rcases hG0 with ⟨rfl, _⟩ | ⟨elems, rest, he, hG⟩
   ·simp [Pt.sizes]
   ·rw [he] at hb
    simp only [uptoBulk] at hb
    have := GL_ptn hG (by omega)
    exact ⟨by omega, this.2.2⟩
  have gs := g.1
  exact ⟨hq.1, ⟨by show t.size ≤ 1048576; omega, g.2.1, g.2.2.1⟩, g.2.2.2, hq.2⟩

end
theorem arg_cl {H : Type} {enc : TypeId × Value → H} {W : World} {v : Value} {d : DataW H} {p : List MemPlace} {base : Nat}
  (hv : Value.okWide Tryz.prog W .any base 53 v) (h : DataW.Trod enc Tryz.prog W 0 (fun _ => true) true 53 v d p) : ∃ c : Cl, Rep (roAll W) W c.av v ∧ GCn c d := by
 obtain ⟨cs, rfl, hcs⟩ := okWide_struct Tryz.underlying53 hv
 obtain ⟨n, hn⟩ := h
 obtain ⟨c, hc, hG⟩ := open_cln hn
 refine ⟨c, ?_, hG⟩
 simp only [Rep]
 exact ⟨cs.toList, by simp, by simpa [Value.cells] using hc⟩

end Go.Proofs.YtcfcolkbeelegaaGreat
