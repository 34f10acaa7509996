/-
  What declarations say about names, told plainly.
-/
import Derived.Test.YtcfcolkbeelegaaGreatMFV
import Derived.Test.YtcfcolkbeelegaaGreatMX0
import Derived.Test.YtcfcolkbeelegaaGreatME11

namespace Go.AI

open Go

section

variable {P : Program} {E : Env} {w : World} {h : Heap}
theorem buildSlice_run {t : TypeId} {len : Nat} {parts : List (Nat × AV)} {vals : Array (Nat × Value)} {sz : Nat} {es : List (List PV)}
  (h1 : parts.map (·.1) = vals.toList.map (·.1)) (h2 : RepL E w (parts.map (·.2)) (vals.toList.map (·.2)))
  (hb : abuildS P t len parts = some (.p (.sl sz es))) : ∃ vs T, (∀ e ∈ es, e.length = sz) ∧ RepL E w (es.flatten.map .p) vs ∧ (Instr.buildSlice t len vals).run P w = .ok (.slice (some ⟨w.heap.size, 0, none⟩) es.length es.length) (w.alloc (.cells (List.toArray vs) T (0, 0))) := by
 unfold abuildS at hb
 split at hb
 ·rename_i e hel
  split at hb
  ·rename_i sz' z hsz hz
   split at hb
   ·rename_i hcond
    obtain ⟨hlim, hpos⟩ := hcond
    simp only [Option.map_eq_some_iff, AV.p.injEq, PV.sl.injEq] at hb
    obtain ⟨out, ho, rfl, rfl⟩ := hb
    obtain ⟨zv, hzr, hzc⟩ := run_zeroT (w := w) hz
    obtain ⟨i, _, hi, _, _, hzl, hprim⟩ := zeroT_parts hz
    have hzs : z.length = sz' := by unfold szT at hsz; rw [hi] at hsz; simp at hsz; omega
    have hu0 : ∀ e ∈ List.replicate len (z.map PV.prim), e.length = sz' := by
     intro e he; rw [(List.mem_replicate.1 he).2]; simp [hzs]
    have h30 : RepL E w ((List.replicate len (z.map PV.prim)).flatten.map .p) (List.replicate len z).flatten := by
     rw [prims_flat]
     refine prims_rep ?_
     intro v hv
     obtain ⟨l, hl, hv⟩ := List.mem_flatten.1 hv
     rw [(List.mem_replicate.1 hl).2] at hv
     exact hprim v hv
    obtain ⟨vo, e1, e2, e3, e4⟩ := fillS_sound (E := E) (w := w) sz' parts vals.toList _ _ out h1 h2 hu0 h30 ho
    simp only [List.length_replicate] at e4
    subst e4
    refine ⟨vo, e, e3, e2, ?_⟩
    have hinit : (Array.range (out.length * sz')).map (fun i => (List.toArray z)[i % (List.toArray z).size]!) = List.toArray (List.replicate out.length z).flatten := by
     have := flat_replicate (List.toArray z) out.length
     simp only [List.size_toArray, hzs] at this ⊢
     exact this
    unfold Instr.buildSlice
    simp only [Sem.run_bind, run_elT hel, Result.andThen_ok, run_szT hsz]
    rw [if_neg (by omega)]
    by_cases hz0 : out.length * sz' = 0
    ·have hl0 : out.length = 0 := by
      rcases Nat.mul_eq_zero.1 hz0 with h | h
      ·exact h
      ·omega
     have e1' : Instr.fill (fun i => some (i * sz', sz')) #[] vals.toList = some (List.toArray vo) := by
      rw [hl0] at e1; simpa using e1
     have er : Array.range 0 = #[] := rfl
     simp only [hl0, Nat.zero_mul, if_true]
     simp [e1', newRow, er]
    ·simp only [if_neg hz0, Sem.run_bind, hzr, Result.andThen_ok, Sem.run_pure, hzc]
     rw [hinit, e1]
     simp [newRow]
   ·cases hb
  ·cases hb
 ·cases hb

end

section

variable {P : Program} {rd : Option Nat} {nb : Nat} {k : List It} {T : List AV} {h : Heap} {D : List AD} {Q : AX → List AV → Heap → List AD → Prop} {all : Array Oper} {o : Oper} {rest : List Oper}
theorem Run.buildV {t : TypeId} {len sz : Nat} {parts : Array (Nat × Operand)} {es : List (List PV)} (ho : o.op = .buildSlice t len parts) (hw : awanted all T o = some true)
  (hb : abuildS P t len (parts.toList.map fun p => (p.1, aev T p.2)) = some (.p (.sl sz es))) (hpos : 0 < es.length)
  (r : Run P rd nb (.ops all rest :: k) (tput T o.dst (.vec h.length es.length)) (h ++ [some (.vec sz es)]) D Q) : Run P rd nb (.ops all (o :: rest) :: k) T h D Q := by
 refine Run.opR (R := fun x h' => x = .vec h.length es.length ∧ h' = h ++ [some (.vec sz es)]) hw (fun c hc => by rw [hc] at ho; cases ho) ?_ (by rintro x h' ⟨rfl, rfl⟩; exact r)
 intro E w a st
 obtain ⟨p1, p2⟩ := pairs_rep st parts
 obtain ⟨vs, T0, hes, hrep, hrun⟩ := buildSlice_run (P := P) p1 p2 hb
 obtain ⟨t1, t2, t3⟩ := st.rel.newTk st.fresh (tk := .vec sz []) (sz := sz) rfl
 have hl := hrep.length
 rw [List.length_map, flat_length hes] at hl
 have hid : Heap.at (h ++ [some (.vec sz [])]) h.length = some (.vec sz []) := by simp
 obtain ⟨g1, g2⟩ := t1.growG (w' := w.alloc (.cells (List.toArray vs) T0 (0, 0))) (b := w.heap.size) (c' := es.length) (vs := vs) (n := 0) (m := es.length) (k := 0) (k' := 0) (o' := .vec sz es) (cs' := es.flatten.map .p)
  hid rfl (by simp [AO.tk]) (Nat.le_refl _) (.inl hpos) (.inr (Nat.le_refl _)) ⟨T0, alloc_new _⟩ hl (by omega) (fun b' _ hb' => alloc_old _ hb') (fun off ho => by have := t1.lt _ _ ho; omega) (by rw [alloc_size]; omega) ⟨rfl, rfl⟩
  (fun E' hx' _ => by
   rw [List.take_of_length_le (by rw [List.length_map, flat_length hes]; omega)]
   exact hrep.ext (t2.ext.trans hx'))
 have hset : (h ++ [some (AO.vec sz [])]).set h.length (some (.vec sz es)) = h ++ [some (.vec sz es)] := by simp
 rw [hset] at g1 g2
 refine ⟨_, _, _, _, .slice (some ⟨w.heap.size, 0, none⟩) es.length es.length, ⟨rfl, rfl⟩, ?_, g1, ?_, ?_, t2.trans g2⟩
 ·simp [execOp, ho, hrun]
 ·have := vec_fresh (h := h ++ [some (AO.vec sz [])]) (o := some (AO.vec sz es)) (b := w.heap.size) (c := es.length) (n := 0 + es.length) (id := h.length) (R := fun b' off => E.ro b' off ∨ (b' = w.heap.size ∧ off < 0 * sz)) (by simpa using t3) (by simp)
  rw [hset] at this
  exact this
 ·simp only [Rep]
  exact ⟨⟨some w.heap.size, es.length, es.length⟩, by simp, by simp, _, es.length, by simp, fun _ => ⟨rfl, rfl⟩⟩

end

end Go.AI

namespace Go.Proofs.YtcfcolkbeelegaaGreat

open Go Go.AI
set_option maxRecDepth 8000 in
theorem high_any (h : Heap) (hh : WF h) (t : Tm) (hg : t.good) : ACalls Tryz.prog 66 [t.av] h fun o h' => o = .ret (bA (checkZ 60000 8 65536 65536 t != 0)) ∧ h' = h := by
 have hc := fun (g : Heap) (hw : WF g) => check_any g hw t 60000 8 65536 65536 (by have := hg.1; omega) hg.2.1
 generalize checkZ 60000 8 65536 65536 t = e at hc ⊢
 obtain ⟨k, i, n, ls, ks⟩ := t
 simp only [Tm.av, cells_mk, List.map] at hc ⊢
 refine ACalls.of_run Tryz.func66 rfl ?_
 simp only [Tryz.ntmps66, List.length_cons, List.length_nil]
 refine nv ?_
 refine Run.reg fun K hK => ?_
 simp
 try (simp (disch := omega) only [wrap_id])
 refine hK _ _ _ (nv ?_); clear hK K
 refine Run.reg fun K hK => ?_
 simp
 try (simp (disch := omega) only [wrap_id])
 refine hK _ _ _ (nv ?_); clear hK K
 refine rc rfl (by first | rfl | simp) (by simp) rfl (hc _ (hh.app (by simp))) ?_
 refine Run.ops fun K hK => ?_
 simp
 try (simp (disch := omega) only [wrap_id])
 refine hK _ _ _ (nv ?_); clear hK K
 refine Run.ret ?_
 exact Fin.ret' (h0 := h) (by simp) rfl hh rfl (by simp; rfl) rfl (Weak.refl _) (by simp) ⟨rfl, rfl⟩
def RetB (P : Bool → Prop) (o : AOut) : Prop := ∃ b, o = .ret (bA b) ∧ P b
def RetI (P : Int → Prop) (o : AOut) : Prop := ∃ e, o = .ret (iA e) ∧ P e
set_option maxRecDepth 8000 in
theorem small_any (h : Heap) (hh : WF h) (t : Tm) (hg : t.good) : ACalls Tryz.prog 201 [t.av] h fun o h' => RetB (fun _ => True) o ∧ h' = h := by
 have h1 := fun (g : Heap) (hw : WF g) => size_any t.size t g (Nat.le_refl _) (by have := hg.1; omega) hw
 have h2 := fun (g : Heap) (hw : WF g) => depth_any t.size t g (Nat.le_refl _) (by have := hg.1; omega) hw
 generalize t.size = s at h1
 generalize t.depth = d at h2
 obtain ⟨k, i, n, ls, ks⟩ := t
 simp only [Tm.av, cells_mk, List.map] at h1 h2 ⊢
 refine ACalls.of_run Tryz.func201 rfl ?_
 simp only [Tryz.ntmps201, List.length_cons, List.length_nil]
 refine nv ?_
 refine Run.reg fun K hK => ?_
 simp
 try (simp (disch := omega) only [wrap_id])
 refine hK _ _ _ (nv ?_); clear hK K
 refine Run.reg fun K hK => ?_
 simp
 try (simp (disch := omega) only [wrap_id])
 refine hK _ _ _ (nv ?_); clear hK K
 refine rc rfl (by first | rfl | simp) (by simp) rfl (h1 _ (hh.app (by simp))) ?_
 by_cases c1 : (s : Int) ≤ 400
 ·refine Run.ops fun K hK => ?_
  simp [c1]
  try (simp (disch := omega) only [wrap_id])
  refine hK _ _ _ (nv ?_); clear hK K
  refine rc rfl (by first | rfl | simp) (by simp) rfl (h2 _ (hh.app (by simp))) ?_
  refine Run.ops fun K hK => ?_
  simp
  try (simp (disch := omega) only [wrap_id])
  refine hK _ _ _ (nv ?_); clear hK K
  refine Run.ret ?_
  exact Fin.ret' (h0 := h) (by simp) rfl hh rfl (by simp; rfl) rfl (Weak.refl _) (by simp) ⟨⟨_, rfl, trivial⟩, rfl⟩
 ·refine Run.ops fun K hK => ?_
  simp [c1]
  try (simp (disch := omega) only [wrap_id])
  refine hK _ _ _ (nv ?_); clear hK K
  refine Run.ret ?_
  exact Fin.ret' (h0 := h) (by simp) rfl hh rfl (by simp; rfl) rfl (Weak.refl _) (by simp) ⟨⟨_, rfl, trivial⟩, rfl⟩
set_option maxRecDepth 8000 in
theorem zero_any (h : Heap) (hh : WF h) (t : Tm) (hg : t.good) : ACalls Tryz.prog 227 [t.av] h fun o h' => o = .ret (bA (sameT t zT)) ∧ h' = h := by
 have hc := fun (g : Heap) (hw : WF g) => same_any t.size t zT g (Nat.le_refl _) (by have := hg.1; omega) hg.2.2 hw
 generalize sameT t zT = b at hc ⊢
 obtain ⟨k, i, n, ls, ks⟩ := t
 simp only [Tm.av, cells_mk, List.map] at hc ⊢
 refine ACalls.of_run Tryz.func227 rfl ?_
 simp only [Tryz.ntmps227, List.length_cons, List.length_nil]
 refine nv ?_
 refine Run.reg fun K hK => ?_
 simp
 try (simp (disch := omega) only [wrap_id])
 refine hK _ _ _ (nv ?_); clear hK K
 refine Run.reg fun K hK => ?_
 simp
 try (simp (disch := omega) only [wrap_id])
 refine hK _ _ _ (nv ?_); clear hK K
 refine rc rfl (by first | rfl | simp) (by simp) rfl (ACalls.weak (WeakL.cons (Weak.refl _) (WeakL.cons Weak.zT WeakL.nil)) (hc _ (hh.app (by simp)))) ?_
 refine Run.ops fun K hK => ?_
 simp
 try (simp (disch := omega) only [wrap_id])
 refine hK _ _ _ (nv ?_); clear hK K
 refine Run.ret ?_
 exact Fin.ret' (h0 := h) (by simp) rfl hh rfl (by simp; rfl) rfl (Weak.refl _) (by simp) ⟨rfl, rfl⟩
def strPs (l : List (List UInt8)) : List (List PV) := l.map fun s => [sP s]
@[simp] theorem strPs_length (l : List (List UInt8)) : (strPs l).length = l.length := by simp [strPs]
@[simp] theorem strPs_get (l : List (List UInt8)) (i : Nat) : (strPs l)[i]? = (l[i]?).map fun s => [sP s] := by simp [strPs]
set_option maxRecDepth 8000 in
theorem has_any (h : Heap) (hh : WF h) (l : List (List UInt8)) (s : List UInt8) (hl : l.length ≤ 1099511627776) : ACalls Tryz.prog 217 [.p (.sl 1 (strPs l)), .p (sP s)] h fun o h' => o = .ret (bA (decide (s ∈ l))) ∧ h' = h := by
 refine ACalls.of_run Tryz.func217 rfl ?_
 simp only [Tryz.ntmps217, List.length_cons, List.length_nil]
 refine nv ?_
 refine Run.reg fun K hK => ?_
 simp
 try (simp (disch := omega) only [wrap_id])
 refine hK _ _ _ (nv ?_); clear hK K
 refine Run.reg fun K hK => ?_
 simp
 try (simp (disch := omega) only [wrap_id])
 refine hK _ _ _ (nv ?_); clear hK K
 refine Run.loopS [0, 1] (fun j : Nat => j ≤ l.length ∧ s ∉ l.take j) (fun j => l.length - j) (fun j => [(5, iA j)]) (fun _ => _) 0 (by simp) ?_ rfl ?_
 ·simp
  repeat' (first | exact WeakL.nil | apply WeakL.cons)
  all_goals first | exact Weak.junk _ | exact Weak.refl _ | exact Weak.nil _ | exact Weak.own _ _ _ | exact Weak.int (by omega)
 rintro j ⟨hj, hall⟩ IH
 simp
 refine nv ?_
 refine Run.reg fun K hK => ?_
 simp
 try (simp (disch := omega) only [wrap_id])
 refine hK _ _ _ (nv ?_); clear hK K
 by_cases hjl : j < l.length
 ·have hg : l[j]? = some l[j] := List.getElem?_eq_getElem hjl
  have htk : l.take (j + 1) = l.take j ++ [l[j]] := List.take_succ_eq_append_getElem hjl
  have hmem : l[j] ∈ l := List.getElem_mem hjl
  generalize l[j] = x at hg htk hmem
  refine nv ?_
  refine ct (by simp [hjl]) (nv ?_)
  refine Run.reg fun K hK => ?_
  simp [hg]
  try (simp (disch := omega) only [wrap_id])
  refine hK _ _ _ (nv ?_); clear hK K
  by_cases hx : x = s
  ·refine nv ?_
   refine ct (by simp [hx]) (nv ?_)
   repeat (first | refine nw ?_ | (refine Run.reg fun K hK => ?_; simp; (try (simp (disch := omega) only [wrap_id])); refine hK _ _ _ ?_; clear hK K) | refine ct rfl ?_ | refine cf rfl ?_ | refine Run.exit rfl ?_ | refine Run.ret ?_)
   exact Fin.ret' (by simp) rfl hh (List.append_nil _).symm rfl rfl (Weak.refl _) rfl ⟨by simp [hx ▸ hmem], rfl⟩
  ·refine nv ?_
   refine cf (by simp [hx]) (nv ?_)
   refine Run.reg fun K hK => ?_
   simp
   try (simp (disch := omega) only [wrap_id])
   refine hK _ _ _ (nv ?_); clear hK K
   refine IH (j + 1) _ _ ⟨by omega, by rw [htk]; simp [hall]; exact fun e => hx e.symm⟩ (by omega) ?_ rfl
   simp
   repeat' (first | exact WeakL.nil | apply WeakL.cons)
   all_goals first | exact Weak.junk _ | exact Weak.refl _ | exact Weak.nil _ | exact Weak.own _ _ _ | exact Weak.int (by omega)
 ·have hje : j = l.length := by omega
  subst hje
  rw [List.take_length] at hall
  refine nv ?_
  refine cf (by simp) (nv ?_)
  refine Run.exit rfl ?_
  refine nv ?_
  repeat (first | refine nw ?_ | (refine Run.reg fun K hK => ?_; simp; (try (simp (disch := omega) only [wrap_id])); refine hK _ _ _ ?_; clear hK K) | refine ct rfl ?_ | refine cf rfl ?_ | refine Run.exit rfl ?_ | refine Run.ret ?_)
  exact Fin.ret' (by simp) rfl hh (List.append_nil _).symm rfl rfl (Weak.refl _) rfl ⟨by simp [hall], rfl⟩
def leadN : Tm → Nat
 | .mk k _ _ _ [_, b] => if k = 6 then leadN b + 1 else 0
 | _ => 0
theorem leadN_le : ∀ (N : Nat) (t : Tm), t.size ≤ N → leadN t ≤ t.size
 | 0, t, h => by have := t.size_pos; omega
 | N + 1, .mk k i n ls ks, h => by
  match ks with
  | [] => simp [leadN]
  | [a] => simp [leadN]
  | [a, b] =>
   simp only [leadN, Tm.size, Tm.sizes] at h ⊢
   split
   ·have := leadN_le N b (by omega); omega
   ·omega
  | a :: b :: c :: r => simp [leadN]
set_option maxRecDepth 8000 in
theorem leading_any (h : Heap) (hh : WF h) (t : Tm) (hs : t.size ≤ 1048576) : ACalls Tryz.prog 256 [t.av] h fun o h' => o = .ret (iA (leadN t)) ∧ h' = h := by
 have hle := leadN_le t.size t (Nat.le_refl _)
 obtain ⟨T, hT⟩ : ∃ T, T = leadN t := ⟨_, rfl⟩
 rw [← hT] at hle ⊢
 obtain ⟨k, i, n, ls, ks⟩ := t
 simp only [Tm.av, cells_mk, List.map] at hle ⊢
 refine ACalls.of_run Tryz.func256 rfl ?_
 simp only [Tryz.ntmps256, List.length_cons, List.length_nil]
 refine nv ?_
 refine Run.reg fun K hK => ?_
 simp
 try (simp (disch := omega) only [wrap_id])
 refine hK _ _ _ (nv ?_); clear hK K
 refine Run.reg fun K hK => ?_
 simp
 try (simp (disch := omega) only [wrap_id])
 refine hK _ _ _ (nv ?_); clear hK K
 refine Run.loopS (ι := Tm × Nat) [1] (fun p => leadN p.1 + p.2 = T ∧ p.1.size ≤ 1048576) (fun p => p.1.size) (fun p => [(3, iA p.2)]) (fun p => h ++ [some (.cells (p.1.cells.map .p))]) (.mk k i n ls ks, 0) ⟨by simp [hT], hs⟩ ?_ (by simp) ?_
 ·simp
  repeat' (first | exact WeakL.nil | apply WeakL.cons)
  all_goals first | exact Weak.junk _ | exact Weak.refl _ | exact Weak.nil _ | exact Weak.own _ _ _ | exact Weak.int (by omega)
 rintro ⟨u, m⟩ ⟨hu, hus⟩ IH
 obtain ⟨k, i, n, ls, ks⟩ := u
 simp only at hu hus
 have hks := length_le_sizes ks
 simp only [Tm.size] at hus
 simp
 refine nv ?_
 refine Run.regJ [1, 3] 12 (k == 6 && (ks.length : Int) == 2) (fun K hK => ?_) ?_
 ·simp
  repeat' (first | apply And.intro | intro _)
  all_goals
   try (simp (disch := omega) only [wrap_id])
   refine hK _ ?_
   simp
   repeat' (first | exact WeakL.nil | apply WeakL.cons)
   all_goals first | exact Weak.junk _ | (refine Weak.bool ?_; clear hK K; rw [Bool.eq_iff_iff]; simp; done) | (refine Weak.bool ?_; clear hK K; rw [Bool.eq_iff_iff]; simp; omega) | (refine Weak.bool ?_; clear hK K; simp_all; done) | (refine Weak.bool ?_; clear hK K; simp [*]; done) | (refine Weak.bool ?_; clear hK K; rw [Bool.eq_iff_iff]; simp [*]; omega) | exact Weak.refl _
 simp only [setMany, keepT, keepT.go, List.contains_cons, List.set_cons_succ, List.set_cons_zero]
 simp
 refine Run.condB rfl (fun h1 => ?_) (fun h1 => ?_)
 ·have h1' : k = 6 ∧ ks.length = 2 := by simp at h1; omega
  obtain ⟨rfl, h2⟩ := h1'
  obtain ⟨a, b, hab⟩ : ∃ a b, ks = [a, b] := by match ks, h2 with | [a, b], _ => exact ⟨a, b, rfl⟩
  have hg : ks[1]? = some b := by rw [hab]; rfl
  have hlt : b.size < (Tm.mk 6 i n ls ks).size := by rw [hab]; simp [Tm.size, Tm.sizes]; omega
  rw [hab] at hu hus
  simp only [leadN, if_true] at hu
  simp only [Tm.sizes] at hus
  have hml : leadN b + (m + 1) = T := by omega
  have hbs : b.size ≤ 1048576 := by omega
  clear hu hus hab hks
  have hm : m ≤ 1048576 := by omega
  refine nv ?_
  refine Run.reg fun K hK => ?_
  simp
  try (simp (disch := omega) only [wrap_id])
  refine hK _ _ _ (nv ?_); clear hK K
  obtain ⟨k', i', n', ls', ks'⟩ := b
  refine nv ?_
  refine Run.reg fun K hK => ?_
  simp [hg]
  try (simp (disch := omega) only [wrap_id])
  refine hK _ _ _ (nv ?_); clear hK K
  refine IH (.mk k' i' n' ls' ks', m + 1) _ _ ⟨hml, hbs⟩ hlt ?_ (by simp)
  simp
  repeat' (first | exact WeakL.nil | apply WeakL.cons)
  all_goals first | exact Weak.junk _ | exact Weak.refl _ | exact Weak.nil _ | exact Weak.own _ _ _ | exact Weak.int (by omega)
 ·have : leadN (.mk k i n ls ks) = 0 := by
   match ks, h1 with
   | [], _ => simp [leadN]
   | [a], _ => simp [leadN]
   | [a, b], h1 => simp at h1; simp [leadN, h1]
   | a :: b :: c :: r, _ => simp [leadN]
  rw [this] at hu
  refine nv ?_
  refine Run.exit rfl ?_
  refine nv ?_
  repeat (first | refine nw ?_ | (refine Run.reg fun K hK => ?_; simp; (try (simp (disch := omega) only [wrap_id])); refine hK _ _ _ ?_; clear hK K) | refine ct rfl ?_ | refine cf rfl ?_ | refine Run.exit rfl ?_ | refine Run.ret ?_)
  exact Fin.ret' (h0 := h) (by simp) rfl hh rfl rfl rfl (Weak.refl _) rfl ⟨by rw [← hu]; simp, rfl⟩

end Go.Proofs.YtcfcolkbeelegaaGreat

namespace Go.Proofs.YtcfcolkbeelegaaGreat

open Go Go.AI

structure En where
 k : Int
 at_ : Int
 it : Int
 ps : Int
 ty : Tm
def En.cells (e : En) : List PV := iP e.k :: iP e.at_ :: iP e.it :: iP e.ps :: e.ty.cells
def En.av (e : En) : AV := .agg (e.cells.map .p)
def zEn : En := ⟨0, 0, 0, 0, zT⟩
def recB : List UInt8 := [46, 114, 101, 99]
def namesZ (d : Dc) : List (List UInt8) :=
 if d.k = 0 ∨ d.k = 1 ∨ d.k = 2 then [d.nm] else if d.k = 3 then d.nm :: (d.cs.map Ct.nm ++ [d.nm ++ recB]) else if d.k = 4 then d.fs.map Fu.nm else []
def ctEns (d : Dc) (a : Int) : List Ct → Nat → List (List UInt8 × En)
 | [], _ => []
 | c :: cs, i => (c.nm, ⟨4, a, i, d.ps, c.ty⟩) :: ctEns d a cs (i + 1)
def fuEns (d : Dc) (a : Int) : List Fu → Nat → List (List UInt8 × En)
 | [], _ => []
 | f :: fs, i => (f.nm, ⟨6, a, i, d.ps, f.ty⟩) :: fuEns d a fs (i + 1)
def entsZ (d : Dc) (a : Int) : List (List UInt8 × En) :=
 if d.k = 0 ∨ d.k = 1 ∨ d.k = 2 then [(d.nm, ⟨d.k, a, 0, d.ps, d.ty⟩)]
 else if d.k = 3 then (d.nm, ⟨3, a, 0, d.ps, d.ty⟩) :: (ctEns d a d.cs 0 ++ [(d.nm ++ recB, ⟨5, a, 0, d.rp, d.rt⟩)])
 else if d.k = 4 then fuEns d a d.fs 0 else []
def firstEn (s : List UInt8) : List (List UInt8 × En) → Option En
 | [] => none
 | (x, e) :: l => if x = s then some e else firstEn s l
def findP (s : List UInt8) : List Dc → Nat → Option En
 | [], _ => none
 | d :: env, i => match firstEn s (entsZ d i) with
  | some e => some e
  | none => findP s env (i + 1)
def ctEn (d : Dc) (a : Int) (s : List UInt8) : List Ct → Nat → Option En
 | [], _ => none
 | c :: cs, i => if c.nm = s then some ⟨4, a, i, d.ps, c.ty⟩ else ctEn d a s cs (i + 1)
def fuEn (d : Dc) (a : Int) (s : List UInt8) : List Fu → Nat → Option En
 | [], _ => none
 | f :: fs, i => if f.nm = s then some ⟨6, a, i, d.ps, f.ty⟩ else fuEn d a s fs (i + 1)
def entZ (d : Dc) (a : Int) (s : List UInt8) : En :=
 if d.k = 0 ∨ d.k = 1 ∨ d.k = 2 then ⟨d.k, a, 0, d.ps, d.ty⟩
 else if d.k = 3 then (if s = d.nm then ⟨3, a, 0, d.ps, d.ty⟩ else (ctEn d a s d.cs 0).getD ⟨5, a, 0, d.rp, d.rt⟩)
 else (fuEn d a s d.fs 0).getD ⟨0, a, 0, d.ps, d.ty⟩
def findZ (s : List UInt8) : List Dc → Nat → Option En
 | [], _ => none
 | d :: env, i => if s ∈ namesZ d then some (entZ d i s) else findZ s env (i + 1)
theorem firstEn_append (s : List UInt8) : ∀ l m : List (List UInt8 × En), firstEn s (l ++ m) = match firstEn s l with | some e => some e | none => firstEn s m
 | [], m => rfl
 | (x, e) :: l, m => by
  simp only [List.cons_append, firstEn]
  split
  ·rfl
  ·exact firstEn_append s l m
theorem first_ct (d : Dc) (a : Int) (s : List UInt8) : ∀ (l : List Ct) (i : Nat), firstEn s (ctEns d a l i) = ctEn d a s l i
 | [], _ => rfl
 | c :: l, i => by simp only [ctEns, firstEn, ctEn, first_ct d a s l (i + 1)]
theorem first_fu (d : Dc) (a : Int) (s : List UInt8) : ∀ (l : List Fu) (i : Nat), firstEn s (fuEns d a l i) = fuEn d a s l i
 | [], _ => rfl
 | c :: l, i => by simp only [fuEns, firstEn, fuEn, first_fu d a s l (i + 1)]
theorem ctEn_none (d : Dc) (a : Int) (s : List UInt8) : ∀ (l : List Ct) (i : Nat), (ctEn d a s l i).isSome = decide (s ∈ l.map Ct.nm)
 | [], _ => by simp [ctEn]
 | c :: l, i => by
  simp only [ctEn]
  by_cases h : c.nm = s
  ·simp [h]
  ·have h' : ¬ s = c.nm := fun e => h e.symm
   rw [if_neg h, ctEn_none d a s l (i + 1)]
   simp [h']
theorem fuEn_none (d : Dc) (a : Int) (s : List UInt8) : ∀ (l : List Fu) (i : Nat), (fuEn d a s l i).isSome = decide (s ∈ l.map Fu.nm)
 | [], _ => by simp [fuEn]
 | c :: l, i => by
  simp only [fuEn]
  by_cases h : c.nm = s
  ·simp [h]
  ·have h' : ¬ s = c.nm := fun e => h e.symm
   rw [if_neg h, fuEn_none d a s l (i + 1)]
   simp [h']
theorem first_ent (d : Dc) (a : Int) (s : List UInt8) : firstEn s (entsZ d a) = if s ∈ namesZ d then some (entZ d a s) else none := by
 unfold entsZ namesZ entZ
 by_cases h1 : d.k = 0 ∨ d.k = 1 ∨ d.k = 2
 ·simp only [h1, if_true, firstEn, List.mem_singleton]
  by_cases h : d.nm = s
  ·simp [h]
  ·have h' : ¬ s = d.nm := fun e => h e.symm
   simp [h, h']
 ·by_cases h2 : d.k = 3
  ·rw [if_neg h1, if_neg h1, if_neg h1, if_pos h2, if_pos h2, if_pos h2]
   simp only [firstEn, firstEn_append, first_ct]
   by_cases h : d.nm = s
   ·simp [h]
   ·have h' : ¬ s = d.nm := fun e => h e.symm
    rw [if_neg h]
    have hc := ctEn_none d a s d.cs 0
    cases hx : ctEn d a s d.cs 0 with
    | some e =>
     rw [hx] at hc
     have hm : s ∈ d.cs.map Ct.nm := by simpa using hc.symm
     have hm2 : s ∈ d.nm :: (d.cs.map Ct.nm ++ [d.nm ++ recB]) := List.mem_cons_of_mem _ (List.mem_append_left _ hm)
     rw [if_pos hm2, if_neg h']
     simp
    | none =>
     rw [hx] at hc
     have hm : ¬ s ∈ d.cs.map Ct.nm := by simpa using hc.symm
     by_cases hr : d.nm ++ recB = s
     ·have hm2 : s ∈ d.nm :: (d.cs.map Ct.nm ++ [d.nm ++ recB]) := List.mem_cons_of_mem _ (List.mem_append_right _ (by simp [hr]))
      rw [if_pos hm2, if_neg h', if_pos hr]
      simp
     ·have hm2 : ¬ s ∈ d.nm :: (d.cs.map Ct.nm ++ [d.nm ++ recB]) := by
       simp only [List.mem_cons, List.mem_append, List.not_mem_nil, or_false, not_or]
       exact ⟨h', hm, fun e => hr e.symm⟩
      rw [if_neg hm2, if_neg hr]
  ·by_cases h3 : d.k = 4
   ·rw [if_neg h1, if_neg h1, if_neg h1, if_neg h2, if_neg h2, if_neg h2, if_pos h3, if_pos h3]
    rw [first_fu]
    have hc := fuEn_none d a s d.fs 0
    cases hx : fuEn d a s d.fs 0 with
    | some e =>
     rw [hx] at hc
     have hm : s ∈ d.fs.map Fu.nm := by simpa using hc.symm
     rw [if_pos hm]; simp
    | none =>
     rw [hx] at hc
     have hm : ¬ s ∈ d.fs.map Fu.nm := by simpa using hc.symm
     rw [if_neg hm]
   ·rw [if_neg h1, if_neg h1, if_neg h2, if_neg h2, if_neg h3, if_neg h3]
    simp [firstEn]
theorem find_same (s : List UInt8) : ∀ (env : List Dc) (i : Nat), findP s env i = findZ s env i
 | [], _ => rfl
 | d :: env, i => by
  simp only [findP, findZ, first_ent]
  by_cases h : s ∈ namesZ d
  ·simp [h]
  ·simp only [if_neg h]
   exact find_same s env (i + 1)
def EnOk (env : List Dc) (i : Nat) (e : En) : Prop := ∃ (j : Nat) (d : Dc), e.at_ = ((i + j : Nat) : Int) ∧ env[j]? = some d ∧ 0 ≤ e.it ∧ (e.k = 4 → e.it < d.cs.length) ∧ ((e.k = 3 ∨ e.k = 4 ∨ e.k = 5) → d.k = 3)
theorem ctEn_ok (d : Dc) (a : Int) (s : List UInt8) : ∀ (l : List Ct) (i : Nat) (e : En), ctEn d a s l i = some e → e.k = 4 ∧ e.at_ = a ∧ (i : Int) ≤ e.it ∧ e.it < i + l.length
 | [], _, _, h => by simp [ctEn] at h
 | c :: l, i, e, h => by
  simp only [ctEn] at h
  split at h
  ·cases h; exact ⟨rfl, rfl, by simp, by simp; omega⟩
  ·have := ctEn_ok d a s l (i + 1) e h
   simp only [List.length_cons]
   exact ⟨this.1, this.2.1, by omega, by omega⟩
theorem fuEn_ok (d : Dc) (a : Int) (s : List UInt8) : ∀ (l : List Fu) (i : Nat) (e : En), fuEn d a s l i = some e → e.k = 6 ∧ e.at_ = a ∧ (i : Int) ≤ e.it
 | [], _, _, h => by simp [fuEn] at h
 | c :: l, i, e, h => by
  simp only [fuEn] at h
  split at h
  ·cases h; exact ⟨rfl, rfl, by simp⟩
  ·have := fuEn_ok d a s l (i + 1) e h
   exact ⟨this.1, this.2.1, by omega⟩
theorem entZ_ok (d : Dc) (a : Int) (s : List UInt8) (_hs : s ∈ namesZ d) : (entZ d a s).at_ = a ∧ 0 ≤ (entZ d a s).it ∧ ((entZ d a s).k = 4 → (entZ d a s).it < d.cs.length) ∧ (((entZ d a s).k = 3 ∨ (entZ d a s).k = 4 ∨ (entZ d a s).k = 5) → d.k = 3) := by
 unfold entZ
 by_cases h1 : d.k = 0 ∨ d.k = 1 ∨ d.k = 2
 ·rw [if_pos h1]; exact ⟨rfl, by simp, fun h => by simp only at h; omega, fun h => by simp only at h; omega⟩
 ·rw [if_neg h1]
  by_cases h2 : d.k = 3
  ·rw [if_pos h2]
   split
   ·exact ⟨rfl, by simp, fun h => by simp at h, fun _ => h2⟩
   ·cases hx : ctEn d a s d.cs 0 with
    | none => exact ⟨rfl, by simp, fun h => by simp at h, fun _ => h2⟩
    | some e =>
     have := ctEn_ok d a s d.cs 0 e hx
     simp only [Option.getD_some]
     exact ⟨this.2.1, by omega, fun _ => by omega, fun _ => h2⟩
  ·rw [if_neg h2]
   cases hx : fuEn d a s d.fs 0 with
   | none => exact ⟨rfl, by simp, fun h => by simp at h, fun h => by simp at h⟩
   | some e =>
    have := fuEn_ok d a s d.fs 0 e hx
    simp only [Option.getD_some]
    exact ⟨this.2.1, by omega, fun h => by omega, fun h => by omega⟩
theorem findZ_ok (s : List UInt8) : ∀ (env : List Dc) (i : Nat) (e : En), findZ s env i = some e → EnOk env i e
 | [], _, _, h => by simp [findZ] at h
 | d :: env, i, e, h => by
  simp only [findZ] at h
  split at h
  ·rename_i hs
   cases h
   have := entZ_ok d i s hs
   exact ⟨0, d, by rw [this.1]; simp, rfl, this.2⟩
  ·obtain ⟨j, d', h1, h2, h3⟩ := findZ_ok s env (i + 1) e h
   exact ⟨j + 1, d', by rw [h1]; congr 1; omega, by simpa using h2, h3⟩

end Go.Proofs.YtcfcolkbeelegaaGreat
