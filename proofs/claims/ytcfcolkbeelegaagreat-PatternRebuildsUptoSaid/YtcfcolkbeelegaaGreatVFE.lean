import Derived.Test.YtcfcolkbeelegaaGreatVD
import Derived.Test.YtcfcolkbeelegaaGreatVE3
import Derived.Test.YtcfcolkbeelegaaGreatVE1
import Derived.Test.YtcfcolkbeelegaaGreatVFD
set_option maxRecDepth 8000
set_option maxHeartbeats 4000000

namespace Go.Proofs.YtcfcolkbeelegaaGreat

open Go Go.AI
def checkZ (vars params metas levels : Int) (t : Tm) : Int :=
 if chk (if vars < 0 then 0 else vars) params metas levels 0 t ≠ 0 then chk (if vars < 0 then 0 else vars) params metas levels 0 t
 else if 4096 < (t.size : Int) then 5 else if 200 < (t.depth : Int) then 7 else 0
theorem check_any (h : Heap) (hh : WF h) (t : Tm) (vars params metas levels : Int) (hsz : t.size ≤ 1099511627776) (hf : t.fit) :
  ACalls Tryz.prog 45 [t.av, iA vars, iA params, iA metas, iA levels] h fun o h' => o = .ret (iA (checkZ vars params metas levels t)) ∧ h' = h := by
 have hh1 : WF (h ++ [some (.cells (t.cells.map .p))]) := hh.app (by simp)
 have hc := chk_any (if vars < 0 then 0 else vars) params metas levels t.size t 0 _ (Nat.le_refl _) hf (by omega) (by omega) hh1
 have hs := size_any t.size t _ (Nat.le_refl _) hsz hh1
 have hd := depth_any t.size t _ (Nat.le_refl _) hsz hh1
 have hz : ∃ z, checkZ vars params metas levels t = z := ⟨_, rfl⟩
 obtain ⟨z, hz⟩ := hz
 rw [hz]
 unfold checkZ at hz
 generalize chk (if vars < 0 then 0 else vars) params metas levels 0 t = e at hc hz
 generalize t.size = sz at hs hz
 generalize t.depth = dp at hd hz
 obtain ⟨k, i, n, ls, ks⟩ := t
 refine ACalls.of_run Tryz.func45 rfl ?_
 simp only [Tryz.ntmps45, List.length_cons, List.length_nil, Tm.av, cells_mk, List.map]
 refine nv ?_
 refine Run.reg fun K J => ?_
 simp
 refine J _ _ _ (nv ?_); clear J
 refine Run.reg fun K J => ?_
 simp
 refine J _ _ _ ?_; clear J
 refine Run.call rfl rfl (by simp) rfl hc ?_ ?_
 rotate_left
 ·rintro v h' ⟨hv, _⟩; cases hv
 rintro v h' ⟨hv, rfl⟩
 simp only [AOut.ret.injEq] at hv
 subst hv
 refine Run.ops fun K J => ?_
 simp
 refine J _ _ _ (nv ?_); clear J
 refine Run.reg fun K J => ?_
 simp
 refine J _ _ _ (nv ?_); clear J
 by_cases h1 : e = 0
 ·rw [if_neg (by simp [h1])] at hz
  refine cf (by simp [h1]) (nv ?_)
  refine Run.reg fun K J => ?_
  simp
  refine J _ _ _ ?_; clear J
  refine Run.call rfl rfl (by simp) rfl hs ?_ ?_
  rotate_left
  ·rintro v h' ⟨hv, _⟩; cases hv
  rintro v h' ⟨hv, rfl⟩
  simp only [AOut.ret.injEq] at hv
  subst hv
  refine Run.ops fun K J => ?_
  simp
  refine J _ _ _ (nv ?_); clear J
  by_cases h2 : 4096 < (sz : Int)
  ·rw [if_pos h2] at hz
   refine ct (by simp [h2]) (nv ?_)
   repeat (first | refine nw ?_ | (refine Run.reg fun K J => ?_; simp; (try (simp (disch := omega) only [wrap_id])); refine J _ _ _ ?_; clear J) | refine ct rfl ?_ | refine cf rfl ?_ | refine Run.exit rfl ?_ | refine Run.ret ?_)
   exact Fin.ret' (by simp) rfl hh rfl rfl rfl (Weak.refl _) rfl ⟨by rw [← hz]; rfl, rfl⟩
  rw [if_neg h2] at hz
  refine cf (by simp [h2]) (nv ?_)
  refine Run.reg fun K J => ?_
  simp
  refine J _ _ _ ?_; clear J
  refine Run.call rfl rfl (by simp) rfl hd ?_ ?_
  rotate_left
  ·rintro v h' ⟨hv, _⟩; cases hv
  rintro v h' ⟨hv, rfl⟩
  simp only [AOut.ret.injEq] at hv
  subst hv
  refine Run.ops fun K J => ?_
  simp
  refine J _ _ _ (nv ?_); clear J
  by_cases h3 : 200 < (dp : Int)
  ·rw [if_pos h3] at hz
   refine ct (by simp [h3]) (nv ?_)
   repeat (first | refine nw ?_ | (refine Run.reg fun K J => ?_; simp; (try (simp (disch := omega) only [wrap_id])); refine J _ _ _ ?_; clear J) | refine ct rfl ?_ | refine cf rfl ?_ | refine Run.exit rfl ?_ | refine Run.ret ?_)
   exact Fin.ret' (by simp) rfl hh rfl rfl rfl (Weak.refl _) rfl ⟨by rw [← hz]; rfl, rfl⟩
  rw [if_neg h3] at hz
  refine cf (by simp [h3]) (nv ?_)
  repeat (first | refine nw ?_ | (refine Run.reg fun K J => ?_; simp; (try (simp (disch := omega) only [wrap_id])); refine J _ _ _ ?_; clear J) | refine ct rfl ?_ | refine cf rfl ?_ | refine Run.exit rfl ?_ | refine Run.ret ?_)
  exact Fin.ret' (by simp) rfl hh rfl rfl rfl (Weak.refl _) rfl ⟨by rw [← hz]; rfl, rfl⟩
 ·rw [if_pos h1] at hz
  refine ct (by simp [h1]) (nv ?_)
  repeat (first | refine nw ?_ | (refine Run.reg fun K J => ?_; simp; (try (simp (disch := omega) only [wrap_id])); refine J _ _ _ ?_; clear J) | refine ct rfl ?_ | refine cf rfl ?_ | refine Run.exit rfl ?_ | refine Run.ret ?_)
  exact Fin.ret' (by simp) rfl hh rfl rfl rfl (Weak.refl _) rfl ⟨by rw [← hz]; rfl, rfl⟩
def goodAt (l : List Tm) (j : Nat) : Bool := match l[j]? with | some t => checkZ 65536 8 65536 65536 t == 0 | none => true
def goodB (l : List Tm) : Bool := fews l && allTo (goodAt l) l.length
theorem good_any (h : Heap) (hh : WF h) (l : List Tm) (hsz : Tm.sizes l ≤ 1099511627776) (hlv : Tm.lvss l) (hf : Tm.fits l) :
  ACalls Tryz.prog 11 [.p (.sl 5 (tmPs l))] h fun o h' => o = .ret (bA (goodB l)) ∧ h' = h := by
 have hll := length_le_sizes l
 have hfe := few_any (Tm.sizes l) l h (Nat.le_refl _) hsz hlv hh
 refine ACalls.of_run Tryz.func11 rfl ?_
 simp only [Tryz.ntmps11, List.length_cons, List.length_nil]
 refine nv ?_
 refine Run.reg fun K J => ?_
 simp
 refine J _ _ _ (nv ?_); clear J
 refine Run.reg fun K J => ?_
 simp
 refine J _ _ _ ?_; clear J
 refine Run.call rfl rfl (by simp) rfl hfe ?_ ?_
 rotate_left
 ·rintro v h' ⟨hv, _⟩; cases hv
 rintro v h' ⟨hv, rfl⟩
 simp only [AOut.ret.injEq] at hv
 subst hv
 cases hfb : fews l with
 | false =>
  refine Run.ops fun K J => ?_
  simp
  refine J _ _ _ (nv ?_); clear J
  repeat (first | refine nw ?_ | (refine Run.reg fun K J => ?_; simp; (try (simp (disch := omega) only [wrap_id])); refine J _ _ _ ?_; clear J) | refine ct rfl ?_ | refine cf rfl ?_ | refine Run.exit rfl ?_ | refine Run.ret ?_)
  exact Fin.ret' (by simp) rfl hh (List.append_nil _).symm rfl rfl (Weak.refl _) rfl ⟨by simp [goodB, hfb], rfl⟩
 | true =>
  refine Run.ops fun K J => ?_
  simp
  refine J _ _ _ (nv ?_); clear J
  refine cf (by simp) (nv ?_)
  refine Run.reg fun K J => ?_
  simp
  refine J _ _ _ (nv ?_); clear J
  refine Run.loopS [8, 9] (fun j : Nat => j ≤ l.length ∧ allTo (goodAt l) j = true) (fun j => l.length - j) (fun j => [(10, iA j)]) (fun _ => _) 0 (by simp [allTo]) ?_ rfl ?_
  ·simp
   repeat' first | exact wn | apply wc | exact wj _ | exact wr _ | exact wz _ | exact wo _ _ _ | exact wi (by omega)
  rintro j ⟨hj, hall⟩ IH
  simp
  refine nv ?_
  refine Run.reg fun K J => ?_
  simp
  refine J _ _ _ (nv ?_); clear J
  by_cases hjl : j < l.length
  ·have hg : l[j]? = some l[j] := List.getElem?_eq_getElem hjl
   have hs := kid_size hjl
   have hfj := Tm.fits_at hf _ (List.getElem_mem hjl)
   generalize l[j] = u at hg hs hfj
   refine ct (by simp [hjl]) (nv ?_)
   refine Run.reg fun K J => ?_
   simp [hg]
   refine J _ _ _ (nv ?_); clear J
   refine Run.reg fun K J => ?_
   simp
   refine J _ _ _ ?_; clear J
   have hck := fun (g : Heap) (hg : WF g) => check_any g hg u 65536 8 65536 65536 (by omega) hfj
   refine Run.call (args := [u.av, iA 65536, iA 8, iA 65536, iA 65536]) rfl rfl (by simp) rfl (hck _ (hh.app (by simp))) ?_ ?_
   rotate_left
   ·rintro v h' ⟨hv, _⟩; cases hv
   rintro v h' ⟨hv, rfl⟩
   simp only [AOut.ret.injEq] at hv
   subst hv
   refine Run.ops fun K J => ?_
   simp
   refine J _ _ _ (nv ?_); clear J
   by_cases h1 : checkZ 65536 8 65536 65536 u = 0
   ·skip
    refine cf (by simp [h1]) (nv ?_)
    refine Run.reg fun K J => ?_
    simp
    try (simp (disch := omega) only [wrap_id])
    refine J _ _ _ (nv ?_); clear J
    refine Run.keep [8, 9, 10] ?_
    simp
    refine Run.cutAt 0 hh rfl (by omega) (by simp) (by simp) (by simp) rfl ?_
    refine IH (j + 1) _ _ ⟨by omega, by rw [allTo_succ, hall]; simp only [goodAt, hg, h1]; rfl⟩ (by omega) ?_ (by simp)
    simp
    repeat' first | exact wn | apply wc | exact wj _ | exact wr _ | exact wz _ | exact wo _ _ _ | exact wi (by omega)
   ·skip
    refine ct (by simp [h1]) (nv ?_)
    repeat (first | refine nw ?_ | (refine Run.reg fun K J => ?_; simp; (try (simp (disch := omega) only [wrap_id])); refine J _ _ _ ?_; clear J) | refine ct rfl ?_ | refine cf rfl ?_ | refine Run.exit rfl ?_ | refine Run.ret ?_)
    have := allTo_false (p := goodAt l) hjl (by simp only [goodAt, hg]; simpa using h1)
    exact Fin.ret' (by simp) rfl hh rfl rfl rfl (Weak.refl _) rfl ⟨by simp [goodB, this], rfl⟩
  ·have hje : j = l.length := by omega
   subst hje
   refine cf (by simp) ?_
   refine Run.exit rfl ?_
   refine nv ?_
   repeat (first | refine nw ?_ | (refine Run.reg fun K J => ?_; simp; (try (simp (disch := omega) only [wrap_id])); refine J _ _ _ ?_; clear J) | refine ct rfl ?_ | refine cf rfl ?_ | refine Run.exit rfl ?_ | refine Run.ret ?_)
   exact Fin.ret' (by simp) rfl hh (List.append_nil _).symm rfl rfl (Weak.refl _) rfl ⟨by simp [goodB, hfb, hall], rfl⟩


open Go Go.AI
@[simp] theorem patch2 (a b : AV) (t : Lv) : patch [a, b] 0 (t.cells.map AV.p) = t.cells.map AV.p := by cases t; rfl

end Go.Proofs.YtcfcolkbeelegaaGreat

namespace Go.AI

open Go
def buf (sz : Nat) (es : List (List PV)) (m : Nat) : List AV := es.flatten.map .p ++ List.replicate (m * sz) .junk
theorem RepL.junks {E w} : ∀ (l : List Value), RepL E w (List.replicate l.length .junk) l
 | [] => by simp [RepL]
 | v :: l => by simp only [List.length_cons, List.replicate_succ, RepL]; exact ⟨v, l, rfl, by simp only [Rep], RepL.junks l⟩
theorem buf_len {sz : Nat} {es : List (List PV)} {m : Nat} (h : ∀ e ∈ es, e.length = sz) : (buf sz es m).length = (es.length + m) * sz := by
 unfold buf
 rw [List.length_append, List.length_map, flat_length h, List.length_replicate, Nat.add_mul]
theorem buf_under (n sz : Nat) (es : List (List PV)) (m : Nat) : AV.underL n (buf sz es m) = true := by
 have hj : ∀ k, AV.underL n (List.replicate k .junk) = true := by
  intro k
  induction k with
  | zero => simp [AV.underL]
  | succ k ih => simp only [List.replicate_succ, AV.underL, AV.under, ih]; rfl
 have ha : ∀ (xs ys : List AV), AV.underL n xs = true → AV.underL n ys = true → AV.underL n (xs ++ ys) = true := by
  intro xs ys h1 h2
  induction xs with
  | nil => exact h2
  | cons x xs ih => simp only [AV.underL, Bool.and_eq_true, List.cons_append] at h1 ⊢; exact ⟨h1.1, ih h1.2⟩
 refine ha _ _ ?_ (hj _)
 generalize es.flatten = l
 induction l with
 | nil => simp [AV.underL]
 | cons x l ih => simp only [List.map_cons, AV.underL, AV.under, ih]; rfl
theorem buf_put {sz : Nat} {es ys : List (List PV)} {m : Nat} (h : ∀ e ∈ es, e.length = sz) (hy : ∀ e ∈ ys, e.length = sz) (hm : ys.length ≤ m) :
  patch (buf sz es m) (es.length * sz) (ys.flatten.map .p) = buf sz (es ++ ys) (m - ys.length) := by
 have hle : (ys.flatten.map AV.p).length = ys.length * sz := by rw [List.length_map, flat_length hy]
 have h1 : (es.flatten.map AV.p).length = es.length * sz := by rw [List.length_map, flat_length h]
 have hsp : m * sz = ys.length * sz + (m - ys.length) * sz := by rw [← Nat.add_mul]; congr 1; omega
 unfold buf
 rw [← h1, ← Nat.add_zero ((es.flatten.map AV.p).length), patch_skip, hsp, ← List.replicate_append_replicate, patch_full _ _ _ (by rw [hle, List.length_replicate]), List.flatten_append, List.map_append, List.append_assoc]

section

variable {P : Program} {rd : Option Nat} {nb : Nat} {k : List It} {T : List AV} {h : Heap} {D : List AD} {Q : AX → List AV → Heap → List AD → Prop} {all : Array Oper} {o : Oper} {rest : List Oper}
theorem runOps_pre (b : List Oper) : ∀ (l : List Oper) (T : List AV) (h : Heap), runOps P all (fun l T h => Run P rd nb (.ops all (l ++ b) :: k) T h D Q) l T h → Run P rd nb (.ops all (l ++ b) :: k) T h D Q
 | [], T, h, r => r
 | o :: l, T, h, r => by
  simp only [runOps] at r
  split at r
  ·rename_i hw
   split at r
   ·rename_i x h' ho
    exact Run.op hw ho (runOps_pre b l _ _ r)
   ·exact r
  ·rename_i hw
   exact Run.off hw (runOps_pre b l _ _ r)
  ·exact r
theorem Run.opsPre (n : Nat) {l : List Oper} (r : ∀ K : List Oper → List AV → Heap → Prop, (∀ l' T h, Run P rd nb (.ops all (l' ++ l.drop n) :: k) T h D Q → K l' T h) → runOps P all K (l.take n) T h) : Run P rd nb (.ops all l :: k) T h D Q := by
 have := runOps_pre (P := P) (rd := rd) (nb := nb) (all := all) (k := k) (D := D) (Q := Q) (l.drop n) (l.take n) T h (r _ fun _ _ _ h => h)
 rwa [List.take_append_drop] at this
theorem Run.opR {R : AV → Heap → Prop} (hw : awanted all T o = some true) (hnd : ∀ c, o.op ≠ .defer c)
  (ho : ∀ E w a, St E w a T h D → ∃ x h' E' w' v, R x h' ∧ (execOp a.eval o).run P w = .ok (.value v) w' ∧ Rel E' (Heap.at h') w' ∧ Fresh E' h'.length ∧ Rep E' w' x v ∧ Fr E (Heap.at h) w E' (Heap.at h') w')
  (r : ∀ x h', R x h' → Run P rd nb (.ops all rest :: k) (tput T o.dst x) h' D Q) : Run P rd nb (.ops all (o :: rest) :: k) T h D Q := by
 intro E w a s
 obtain ⟨x, h', E', w', v, hR, hrun, hr, hf, hx, hfr⟩ := ho E w a s
 have s' : St E' w' (a.put o.dst v) (tput T o.dst x) h' D := (s.move hfr hr hf).put hx o.dst
 have := r x h' hR E' w' _ s'
 have hk := K_mono (P := P) (rd := rd) (Post.of_fr (Q := Q) hfr) (.ops all rest :: k) _ _ _ this
 show wpListIn (fen rd) 0 P all (K P rd (Post nb Q E h w) k) (o :: rest) a w
 simp only [wpListIn]
 rw [awanted_sound s hw]
 simp only [if_true]
 refine ⟨fun _ _ => trivial, ?_⟩
 rw [Oper.semAt_eq _ _ _ hnd, hrun]
 exact hk
theorem row_new {E : Env} {w : World} {sz c' : Nat} {es : List (List PV)} {vals zs : List Value} {e : TypeId} (r : Rel E h.at w) (hf : Fresh E h.length) (hv : RepL E w (es.flatten.map .p) vals) (hz : zs.length = (c' - es.length) * sz) :
  ∃ E', Rel E' (Heap.at (h ++ [some (.cells (buf sz es (c' - es.length)))])) (w.drew.alloc (.cells (List.toArray (vals ++ zs)) e (0, 0))) ∧ Fresh E' (h.length + 1) ∧
   Fr E h.at w E' (Heap.at (h ++ [some (.cells (buf sz es (c' - es.length)))])) (w.drew.alloc (.cells (List.toArray (vals ++ zs)) e (0, 0))) ∧ E'.g h.length = some w.heap.size := by
 have hb : RepL E w.drew (buf sz es (c' - es.length)) (vals ++ zs) := by
  unfold buf
  refine RepL.append (RepL.ext (E := E) (w := w) (E' := E) (w' := w.drew) ⟨fun _ _ h => h, fun _ _ _ => rfl, fun _ _ h => h, fun _ L h => ⟨L, h, Nat.le_refl _, fun _ => rfl⟩⟩ hv) ?_
  rw [← hz]
  exact RepL.junks zs
 have hd := r.of_heap (w' := w.drew) rfl rfl rfl
 obtain ⟨h1, h2, h3⟩ := hd.1.alloc hf hb e
 exact ⟨_, h1, h3, hd.2.trans h2, if_pos rfl⟩
theorem exec_append {a : Act} {s x : Operand} {t : TypeId} {v : Value} {w w' : World} (ho : o.op = .call ⟨.builtin .append, #[s, x], #[t, t]⟩) (hrun : (Builtin.append_ #[t, t] o.type #[a.eval s, a.eval x]).run P w = .ok v w') :
  (execOp a.eval o).run P w = .ok (.value v) w' := by
 simp only [execOp, ho, resolve, Sem.run_bind, Sem.run_pure, Result.andThen_ok, invoke]
 simp [builtin, hrun]
theorem Run.appendN {s x : Operand} {t e : TypeId} {ys : List (List PV)} {sz by_ : Nat} {z : List Value} (ho : o.op = .call ⟨.builtin .append, #[s, x], #[t, t]⟩) (hw : awanted all T o = some true) (he : elT P t = some e) (hsz : szT P e = some sz) (hby : byT P e = some by_) (hz : zeroT P e = some z)
  (hs : aev T s = .p (.prim (.slice none 0 0))) (hx : srcA (aev T x) = some ys) (hx2 : srcSz sz (aev T x) = true) (hpos : 0 < ys.length) (hb : ys.length * by_ ≤ 140737488355328) (hb2 : ys.length ≤ 9223372036854775807)
  (r : ∀ c', ys.length ≤ c' → Run P rd nb (.ops all rest :: k) (tput T o.dst (.sm h.length 0 ys.length c' sz)) (h ++ [some (.cells (buf sz ys (c' - ys.length)))]) D Q) : Run P rd nb (.ops all (o :: rest) :: k) T h D Q := by
 refine Run.opR (R := fun x h' => ∃ c', ys.length ≤ c' ∧ x = .sm h.length 0 ys.length c' sz ∧ h' = h ++ [some (.cells (buf sz ys (c' - ys.length)))]) hw (fun c hc => by rw [hc] at ho; cases ho) ?_ (by rintro x h' ⟨c', h1, rfl, rfl⟩; exact r c' h1)
 intro E w a st
 have hsr := aev_rep st s
 rw [hs] at hsr
 simp only [Rep, RepP] at hsr
 have hX := src_rep hx hx2 (aev_rep st x)
 simp only [RepP] at hX
 obtain ⟨ad, cx, hxv, _, hX⟩ := hX
 have hne : ys ≠ [] := by intro h0; rw [h0] at hpos; simp at hpos
 obtain ⟨b, off, rfl, hr⟩ := hX.resolve_left hne
 have hu := und_elT he
 obtain ⟨i, zv, hi, hzv, hzc, hzl, _⟩ := zeroT_parts hz
 have hisz : i.size = sz := by unfold szT at hsz; rw [hi] at hsz; simpa using hsz
 have hiby : i.bytes = by_ := by unfold byT at hby; rw [hi] at hby; simpa using hby
 have hyl := hr.length
 obtain ⟨news, n1, n2, n3⟩ := hr.values
 have hrun := run_append_nil (P := P) w t o.type e i zv hu hi hzv ⟨b, off, none⟩ ys.length cx news (by rw [n1, hisz]) (fun j v hj => by rw [addr_add]; exact n2 j v hj) hpos (by omega) (by rw [hiby]; omega)
 have hzs : ((Builtin.zeroCells zv.cells (grownCap w ys.length 0 e - ys.length)).toList).length = (grownCap w ys.length 0 e - ys.length) * sz := by
  rw [Array.length_toList, size_zeroCells, hzc]; simp [hzl, hisz]
 obtain ⟨E', g1, g2, g3, g4⟩ := row_new (h := h) (e := e) st.rel st.fresh n3 hzs
 refine ⟨_, _, E', _, .slice (some ⟨w.heap.size, 0, none⟩) ys.length (grownCap w ys.length 0 e), ⟨grownCap w ys.length 0 e, le_grownCap w _ 0 e, rfl, rfl⟩, ?_, g1, by simpa using g2, ?_, g3⟩
 ·have hq : List.toArray (news ++ (Builtin.zeroCells zv.cells (grownCap w ys.length 0 e - ys.length)).toList) = news.toArray ++ Builtin.zeroCells zv.cells (grownCap w ys.length 0 e - ys.length) := by
   apply Array.ext'; simp
  rw [hq]
  exact exec_append ho (by rw [hsr.1, hxv]; exact hrun)
 ·simp only [Rep]
  exact ⟨_, g4, rfl⟩
theorem Run.appendS {s x : Operand} {t e : TypeId} {es ys : List (List PV)} {id cap sz by_ : Nat} {z : List Value} (ho : o.op = .call ⟨.builtin .append, #[s, x], #[t, t]⟩) (hw : awanted all T o = some true) (he : elT P t = some e) (hsz : szT P e = some sz) (hby : byT P e = some by_) (hz : zeroT P e = some z)
  (hs : aev T s = .sm id 0 es.length cap sz) (hid : h.at id = some (.cells (buf sz es (cap - es.length)))) (hes : ∀ e ∈ es, e.length = sz) (hcap : es.length ≤ cap) (hx : srcA (aev T x) = some ys) (hx2 : srcSz sz (aev T x) = true) (hpos : 0 < ys.length)
  (hb : (es.length + ys.length) * by_ ≤ 140737488355328) (hb2 : es.length + ys.length ≤ 9223372036854775807)
  (r1 : es.length + ys.length ≤ cap → Run P rd nb (.ops all rest :: k) (tput T o.dst (.sm id 0 (es.length + ys.length) cap sz)) (h.set id (some (.cells (buf sz (es ++ ys) (cap - (es.length + ys.length)))))) D Q)
  (r2 : ∀ c', es.length + ys.length ≤ c' → Run P rd nb (.ops all rest :: k) (tput T o.dst (.sm h.length 0 (es.length + ys.length) c' sz)) (h ++ [some (.cells (buf sz (es ++ ys) (c' - (es.length + ys.length))))]) D Q) : Run P rd nb (.ops all (o :: rest) :: k) T h D Q := by
 refine Run.opR (R := fun x h' => (es.length + ys.length ≤ cap ∧ x = .sm id 0 (es.length + ys.length) cap sz ∧ h' = h.set id (some (.cells (buf sz (es ++ ys) (cap - (es.length + ys.length)))))) ∨
   ∃ c', es.length + ys.length ≤ c' ∧ x = .sm h.length 0 (es.length + ys.length) c' sz ∧ h' = h ++ [some (.cells (buf sz (es ++ ys) (c' - (es.length + ys.length))))]) hw (fun c hc => by rw [hc] at ho; cases ho) ?_
  (by rintro x h' (⟨h1, rfl, rfl⟩ | ⟨c', h1, rfl, rfl⟩)
      ·exact r1 h1
      ·exact r2 c' h1)
 intro E w a st
 have hsr := aev_rep st s
 rw [hs] at hsr
 simp only [Rep] at hsr
 obtain ⟨g, hg, hsv⟩ := hsr
 have hX := src_rep hx hx2 (aev_rep st x)
 simp only [RepP] at hX
 obtain ⟨ad, cx, hxv, _, hX⟩ := hX
 have hne : ys ≠ [] := by intro h0; rw [h0] at hpos; simp at hpos
 obtain ⟨b, off, rfl, hr⟩ := hX.resolve_left hne
 have hu := und_elT he
 obtain ⟨i, zv, hi, hzv, hzc, hzl, _⟩ := zeroT_parts hz
 have hisz : i.size = sz := by unfold szT at hsz; rw [hi] at hsz; simpa using hsz
 have hiby : i.bytes = by_ := by unfold byT at hby; rw [hi] at hby; simpa using hby
 have hyl := hr.length
 obtain ⟨news, n1, n2, n3⟩ := hr.values
 obtain ⟨g', cur, hg', hrow, hreps⟩ := st.rel.objs id _ hid
 rw [hg] at hg'; cases hg'
 have hcl := hreps.length
 rw [buf_len hes] at hcl
 have hmul : (es.length + (cap - es.length)) * sz = cap * sz := by congr 1; omega
 have hadd : (es.length + ys.length) * sz = es.length * sz + ys.length * sz := Nat.add_mul _ _ _
 by_cases hroom : es.length + ys.length ≤ cap
 ·have hmulle : (es.length + ys.length) * sz ≤ cap * sz := Nat.mul_le_mul_right _ hroom
  obtain ⟨w', hrun, hrow', hsame, hsize, hos, hout⟩ := append_room (P := P) (ty := o.type) hu hi hrow (a := ⟨b, off, none⟩) (m := ys.length) (c := cx) (news := news) (n := es.length) (cap := cap) (by rw [n1, hisz]) (fun j v hj => by rw [addr_add]; exact n2 j v hj)
   (RepL.one_p n3) hroom (by rw [hisz]; omega)
  rw [hisz] at hrow'
  have hnew : RepL E w (buf sz (es ++ ys) (cap - (es.length + ys.length))) (patch cur (es.length * sz) news) := by
   have := RepL.patch (es.length * sz) n3 hreps
   rw [buf_put hes hyl (by omega)] at this
   rwa [show cap - es.length - ys.length = cap - (es.length + ys.length) by omega] at this
  have hx : Ext E w E w' := ⟨fun _ _ h => h, fun b' off' hb' => cell_of_heap (hsame b' (fun e => st.rel.sep id _ g off' hid hg (e ▸ hb'))) off', fun _ _ h => h, fun _ L h => ⟨L, h, Nat.le_refl _, fun _ => rfl⟩⟩
  obtain ⟨g1, g2⟩ := st.rel.writeO hid rfl (o' := .cells (buf sz (es ++ ys) (cap - (es.length + ys.length)))) rfl hg (fun hx => ⟨_, hrow', hnew.ext hx⟩) hsame hsize hos hout
  refine ⟨_, _, E, w', .slice (some ⟨g, 0, none⟩) (es.length + ys.length) cap, .inl ⟨hroom, rfl, rfl⟩, ?_, g1, by simpa using st.fresh, ?_, g2⟩
  ·exact exec_append ho (by rw [hsv, hxv]; exact hrun)
  ·simp only [Rep]
   exact ⟨g, hg, rfl⟩
 ·have holds : ∀ j v, (cur.take (es.length * sz))[j]? = some v → w.cell? ((⟨g, 0, none⟩ : Addr).add j) = some v := by
   intro j v hj
   rw [addr_add, Nat.zero_add, hrow.cell]
   rw [List.getElem?_take] at hj
   split at hj
   ·exact hj
   ·cases hj
  have hlec : es.length * sz ≤ cap * sz := Nat.mul_le_mul_right _ hcap
  have hol : (cur.take (es.length * sz)).length = es.length * sz := by rw [List.length_take]; omega
  have horep : RepL E w (es.flatten.map .p) (cur.take (es.length * sz)) := by
   have := hreps.take (es.length * sz)
   have hel : (es.flatten.map AV.p).length = es.length * sz := by rw [List.length_map, flat_length hes]
   unfold buf at this
   rwa [List.take_append_of_le_length (by omega), List.take_of_length_le (by omega)] at this
  have hrun := run_append_grow (P := P) w t o.type e i zv hu hi hzv ⟨g, 0, none⟩ es.length cap (cur.take (es.length * sz)) (by rw [hol, hisz]) holds ⟨b, off, none⟩ ys.length cx news (by rw [n1, hisz])
   (fun j v hj => by rw [addr_add]; exact n2 j v hj) (by omega) (by omega) (growslice_fits (by omega) (by rw [hiby]; exact hb))
  have hzs : ((Builtin.zeroCells zv.cells (grownCap w (es.length + ys.length) cap e - (es.length + ys.length))).toList).length = (grownCap w (es.length + ys.length) cap e - (es ++ ys).length) * sz := by
   rw [Array.length_toList, size_zeroCells, hzc]; simp [hzl, hisz]
  obtain ⟨E', g1, g2, g3, g4⟩ := row_new (h := h) (e := e) (es := es ++ ys) st.rel st.fresh (by rw [List.flatten_append, List.map_append]; exact horep.append n3) hzs
  rw [List.length_append] at g1 g3
  refine ⟨_, _, E', _, .slice (some ⟨w.heap.size, 0, none⟩) (es.length + ys.length) (grownCap w (es.length + ys.length) cap e), .inr ⟨grownCap w (es.length + ys.length) cap e, le_grownCap w _ cap e, rfl, rfl⟩, ?_, g1, by simpa using g2, ?_, g3⟩
  ·have hq : List.toArray (cur.take (es.length * sz) ++ news ++ (Builtin.zeroCells zv.cells (grownCap w (es.length + ys.length) cap e - (es.length + ys.length))).toList) =
     (cur.take (es.length * sz)).toArray ++ news.toArray ++ Builtin.zeroCells zv.cells (grownCap w (es.length + ys.length) cap e - (es.length + ys.length)) := by
    apply Array.ext'; simp
   rw [hq]
   exact exec_append ho (by rw [hsv, hxv]; exact hrun)
  ·simp only [Rep]
   exact ⟨_, g4, rfl⟩
theorem Run.freezeS (slot : Nat) {id n cap sz m : Nat} {es : List (List PV)} (hs : tget T slot = .sm id 0 n cap sz) (hat : h.at id = some (.cells (buf sz es m))) (hes : ∀ e ∈ es, e.length = sz) (hn : es.length = n) (hcap : n ≤ cap)
  (r : Run P rd nb k (T.set slot (.p (.sl sz es))) (h.set id none) D Q) : Run P rd nb k T h D Q := by
 intro E w a s
 have hv := s.tmps.get slot
 rw [← tget_eq, hs] at hv
 simp only [Rep] at hv
 obtain ⟨b, hg, hv⟩ := hv
 obtain ⟨b', vals, hg', hrow, hreps⟩ := s.rel.objs id _ hat
 rw [hg] at hg'; cases hg'
 obtain ⟨f1, f2⟩ := s.rel.freeze hat hg
 have s' := s.move f2 f1 (fun i hi => s.fresh i (by simpa using hi))
 have hel : (es.flatten.map AV.p).length = es.length * sz := by rw [List.length_map, flat_length hes]
 have hx : Rep { E with ro := fun b' off => E.ro b' off ∨ b' = b } w (.p (.sl sz es)) (.slice (some ⟨b, 0, none⟩) n cap) := by
  simp only [Rep, RepP]
  refine ⟨_, cap, by rw [hn], by omega, .inr ⟨b, 0, rfl, ?_⟩⟩
  refine RepEs.of_row (vs := vals.take (es.length * sz)) hes (fun j v hj => ⟨.inr rfl, ?_⟩) ?_
  ·rw [hrow.cell, Nat.zero_add]
   rw [List.getElem?_take] at hj
   split at hj
   ·exact hj
   ·cases hj
  ·have := (hreps.ext f2.ext).take (es.length * sz)
   unfold buf at this
   rwa [List.take_append_of_le_length (by omega), List.take_of_length_le (by omega)] at this
 have hset := s'.tmps.set hx slot
 have hsame : (a.tmps.toList).set slot (.slice (some ⟨b, 0, none⟩) n cap) = a.tmps.toList := by
  apply List.ext_getElem?
  intro j
  rw [List.getElem?_set]
  split
  ·rename_i e; subst e
   rcases Nat.lt_or_ge slot a.tmps.size with l | l
   ·simp [l] at hv ⊢; exact hv.symm
   ·have l' : ¬ slot < a.tmps.size := by omega
    simp [l']
  ·rfl
 rw [hsame] at hset
 exact K_mono (P := P) (rd := rd) (Post.of_fr (Q := Q) f2) k _ _ _ (r _ w a ⟨s'.rel, s'.fresh, hset, s'.defers⟩)

end

end Go.AI
