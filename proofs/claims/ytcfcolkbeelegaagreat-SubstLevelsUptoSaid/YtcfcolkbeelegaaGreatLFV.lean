/-
  Rows that grow and may be written, under one name: laid, appended to, sorted, given up.
-/
import Derived.Test.YtcfcolkbeelegaaGreatLFS

namespace Go.AI

open Go

section

variable {P : Program} {rd : Option Nat} {nb : Nat} {k : List It} {T : List AV} {h : Heap} {D : List AD} {Q : AX → List AV → Heap → List AD → Prop} {all : Array Oper} {o : Oper} {rest : List Oper}
theorem Run.vecAt (id off sz : Nat) {cs : List AV} (hid : h.at id = some (.cells cs)) (hs : cs[off]? = some (.p (.prim (.slice none 0 0)))) (r : Run P rd nb k T (h.set id (some (.cells (cs.set off (.vec h.length 0)))) ++ [some (.vec sz [])]) D Q) : Run P rd nb k T h D Q := by
  intro E w a s
  have hlt := lt_of_at hid
  obtain ⟨t1, t2, t3⟩ := s.rel.newTk s.fresh (tk := .vec sz []) (sz := sz) rfl
  have s' := s.move t2 t1 (by simpa using t3)
  have hid' : Heap.at (h ++ [some (.vec sz [])]) id = some (.cells cs) := by rw [at_append, if_neg (by omega)]; exact hid
  obtain ⟨b, vs, hg, hrow, hreps⟩ := s'.rel.objs id cs hid'
  have hx : Rep { E with t := fun id => if id = h.length then some ⟨none, 0, 0⟩ else E.t id } w (.vec h.length 0) (.slice none 0 0) := by
    simp only [Rep]
    exact ⟨⟨none, 0, 0⟩, by simp, Nat.le_refl _, none, 0, rfl, fun _ => ⟨rfl, rfl⟩⟩
  have hoff : off < cs.length := (List.getElem?_eq_some_iff.1 hs).1
  have hl := hreps.length
  have hv : vs[off]? = some (.slice none 0 0) := by
    have := hreps.get off
    simp only [List.getD, hs, Option.getD_some, List.getElem?_eq_getElem (show off < vs.length by omega), Rep, RepP] at this
    rw [List.getElem?_eq_getElem (show off < vs.length by omega), this.1]
  have hsame : vs.set off (.slice none 0 0) = vs := by
    apply List.ext_getElem?
    intro j
    rw [List.getElem?_set]
    split
    · rename_i e; subst e; simp [show off < vs.length by omega] at hv ⊢; exact hv.symm
    · rfl
  have hset := hreps.set hx off
  rw [hsame] at hset
  obtain ⟨w1, w2⟩ := s'.rel.write hid' hg hrow (fun _ _ => rfl) rfl rfl rfl hset
  have e : List.set (h ++ [some (AO.vec sz [])]) id (some (.cells (cs.set off (.vec h.length 0)))) = h.set id (some (.cells (cs.set off (.vec h.length 0)))) ++ [some (.vec sz [])] := List.set_append_left _ _ hlt
  rw [e] at w1 w2
  have s2 := s'.move w2 w1 (by simpa using t3)
  exact K_mono (P := P) (rd := rd) (Post.of_fr (Q := Q) (t2.trans w2)) k _ _ _ (r _ w a s2)
theorem Rel.forget {E : Env} {h : Heap} {w : World} (r : Rel E h.at w) {id : Nat} : Rel E (Heap.at (h.set id none)) w ∧ Fr E h.at w E (Heap.at (h.set id none)) w := by
  have hat : ∀ id' o, Heap.at (h.set id none) id' = some o → h.at id' = some o := by
    intro id' o e
    unfold Heap.at at e ⊢
    by_cases e' : id = id'
    · subst e'
      rw [List.getElem?_set_self'] at e
      cases hh : h[id]? <;> simp [hh] at e
    · rwa [List.getElem?_set_ne e'] at e
  have hO : ∀ id' b', Owns E (Heap.at (h.set id none)) id' b' → Owns E h.at id' b' := by
    intro id' b' ho
    rcases ho with ⟨c, h1, h3, h2⟩ | ⟨c, x, c', m, h1, hk, h2⟩
    · exact .inl ⟨c, hat _ _ h1, h3, h2⟩
    · exact .inr ⟨c, x, c', m, hat _ _ h1, hk, h2⟩
  exact ⟨⟨fun id' c hc hm => r.objsO id' c (hat _ _ hc) hm, fun id' c n sz k cs hc hk => r.toks id' c n sz k cs (hat _ _ hc) hk, fun i i' b' h1 h2 => r.inj i i' b' (hO _ _ h1) (hO _ _ h2), fun id' c b' off hc hm => r.sepO id' c b' off (hat _ _ hc) hm,
    fun id' c n sz k cs b' c' m off hc => r.sepT id' c n sz k cs b' c' m off (hat _ _ hc), r.lt⟩,
    ⟨fun _ _ _ => rfl, Ext.refl _ _, fun _ _ h => .inl h, Nat.le_refl _, fun b' ⟨i, ho⟩ => .inl ⟨i, hO _ _ ho⟩, Kp.refl w⟩⟩
theorem flat_rep {E w} {es ys : List (List PV)} {vs us : List Value} (h1 : RepL E w (es.flatten.map .p) vs) (h2 : RepL E w (ys.flatten.map .p) us) : RepL E w ((es ++ ys).flatten.map .p) (vs ++ us) := by
  rw [List.flatten_append, List.map_append]; exact h1.append h2
theorem vec_fresh {E : Env} {id b c n : Nat} {R : Nat → Nat → Prop} {o : Option AO} (hf : Fresh E h.length) (hlt : id < h.length) :
    Fresh { E with ro := R, t := fun j => if j = id then some ⟨some b, c, n⟩ else E.t j } (h.set id o).length := by
  intro j hj
  rw [List.length_set] at hj
  exact ⟨(hf j hj).1, by show (if j = id then _ else _) = _; rw [if_neg (by omega)]; exact (hf j hj).2⟩
theorem Run.appendV {s x : Operand} {t e : TypeId} {es ys : List (List PV)} {id sz by_ : Nat} {z : List Value} (ho : o.op = .call ⟨.builtin .append, #[s, x], #[t, t]⟩) (hw : awanted all T o = some true) (he : elT P t = some e) (hsz : szT P e = some sz) (hby : byT P e = some by_) (hz : zeroT P e = some z)
    (hs : aev T s = .vec id es.length) (hid : h.at id = some (.vec sz es)) (hes : ∀ e ∈ es, e.length = sz) (hx : srcA (aev T x) = some ys) (hx2 : srcSz sz (aev T x) = true) (hpos : 0 < ys.length)
    (hb : (es.length + ys.length) * by_ ≤ 140737488355328) (hb2 : es.length + ys.length ≤ 9223372036854775807)
    (r : Run P rd nb (.ops all rest :: k) (tput T o.dst (.vec id (es.length + ys.length))) (h.set id (some (.vec sz (es ++ ys)))) D Q) : Run P rd nb (.ops all (o :: rest) :: k) T h D Q := by
  refine Run.opR (R := fun x h' => x = .vec id (es.length + ys.length) ∧ h' = h.set id (some (.vec sz (es ++ ys)))) hw (fun c hc => by rw [hc] at ho; cases ho) ?_ (by rintro x h' ⟨rfl, rfl⟩; exact r)
  intro E w a st
  have hlt := lt_of_at hid
  have hsr := aev_rep st s
  rw [hs] at hsr
  simp only [Rep] at hsr
  obtain ⟨L, hL, _, ad0, cap0, hsv, hcur⟩ := hsr
  obtain ⟨blk, cap, ht, k1, k2, k3⟩ := st.rel.toks id _ _ _ _ _ hid rfl
  rw [hL] at ht; cases ht
  obtain ⟨ha0, hc0⟩ := hcur rfl
  simp only at hc0
  rw [ha0, hc0] at hsv
  have hX := src_rep hx hx2 (aev_rep st x)
  simp only [RepP] at hX
  obtain ⟨ad, cx, hxv, _, hX⟩ := hX
  have hne : ys ≠ [] := by intro h0; rw [h0] at hpos; simp at hpos
  obtain ⟨b, off, rfl, hr⟩ := hX.resolve_left hne
  have hu := und_elT he
  obtain ⟨i, zv, hi, hzv, hzc, hzl, _⟩ := zeroT_parts hz
  have hisz : i.size = sz := by unfold szT at hsz; rw [hi] at hsz; simpa using hsz
  have hiby : i.bytes = by_ := by unfold byT at hby; rw [hi] at hby; simpa using hby
  have hyl := hr.length
  obtain ⟨news, n1, n2, n3⟩ := hr.values
  have hlY : (ys.flatten.map AV.p).length = ys.length * sz := by rw [List.length_map, flat_length hyl]
  have hlE : (es.flatten.map AV.p).length = es.length * sz := by rw [List.length_map, flat_length hes]
  have hadd : (es.length + ys.length) * sz = es.length * sz + ys.length * sz := Nat.add_mul _ _ _
  have hlA : ((es ++ ys).flatten.map AV.p).length = (es.length + ys.length) * sz := by rw [List.flatten_append, List.map_append, List.length_append, hlE, hlY, hadd]
  have hk' : (AO.vec sz (es ++ ys)).tk = some (es.length + ys.length, sz, 0, (es ++ ys).flatten.map .p) := by simp [AO.tk]
  cases blk with
  | none =>
    have hc0 := k2 rfl
    have he0 : es = [] := List.eq_nil_of_length_eq_zero (by omega)
    subst he0
    subst hc0
    have hrun := run_append_nil (P := P) w t o.type e i zv hu hi hzv ⟨b, off, none⟩ ys.length cx news (by rw [n1, hisz]) (fun j v hj => by rw [addr_add]; exact n2 j v hj) hpos (by simp at hb2; omega) (by rw [hiby]; simp at hb; omega)
    have hzs : ((Builtin.zeroCells zv.cells (grownCap w ys.length 0 e - ys.length)).toList).length = (grownCap w ys.length 0 e - ys.length) * sz := by
      rw [Array.length_toList, size_zeroCells, hzc]; simp [hzl, hisz]
    have hle := le_grownCap w ys.length 0 e
    have hq : List.toArray (news ++ (Builtin.zeroCells zv.cells (grownCap w ys.length 0 e - ys.length)).toList) = news.toArray ++ Builtin.zeroCells zv.cells (grownCap w ys.length 0 e - ys.length) := by
      apply Array.ext'; simp
    rw [← hq] at hrun
    obtain ⟨g1, g2⟩ := st.rel.growG (w' := w.drew.alloc (.cells (List.toArray (news ++ (Builtin.zeroCells zv.cells (grownCap w ys.length 0 e - ys.length)).toList)) e (0, 0))) (b := w.heap.size) (c' := grownCap w ys.length 0 e) (vs := news ++ (Builtin.zeroCells zv.cells (grownCap w ys.length 0 e - ys.length)).toList)
      (o' := .vec sz ([] ++ ys)) (m := ys.length) hid rfl hk' (Nat.le_refl _) (.inl hpos) (.inr (Nat.le_refl _)) ⟨e, alloc_new (w := w.drew) _⟩
      (by rw [List.length_append, n1, hzs, ← Nat.add_mul]; congr 1; omega) (by simpa using hle) (fun b' _ hb' => alloc_old (w := w.drew) _ hb') (fun off ho => by have := st.rel.lt _ _ ho; omega) (by rw [alloc_size]; show w.heap.size ≤ w.heap.size + 1; omega) ⟨rfl, rfl⟩
      (fun E' hx' _ => by
        rw [hlA, List.take_append_of_le_length (by rw [n1]; simp), List.take_of_length_le (by rw [n1]; simp), List.nil_append]
        exact n3.ext hx')
    refine ⟨_, _, _, _, .slice (some ⟨w.heap.size, 0, none⟩) ys.length (grownCap w ys.length 0 e), ⟨rfl, rfl⟩, ?_, g1, vec_fresh st.fresh hlt, ?_, g2⟩
    · exact exec_append ho (by rw [hsv, hxv]; exact hrun)
    · simp only [Rep]
      exact ⟨⟨some w.heap.size, grownCap w ys.length 0 e, ([] : List (List PV)).length + ys.length⟩, by simp, by simp, _, grownCap w ys.length 0 e, by simp, fun _ => ⟨rfl, rfl⟩⟩
  | some g =>
    obtain ⟨cur, hrow, hcl, hcr⟩ := k3 g rfl
    have hnro : ∀ off, ¬ E.ro g off := fun off => st.rel.sepT id _ _ _ _ _ g _ _ off hid rfl hL (by omega)
    have hlec : es.length * sz ≤ cap * sz := Nat.mul_le_mul_right _ k1
    rw [hlE] at hcr
    by_cases hroom : es.length + ys.length ≤ cap
    · have hmulle : (es.length + ys.length) * sz ≤ cap * sz := Nat.mul_le_mul_right _ hroom
      obtain ⟨w', hrun, hrow', hsame, hsize, hos, hout⟩ := append_room (P := P) (ty := o.type) hu hi hrow (a := ⟨b, off, none⟩) (m := ys.length) (c := cx) (news := news) (n := es.length) (cap := cap) (by rw [n1, hisz]) (fun j v hj => by rw [addr_add]; exact n2 j v hj)
        (RepL.one_p n3) hroom (by rw [hisz]; omega)
      rw [hisz] at hrow'
      obtain ⟨g1, g2⟩ := st.rel.growG (w' := w') (b := g) (c' := cap) (vs := patch cur (es.length * sz) news) (o' := .vec sz (es ++ ys)) (m := ys.length) hid rfl hk' (Nat.le_refl _) (.inl hpos) (.inl ⟨_, hL, rfl⟩) hrow'
        (by rw [patch_length]; exact hcl) hroom (fun b' hne _ => hsame b' hne) (fun off ho => absurd ho (hnro off)) (by omega) ⟨hos, hout⟩
        (fun E' hx' _ => by
          rw [hlA]
          have e1 : patch cur (es.length * sz) news = cur.take (es.length * sz) ++ patch (cur.drop (es.length * sz)) 0 news := by
            have hh := patch_skip news (cur.take (es.length * sz)) (cur.drop (es.length * sz)) 0
            rw [List.take_append_drop, List.length_take, Nat.min_eq_left (by omega), Nat.add_zero] at hh
            exact hh
          have e2 : patch (cur.drop (es.length * sz)) 0 news = news ++ (cur.drop (es.length * sz)).drop (ys.length * sz) := by
            have hh := patch_full news ((cur.drop (es.length * sz)).take (ys.length * sz)) ((cur.drop (es.length * sz)).drop (ys.length * sz)) (by rw [List.length_take, List.length_drop]; omega)
            rwa [List.take_append_drop] at hh
          rw [e1, e2, ← List.append_assoc, List.take_append_of_le_length (by rw [List.length_append, List.length_take]; omega), List.take_of_length_le (by rw [List.length_append, List.length_take]; omega)]
          exact flat_rep (hcr.ext hx') (n3.ext hx'))
      refine ⟨_, _, _, w', .slice (some ⟨g, 0, none⟩) (es.length + ys.length) cap, ⟨rfl, rfl⟩, ?_, g1, vec_fresh st.fresh hlt, ?_, g2⟩
      · exact exec_append ho (by rw [hsv, hxv]; exact hrun)
      · simp only [Rep]
        exact ⟨⟨some g, cap, es.length + ys.length⟩, by simp, Nat.le_refl _, _, _, rfl, fun _ => ⟨rfl, rfl⟩⟩
    · have hol : (cur.take (es.length * sz)).length = es.length * sz := by rw [List.length_take]; omega
      have holds : ∀ j v, (cur.take (es.length * sz))[j]? = some v → w.cell? ((⟨g, 0, none⟩ : Addr).add j) = some v := by
        intro j v hj
        rw [addr_add, Nat.zero_add, hrow.cell]
        rw [List.getElem?_take] at hj
        split at hj
        · exact hj
        · cases hj
      have hrun := run_append_grow (P := P) w t o.type e i zv hu hi hzv ⟨g, 0, none⟩ es.length cap (cur.take (es.length * sz)) (by rw [hol, hisz]) holds ⟨b, off, none⟩ ys.length cx news (by rw [n1, hisz])
        (fun j v hj => by rw [addr_add]; exact n2 j v hj) (by omega) (by omega) (growslice_fits (by omega) (by rw [hiby]; exact hb))
      have hzs : ((Builtin.zeroCells zv.cells (grownCap w (es.length + ys.length) cap e - (es.length + ys.length))).toList).length = (grownCap w (es.length + ys.length) cap e - (es.length + ys.length)) * sz := by
        rw [Array.length_toList, size_zeroCells, hzc]; simp [hzl, hisz]
      have hle := le_grownCap w (es.length + ys.length) cap e
      have hq : List.toArray (cur.take (es.length * sz) ++ news ++ (Builtin.zeroCells zv.cells (grownCap w (es.length + ys.length) cap e - (es.length + ys.length))).toList) =
          (cur.take (es.length * sz)).toArray ++ news.toArray ++ Builtin.zeroCells zv.cells (grownCap w (es.length + ys.length) cap e - (es.length + ys.length)) := by
        apply Array.ext'; simp
      rw [← hq] at hrun
      obtain ⟨g1, g2⟩ := st.rel.growG (w' := w.drew.alloc (.cells (List.toArray (cur.take (es.length * sz) ++ news ++ (Builtin.zeroCells zv.cells (grownCap w (es.length + ys.length) cap e - (es.length + ys.length))).toList)) e (0, 0))) (b := w.heap.size) (c' := grownCap w (es.length + ys.length) cap e)
        (o' := .vec sz (es ++ ys)) (m := ys.length) hid rfl hk' (Nat.le_refl _) (.inl hpos) (.inr (Nat.le_refl _)) ⟨e, alloc_new (w := w.drew) _⟩
        (by rw [List.length_append, List.length_append, hol, n1, hzs, ← hadd, ← Nat.add_mul]; congr 1; omega) hle (fun b' _ hb' => alloc_old (w := w.drew) _ hb') (fun off ho => by have := st.rel.lt _ _ ho; omega) (by rw [alloc_size]; show w.heap.size ≤ w.heap.size + 1; omega) ⟨rfl, rfl⟩
        (fun E' hx' _ => by
          have hl1 : (cur.take (es.length * sz) ++ news).length = (es.length + ys.length) * sz := by rw [List.length_append, hol]; omega
          have hh := flat_rep (hcr.ext hx') (n3.ext hx')
          generalize cur.take (es.length * sz) ++ news = q at hh hl1
          rw [hlA, ← hl1, List.take_append_of_le_length (Nat.le_refl _), List.take_of_length_le (Nat.le_refl _)]
          exact hh)
      refine ⟨_, _, _, _, .slice (some ⟨w.heap.size, 0, none⟩) (es.length + ys.length) (grownCap w (es.length + ys.length) cap e), ⟨rfl, rfl⟩, ?_, g1, vec_fresh st.fresh hlt, ?_, g2⟩
      · exact exec_append ho (by rw [hsv, hxv]; exact hrun)
      · simp only [Rep]
        exact ⟨⟨some w.heap.size, grownCap w (es.length + ys.length) cap e, es.length + ys.length⟩, by simp, Nat.le_refl _, _, _, rfl, fun _ => ⟨rfl, rfl⟩⟩
theorem Run.freezeV (slot : Nat) {id n sz : Nat} {es : List (List PV)} (hs : tget T slot = .vec id n) (hat : h.at id = some (.vec sz es)) (hes : ∀ e ∈ es, e.length = sz) (hn : es.length = n)
    (r : Run P rd nb k (T.set slot (.p (.sl sz es))) (h.set id none) D Q) : Run P rd nb k T h D Q := by
  intro E w a s
  have hv := s.tmps.get slot
  rw [← tget_eq, hs] at hv
  simp only [Rep] at hv
  obtain ⟨L, hL, _, ad, cap0, hv, hcur⟩ := hv
  obtain ⟨blk, cap, ht, k1, k2, k3⟩ := s.rel.toks id _ _ _ _ _ hat rfl
  rw [hL] at ht; cases ht
  subst hn
  obtain ⟨ha0, hc0⟩ := hcur rfl
  simp only at hc0
  rw [ha0, hc0] at hv
  have hset : ∀ {E' : Env} {x : AV}, RepL E' w T a.tmps.toList → Rep E' w x (a.tmps.toList.getD slot undef) → RepL E' w (T.set slot x) a.tmps.toList := by
    intro E' x hT hx
    have hset := hT.set hx slot
    have hsame : (a.tmps.toList).set slot (a.tmps.toList.getD slot undef) = a.tmps.toList := by
      apply List.ext_getElem?
      intro j
      rw [List.getElem?_set]
      split
      · rename_i e; subst e
        rcases Nat.lt_or_ge slot a.tmps.size with l | l
        · simp [l]
        · have l' : ¬ slot < a.tmps.size := by omega
          simp [l']
      · rfl
    rwa [hsame] at hset
  cases blk with
  | none =>
    have hc0 := k2 rfl
    have he0 : es = [] := List.eq_nil_of_length_eq_zero (by omega)
    subst he0
    obtain ⟨f1, f2⟩ := s.rel.forget (id := id)
    have s' := s.move f2 f1 (fun i hi => s.fresh i (by simpa using hi))
    have hx : Rep E w (.p (.sl sz [])) (.slice none 0 cap) := by
      simp only [Rep, RepP]
      exact ⟨_, cap, rfl, k1, .inl trivial⟩
    exact K_mono (P := P) (rd := rd) (Post.of_fr (Q := Q) f2) k _ _ _ (r _ w a ⟨s'.rel, s'.fresh, hset s'.tmps (by rw [hv]; exact hx), s'.defers⟩)
  | some b =>
    obtain ⟨vals, hrow, hcl, hcr⟩ := k3 b rfl
    obtain ⟨f1, f2⟩ := s.rel.freezeG (b := b) hat (.inr ⟨_, _, _, _, hat, rfl, hL⟩)
    have s' := s.move f2 f1 (fun i hi => s.fresh i (by simpa using hi))
    have hel : (es.flatten.map AV.p).length = es.length * sz := by rw [List.length_map, flat_length hes]
    have hx : Rep { E with ro := fun b' off => E.ro b' off ∨ b' = b } w (.p (.sl sz es)) (.slice (some ⟨b, 0, none⟩) es.length cap) := by
      simp only [Rep, RepP]
      refine ⟨_, cap, rfl, k1, .inr ⟨b, 0, rfl, ?_⟩⟩
      rw [hel] at hcr
      refine RepEs.of_row (vs := vals.take (es.length * sz)) hes (fun j v hj => ⟨.inr rfl, ?_⟩) (hcr.ext f2.ext)
      rw [hrow.cell, Nat.zero_add]
      rw [List.getElem?_take] at hj
      split at hj
      · exact hj
      · cases hj
    exact K_mono (P := P) (rd := rd) (Post.of_fr (Q := Q) f2) k _ _ _ (r _ w a ⟨s'.rel, s'.fresh, hset s'.tmps (by rw [hv]; exact hx), s'.defers⟩)

end

section

open Go.Shelf Go.Sort Go.Proofs
theorem sort_vec {P : Program} {ρ : Ren} (Ly : Lays.n189 P ρ) {h : Heap} {id n : Nat} {zs : List Int} (hid : h.at id = some (.vec 1 (ints zs))) (hn : n = zs.length) (hsz : zs.length < 4611686018427387904) :
    ACalls P (ρ.f 189) [.vec id n] h fun out h' => out = .ret (.tup []) ∧ h' = h.set id (some (.vec 1 (ints (zs.mergeSort fun x y => decide (x ≤ y))))) := by
  intro E w vs hrel hfresh hargs
  subst hn
  simp only [RepL, Rep] at hargs
  obtain ⟨v, us, rfl, ⟨L, hL, _, ad0, cap0, rfl, hcur⟩, rfl⟩ := hargs
  obtain ⟨blk, cap, ht, k1, k2, k3⟩ := hrel.toks id _ _ _ _ _ hid rfl
  rw [hL] at ht; cases ht
  obtain ⟨ha0, hc0⟩ := hcur (by simp [ints_length])
  simp only at hc0
  rw [ints_length] at k1
  have hlt := lt_of_at hid
  have hms : (zs.mergeSort fun x y => decide (x ≤ y)).length = zs.length := by simp
  cases blk with
  | none =>
    have hcz := k2 rfl
    have hz : zs = [] := List.eq_nil_of_length_eq_zero (by omega)
    subst hz
    refine Calls.mono (Any.slices_Sort_int_none Ly _ _ w) ?_
    rintro e w' ⟨rfl, rfl⟩
    have hset : h.set id (some (.vec 1 (ints (([] : List Int).mergeSort fun x y => decide (x ≤ y))))) = h := by
      have e1 : ([] : List Int).mergeSort (fun x y => decide (x ≤ y)) = [] := by simp
      rw [e1]
      apply List.ext_getElem?
      intro j
      rw [List.getElem?_set]
      split
      · rename_i e; subst e
        unfold Heap.at at hid
        rw [List.getElem?_eq_getElem hlt] at hid ⊢
        simp only [Option.getD_some] at hid
        simp [hid]
      · rfl
    exact ⟨_, _, E, ⟨rfl, rfl⟩, by rw [hset]; exact hrel, by rw [hset]; exact hfresh, ⟨_, rfl, by simp [Rep, RepL]⟩, by rw [hset]; exact Fr.refl _ _ _⟩
  | some b =>
    obtain ⟨cur, hrow, hcl, hcr⟩ := k3 b rfl
    rw [Nat.mul_one] at hcl
    have hnro : ∀ off, ¬ E.ro b off := fun off => hrel.sepT id _ _ _ _ _ b _ _ off hid rfl hL (by omega)
    rw [ints_flat, List.length_map, repL_ints] at hcr
    obtain ⟨T, hheap⟩ := hrow
    have hcu : cur = zs.map (Value.int .i64) ++ cur.drop zs.length := by rw [← hcr, List.take_append_drop]
    have hH : Holds (Value.int .i64) w b 0 zs.toArray := by
      intro j hj
      have hj' : j < zs.length := by simpa using hj
      refine ⟨?_, by simp [World.frozen?, hheap]⟩
      rw [World.cell?, hheap, hcu]
      simp [hj', List.getElem?_append_left]
    rw [ha0]
    refine Calls.mono (Any.slices_Sort_int Ly b 0 cap0 zs w hH (lt_of_heap hheap) hsz) ?_
    rintro e w' ⟨rfl, n, os, rfl⟩
    obtain ⟨r1, f1⟩ := hrel.of_heap (w' := Sort.ahead w n) rfl rfl rfl
    have hheap1 : (Sort.ahead w n).heap[b]? = some (.cells (List.toArray cur) T (0, 0)) := hheap
    obtain ⟨r2, f2⟩ := r1.growG (w' := putRow (Value.int .i64) (Sort.ahead w n) b 0 (zs.mergeSort fun x y => decide (x ≤ y)).toArray) (b := b) (c' := cap) (m := 0) (k := 0) (k' := 0)
      (vs := (putCells (Value.int .i64) 0 (zs.mergeSort fun x y => decide (x ≤ y)).toArray (List.toArray cur)).toList)
      (o' := .vec 1 (ints (zs.mergeSort fun x y => decide (x ≤ y)))) (cs' := (ints (zs.mergeSort fun x y => decide (x ≤ y))).flatten.map .p) hid rfl (by simp [AO.tk, ints_length]) (Nat.le_refl _) (.inr hL) (.inl ⟨_, hL, rfl⟩)
      ⟨T, by simp only [putRow, mapBlock, Array.getElem?_modify, hheap1, if_true, Option.map_some, onCells, Array.toArray_toList]⟩
      (by rw [putCells_list _ _ (by simp; omega)]; simp; omega) (by rw [ints_length]; omega)
      (fun b' hne _ => by simp [putRow, mapBlock, Array.getElem?_modify, Ne.symm hne]) (fun off ho => absurd ho (hnro off)) (by simp [putRow, mapBlock]) ⟨rfl, rfl⟩
      (fun E' _ _ => by
        rw [putCells_list _ _ (by simp; omega), ints_flat, repL_ints, List.length_map, List.take_append_of_le_length (by simp), List.take_of_length_le (by simp)])
    obtain ⟨r3, f3⟩ := r2.more os
    exact ⟨_, _, _, ⟨rfl, rfl⟩, r3, vec_fresh hfresh hlt, ⟨_, rfl, by simp [Rep, RepL]⟩, (f1.trans f2).trans f3⟩

end

end Go.AI
