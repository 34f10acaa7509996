/-
  Appends to named rows: in their room, to a new row, or to either of both under a new name.
-/
import Derived.Test.YtplomildbmcmfaaGreatBEVc

namespace Go.AI.EV

open Go Go.AI
theorem rel_forget {E : Env} {h : Heap} {w : World} (r : Rel E h.at w) {id : Nat} {o : AO} (hid : h.at id = some o) : Rel E (Heap.at (h.set id none)) w ∧ Fr E h.at w E (Heap.at (h.set id none)) w := by
  have hlt := lt_of_at hid
  have hold : ∀ id', id' ≠ id → Heap.at (h.set id none) id' = h.at id' := fun id' hne => by rw [at_set _ _ _ _ hlt, if_neg hne]
  have hnew : Heap.at (h.set id none) id = none := by rw [at_set _ _ _ _ hlt, if_pos rfl]
  have hne : ∀ id' o, Heap.at (h.set id none) id' = some o → id' ≠ id := fun id' o e e' => by subst e'; rw [hnew] at e; cases e
  have hO : ∀ id' b', Owns E (Heap.at (h.set id none)) id' b' → Owns E h.at id' b' := by
    intro id' b' ho
    rcases ho with ⟨c, h1, h3, h2⟩ | ⟨c, x, c', m, h1, hk, h2⟩
    · have e := hne _ _ h1; rw [hold id' e] at h1; exact .inl ⟨c, h1, h3, h2⟩
    · have e := hne _ _ h1; rw [hold id' e] at h1; exact .inr ⟨c, x, c', m, h1, hk, h2⟩
  refine ⟨⟨fun id' c hc hm => ?_, fun id' c n sz k cs hc hk => ?_, fun i i' b' h1 h2 => r.inj i i' b' (hO _ _ h1) (hO _ _ h2), fun id' c b' off hc hm hg' hb => ?_, fun id' c n sz k cs b' c' m off hc hk hg' hl hb => ?_, r.lt⟩, ⟨fun _ _ _ => rfl, Ext.refl _ _, fun b off hb => .inl hb, Nat.le_refl _, fun b' ⟨i, ho⟩ => .inl ⟨i, hO _ _ ho⟩, Kp.refl w⟩⟩
  · have e := hne _ _ hc; rw [hold id' e] at hc; exact r.objsO id' c hc hm
  · have e := hne _ _ hc; rw [hold id' e] at hc; exact r.toks id' c n sz k cs hc hk
  · have e := hne _ _ hc; rw [hold id' e] at hc; exact r.sepO id' c b' off hc hm hg' hb
  · have e := hne _ _ hc; rw [hold id' e] at hc; exact r.sepT id' c n sz k cs b' c' m off hc hk hg' hl hb
theorem rel_rename {E : Env} {h : Heap} {w : World} (r : Rel E h.at w) (hf : Fresh E h.length) {id b : Nat} {cs : List AV} (hat : h.at id = some (.cells cs)) (hgb : E.g id = some b) :
    let E' : Env := { E with g := fun i => if i = h.length then some b else E.g i }
    let h' : Heap := h.set id none ++ [some (.cells cs)]
    Rel E' h'.at w ∧ Fr E h.at w E' h'.at w ∧ Fresh E' (h.length + 1) ∧ E'.g h.length = some b := by
  intro E' h'
  have hlt := lt_of_at hat
  have hx : Ext E w E' w := ⟨fun _ _ h => h, fun _ _ _ => rfl, fun i b' e => by
      show (if i = h.length then some b else E.g i) = some b'
      rw [if_neg (fun he => by rw [he, (hf _ (Nat.le_refl _)).1] at e; cases e)]; exact e, fun _ L h => ⟨L, h, Nat.le_refl _, fun _ => rfl⟩⟩
  have hnew : h'.at h.length = some (.cells cs) := by
    have := at_append (h.set id none) (some (.cells cs)) h.length
    rw [List.length_set, if_pos rfl] at this
    exact this
  have hold : ∀ i o, i ≠ h.length → h'.at i = some o → h.at i = some o ∧ i ≠ id := by
    intro i o hne e
    have := at_append (h.set id none) (some (.cells cs)) i
    rw [List.length_set, if_neg hne] at this
    have e' : Heap.at (h.set id none) i = some o := this ▸ e
    unfold Heap.at at e' ⊢
    by_cases c : id = i
    · subst c
      rw [List.getElem?_set_self'] at e'
      cases hh : h[id]? <;> simp [hh] at e'
    · rw [List.getElem?_set_ne c] at e'
      exact ⟨e', fun q => c q.symm⟩
  have hg' : ∀ i, i ≠ h.length → E'.g i = E.g i := fun i hne => if_neg hne
  have hgn : E'.g h.length = some b := if_pos rfl
  have hO : ∀ i b', Owns E' h'.at i b' → (i = h.length ∧ b' = b) ∨ (i ≠ h.length ∧ i ≠ id ∧ Owns E h.at i b') := by
    intro i b' ho
    by_cases e : i = h.length
    · subst e
      left; refine ⟨rfl, ?_⟩
      rcases ho with ⟨o', h1, h3, h2⟩ | ⟨o', x, c, m, h1, hk, h2⟩
      · rw [hgn] at h2; cases h2; rfl
      · rw [hnew] at h1; cases h1; simp [AO.tk] at hk
    · right
      rcases ho with ⟨o', h1, h3, h2⟩ | ⟨o', x, c, m, h1, hk, h2⟩
      · obtain ⟨q1, q2⟩ := hold i o' e h1
        rw [hg' i e] at h2
        exact ⟨e, q2, .inl ⟨o', q1, h3, h2⟩⟩
      · obtain ⟨q1, q2⟩ := hold i o' e h1
        exact ⟨e, q2, .inr ⟨o', x, c, m, q1, hk, h2⟩⟩
  have hown : Owns E h.at id b := .inl ⟨_, hat, rfl, hgb⟩
  refine ⟨⟨fun i o hc hn => ?_, fun i o n s k cs hc hk => ?_, fun i i' b' h1 h2 => ?_, fun i o b' off hc hn hg hb => ?_, fun i o n s k cs b' c m off hc hk hg hl hb => ?_, r.lt⟩, ⟨fun _ _ _ => rfl, hx, fun _ _ h => .inl h, Nat.le_refl _, fun b' ⟨i, ho⟩ => ?_, Kp.refl w⟩, fun i hi => ?_, hgn⟩
  · by_cases e : i = h.length
    · subst e; rw [hnew] at hc; cases hc
      obtain ⟨b2, hg2, ho⟩ := r.objsO id _ hat rfl
      rw [hgb] at hg2; cases hg2
      exact ⟨b, hgn, ho.move hx rfl⟩
    · obtain ⟨q1, _⟩ := hold i o e hc
      obtain ⟨b', hg, ho⟩ := r.objsO i o q1 hn
      exact ⟨b', by rw [hg' i e]; exact hg, ho.move hx rfl⟩
  · have e : i ≠ h.length := fun e => by subst e; rw [hnew] at hc; cases hc; simp [AO.tk] at hk
    obtain ⟨q1, _⟩ := hold i o e hc
    obtain ⟨blk, cap2, ht, h1, h2, h3⟩ := r.toks i o n s k cs q1 hk
    refine ⟨blk, cap2, ht, h1, h2, fun b' hb => ?_⟩
    obtain ⟨us, hr, hl, hp⟩ := h3 b' hb
    exact ⟨us, hr, hl, hp.ext hx⟩
  · rcases hO i b' h1 with ⟨e1, e2⟩ | ⟨e1, e2, o1⟩ <;> rcases hO i' b' h2 with ⟨e3, e4⟩ | ⟨e3, e4, o2⟩
    · rw [e1, e3]
    · subst e2; exact absurd (r.inj _ _ _ o2 hown) e4
    · subst e4; exact absurd (r.inj _ _ _ o1 hown) e2
    · exact r.inj i i' b' o1 o2
  · by_cases e : i = h.length
    · subst e
      rw [hgn] at hg; cases hg
      exact r.sepO id _ b off hat rfl hgb hb
    · obtain ⟨q1, _⟩ := hold i o e hc
      rw [hg' i e] at hg; exact r.sepO i o b' off q1 hn hg hb
  · have e : i ≠ h.length := fun e => by subst e; rw [hnew] at hc; cases hc; simp [AO.tk] at hk
    obtain ⟨q1, _⟩ := hold i o e hc
    exact r.sepT i o n s k cs b' c m off q1 hk hg hl hb
  · rcases hO i b' ho with ⟨_, e2⟩ | ⟨_, _, o⟩
    · subst e2; exact .inl ⟨id, hown⟩
    · exact .inl ⟨i, o⟩
  · have hid' : h.length + 1 ≤ i := hi
    exact ⟨by rw [hg' i (by omega)]; exact (hf i (by omega)).1, (hf i (by omega)).2⟩
def Src (E : Env) (w : World) (v : Value) (m sz : Nat) (us : List AV) : Prop :=
  ∃ a cx news, v = .slice (some a) m cx ∧ news.length = m * sz ∧ (∀ j u, news[j]? = some u → w.cell? (a.add j) = some u) ∧ RepL E w us news ∧ ∀ u ∈ news, u.oneCell' = true
theorem src_pv {E : Env} {w : World} {x : AV} {ys : List (List PV)} {sz : Nat} {v : Value} (h1 : srcA x = some ys) (h2 : srcSz sz x = true) (hx : Rep E w x v) (hpos : 0 < ys.length) : Src E w v ys.length sz (ys.flatten.map .p) := by
  have hX := src_rep h1 h2 hx
  simp only [RepP] at hX
  obtain ⟨ad, cx, hxv, _, hX⟩ := hX
  have hne : ys ≠ [] := by intro h0; rw [h0] at hpos; simp at hpos
  obtain ⟨b, off, rfl, hr⟩ := hX.resolve_left hne
  have hyl := hr.length
  have hfl := flat_length hyl
  obtain ⟨news, n1, n2, n3⟩ := RepAt.values hr.flat
  exact ⟨⟨b, off, none⟩, cx, news, hxv, by rw [n1, hfl], fun j u hj => by rw [addr_add]; exact n2 j u hj, n3, RepL.one_p n3⟩
theorem src_sm {E : Env} {w : World} {h : Heap} {id off len cap sz : Nat} {cs : List AV} {v : Value} (r : Rel E h.at w) (hat : h.at id = some (.cells cs)) (hx : Rep E w (.sm id off len cap sz) v) (hl : off + len * sz ≤ cs.length)
    (h1 : ((cs.drop off).take (len * sz)).all oneA = true) : Src E w v len sz ((cs.drop off).take (len * sz)) := by
  simp only [Rep] at hx
  obtain ⟨b, hg, rfl⟩ := hx
  obtain ⟨b', vs, hg', hrow, hreps⟩ := r.objs id cs hat
  rw [hg] at hg'; cases hg'
  have hvl := hreps.length
  have hr := (hreps.drop off).take (len * sz)
  refine ⟨⟨b, off, none⟩, cap, (vs.drop off).take (len * sz), rfl, by simp; omega, fun j u hj => ?_, hr, RepL.one_all h1 hr⟩
  rw [addr_add, hrow.cell]
  rw [List.getElem?_take] at hj
  split at hj
  · rw [List.getElem?_drop] at hj; exact hj
  · cases hj
theorem row_newX {E : Env} {h : Heap} {w : World} {us : List AV} {vals zs : List Value} {e : TypeId} (r : Rel E h.at w) (hf : Fresh E h.length) (hv : RepL E w us vals) :
    ∃ E', Rel E' (Heap.at (h ++ [some (.cells (us ++ List.replicate zs.length .junk))])) (w.drew.alloc (.cells (List.toArray (vals ++ zs)) e (0, 0))) ∧ Fresh E' (h.length + 1) ∧
      Fr E h.at w E' (Heap.at (h ++ [some (.cells (us ++ List.replicate zs.length .junk))])) (w.drew.alloc (.cells (List.toArray (vals ++ zs)) e (0, 0))) ∧ E'.g h.length = some w.heap.size := by
  have hb : RepL E w.drew (us ++ List.replicate zs.length .junk) (vals ++ zs) := by
    refine RepL.append (RepL.ext (E := E) (w := w) (E' := E) (w' := w.drew) ⟨fun _ _ h => h, fun _ _ _ => rfl, fun _ _ h => h, fun _ L h => ⟨L, h, Nat.le_refl _, fun _ => rfl⟩⟩ hv) ?_
    exact RepL.junks zs
  have hd := r.of_heap (w' := w.drew) rfl rfl rfl
  obtain ⟨h1, h2, h3⟩ := hd.1.alloc hf hb e
  exact ⟨_, h1, h3, hd.2.trans h2, if_pos rfl⟩

section

variable {P : Program} {T : List AV} {h : Heap} {D : List AD} {o : Oper} {E : Env} {w : World} {a : Act} {s x : Operand} {t e : TypeId} {sz by_ m : Nat} {z : List Value} {us : List AV}
def Out (P : Program) (o : Oper) (E : Env) (w : World) (a : Act) (h : Heap) (x : AV) (h' : Heap) : Prop :=
  ∃ E' w' v, (execOp a.eval o).run P w = .ok (.value v) w' ∧ Rel E' (Heap.at h') w' ∧ Fresh E' h'.length ∧ Rep E' w' x v ∧ Fr E (Heap.at h) w E' (Heap.at h') w'
theorem app_nil (st : St E w a T h D) (ho : o.op = .call ⟨.builtin .append, #[s, x], #[t, t]⟩) (he : elT P t = some e) (hsz : szT P e = some sz) (hby : byT P e = some by_) (hz : zeroT P e = some z)
    (hs : aev T s = .p (.prim (.slice none 0 0))) (src : Src E w (a.eval x) m sz us) (hm : 0 < m) (hb : m * by_ ≤ 140737488355328) (hb2 : m ≤ 9223372036854775807) :
    ∃ c', m ≤ c' ∧ Out P o E w a h (.sm h.length 0 m c' sz) (h ++ [some (.cells (us ++ List.replicate (c' * sz - us.length) .junk))]) := by
  obtain ⟨ad, cx, news, hxv, n1, n2, n3, n4⟩ := src
  have hsr := aev_rep st s
  rw [hs] at hsr
  simp only [Rep, RepP] at hsr
  have hu := und_elT he
  obtain ⟨i, zv, hi, hzv, hzc, hzl, _⟩ := zeroT_parts hz
  have hisz : i.size = sz := by unfold szT at hsz; rw [hi] at hsz; simpa using hsz
  have hiby : i.bytes = by_ := by unfold byT at hby; rw [hi] at hby; simpa using hby
  have hrun := run_append_nil (P := P) w t o.type e i zv hu hi hzv ad m cx news (by rw [n1, hisz]) n2 hm (by omega) (by rw [hiby]; omega)
  have hul := n3.length
  have hzs : ((Builtin.zeroCells zv.cells (grownCap w m 0 e - m)).toList).length = grownCap w m 0 e * sz - us.length := by
    rw [Array.length_toList, size_zeroCells, hzc, ← hul, n1, ← Nat.sub_mul]; simp [hzl, hisz]
  obtain ⟨E', g1, g2, g3, g4⟩ := row_newX (h := h) (e := e) (zs := (Builtin.zeroCells zv.cells (grownCap w m 0 e - m)).toList) st.rel st.fresh n3
  rw [hzs] at g1 g3
  refine ⟨grownCap w m 0 e, le_grownCap w _ 0 e, E', _, .slice (some ⟨w.heap.size, 0, none⟩) m (grownCap w m 0 e), ?_, g1, by simpa using g2, ?_, g3⟩
  · have hq : List.toArray (news ++ (Builtin.zeroCells zv.cells (grownCap w m 0 e - m)).toList) = news.toArray ++ Builtin.zeroCells zv.cells (grownCap w m 0 e - m) := by
      apply Array.ext'; simp
    rw [hq]
    exact exec_append ho (by rw [hsr.1, hxv]; exact hrun)
  · simp only [Rep]
    exact ⟨_, g4, rfl⟩
theorem app_room (st : St E w a T h D) (ho : o.op = .call ⟨.builtin .append, #[s, x], #[t, t]⟩) (he : elT P t = some e) (hsz : szT P e = some sz) (hz : zeroT P e = some z) {id n cap : Nat} {cs : List AV}
    (hs : aev T s = .sm id 0 n cap sz) (hid : h.at id = some (.cells cs)) (src : Src E w (a.eval x) m sz us) (hfit : n * sz + us.length ≤ cs.length) (hroom : n + m ≤ cap) :
    Out P o E w a h (.sm id 0 (n + m) cap sz) (h.set id (some (.cells (patch cs (n * sz) us)))) := by
  obtain ⟨ad, cx, news, hxv, n1, n2, n3, n4⟩ := src
  have hsr := aev_rep st s
  rw [hs] at hsr
  simp only [Rep] at hsr
  obtain ⟨g, hg, hsv⟩ := hsr
  have hu := und_elT he
  obtain ⟨i, zv, hi, hzv, hzc, hzl, _⟩ := zeroT_parts hz
  have hisz : i.size = sz := by unfold szT at hsz; rw [hi] at hsz; simpa using hsz
  obtain ⟨g', cur, hg', hrow, hreps⟩ := st.rel.objs id _ hid
  rw [hg] at hg'; cases hg'
  have hcl := hreps.length
  have hul := n3.length
  obtain ⟨w', hrun, hrow', hsame, hsize, hos, hout⟩ := append_room (P := P) (ty := o.type) hu hi hrow (a := ad) (m := m) (c := cx) (news := news) (n := n) (cap := cap) (by rw [n1, hisz]) n2 n4 hroom (by rw [hisz]; omega)
  rw [hisz] at hrow'
  have hnew : RepL E w (patch cs (n * sz) us) (patch cur (n * sz) news) := RepL.patch (n * sz) n3 hreps
  obtain ⟨g1, g2⟩ := st.rel.writeO hid rfl (o' := .cells (patch cs (n * sz) us)) rfl hg (fun hx => ⟨_, hrow', hnew.ext hx⟩) hsame hsize hos hout
  refine ⟨E, w', .slice (some ⟨g, 0, none⟩) (n + m) cap, ?_, g1, by simpa using st.fresh, ?_, g2⟩
  · exact exec_append ho (by rw [hsv, hxv]; exact hrun)
  · simp only [Rep]
    exact ⟨g, hg, rfl⟩
theorem app_move (st : St E w a T h D) (ho : o.op = .call ⟨.builtin .append, #[s, x], #[t, t]⟩) (he : elT P t = some e) (hsz : szT P e = some sz) (hby : byT P e = some by_) (hz : zeroT P e = some z) {id off n cap : Nat} {cs : List AV}
    (hs : aev T s = .sm id off n cap sz) (hid : h.at id = some (.cells cs)) (hcs : off + n * sz ≤ cs.length) (src : Src E w (a.eval x) m sz us) (_hm : 0 < m) (hroom : cap < n + m) (hb : (n + m) * by_ ≤ 140737488355328) (hb2 : n + m ≤ 9223372036854775807) (_hcn : n ≤ cap) :
    ∃ c', n + m ≤ c' ∧ Out P o E w a h (.sm h.length 0 (n + m) c' sz) (h ++ [some (.cells ((cs.drop off).take (n * sz) ++ us ++ List.replicate (c' * sz - (n + m) * sz) .junk))]) := by
  obtain ⟨ad, cx, news, hxv, n1, n2, n3, n4⟩ := src
  have hsr := aev_rep st s
  rw [hs] at hsr
  simp only [Rep] at hsr
  obtain ⟨g, hg, hsv⟩ := hsr
  have hu := und_elT he
  obtain ⟨i, zv, hi, hzv, hzc, hzl, _⟩ := zeroT_parts hz
  have hisz : i.size = sz := by unfold szT at hsz; rw [hi] at hsz; simpa using hsz
  have hiby : i.bytes = by_ := by unfold byT at hby; rw [hi] at hby; simpa using hby
  obtain ⟨g', cur, hg', hrow, hreps⟩ := st.rel.objs id _ hid
  rw [hg] at hg'; cases hg'
  have hcl := hreps.length
  have hul := n3.length
  have holds : ∀ j v, ((cur.drop off).take (n * sz))[j]? = some v → w.cell? ((⟨g, off, none⟩ : Addr).add j) = some v := by
    intro j v hj
    rw [addr_add, hrow.cell]
    rw [List.getElem?_take] at hj
    split at hj
    · rw [List.getElem?_drop] at hj; exact hj
    · cases hj
  have hol : ((cur.drop off).take (n * sz)).length = n * sz := by rw [List.length_take, List.length_drop]; omega
  have horep : RepL E w ((cs.drop off).take (n * sz)) ((cur.drop off).take (n * sz)) := (hreps.drop off).take _
  have hrun := run_append_grow (P := P) w t o.type e i zv hu hi hzv ⟨g, off, none⟩ n cap ((cur.drop off).take (n * sz)) (by rw [hol, hisz]) holds ad m cx news (by rw [n1, hisz])
    n2 (by omega) (by omega) (growslice_fits (by omega) (by rw [hiby]; exact hb))
  have hzs : ((Builtin.zeroCells zv.cells (grownCap w (n + m) cap e - (n + m))).toList).length = grownCap w (n + m) cap e * sz - (n + m) * sz := by
    rw [Array.length_toList, size_zeroCells, hzc, ← Nat.sub_mul]; simp [hzl, hisz]
  obtain ⟨E', g1, g2, g3, g4⟩ := row_newX (h := h) (e := e) (zs := (Builtin.zeroCells zv.cells (grownCap w (n + m) cap e - (n + m))).toList) st.rel st.fresh (horep.append n3)
  rw [hzs] at g1 g3
  refine ⟨grownCap w (n + m) cap e, le_grownCap w _ cap e, E', _, .slice (some ⟨w.heap.size, 0, none⟩) (n + m) (grownCap w (n + m) cap e), ?_, g1, by simpa using g2, ?_, g3⟩
  · have hq : List.toArray ((cur.drop off).take (n * sz) ++ news ++ (Builtin.zeroCells zv.cells (grownCap w (n + m) cap e - (n + m))).toList) =
        ((cur.drop off).take (n * sz)).toArray ++ news.toArray ++ Builtin.zeroCells zv.cells (grownCap w (n + m) cap e - (n + m)) := by
      apply Array.ext'; simp
    rw [hq]
    exact exec_append ho (by rw [hsv, hxv]; exact hrun)
  · simp only [Rep]
    exact ⟨_, g4, rfl⟩
theorem app_grow (st : St E w a T h D) (ho : o.op = .call ⟨.builtin .append, #[s, x], #[t, t]⟩) (he : elT P t = some e) (hsz : szT P e = some sz) (hby : byT P e = some by_) (hz : zeroT P e = some z) {id n cap : Nat} {cs : List AV}
    (hs : aev T s = .sm id 0 n cap sz) (hid : h.at id = some (.cells cs)) (hcs : cs.length = cap * sz) (hcn : n ≤ cap) (src : Src E w (a.eval x) m sz us) (hm : 0 < m) (hb : (n + m) * by_ ≤ 140737488355328) (hb2 : n + m ≤ 9223372036854775807) :
    ∃ c', n + m ≤ c' ∧ Out P o E w a h (.sm h.length 0 (n + m) c' sz) (h.set id none ++ [some (.cells (cs.take (n * sz) ++ us ++ List.replicate (c' * sz - (n + m) * sz) .junk))]) := by
  have hnc : n * sz ≤ cap * sz := Nat.mul_le_mul_right _ hcn
  by_cases hroom : n + m ≤ cap
  · have hul : us.length = m * sz := by
      obtain ⟨_, _, news, _, n1, _, n3, _⟩ := src
      rw [← n3.length, n1]
    have hadd : (n + m) * sz = n * sz + m * sz := Nat.add_mul _ _ _
    have hle : (n + m) * sz ≤ cap * sz := Nat.mul_le_mul_right _ hroom
    obtain ⟨E1, w1, v, hrun, r1, f1, x1, fr1⟩ := app_room st ho he hsz hz hs hid src (by omega) hroom
    simp only [Rep] at x1
    obtain ⟨b, hg, rfl⟩ := x1
    have hlt := lt_of_at hid
    have hid1 : Heap.at (h.set id (some (.cells (patch cs (n * sz) us)))) id = some (.cells (patch cs (n * sz) us)) := by rw [at_set _ _ _ _ hlt, if_pos rfl]
    -- the cells behind are forgotten
    obtain ⟨b', vs, hg', hrow, hreps⟩ := r1.objs id _ hid1
    rw [hg] at hg'; cases hg'
    have hpl : (patch cs (n * sz) us).length = cap * sz := by rw [patch_length, hcs]
    have hvl := hreps.length
    have hpe : ∀ (us l : List AV) (off : Nat), off + us.length ≤ l.length → (patch l off us).take (off + us.length) = l.take off ++ us := by
      intro us
      induction us with
      | nil => intro l off _; simp [patch]
      | cons u us ih =>
        intro l off hl
        simp only [List.length_cons] at hl ⊢
        rw [patch, show off + (us.length + 1) = off + 1 + us.length by omega, ih _ _ (by simp; omega), List.take_add_one, List.take_set_of_le (Nat.le_refl _), List.getElem?_set]
        simp [show off < l.length by omega]
    have hrep2 : RepL E1 w1 (cs.take (n * sz) ++ us ++ List.replicate (cap * sz - (n + m) * sz) .junk) vs := by
      have h1 := hreps.take ((n + m) * sz)
      have h2 : (patch cs (n * sz) us).take ((n + m) * sz) = cs.take (n * sz) ++ us := by
        rw [hadd, ← hul]; exact hpe us cs (n * sz) (by omega)
      rw [h2] at h1
      have h3 := h1.append (RepL.junks (E := E1) (w := w1) (vs.drop ((n + m) * sz)))
      rw [List.take_append_drop] at h3
      have h4 : (vs.drop ((n + m) * sz)).length = cap * sz - (n + m) * sz := by rw [List.length_drop]; omega
      rwa [h4] at h3
    obtain ⟨r2, fr2⟩ := r1.writeO hid1 rfl (o' := .cells (cs.take (n * sz) ++ us ++ List.replicate (cap * sz - (n + m) * sz) .junk)) rfl hg (fun hx => ⟨_, hrow, hrep2.ext hx⟩) (fun _ _ => rfl) rfl rfl rfl
    rw [List.set_set] at r2 fr2
    have f1' : Fresh E1 (h.set id (some (.cells (cs.take (n * sz) ++ us ++ List.replicate (cap * sz - (n + m) * sz) .junk)))).length := by simpa using f1
    have hid2 : Heap.at (h.set id (some (.cells (cs.take (n * sz) ++ us ++ List.replicate (cap * sz - (n + m) * sz) .junk)))) id = some (.cells (cs.take (n * sz) ++ us ++ List.replicate (cap * sz - (n + m) * sz) .junk)) := by rw [at_set _ _ _ _ hlt, if_pos rfl]
    obtain ⟨r3, fr3, f3, g3⟩ := rel_rename r2 f1' hid2 hg
    simp only [List.set_set, List.length_set] at r3 fr3 f3 g3
    refine ⟨cap, hroom, _, w1, .slice (some ⟨b, 0, none⟩) (n + m) cap, hrun, r3, by simpa using f3, ?_, (fr1.trans fr2).trans fr3⟩
    simp only [Rep]
    exact ⟨b, g3, rfl⟩
  · obtain ⟨c', hc', E1, w1, v, hrun, r1, f1, x1, fr1⟩ := app_move st ho he hsz hby hz hs hid (by omega) src hm (by omega) hb hb2 hcn
    have hlt := lt_of_at hid
    have hid1 : Heap.at (h ++ [some (.cells ((cs.drop 0).take (n * sz) ++ us ++ List.replicate (c' * sz - (n + m) * sz) .junk))]) id = some (.cells cs) := by
      rw [at_append, if_neg (by omega)]; exact hid
    obtain ⟨r2, fr2⟩ := rel_forget r1 hid1
    rw [List.set_append_left _ _ hlt] at r2 fr2
    refine ⟨c', hc', E1, w1, v, hrun, r2, by simpa using f1, x1, fr1.trans fr2⟩

end

end Go.AI.EV
