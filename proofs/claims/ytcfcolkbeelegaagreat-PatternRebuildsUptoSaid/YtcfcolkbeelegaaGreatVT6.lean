import Derived.Test.YtcfcolkbeelegaaGreatVFS
import Derived.Test.YtcfcolkbeelegaaGreatVX0
import Derived.Test.YtcfcolkbeelegaaGreatVC
import Derived.Test.YtcfcolkbeelegaaGreatVFE
import Derived.Test.YtcfcolkbeelegaaGreatVFF
set_option maxRecDepth 8000

namespace Go.AI

open Go

section

variable {P : Program} {rd : Option Nat} {nb : Nat} {k : List It} {T : List AV} {h : Heap} {D : List AD} {Q : AX → List AV → Heap → List AD → Prop} {all : Array Oper} {o : Oper} {rest : List Oper}
theorem Rel.forget {E : Env} {h : Heap} {w : World} (r : Rel E h.at w) {id : Nat} : Rel E (Heap.at (h.set id none)) w ∧ Fr E h.at w E (Heap.at (h.set id none)) w := by
 have hat : ∀ id' o, Heap.at (h.set id none) id' = some o → h.at id' = some o := by
  intro id' o e
  unfold Heap.at at e ⊢
  by_cases e' : id = id'
  ·subst e'
   rw [List.getElem?_set_self'] at e
   cases hh : h[id]? <;> simp [hh] at e
  ·rwa [List.getElem?_set_ne e'] at e
 have hO : ∀ id' b', Owns E (Heap.at (h.set id none)) id' b' → Owns E h.at id' b' := by
  intro id' b' ho
  rcases ho with ⟨c, h1, h3, h2⟩ | ⟨c, x, c', m, h1, hk, h2⟩
  ·exact .inl ⟨c, hat _ _ h1, h3, h2⟩
  ·exact .inr ⟨c, x, c', m, hat _ _ h1, hk, h2⟩
 exact ⟨⟨fun id' c hc hm => r.objsO id' c (hat _ _ hc) hm, fun id' c n sz k cs hc hk => r.toks id' c n sz k cs (hat _ _ hc) hk, fun i i' b' h1 h2 => r.inj i i' b' (hO _ _ h1) (hO _ _ h2), fun id' c b' off hc hm => r.sepO id' c b' off (hat _ _ hc) hm,
  fun id' c n sz k cs b' c' m off hc => r.sepT id' c n sz k cs b' c' m off (hat _ _ hc), r.lt⟩,
  ⟨fun _ _ _ => rfl, Ext.refl _ _, fun _ _ h => .inl h, Nat.le_refl _, fun b' ⟨i, ho⟩ => .inl ⟨i, hO _ _ ho⟩, Kp.refl w⟩⟩
theorem flat_rep {E w} {es ys : List (List PV)} {vs us : List Value} (h1 : RepL E w (es.flatten.map .p) vs) (h2 : RepL E w (ys.flatten.map .p) us) : RepL E w ((es ++ ys).flatten.map .p) (vs ++ us) := by
 rw [List.flatten_append, List.map_append]; exact h1.append h2
theorem vec_fresh {E : Env} {id b c n : Nat} {R : Nat → Nat → Prop} {o : Option AO} (hf : Fresh E h.length) (hlt : id < h.length) :
  Fresh { E with ro := R, t := fun j => if j = id then some ⟨some b, c, n⟩ else E.t j } (h.set id o).length := by
 intro j hj
 rw [List.length_set] at hj
 exact ⟨(hf j hj).1, by show (if j = id then _ else _) = _; rw [if_neg (by omega)]; exact (hf j hj).2⟩
theorem Run.appendV {s x : Operand} {t e : TypeId} {es ys : List (List PV)} {id sz by_ : Nat} {z : List Value} (ho : o.op = .call ⟨.builtin .append, #[s, x], #[t, t]⟩) (hw : awanted all T o = some true) (he : elT P t = some e) (hsz : szT P e = some sz) (hby : byT P e = some by_) (hz : zeroT P e = some z)
  (hs : aev T s = .vec id es.length) (hid : h.at id = some (.vec sz es)) (hes : ∀ e ∈ es, e.length = sz) (hx : srcA (aev T x) = some ys) (hx2 : srcSz sz (aev T x) = true) (hpos : 0 < ys.length)
  (hb : (es.length + ys.length) * by_ ≤ 140737488355328) (hb2 : es.length + ys.length ≤ 9223372036854775807)
  (r : Run P rd nb (.ops all rest :: k) (tput T o.dst (.vec id (es.length + ys.length))) (h.set id (some (.vec sz (es ++ ys)))) D Q) : Run P rd nb (.ops all (o :: rest) :: k) T h D Q := by
 refine Run.opR (R := fun x h' => x = .vec id (es.length + ys.length) ∧ h' = h.set id (some (.vec sz (es ++ ys)))) hw (fun c hc => by rw [hc] at ho; cases ho) ?_ (by rintro x h' ⟨rfl, rfl⟩; exact r)
 intro E w a st
 have hlt := lt_of_at hid
 have hsr := aev_rep st s
 rw [hs] at hsr
 simp only [Rep] at hsr
 obtain ⟨L, hL, _, ad0, cap0, hsv, hcur⟩ := hsr
 obtain ⟨blk, cap, ht, k1, k2, k3⟩ := st.rel.toks id _ _ _ _ _ hid rfl
 rw [hL] at ht; cases ht
 obtain ⟨ha0, hc0⟩ := hcur rfl
 simp only at hc0
 rw [ha0, hc0] at hsv
 have hX := src_rep hx hx2 (aev_rep st x)
 simp only [RepP] at hX
 obtain ⟨ad, cx, hxv, _, hX⟩ := hX
 have hne : ys ≠ [] := by intro h0; rw [h0] at hpos; simp at hpos
 obtain ⟨b, off, rfl, hr⟩ := hX.resolve_left hne
 have hu := und_elT he
 obtain ⟨i, zv, hi, hzv, hzc, hzl, _⟩ := zeroT_parts hz
 have hisz : i.size = sz := by unfold szT at hsz; rw [hi] at hsz; simpa using hsz
 have hiby : i.bytes = by_ := by unfold byT at hby; rw [hi] at hby; simpa using hby
 have hyl := hr.length
 obtain ⟨news, n1, n2, n3⟩ := hr.values
 have hlY : (ys.flatten.map AV.p).length = ys.length * sz := by rw [List.length_map, flat_length hyl]
 have hlE : (es.flatten.map AV.p).length = es.length * sz := by rw [List.length_map, flat_length hes]
 have hadd : (es.length + ys.length) * sz = es.length * sz + ys.length * sz := Nat.add_mul _ _ _
 have hlA : ((es ++ ys).flatten.map AV.p).length = (es.length + ys.length) * sz := by rw [List.flatten_append, List.map_append, List.length_append, hlE, hlY, hadd]
 have hk' : (AO.vec sz (es ++ ys)).tk = some (es.length + ys.length, sz, 0, (es ++ ys).flatten.map .p) := by simp [AO.tk]
 cases blk with
 | none =>
  have hc0 := k2 rfl
  have he0 : es = [] := List.eq_nil_of_length_eq_zero (by omega)
  subst he0
  subst hc0
  have hrun := run_append_nil (P := P) w t o.type e i zv hu hi hzv ⟨b, off, none⟩ ys.length cx news (by rw [n1, hisz]) (fun j v hj => by rw [addr_add]; exact n2 j v hj) hpos (by simp at hb2; omega) (by rw [hiby]; simp at hb; omega)
  have hzs : ((Builtin.zeroCells zv.cells (grownCap w ys.length 0 e - ys.length)).toList).length = (grownCap w ys.length 0 e - ys.length) * sz := by
   rw [Array.length_toList, size_zeroCells, hzc]; simp [hzl, hisz]
  have hle := le_grownCap w ys.length 0 e
  have hq : List.toArray (news ++ (Builtin.zeroCells zv.cells (grownCap w ys.length 0 e - ys.length)).toList) = news.toArray ++ Builtin.zeroCells zv.cells (grownCap w ys.length 0 e - ys.length) := by
   apply Array.ext'; simp
  rw [← hq] at hrun
  obtain ⟨g1, g2⟩ := st.rel.growG (w' := w.drew.alloc (.cells (List.toArray (news ++ (Builtin.zeroCells zv.cells (grownCap w ys.length 0 e - ys.length)).toList)) e (0, 0))) (b := w.heap.size) (c' := grownCap w ys.length 0 e) (vs := news ++ (Builtin.zeroCells zv.cells (grownCap w ys.length 0 e - ys.length)).toList)
   (o' := .vec sz ([] ++ ys)) (m := ys.length) hid rfl hk' (Nat.le_refl _) (.inl hpos) (.inr (Nat.le_refl _)) ⟨e, alloc_new (w := w.drew) _⟩
   (by rw [List.length_append, n1, hzs, ← Nat.add_mul]; congr 1; omega) (by simpa using hle) (fun b' _ hb' => alloc_old (w := w.drew) _ hb') (fun off ho => by have := st.rel.lt _ _ ho; omega) (by rw [alloc_size]; show w.heap.size ≤ w.heap.size + 1; omega) ⟨rfl, rfl⟩
   (fun E' hx' _ => by
    rw [hlA, List.take_append_of_le_length (by rw [n1]; simp), List.take_of_length_le (by rw [n1]; simp), List.nil_append]
    exact n3.ext hx')
  refine ⟨_, _, _, _, .slice (some ⟨w.heap.size, 0, none⟩) ys.length (grownCap w ys.length 0 e), ⟨rfl, rfl⟩, ?_, g1, vec_fresh st.fresh hlt, ?_, g2⟩
  ·exact exec_append ho (by rw [hsv, hxv]; exact hrun)
  ·simp only [Rep]
   exact ⟨⟨some w.heap.size, grownCap w ys.length 0 e, ([] : List (List PV)).length + ys.length⟩, by simp, by simp, _, grownCap w ys.length 0 e, by simp, fun _ => ⟨rfl, rfl⟩⟩
 | some g =>
  obtain ⟨cur, hrow, hcl, hcr⟩ := k3 g rfl
  have hnro : ∀ off, ¬ E.ro g off := fun off => st.rel.sepT id _ _ _ _ _ g _ _ off hid rfl hL (by omega)
  have hlec : es.length * sz ≤ cap * sz := Nat.mul_le_mul_right _ k1
  rw [hlE] at hcr
  by_cases hroom : es.length + ys.length ≤ cap
  ·have hmulle : (es.length + ys.length) * sz ≤ cap * sz := Nat.mul_le_mul_right _ hroom
   obtain ⟨w', hrun, hrow', hsame, hsize, hos, hout⟩ := append_room (P := P) (ty := o.type) hu hi hrow (a := ⟨b, off, none⟩) (m := ys.length) (c := cx) (news := news) (n := es.length) (cap := cap) (by rw [n1, hisz]) (fun j v hj => by rw [addr_add]; exact n2 j v hj)
    (RepL.one_p n3) hroom (by rw [hisz]; omega)
   rw [hisz] at hrow'
   obtain ⟨g1, g2⟩ := st.rel.growG (w' := w') (b := g) (c' := cap) (vs := patch cur (es.length * sz) news) (o' := .vec sz (es ++ ys)) (m := ys.length) hid rfl hk' (Nat.le_refl _) (.inl hpos) (.inl ⟨_, hL, rfl⟩) hrow'
    (by rw [patch_length]; exact hcl) hroom (fun b' hne _ => hsame b' hne) (fun off ho => absurd ho (hnro off)) (by omega) ⟨hos, hout⟩
    (fun E' hx' _ => by
     rw [hlA]
     have e1 : patch cur (es.length * sz) news = cur.take (es.length * sz) ++ patch (cur.drop (es.length * sz)) 0 news := by
      have hh := patch_skip news (cur.take (es.length * sz)) (cur.drop (es.length * sz)) 0
      rw [List.take_append_drop, List.length_take, Nat.min_eq_left (by omega), Nat.add_zero] at hh
      exact hh
     have e2 : patch (cur.drop (es.length * sz)) 0 news = news ++ (cur.drop (es.length * sz)).drop (ys.length * sz) := by
      have hh := patch_full news ((cur.drop (es.length * sz)).take (ys.length * sz)) ((cur.drop (es.length * sz)).drop (ys.length * sz)) (by rw [List.length_take, List.length_drop]; omega)
      rwa [List.take_append_drop] at hh
     rw [e1, e2, ← List.append_assoc, List.take_append_of_le_length (by rw [List.length_append, List.length_take]; omega), List.take_of_length_le (by rw [List.length_append, List.length_take]; omega)]
     exact flat_rep (hcr.ext hx') (n3.ext hx'))
   refine ⟨_, _, _, w', .slice (some ⟨g, 0, none⟩) (es.length + ys.length) cap, ⟨rfl, rfl⟩, ?_, g1, vec_fresh st.fresh hlt, ?_, g2⟩
   ·exact exec_append ho (by rw [hsv, hxv]; exact hrun)
   ·simp only [Rep]
    exact ⟨⟨some g, cap, es.length + ys.length⟩, by simp, Nat.le_refl _, _, _, rfl, fun _ => ⟨rfl, rfl⟩⟩
  ·have hol : (cur.take (es.length * sz)).length = es.length * sz := by rw [List.length_take]; omega
   have holds : ∀ j v, (cur.take (es.length * sz))[j]? = some v → w.cell? ((⟨g, 0, none⟩ : Addr).add j) = some v := by
    intro j v hj
    rw [addr_add, Nat.zero_add, hrow.cell]
    rw [List.getElem?_take] at hj
    split at hj
    ·exact hj
    ·cases hj
   have hrun := run_append_grow (P := P) w t o.type e i zv hu hi hzv ⟨g, 0, none⟩ es.length cap (cur.take (es.length * sz)) (by rw [hol, hisz]) holds ⟨b, off, none⟩ ys.length cx news (by rw [n1, hisz])
    (fun j v hj => by rw [addr_add]; exact n2 j v hj) (by omega) (by omega) (growslice_fits (by omega) (by rw [hiby]; exact hb))
   have hzs : ((Builtin.zeroCells zv.cells (grownCap w (es.length + ys.length) cap e - (es.length + ys.length))).toList).length = (grownCap w (es.length + ys.length) cap e - (es.length + ys.length)) * sz := by
    rw [Array.length_toList, size_zeroCells, hzc]; simp [hzl, hisz]
   have hle := le_grownCap w (es.length + ys.length) cap e
   have hq : List.toArray (cur.take (es.length * sz) ++ news ++ (Builtin.zeroCells zv.cells (grownCap w (es.length + ys.length) cap e - (es.length + ys.length))).toList) =
     (cur.take (es.length * sz)).toArray ++ news.toArray ++ Builtin.zeroCells zv.cells (grownCap w (es.length + ys.length) cap e - (es.length + ys.length)) := by
    apply Array.ext'; simp
   rw [← hq] at hrun
   obtain ⟨g1, g2⟩ := st.rel.growG (w' := w.drew.alloc (.cells (List.toArray (cur.take (es.length * sz) ++ news ++ (Builtin.zeroCells zv.cells (grownCap w (es.length + ys.length) cap e - (es.length + ys.length))).toList)) e (0, 0))) (b := w.heap.size) (c' := grownCap w (es.length + ys.length) cap e)
    (o' := .vec sz (es ++ ys)) (m := ys.length) hid rfl hk' (Nat.le_refl _) (.inl hpos) (.inr (Nat.le_refl _)) ⟨e, alloc_new (w := w.drew) _⟩
    (by rw [List.length_append, List.length_append, hol, n1, hzs, ← hadd, ← Nat.add_mul]; congr 1; omega) hle (fun b' _ hb' => alloc_old (w := w.drew) _ hb') (fun off ho => by have := st.rel.lt _ _ ho; omega) (by rw [alloc_size]; show w.heap.size ≤ w.heap.size + 1; omega) ⟨rfl, rfl⟩
    (fun E' hx' _ => by
     have hl1 : (cur.take (es.length * sz) ++ news).length = (es.length + ys.length) * sz := by rw [List.length_append, hol]; omega
     have hh := flat_rep (hcr.ext hx') (n3.ext hx')
     generalize cur.take (es.length * sz) ++ news = q at hh hl1
     rw [hlA, ← hl1, List.take_append_of_le_length (Nat.le_refl _), List.take_of_length_le (Nat.le_refl _)]
     exact hh)
   refine ⟨_, _, _, _, .slice (some ⟨w.heap.size, 0, none⟩) (es.length + ys.length) (grownCap w (es.length + ys.length) cap e), ⟨rfl, rfl⟩, ?_, g1, vec_fresh st.fresh hlt, ?_, g2⟩
   ·exact exec_append ho (by rw [hsv, hxv]; exact hrun)
   ·simp only [Rep]
    exact ⟨⟨some w.heap.size, grownCap w (es.length + ys.length) cap e, es.length + ys.length⟩, by simp, Nat.le_refl _, _, _, rfl, fun _ => ⟨rfl, rfl⟩⟩
theorem Run.freezeV (slot : Nat) {id n sz : Nat} {es : List (List PV)} (hs : tget T slot = .vec id n) (hat : h.at id = some (.vec sz es)) (hes : ∀ e ∈ es, e.length = sz) (hn : es.length = n)
  (r : Run P rd nb k (T.set slot (.p (.sl sz es))) (h.set id none) D Q) : Run P rd nb k T h D Q := by
 intro E w a s
 have hv := s.tmps.get slot
 rw [← tget_eq, hs] at hv
 simp only [Rep] at hv
 obtain ⟨L, hL, _, ad, cap0, hv, hcur⟩ := hv
 obtain ⟨blk, cap, ht, k1, k2, k3⟩ := s.rel.toks id _ _ _ _ _ hat rfl
 rw [hL] at ht; cases ht
 subst hn
 obtain ⟨ha0, hc0⟩ := hcur rfl
 simp only at hc0
 rw [ha0, hc0] at hv
 have hset : ∀ {E' : Env} {x : AV}, RepL E' w T a.tmps.toList → Rep E' w x (a.tmps.toList.getD slot undef) → RepL E' w (T.set slot x) a.tmps.toList := by
  intro E' x hT hx
  have hset := hT.set hx slot
  have hsame : (a.tmps.toList).set slot (a.tmps.toList.getD slot undef) = a.tmps.toList := by
   apply List.ext_getElem?
   intro j
   rw [List.getElem?_set]
   split
   ·rename_i e; subst e
    rcases Nat.lt_or_ge slot a.tmps.size with l | l
    ·simp [l]
    ·have l' : ¬ slot < a.tmps.size := by omega
     simp [l']
   ·rfl
  rwa [hsame] at hset
 cases blk with
 | none =>
  have hc0 := k2 rfl
  have he0 : es = [] := List.eq_nil_of_length_eq_zero (by omega)
  subst he0
  obtain ⟨f1, f2⟩ := s.rel.forget (id := id)
  have s' := s.move f2 f1 (fun i hi => s.fresh i (by simpa using hi))
  have hx : Rep E w (.p (.sl sz [])) (.slice none 0 cap) := by
   simp only [Rep, RepP]
   exact ⟨_, cap, rfl, k1, .inl trivial⟩
  exact K_mono (P := P) (rd := rd) (Post.of_fr (Q := Q) f2) k _ _ _ (r _ w a ⟨s'.rel, s'.fresh, hset s'.tmps (by rw [hv]; exact hx), s'.defers⟩)
 | some b =>
  obtain ⟨vals, hrow, hcl, hcr⟩ := k3 b rfl
  obtain ⟨f1, f2⟩ := s.rel.freezeG (b := b) hat (.inr ⟨_, _, _, _, hat, rfl, hL⟩)
  have s' := s.move f2 f1 (fun i hi => s.fresh i (by simpa using hi))
  have hel : (es.flatten.map AV.p).length = es.length * sz := by rw [List.length_map, flat_length hes]
  have hx : Rep { E with ro := fun b' off => E.ro b' off ∨ b' = b } w (.p (.sl sz es)) (.slice (some ⟨b, 0, none⟩) es.length cap) := by
   simp only [Rep, RepP]
   refine ⟨_, cap, rfl, k1, .inr ⟨b, 0, rfl, ?_⟩⟩
   rw [hel] at hcr
   refine RepEs.of_row (vs := vals.take (es.length * sz)) hes (fun j v hj => ⟨.inr rfl, ?_⟩) (hcr.ext f2.ext)
   rw [hrow.cell, Nat.zero_add]
   rw [List.getElem?_take] at hj
   split at hj
   ·exact hj
   ·cases hj
  exact K_mono (P := P) (rd := rd) (Post.of_fr (Q := Q) f2) k _ _ _ (r _ w a ⟨s'.rel, s'.fresh, hset s'.tmps (by rw [hv]; exact hx), s'.defers⟩)

end

section

open Go.Shelf Go.Sort Go.Proofs

end

end Go.AI

namespace Go.Proofs.YtcfcolkbeelegaaGreat

open Go Go.AI

mutual
def rsub (vs : List Tm) (e n d : Int) : Tm → Tm × Int × Int
 | .mk k i nm ls ks =>
  if 4096 < n then (.mk k i nm ls ks, e, n)
  else if k = 0 then
   (if d ≤ i then
    (match vs[(i - d).toNat]? with
     | some x => (shiftT d 0 0 x, errIf (shiftBad d 0 0 x) e, n + x.size)
     | none => (vr (i - vs.length), errIf (decide (65535 < i - vs.length)) e, n + 1))
   else (.mk k i nm ls ks, e, n + 1))
  else (.mk k i nm ls (rsubL vs e (n + 1) d k 0 ks).1, (rsubL vs e (n + 1) d k 0 ks).2.1, (rsubL vs e (n + 1) d k 0 ks).2.2)
def rsubL (vs : List Tm) (e n d k : Int) (idx : Nat) : List Tm → List Tm × Int × Int
 | [] => ([], e, n)
 | t :: ts =>
  ((rsub vs e n (d + belowZ k idx) t).1 :: (rsubL vs (rsub vs e n (d + belowZ k idx) t).2.1 (rsub vs e n (d + belowZ k idx) t).2.2 d k (idx + 1) ts).1,
   (rsubL vs (rsub vs e n (d + belowZ k idx) t).2.1 (rsub vs e n (d + belowZ k idx) t).2.2 d k (idx + 1) ts).2.1,
   (rsubL vs (rsub vs e n (d + belowZ k idx) t).2.1 (rsub vs e n (d + belowZ k idx) t).2.2 d k (idx + 1) ts).2.2)
end
def capD (dp : Int) : Int := if 65536 < dp then 65536 else dp
def resRefUnder (t : Tm) (vs : List Tm) (dp : Int) : Tm × Int :=
 if dp < 0 then (zT, 2)
 else if 4096 < (rsub vs 0 0 (capD dp) t).2.2 then (zT, 5)
 else if (rsub vs 0 0 (capD dp) t).2.1 ≠ 0 then (zT, (rsub vs 0 0 (capD dp) t).2.1)
 else if 200 < ((rsub vs 0 0 (capD dp) t).1.depth : Int) then (zT, 7) else ((rsub vs 0 0 (capD dp) t).1, 0)



open Go Go.AI
def intPs (l : List Int) : List (List PV) := l.map fun x => [iP x]
@[simp] theorem intPs_length (l : List Int) : (intPs l).length = l.length := by simp [intPs]
@[simp] theorem intPs_get (l : List Int) (i : Nat) : (intPs l)[i]? = (l[i]?).map fun x => [iP x] := by simp [intPs]


end Go.Proofs.YtcfcolkbeelegaaGreat

namespace Go.AI

open Go
theorem Run.weakAt {P : Program} {rd : Option Nat} {nb : Nat} {k : List It} {T : List AV} {h : Heap} {D : List AD} {Q : AX → List AV → Heap → List AD → Prop} (slot : Nat) (y : AV) (hw : Weak (tget T slot) y) (r : Run P rd nb k (T.set slot y) h D Q) : Run P rd nb k T h D Q := by
 refine Run.weak ?_ r
 intro E w vs hT
 have hv := hT.get slot
 rw [← tget_eq] at hv
 have hset := hT.set (hw E w _ hv) slot
 have hsame : vs.set slot (vs.getD slot undef) = vs := by
  apply List.ext_getElem?
  intro j
  rw [List.getElem?_set]
  split
  ·rename_i e; subst e
   rcases Nat.lt_or_ge slot vs.length with l | l
   ·simp [l]
   ·have l' : ¬ slot < vs.length := by omega
    simp [l']
  ·rfl
 rwa [hsame] at hset

end Go.AI

namespace Go.Proofs.YtcfcolkbeelegaaGreat.aw03

open Go Go.AI
def lt : List Tm := [.mk 3 0 [78, 97, 116] [] [], .mk 4 0 [] [] [vr 0, vr 1]]
def ls : List Lv := [⟨0, [(1, 0)]⟩]
def t3 : Tm := .mk 3 0 [78, 97, 116] [] [vr 0]
def t4 : Tm := .mk 0 7 [120] [] []

end Go.Proofs.YtcfcolkbeelegaaGreat.aw03

namespace Go.Proofs.YtcfcolkbeelegaaGreat

open Go Go.AI
theorem tmPs_len5 (l : List Tm) : ∀ e ∈ tmPs l, e.length = 5 := by
 intro e he
 rw [tmPs_eq] at he; obtain ⟨t, _, rfl⟩ := List.mem_map.1 he; simp
abbrev row (l : List Tm) (m : Nat) : Option AO := some (.cells (buf 5 (tmPs l) m))
theorem row_get {l : List Tm} {m k : Nat} (hk : k < l.length) : ((buf 5 (tmPs l) m).drop (k * 5)).take 5 = (l[k]).cells.map .p := by
 rw [buf_get (tmPs_len5 l) (by simpa using hk)]; simp [tmPs_eq]
theorem row_set {l : List Tm} {m k : Nat} (t : Tm) (hk : k < l.length) : patch (buf 5 (tmPs l) m) (k * 5) (t.cells.map .p) = buf 5 (tmPs (l.set k t)) m := by
 rw [buf_set (tmPs_len5 l) (by simpa using hk) (by simp)]; simp [tmPs_eq, List.map_set]
theorem row_len (l : List Tm) (m : Nat) : (buf 5 (tmPs l) m).length = (l.length + m) * 5 := by rw [buf_len (tmPs_len5 l)]; simp
theorem row_under (n : Nat) (l : List Tm) (m : Nat) : AO.under n (row l m) = true := buf_under n 5 (tmPs l) m
def Turned (ts l : List Tm) (i : Nat) : Prop := l.length = ts.length ∧ ∀ k, k < ts.length → l[k]? = if k < i ∨ ts.length ≤ k + i then ts[ts.length - 1 - k]? else ts[k]?
theorem turned_zero (ts : List Tm) : Turned ts ts 0 := ⟨rfl, fun k hk => by rw [if_neg (by omega)]⟩
theorem turned_done {ts l : List Tm} {i : Nat} (h : Turned ts l i) (hi : ts.length ≤ 2 * i + 1) : l = ts.reverse := by
 apply List.ext_getElem?
 intro k
 rcases Nat.lt_or_ge k ts.length with hk | hk
 ·rw [h.2 k hk, List.getElem?_reverse hk]
  by_cases hc : k < i ∨ ts.length ≤ k + i
  ·rw [if_pos hc]
  ·rw [if_neg hc]
   congr 1; omega
 ·rw [List.getElem?_eq_none (by rw [h.1]; exact hk), List.getElem?_eq_none (by simpa using hk)]
theorem turned_step {ts l : List Tm} {i : Nat} (h : Turned ts l i) (hi : 2 * i + 1 < ts.length) (x y : Tm) (hx : l[i]? = some x) (hy : l[ts.length - 1 - i]? = some y) : Turned ts ((l.set i y).set (ts.length - 1 - i) x) (i + 1) := by
 refine ⟨by simp [h.1], fun k hk => ?_⟩
 have h1 := h.2 i (by omega)
 have h2 := h.2 (ts.length - 1 - i) (by omega)
 rw [if_neg (by omega)] at h1 h2
 rw [hx] at h1
 rw [hy] at h2
 rw [List.getElem?_set, List.getElem?_set]
 by_cases e1 : ts.length - 1 - i = k
 ·rw [if_pos e1, if_pos (by simp [h.1]; omega), if_pos (by omega)]
  rw [show ts.length - 1 - k = i by omega]; exact h1
 ·rw [if_neg e1]
  by_cases e2 : i = k
  ·rw [if_pos e2, if_pos (by rw [h.1]; omega), if_pos (by omega), ← e2]; exact h2
  ·rw [if_neg e2, h.2 k hk]
   by_cases hc : k < i ∨ ts.length ≤ k + i
   ·rw [if_pos hc, if_pos (by omega)]
   ·rw [if_neg hc, if_neg (by omega)]
set_option maxHeartbeats 8000000 in
theorem reverse_any (h : Heap) (hh : WF h) (ts : List Tm) (id cap m : Nat) (hl : ts.length ≤ 1048576) (hid : h[id]? = some (row ts m)) :
  ACalls Tryz.prog 212 [.sm id 0 ts.length cap 5] h fun o h' => o = .ret (.tup []) ∧ h' = h.set id (row ts.reverse m) := by
 obtain ⟨g1, g2, g3, g4, g5, hlt⟩ := idf hid
 refine ACalls.of_run Tryz.func212 rfl ?_
 simp only [Tryz.ntmps212, List.length_cons, List.length_nil]
 refine nv ?_
 refine Run.reg fun K J => ?_
 simp
 try (simp (disch := omega) only [wrap_id])
 refine J _ _ _ (nv ?_); clear J
 refine Run.loopS (ι := Nat × List Tm) [0] (fun p => 2 * p.1 ≤ ts.length + 1 ∧ Turned ts p.2 p.1) (fun p => ts.length - p.1) (fun p => [(2, iA p.1), (3, iA ((ts.length : Int) - 1 - p.1))]) (fun p => h.set id (row p.2 m)) (0, ts) ⟨by simp, turned_zero ts⟩ ?_ (by simp [set_same hid]) ?_
 ·simp
  repeat' first | exact wn | apply wc | exact wj _ | exact wr _ | exact wz _ | exact wo _ _ _ | exact wi (by omega)
 rintro ⟨i, l⟩ ⟨hi, ht⟩ IH
 simp only at hi ht
 simp
 have hll := ht.1
 by_cases hc : 2 * i + 1 < ts.length
 ·obtain ⟨j, hj⟩ : ∃ j : Nat, j = ts.length - 1 - i := ⟨_, rfl⟩
  have hje : (ts.length : Int) - 1 - i = (j : Int) := by omega
  rw [hje]
  have hc2 : i < j := by omega
  have hil : i < l.length := by omega
  have hjl : j < l.length := by omega
  obtain ⟨x, hx⟩ : ∃ x, l[i] = x := ⟨_, rfl⟩
  obtain ⟨y, hy⟩ : ∃ y, l[j] = y := ⟨_, rfl⟩
  have hstep := turned_step ht hc x y (by rw [List.getElem?_eq_getElem hil, hx]) (by rw [← hj, List.getElem?_eq_getElem hjl, hy])
  rw [← hj] at hstep
  have gx : ((buf 5 (tmPs l) m).drop (i * 5)).take 5 = x.cells.map .p := by rw [row_get hil, hx]
  have gy : ((buf 5 (tmPs l) m).drop (j * 5)).take 5 = y.cells.map .p := by rw [row_get hjl, hy]
  have p1 : patch (buf 5 (tmPs l) m) (i * 5) (y.cells.map .p) = buf 5 (tmPs (l.set i y)) m := row_set y hil
  have p2 : patch (buf 5 (tmPs (l.set i y)) m) (j * 5) (x.cells.map .p) = buf 5 (tmPs ((l.set i y).set j x)) m := row_set x (by simpa using hjl)
  have l1 : i * 5 + 5 ≤ (buf 5 (tmPs l) m).length := by rw [row_len]; omega
  have l2 : j * 5 + 5 ≤ (buf 5 (tmPs l) m).length := by rw [row_len]; omega
  have l3 : j * 5 + 5 ≤ (buf 5 (tmPs (l.set i y)) m).length := by rw [row_len]; simp; omega
  have hi2 : i < ts.length := by omega
  have hj2 : j < ts.length := by omega
  refine nv ?_
  refine Run.reg fun K J => ?_
  simp
  refine J _ _ _ (nv ?_); clear J
  refine ct (by simp [hc2]) (nv ?_)
  refine Run.draw [0, 0, 0, 0, 0, 0, 0, 0, 0, 0, 0, 0, 0, 0, 1, 1] [0, 0, 0, 0, 0, 0, 0, 0, 0, 0, 0, 0, 0, 0, 0, 1] [0, 0, 0, 0, 0, 0, 48, 112, 0, 0, 768, 1792, 4083, 8179, 16383, 32767] [0, 1, 4, 5, 6, 7, 8, 9, 10, 11, 12, 13, 2, 3, 14, 15] (by kernel_rfl) (by kernel_rfl) ?_
  refine DR.go fun K J => ?_
  simp [hi2, hj2, l1, l2, l3, gx, gy, p1, p2, g3]
  refine J _ _ _ _ ?_; clear J
  change Run _ _ _ _ _ _ _ _
  refine nv ?_
  refine Run.reg fun K J => ?_
  simp
  try (simp (disch := omega) only [wrap_id])
  refine J _ _ _ (nv ?_); clear J
  refine IH (i + 1, (l.set i y).set j x) _ _ ⟨by simp only; omega, hstep⟩ (by simp only; omega) ?_ ?_
  ·simp
   repeat' first | exact wn | apply wc
   all_goals first | exact Weak.junk _ | exact Weak.refl _ | exact Weak.int (by omega)
  ·simp
 ·have hc2 : ¬ (i : Int) < (ts.length : Int) - 1 - i := by omega
  have hd := turned_done ht (by omega)
  subst hd
  refine nv ?_
  refine Run.reg fun K J => ?_
  simp
  refine J _ _ _ (nv ?_); clear J
  refine cf (by simp [hc2]) ?_
  refine Run.exit rfl ?_
  refine Run.nil ?_
  exact Fin.ret' (h0 := h.set id (row ts.reverse m)) (by simp) (by simp) (hh.set (row_under _ _ _)) (List.append_nil _).symm rfl rfl (Weak.refl _) rfl ⟨rfl, rfl⟩
theorem reverse_nil (h : Heap) (hh : WF h) : ACalls Tryz.prog 212 [.p (.sl 5 [])] h fun o h' => o = .ret (.tup []) ∧ h' = h := by
 refine ACalls.of_run Tryz.func212 rfl ?_
 simp only [Tryz.ntmps212, List.length_cons, List.length_nil]
 refine nv ?_
 refine Run.reg fun K J => ?_
 simp
 try (simp (disch := omega) only [wrap_id])
 refine J _ _ _ (nv ?_); clear J
 refine Run.loopS [] (fun _ : Unit => True) (fun _ => 0) (fun _ => [(2, iA 0), (3, iA (-1))]) (fun _ => h) () trivial ?_ rfl ?_
 ·simp
  repeat' first | exact wn | apply wc | exact wj _ | exact wr _ | exact wz _ | exact wo _ _ _ | exact wi (by omega)
 rintro _ _ IH
 simp
 refine nv ?_
 refine Run.reg fun K J => ?_
 simp
 refine J _ _ _ (nv ?_); clear J
 refine cf (by simp) ?_
 refine Run.exit rfl ?_
 refine Run.nil ?_
 exact Fin.ret' (by simp) rfl hh (List.append_nil _).symm rfl rfl (Weak.refl _) rfl ⟨rfl, rfl⟩


open Go Go.AI
def conT (n : List UInt8) : Tm := .mk 3 0 n [] []
def resLook (ctx : List Tm) (i : Int) : Tm × Int :=
 if i < 0 ∨ (ctx.length : Int) ≤ i then (zT, 24) else match ctx[((ctx.length : Int) - 1 - i).toNat]? with
  | some t => resRefShift (i + 1) 0 t
  | none => (zT, 24)


open Go Go.AI
def isB (k : Int) : Tm → Option (Tm × Tm)
 | .mk k' _ _ _ [a, b] => if k' = k then some (a, b) else none
 | _ => none
def openA : Nat → List Tm → Tm → List Tm × Tm × Int
 | 0, acc, t => (acc, t, 0)
 | n + 1, acc, t => match isB 6 t with
  | some (a, b) => openA n (acc ++ [a]) b
  | none => ([], zT, 13)
def resOpen (t : Tm) (n : Int) : List Tm × Tm × Int := if n < 0 then ([], zT, 2) else openA n.toNat [] t


open Go Go.AI
abbrev vc (x : Int) : List PV := [iP 0, iP x, sP [], .prim (.slice none 0 0), .prim (.slice none 0 0)]
def varZ (n fr : Int) : List Int := if n < 1 ∨ 4096 < n ∨ fr < 0 then [] else (List.range n.toNat).map fun j : Nat => fr + n - 1 - j
def varL (n fr : Int) : List Tm := (varZ n fr).map vr


open Go Go.AI
def resInst (ctx : List Tm) (t : Tm) (args : List Tm) : Tm × Int := if args.length ≠ ctx.length then (zT, 6) else resRefUnder t args.reverse 0


open Go Go.AI
def bindT (k : Int) (ctx : List Tm) (t : Tm) : Tm := ctx.foldr (fun a t => .mk k 0 [] [] [a, t]) t

end Go.Proofs.YtcfcolkbeelegaaGreat
