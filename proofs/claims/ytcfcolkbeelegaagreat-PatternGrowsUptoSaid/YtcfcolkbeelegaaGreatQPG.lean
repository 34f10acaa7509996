import Derived.Test.YtcfcolkbeelegaaGreatQV0
import Derived.Test.YtcfcolkbeelegaaGreatQPE
import Derived.Test.YtcfcolkbeelegaaGreatQFS
set_option maxRecDepth 8000
set_option maxHeartbeats 16000000

namespace Go.AI

open Go
theorem buf_rep {E : Env} {w : World} {sz cap : Nat} {es : List (List PV)} {vs : List Value} (hes : ∀ e ∈ es, e.length = sz) (hn : es.length ≤ cap) (hl : vs.length = cap * sz)
  (hr : RepL E w (es.flatten.map .p) (vs.take (es.flatten.map AV.p).length)) : RepL E w (buf sz es (cap - es.length)) vs := by
 have hel : (es.flatten.map AV.p).length = es.length * sz := by rw [List.length_map, flat_length hes]
 rw [hel] at hr
 have hmul : es.length * sz + (cap - es.length) * sz = cap * sz := by rw [← Nat.add_mul]; congr 1; omega
 have hd : (vs.drop (es.length * sz)).length = (cap - es.length) * sz := by rw [List.length_drop]; omega
 have := hr.append (hd ▸ RepL.junks (E := E) (w := w) (vs.drop (es.length * sz)))
 rw [List.take_append_drop] at this
 exact this
theorem Rel.thaw {E : Env} {h : Heap} {w : World} (r : Rel E h.at w) (hf : Fresh E h.length) {id b cap sz : Nat} {es : List (List PV)} (hat : h.at id = some (.vec sz es)) (hL : E.t id = some ⟨some b, cap, es.length⟩) (hes : ∀ e ∈ es, e.length = sz) :
  let E' : Env := { E with g := fun i => if i = h.length then some b else E.g i }
  let h' : Heap := h.set id none ++ [some (.cells (buf sz es (cap - es.length)))]
  Rel E' h'.at w ∧ Fr E h.at w E' h'.at w ∧ Fresh E' (h.length + 1) ∧ es.length ≤ cap := by
 intro E' h'
 obtain ⟨blk, cap', ht, k1, k2, k3⟩ := r.toks id _ _ _ _ _ hat rfl
 rw [hL] at ht; cases ht
 obtain ⟨vs, hrow, hcl, hcr⟩ := k3 b rfl
 have hlt := lt_of_at hat
 have hx : Ext E w E' w := ⟨fun _ _ h => h, fun _ _ _ => rfl, fun i b' e => by
   show (if i = h.length then some b else E.g i) = some b'
   rw [if_neg (fun he => by rw [he, (hf _ (Nat.le_refl _)).1] at e; cases e)]; exact e, fun _ L h => ⟨L, h, Nat.le_refl _, fun _ => rfl⟩⟩
 have hnew : h'.at h.length = some (.cells (buf sz es (cap - es.length))) := by
  have := at_append (h.set id none) (some (.cells (buf sz es (cap - es.length)))) h.length
  rw [List.length_set, if_pos rfl] at this
  exact this
 have hold : ∀ i o, i ≠ h.length → h'.at i = some o → h.at i = some o ∧ i ≠ id := by
  intro i o hne e
  have := at_append (h.set id none) (some (.cells (buf sz es (cap - es.length)))) i
  rw [List.length_set, if_neg hne] at this
  have e' : Heap.at (h.set id none) i = some o := this ▸ e
  unfold Heap.at at e' ⊢
  by_cases c : id = i
  ·subst c
   rw [List.getElem?_set_self'] at e'
   cases hh : h[id]? <;> simp [hh] at e'
  ·rw [List.getElem?_set_ne c] at e'
   exact ⟨e', fun q => c q.symm⟩
 have hg' : ∀ i, i ≠ h.length → E'.g i = E.g i := fun i hne => if_neg hne
 have hgn : E'.g h.length = some b := if_pos rfl
 have hO : ∀ i b', Owns E' h'.at i b' → (i = h.length ∧ b' = b) ∨ (i ≠ h.length ∧ i ≠ id ∧ Owns E h.at i b') := by
  intro i b' ho
  by_cases e : i = h.length
  ·subst e
   left; refine ⟨rfl, ?_⟩
   rcases ho with ⟨o', h1, h3, h2⟩ | ⟨o', x, c, m, h1, hk, h2⟩
   ·rw [hgn] at h2; cases h2; rfl
   ·rw [hnew] at h1; cases h1; simp [AO.tk] at hk
  ·right
   rcases ho with ⟨o', h1, h3, h2⟩ | ⟨o', x, c, m, h1, hk, h2⟩
   ·obtain ⟨q1, q2⟩ := hold i o' e h1
    rw [hg' i e] at h2
    exact ⟨e, q2, .inl ⟨o', q1, h3, h2⟩⟩
   ·obtain ⟨q1, q2⟩ := hold i o' e h1
    exact ⟨e, q2, .inr ⟨o', x, c, m, q1, hk, h2⟩⟩
 have hown : Owns E h.at id b := .inr ⟨_, _, _, _, hat, rfl, hL⟩
 refine ⟨⟨fun i o hc hn => ?_, fun i o n s k cs hc hk => ?_, fun i i' b' h1 h2 => ?_, fun i o b' off hc hn hg hb => ?_, fun i o n s k cs b' c m off hc hk hg hl hb => ?_, r.lt⟩, ⟨fun _ _ _ => rfl, hx, fun _ _ h => .inl h, Nat.le_refl _, fun b' ⟨i, ho⟩ => ?_, Kp.refl w⟩, fun i hi => ?_, k1⟩
 ·by_cases e : i = h.length
  ·subst e; rw [hnew] at hc; cases hc
   exact ⟨b, hgn, vs, hrow, (buf_rep hes k1 hcl hcr).ext hx⟩
  ·obtain ⟨q1, _⟩ := hold i o e hc
   obtain ⟨b', hg, ho⟩ := r.objsO i o q1 hn
   exact ⟨b', by rw [hg' i e]; exact hg, ho.move hx rfl⟩
 ·have e : i ≠ h.length := fun e => by subst e; rw [hnew] at hc; cases hc; simp [AO.tk] at hk
  obtain ⟨q1, _⟩ := hold i o e hc
  obtain ⟨blk, cap2, ht, h1, h2, h3⟩ := r.toks i o n s k cs q1 hk
  refine ⟨blk, cap2, ht, h1, h2, fun b' hb => ?_⟩
  obtain ⟨us, hr, hl, hp⟩ := h3 b' hb
  exact ⟨us, hr, hl, hp.ext hx⟩
 ·rcases hO i b' h1 with ⟨e1, e2⟩ | ⟨e1, e2, o1⟩ <;> rcases hO i' b' h2 with ⟨e3, e4⟩ | ⟨e3, e4, o2⟩
  ·rw [e1, e3]
  ·subst e2; exact absurd (r.inj _ _ _ o2 hown) e4
  ·subst e4; exact absurd (r.inj _ _ _ o1 hown) e2
  ·exact r.inj i i' b' o1 o2
 ·by_cases e : i = h.length
  ·subst e
   rw [hgn] at hg; cases hg
   exact r.sepT id _ _ _ _ _ b cap _ off hat rfl hL (by omega) hb
  ·obtain ⟨q1, _⟩ := hold i o e hc
   rw [hg' i e] at hg; exact r.sepO i o b' off q1 hn hg hb
 ·have e : i ≠ h.length := fun e => by subst e; rw [hnew] at hc; cases hc; simp [AO.tk] at hk
  obtain ⟨q1, _⟩ := hold i o e hc
  exact r.sepT i o n s k cs b' c m off q1 hk hg hl hb
 ·rcases hO i b' ho with ⟨_, e2⟩ | ⟨_, _, o⟩
  ·subst e2; exact .inl ⟨id, hown⟩
  ·exact .inl ⟨i, o⟩
 ·have hid' : h.length + 1 ≤ i := hi
  exact ⟨by rw [hg' i (by omega)]; exact (hf i (by omega)).1, (hf i (by omega)).2⟩

section

variable {P : Program} {rd : Option Nat} {nb : Nat} {k : List It} {T : List AV} {h : Heap} {D : List AD} {Q : AX → List AV → Heap → List AD → Prop}
theorem Run.thawAt (cid off : Nat) {id n sz : Nat} {cs : List AV} {es : List (List PV)} (hcid : h.at cid = some (.cells cs)) (hs : cs[off]? = some (.vec id n)) (hat : h.at id = some (.vec sz es)) (hes : ∀ e ∈ es, e.length = sz) (hn : es.length = n) (hpos : 0 < n)
  (r : ∀ cap, n ≤ cap → Run P rd nb k T ((h.set cid (some (.cells (cs.set off (.sm h.length 0 n cap sz))))).set id none ++ [some (.cells (buf sz es (cap - n)))]) D Q) : Run P rd nb k T h D Q := by
 intro E w a s
 subst hn
 have hlt := lt_of_at hat
 have hltc := lt_of_at hcid
 have hne : cid ≠ id := fun e => by subst e; rw [hcid] at hat; cases hat
 obtain ⟨blk, cap, ht, k1, k2, k3⟩ := s.rel.toks id _ _ _ _ _ hat rfl
 obtain ⟨b, rfl⟩ : ∃ b, blk = some b := by
  cases blk with
  | none => have := k2 rfl; omega
  | some b => exact ⟨b, rfl⟩
 obtain ⟨t1, t2, t3, _⟩ := s.rel.thaw s.fresh hat ht hes
 have hl1 : (h.set id none ++ [some (AO.cells (buf sz es (cap - es.length)))]).length = h.length + 1 := by simp
 have s' := s.move t2 t1 (by rw [hl1]; exact t3)
 have hid' : Heap.at (h.set id none ++ [some (.cells (buf sz es (cap - es.length)))]) cid = some (.cells cs) := by
  rw [at_append, List.length_set, if_neg (by omega)]
  unfold Heap.at at hcid ⊢
  rw [List.getElem?_set_ne (fun q => hne q.symm)]; exact hcid
 obtain ⟨bc, vs, hg, hrow, hreps⟩ := s'.rel.objs cid cs hid'
 have hl := hreps.length
 have hoff : off < cs.length := (List.getElem?_eq_some_iff.1 hs).1
 obtain ⟨v, hv⟩ : ∃ v, vs[off]? = some v := ⟨_, List.getElem?_eq_getElem (by omega)⟩
 have hvr : Rep { E with g := fun i => if i = h.length then some b else E.g i } w (.vec id es.length) v := by
  have := hreps.get off
  simpa only [List.getD, hs, hv, Option.getD_some] using this
 simp only [Rep] at hvr
 obtain ⟨L, hL, _, ad, cap0, rfl, hcur⟩ := hvr
 rw [ht] at hL; cases hL
 obtain ⟨e1, e2⟩ := hcur rfl
 simp only [Option.map_some] at e1 e2
 subst e1
 have e3 := e2.symm
 subst e3
 have hx : Rep { E with g := fun i => if i = h.length then some b else E.g i } w (.sm h.length 0 es.length cap sz) (.slice (some ⟨b, 0, none⟩) es.length cap) := by
  simp only [Rep]
  exact ⟨b, by simp, rfl⟩
 have hsame : vs.set off (.slice (some ⟨b, 0, none⟩) es.length cap) = vs := by
  apply List.ext_getElem?
  intro j
  rw [List.getElem?_set]
  split
  ·rename_i e; subst e; simp [show off < vs.length by omega] at hv ⊢; exact hv.symm
  ·rfl
 have hset := hreps.set hx off
 rw [hsame] at hset
 obtain ⟨w1, w2⟩ := s'.rel.write hid' hg hrow (fun _ _ => rfl) rfl rfl rfl hset
 have e : List.set (h.set id none ++ [some (AO.cells (buf sz es (cap - es.length)))]) cid (some (.cells (cs.set off (.sm h.length 0 es.length cap sz)))) = (h.set cid (some (.cells (cs.set off (.sm h.length 0 es.length cap sz))))).set id none ++ [some (.cells (buf sz es (cap - es.length)))] := by
  rw [List.set_append_left _ _ (by rw [List.length_set]; exact hltc), List.set_comm _ _ (fun q => hne q.symm)]
 rw [e] at w1 w2
 have s2 := s'.move w2 w1 (by rw [List.length_append, List.length_set, List.length_set]; exact t3)
 exact K_mono (P := P) (rd := rd) (Post.of_fr (Q := Q) (t2.trans w2)) k _ _ _ (r cap k1 _ w a s2)

end


open Go

section

variable {P : Program} {rd : Option Nat} {nb : Nat} {k : List It} {T : List AV} {h : Heap} {D : List AD} {Q : AX → List AV → Heap → List AD → Prop}
theorem Run.freezeAt (cid off : Nat) {id n cap sz m : Nat} {cs : List AV} {es : List (List PV)} (hcid : h.at cid = some (.cells cs)) (hs : cs[off]? = some (.sm id 0 n cap sz)) (hat : h.at id = some (.cells (buf sz es m))) (hne : cid ≠ id) (hes : ∀ e ∈ es, e.length = sz) (hn : es.length = n) (hcap : n ≤ cap)
  (r : Run P rd nb k T ((h.set cid (some (.cells (cs.set off (.p (.sl sz es)))))).set id none) D Q) : Run P rd nb k T h D Q := by
 intro E w a s
 have hlt := lt_of_at hat
 have hltc := lt_of_at hcid
 obtain ⟨b, vals, hg, hrow, hreps⟩ := s.rel.objs id _ hat
 obtain ⟨f1, f2⟩ := s.rel.freeze hat hg
 have s' := s.move f2 f1 (fun i hi => s.fresh i (by simpa using hi))
 have hel : (es.flatten.map AV.p).length = es.length * sz := by rw [List.length_map, flat_length hes]
 have hx : Rep { E with ro := fun b' off => E.ro b' off ∨ b' = b } w (.p (.sl sz es)) (.slice (some ⟨b, 0, none⟩) n cap) := by
  simp only [Rep, RepP]
  refine ⟨_, cap, by rw [hn], by omega, .inr ⟨b, 0, rfl, ?_⟩⟩
  refine RepEs.of_row (vs := vals.take (es.length * sz)) hes (fun j v hj => ⟨.inr rfl, ?_⟩) ?_
  ·rw [hrow.cell, Nat.zero_add]
   rw [List.getElem?_take] at hj
   split at hj
   ·exact hj
   ·cases hj
  ·have := (hreps.ext f2.ext).take (es.length * sz)
   unfold buf at this
   rwa [List.take_append_of_le_length (by omega), List.take_of_length_le (by omega)] at this
 have hid' : Heap.at (h.set id none) cid = some (.cells cs) := by
  unfold Heap.at at hcid ⊢
  rw [List.getElem?_set_ne (fun q => hne q.symm)]; exact hcid
 obtain ⟨bc, vs, hgc, hrowc, hrepsc⟩ := s'.rel.objs cid cs hid'
 have hl := hrepsc.length
 have hoff : off < cs.length := (List.getElem?_eq_some_iff.1 hs).1
 obtain ⟨v, hv⟩ : ∃ v, vs[off]? = some v := ⟨_, List.getElem?_eq_getElem (by omega)⟩
 have hvr : Rep { E with ro := fun b' off => E.ro b' off ∨ b' = b } w (.sm id 0 n cap sz) v := by
  have := hrepsc.get off
  simpa only [List.getD, hs, hv, Option.getD_some] using this
 simp only [Rep] at hvr
 obtain ⟨b2, hb2, rfl⟩ := hvr
 have hb2 : E.g id = some b2 := hb2
 rw [hg] at hb2; cases hb2
 have hsame : vs.set off (.slice (some ⟨b, 0, none⟩) n cap) = vs := by
  apply List.ext_getElem?
  intro j
  rw [List.getElem?_set]
  split
  ·rename_i e; subst e; simp [show off < vs.length by omega] at hv ⊢; exact hv.symm
  ·rfl
 have hset := hrepsc.set hx off
 rw [hsame] at hset
 obtain ⟨w1, w2⟩ := s'.rel.write hid' hgc hrowc (fun _ _ => rfl) rfl rfl rfl hset
 have e : List.set (h.set id none) cid (some (.cells (cs.set off (.p (.sl sz es))))) = (h.set cid (some (.cells (cs.set off (.p (.sl sz es)))))).set id none := by
  rw [List.set_comm _ _ (fun q => hne q.symm)]
 rw [e] at w1 w2
 have s2 := s'.move w2 w1 (fun i hi => s'.fresh i (by simpa using hi))
 exact K_mono (P := P) (rd := rd) (Post.of_fr (Q := Q) (f2.trans w2)) k _ _ _ (r _ w a s2)

end

end Go.AI

namespace Go.Proofs.YtcfcolkbeelegaaGreat

open Go Go.AI
abbrev prow (l : List Pt) (m : Nat) : Option AO := some (.cells (buf 3 (ptPs l) m))
theorem prow_len (l : List Pt) (m : Nat) : (buf 3 (ptPs l) m).length = (l.length + m) * 3 := by rw [buf_len (ptPs_len3 l)]; simp
theorem prow_set {l : List Pt} {m k : Nat} (t : Pt) (hk : k < l.length) : patch (buf 3 (ptPs l) m) (k * 3) (t.cells.map .p) = buf 3 (ptPs (l.set k t)) m := by
 rw [buf_set (ptPs_len3 l) (by simpa using hk) (by simp)]; simp [ptPs_eq, List.map_set]
theorem prow_get {l : List Pt} {m k : Nat} {p : Pt} (h : l[k]? = some p) : ((buf 3 (ptPs l) m).drop (k * 3)).take 3 = p.cells.map .p := by
 have hk : k < l.length := (List.getElem?_eq_some_iff.1 h).1
 have hg : l[k] = p := (List.getElem?_eq_some_iff.1 h).2
 rw [buf_get (ptPs_len3 l) (by simpa using hk)]; simp [ptPs_eq, hg]
theorem prow_cell {l : List Pt} {m k : Nat} {kk : Int} {n : List UInt8} {qs : List Pt} (h : l[k]? = some (.mk kk n qs)) (c : Nat) (hc : c < 3) : (buf 3 (ptPs l) m)[k * 3 + c]? = [iA kk, .p (sP n), .p (.sl 3 (ptPs qs))][c]? := by
 have := congrArg (fun x => x[c]?) (prow_get (m := m) h)
 simp only [pcells_mk, List.map] at this
 rw [List.getElem?_take_of_lt hc, List.getElem?_drop] at this
 exact this
theorem prow_args {l : List Pt} {m k : Nat} {kk : Int} {n : List UInt8} {qs : List Pt} (ws : List Pt) (h : l[k]? = some (.mk kk n qs)) : (buf 3 (ptPs l) m).set (k * 3 + 2) (.p (.sl 3 (ptPs ws))) = buf 3 (ptPs (l.set k (.mk kk n ws))) m := by
 have hk : k < l.length := (List.getElem?_eq_some_iff.1 h).1
 rw [← prow_set (m := m) (.mk kk n ws) hk]
 simp only [pcells_mk, List.map, patch]
 have c0 := prow_cell (m := m) h 0 (by omega)
 have c1 := prow_cell (m := m) h 1 (by omega)
 simp at c0 c1
 generalize buf 3 (ptPs l) m = b at c0 c1
 have e0 : b.set (k * 3) (iA kk) = b := by
  apply List.ext_getElem?
  intro j
  rw [List.getElem?_set]
  split
  ·rename_i e; subst e
   rw [c0]; simp [(List.getElem?_eq_some_iff.1 c0).1]
  ·rfl
 have e1 : b.set (k * 3 + 1) (.p (sP n)) = b := by
  apply List.ext_getElem?
  intro j
  rw [List.getElem?_set]
  split
  ·rename_i e; subst e
   rw [c1]; simp [(List.getElem?_eq_some_iff.1 c1).1]
  ·rfl
 rw [e0, e1]
def CloneRp (h : Heap) (ts : List Pt) (o : AOut) (h' : Heap) : Prop :=
 (ts = [] ∧ o = .ret (.p (.sl 3 [])) ∧ h' = h) ∨ ∃ (G : Heap) (cap : Nat), WF (h ++ G) ∧ ts.length ≤ cap ∧ o = .ret (.sm (h.length + G.length) 0 ts.length cap 3) ∧ h' = h ++ (G ++ [prow ts (cap - ts.length)])
theorem pclone_any (h : Heap) (hh : WF h) (ts : List Pt) (hl : ts.length ≤ 1048576) : ACalls Tryz.prog 179 [.p (.sl 3 (ptPs ts))] h (CloneRp h ts) := by
 refine ACalls.of_run Tryz.func179 rfl ?_
 simp only [Tryz.ntmps179, List.length_cons, List.length_nil]
 refine nv ?_
 refine Run.reg fun K J => ?_
 simp
 refine J _ _ _ (nv ?_); clear J
 refine Run.regPre 1 fun K J => ?_
 simp only [List.take_succ_cons, List.take_zero]
 simp
 refine J _ _ _ ?_; clear J
 simp only [List.nil_append, List.drop_succ_cons, List.drop_zero]
 refine Run.nilEq (sz := 3) (es := ptPs ts) rfl Tryz.underlying50 rfl (by simp) fun b hb => ?_
 refine Run.ops fun K J => ?_
 simp
 refine J _ _ _ (nv ?_); clear J
 cases b with
 | true =>
  have h0 : ts = [] := by
   have := hb rfl
   rw [ptPs_eq] at this
   simpa using this
  subst h0
  refine ct (by simp) (nv ?_)
  refine Run.reg fun K J => ?_
  simp
  refine J _ _ _ (nv ?_); clear J
  refine Run.ret ?_
  exact Fin.ret' (h0 := h) (xs := [.p (.prim (.slice none 0 0))]) (by simp) rfl hh (List.append_nil _).symm (by simp) rfl (Weak.nil 3) rfl (.inl ⟨rfl, rfl, rfl⟩)
 | false =>
  refine cf (by simp) (nv ?_)
  cases ts with
  | nil =>
   refine Run.regPre 2 fun K J => ?_
   simp only [List.take_succ_cons, List.take_zero]
   simp [ptPs]
   refine J _ _ _ ?_; clear J
   simp only [List.nil_append, List.drop_succ_cons, List.drop_zero]
   refine Run.appendZ (sz := 3) (sz' := 3) (es := []) (e := 74) rfl rfl rfl rfl (by simp) (by simp) ?_
   refine Run.ops fun K J => ?_
   simp
   refine J _ _ _ (nv ?_); clear J
   refine Run.ret ?_
   exact Fin.ret' (h0 := h) (by simp) rfl hh (by simp; rfl) (by simp; rfl) rfl (Weak.refl _) rfl (.inl ⟨rfl, rfl, rfl⟩)
  | cons t0 ts0 =>
   generalize ht : t0 :: ts0 = ts at *
   have hpos : 0 < ts.length := by rw [← ht]; simp
   clear ht t0 ts0
   refine Run.regPre 0 fun K J => ?_
   simp only [List.take_zero]
   simp
   refine J _ _ _ ?_; clear J
   simp only [List.nil_append, List.drop_zero]
   refine Run.build0 (sz := 3) (e := 74) rfl rfl rfl rfl ?_
   refine Run.opsPre 1 fun K J => ?_
   simp only [List.take_succ_cons, List.take_zero]
   simp
   refine J _ _ _ ?_; clear J
   simp only [List.nil_append, List.drop_succ_cons, List.drop_zero]
   refine Run.appendS (id := h.length) (es := []) (ys := ptPs ts) (cap := 0) (sz := 3) (by_ := 48) (e := 74) rfl rfl rfl rfl rfl rfl (by simp) (by simp [buf]) (by simp) (by simp) (by simp) (by simp) (by simpa using hpos) (by simp; omega) (by simp; omega) ?_ ?_
   ·intro hc; simp only [List.length_nil, ptPs_length] at hc; omega
   ·intro c' hc'
    refine Run.ops fun K J => ?_
    simp
    refine J _ _ _ (nv ?_); clear J
    refine Run.ret ?_
    refine Fin.retM (h0 := h ++ ([some (.cells (buf 3 [] 0))] ++ [prow ts (c' - ts.length)])) (l := []) (by simp) (by simp) (hh.app (by simp [buf_under])) (by simp) (by simp; rfl) rfl (Weak.refl _) (by simp) (.inr ⟨[some (.cells (buf 3 [] 0))], c', hh.app (by simp [buf_under]), by simpa using hc', rfl, rfl⟩)
def putPs : List Int → List Pt → Pt → List Pt
 | [], l, _ => l
 | [i], l, x => l.set i.toNat x
 | i :: j :: w, l, x => match l[i.toNat]? with
  | some (.mk k n qs) => l.set i.toNat (.mk k n (putPs (j :: w) qs x))
  | none => l
def PathOK : List Int → List Pt → Prop
 | [], _ => False
 | [i], l => l.length ≤ 1048576 ∧ 0 ≤ i ∧ i.toNat < l.length
 | i :: j :: w, l => l.length ≤ 1048576 ∧ 0 ≤ i ∧ ∃ k n qs, l[i.toNat]? = some (.mk k n qs) ∧ PathOK (j :: w) qs
theorem prefined1_any (x : Pt) (a b : Nat) : ∀ (w : List Int) (l : List Pt), PathOK w l → ∀ h, WF h → h[a]? = some (some (.cells (x.cells.map .p))) → h[b]? = some (some (.cells [.fn (.func 178) [] [.ptr a 0, .ptr b 0]])) →
  ACalls Tryz.prog 178 [.p (.sl 3 (ptPs l)), .p (.sl 1 (ints w)), .ptr a 0, .ptr b 0] h fun o h' => o = .ret (.p (.sl 3 (ptPs (putPs w l x)))) ∧ h' = h := by
 intro w
 induction w with
 | nil => intro l hp; exact hp.elim
 | cons i w ih =>
 intro l hp h hh ha hb
 obtain ⟨a1, _⟩ := idf ha
 obtain ⟨b1, _⟩ := idf hb
 have hll : l.length ≤ 1048576 := by cases w <;> exact hp.1
 have hi0 : 0 ≤ i := by cases w <;> exact hp.2.1
 have hil : i.toNat < l.length := by
  cases w with
  | nil => exact hp.2.2
  | cons j w => obtain ⟨k, n, qs, hg, _⟩ := hp.2.2; exact (List.getElem?_eq_some_iff.1 hg).1
 obtain ⟨ii, rfl⟩ : ∃ ii : Nat, i = ii := ⟨i.toNat, by omega⟩
 simp only [Int.toNat_natCast] at hil
 have c1 := fun (g : Heap) (hw : WF g) => pclone_any g hw l hll
 refine ACalls.of_run Tryz.func178 rfl ?_
 simp only [Tryz.ntmps178, List.length_cons, List.length_nil]
 refine nv ?_
 refine Run.reg fun K J => ?_
 simp
 refine J _ _ _ (nv ?_); clear J
 refine Run.reg fun K J => ?_
 simp
 refine J _ _ _ ?_; clear J
 refine Run.call rfl rfl (by simp) rfl (c1 _ hh) ?_ ?_
 rotate_left
 ·rintro v h' (⟨_, hv, _⟩ | ⟨_, _, _, _, hv, _⟩) <;> cases hv
 rintro v h' (⟨h0, _, _⟩ | ⟨G, cap, hG, hcap, hv, rfl⟩)
 ·subst h0; simp at hil
 simp only [AOut.ret.injEq] at hv
 subst hv
 rw [show h ++ (G ++ [prow l (cap - l.length)]) = (h ++ G) ++ [prow l (cap - l.length)] by simp, ← List.length_append]
 have a2 : ∀ m, ((h ++ G) ++ m)[a]? = some (some (.cells (x.cells.map .p))) := fun m => by rw [List.append_assoc]; exact a1 _
 have b2 : ∀ m, ((h ++ G) ++ m)[b]? = some (some (.cells [.fn (.func 178) [] [.ptr a 0, .ptr b 0]])) := fun m => by rw [List.append_assoc]; exact b1 _
 have hGl : h.length ≤ (h ++ G).length := by simp
 have hend : ∀ m, h ++ G ++ m = h ++ (G ++ m) := fun m => by simp
 generalize h ++ G = H at hG a2 b2 hGl hend
 have l1 : ii * 3 + 3 ≤ (buf 3 (ptPs l) (cap - l.length)).length := by rw [prow_len]; omega
 obtain ⟨es, hes⟩ : ∃ es, ints ((ii : Int) :: w) = es := ⟨_, rfl⟩
 have he0 : es[0]? = some [iP ii] := by rw [← hes]; rfl
 have hel : es.length = w.length + 1 := by rw [← hes]; simp [ints]
 have het : es.tail = ints w := by rw [← hes]; rfl
 rw [hes]
 clear hes
 refine Run.ops fun K J => ?_
 simp
 refine J _ _ _ (nv ?_); clear J
 refine Run.reg fun K J => ?_
 simp [he0]
 refine J _ _ _ (nv ?_); clear J
 refine Run.reg fun K J => ?_
 simp
 refine J _ _ _ (nv ?_); clear J
 cases w with
 | nil =>
  have hput := prow_set (m := cap - l.length) x hil
  refine ct (by simp [hel]) ?_
  refine Run.reg fun K J => ?_
  simp [a2, hil, l1, hput]
  refine J _ _ _ (nv ?_); clear J
  refine Run.keep [7] ?_
  simp
  refine Run.freezeS 7 (id := H.length) (n := l.length) (cap := cap) (sz := 3) (m := cap - l.length) (es := ptPs (l.set ii x)) (by simp) (by simp) (ptPs_len3 _) (by simp) hcap ?_
  simp
  refine Run.reg fun K J => ?_
  simp
  refine J _ _ _ (nv ?_); clear J
  refine Run.ret ?_
  refine Fin.ret' (h0 := h) (by simp) rfl hh (hend _) (by simp; rfl) rfl (Weak.refl _) (by simp) ⟨by simp [putPs], rfl⟩
 | cons j w =>
  obtain ⟨_, _, k, n, qs, hg, hp2⟩ := hp
  simp only [Int.toNat_natCast] at hg
  have c2 := fun (g : Heap) (hw : WF g) (h1 : g[a]? = _) (h2 : g[b]? = _) => ih qs hp2 g hw h1 h2
  have hg2 := prow_cell (m := cap - l.length) hg 2 (by omega)
  simp at hg2
  obtain ⟨ws, hws⟩ : ∃ ws, putPs (j :: w) qs x = ws := ⟨_, rfl⟩
  rw [hws] at c2
  have hput := prow_args (m := cap - l.length) ws hg
  have hres : putPs ((ii : Int) :: j :: w) l x = l.set ii (.mk k n ws) := by simp [putPs, hg, hws]
  rw [hres]
  simp only [List.length_cons] at hel
  have hel1 : (1 : Int) ≤ (es.length : Int) := by omega
  refine cf (by simp; omega) ?_
  refine Run.draw [0, 0, 0, 0, 0, 0, 0, 0, 0, 0, 0, 1, 1, 1] [0, 0, 0, 0, 0, 0, 0, 0, 0, 0, 0, 0, 0, 1] [0, 0, 0, 0, 0, 24, 56, 120, 0, 256, 1020, 2047, 4095, 8191] [2, 3, 4, 5, 6, 7, 8, 9, 10, 0, 1, 11, 12, 13] (by kernel_rfl) (by kernel_rfl) ?_
  refine DR.go fun K J => ?_
  simp [hil, b2, hg2, hel1, het]
  refine J _ _ _ _ ?_; clear J
  refine DR.call (args := [.p (.sl 3 (ptPs qs)), .p (.sl 1 (ints (j :: w))), .ptr a 0, .ptr b 0]) rfl rfl (by simp) rfl rfl (c2 _ (hG.app (by simp [buf_under])) (a2 _) (b2 _)) ?_
  refine DR.go fun K J => ?_
  simp [hil, l1, hput]
  refine J _ _ _ _ ?_; clear J
  change Run _ _ _ _ _ _ _ _
  refine nv ?_
  refine Run.keep [7] ?_
  simp
  refine Run.freezeS 7 (id := H.length) (n := l.length) (cap := cap) (sz := 3) (m := cap - l.length) (es := ptPs (l.set ii (.mk k n ws))) (by simp) (by simp) (ptPs_len3 _) (by simp) hcap ?_
  simp
  refine Run.reg fun K J => ?_
  simp
  refine J _ _ _ (nv ?_); clear J
  refine Run.ret ?_
  exact Fin.ret' (h0 := h) (by simp) rfl hh (hend _) (by simp; rfl) rfl (Weak.refl _) (by simp) ⟨rfl, rfl⟩
theorem prefined_any (x : Pt) (w : List Int) (l : List Pt) (hp : PathOK w l) (h : Heap) (hh : WF h) : ACalls Tryz.prog 131 [.p (.sl 3 (ptPs l)), .p (.sl 1 (ints w)), x.av] h fun o h' => o = .ret (.p (.sl 3 (ptPs (putPs w l x)))) ∧ h' = h := by
 have c1 := fun (a b : Nat) (g : Heap) (hw : WF g) (h1 : g[a]? = _) (h2 : g[b]? = _) => prefined1_any x a b w l hp g hw h1 h2
 obtain ⟨k, n, qs⟩ := x
 simp only [Pt.av, pcells_mk, List.map] at c1 ⊢
 refine ACalls.of_run Tryz.func131 rfl ?_
 simp only [Tryz.ntmps131, List.length_cons, List.length_nil]
 refine nv ?_
 refine Run.reg fun K J => ?_
 simp
 refine J _ _ _ (nv ?_); clear J
 refine Run.reg fun K J => ?_
 simp
 refine J _ _ _ (nv ?_); clear J
 refine Run.reg fun K J => ?_
 simp
 refine J _ _ _ (nv ?_); clear J
 refine Run.reg fun K J => ?_
 simp
 refine J _ _ _ ?_; clear J
 refine rl rfl (by first | rfl | simp) (by simp) rfl (c1 h.length (h.length + 1) _ (hh.app (by simp)) (by simp) (by simp)) ?_
 refine Run.ops fun K J => ?_
 simp
 refine J _ _ _ (nv ?_); clear J
 refine Run.ret ?_
 exact Fin.ret' (h0 := h) (by simp) rfl hh rfl (by simp; rfl) rfl (Weak.refl _) (by simp) ⟨rfl, rfl⟩

end Go.Proofs.YtcfcolkbeelegaaGreat
