/-
  A block that was written in its places, its slice in a cell, is only read from here on.
-/
import Derived.Scope
import Derived.Test.YtcfcolkbeelegaaGreatLFV

namespace Go.AI

open Go

section

variable {P : Program} {b : Frame} {a : Act} {k : List Item} {cs : List Frame} {w : World} {Q : Exit → Act → World → Prop} {F : Fence} {n : Nat}
theorem stepR_scope' {c : Code} : step P (lone (b.atR a (.code (.scope c) :: k)) cs w) = .next (lone (b.atR a (.code c :: .inScope c :: k)) cs w) :=
  step_lone_go (by simp [stepG, stepG.exec, Frame.atR])
theorem stepR_inScope' {c : Code} : step P (lone (b.atR a (.inScope c :: k)) cs w) = .next (lone (b.atR a k) cs w) :=
  step_lone_go (by simp [stepG, stepG.exec, Frame.atR])
theorem wpIn_scope' {c : Code} (h : c.wpIn F n P (Exit.noGoto Q) a w) : (Code.scope c).wpIn F n P Q a w := by
  intro b k cs hro hb hr
  have h0 : (lone (b.atR a (.code (.scope c) :: k)) cs w).fenced P F := fenced_calm hb hr rfl
  obtain ⟨e, a₁, w₁, hq, harr⟩ := h b (.inScope c :: k) cs hro hb hr
  cases e with
  | normal => exact ⟨.normal, a₁, w₁, hq, .head h0 stepR_scope' (StepsIn.trans harr (.one (fenced_calm hb hr rfl) stepR_inScope'))⟩
  | exit id =>
    have hx : exitTo id (.inScope c :: k) = exitTo id k := by simp [exitTo]
    exact ⟨.exit id, a₁, w₁, hq, fun k' hk => .head h0 stepR_scope' (harr.1 k' (by rw [hx]; exact hk)),
      fun hr' hk => let ⟨k₁, h1, h2⟩ := harr.2 hr' (by rw [hx]; exact hk); ⟨k₁, h1, .head h0 stepR_scope' h2⟩⟩
  | goto l => exact hq.elim
  | ret => exact ⟨_, a₁, w₁, hq, .of_steps (.one h0 stepR_scope') harr⟩
  | panic ch => exact ⟨_, a₁, w₁, hq, .of_steps (.one h0 stepR_scope') harr⟩
  | outgrown => exact ⟨_, a₁, w₁, hq, .of_steps (.one h0 stepR_scope') harr⟩

end
theorem K_goto {P : Program} {rd : Option Nat} {Q : Exit → Act → World → Prop} (hQ : ∀ l a w, ¬ Q (.goto l) a w) : ∀ (k : List It) l a w, ¬ K P rd Q k (.goto l) a w
  | [], l, a, w => hQ l a w
  | .code _ :: k, l, a, w => K_goto hQ k l a w
  | .ops _ _ :: k, l, a, w => K_goto hQ k l a w
  | .inBlock _ :: k, l, a, w => K_goto hQ k l a w
theorem Post.not_goto {nb Q E h w l a w'} : ¬ Post nb Q E h w (.goto l) a w' := by
  rintro ⟨_, _, _, _, x, _, _, _, h⟩
  cases x <;> simp [RepX] at h
theorem Run.scope {P : Program} {rd : Option Nat} {nb : Nat} {c : Code} {k : List It} {T : List AV} {h : Heap} {D : List AD} {Q : AX → List AV → Heap → List AD → Prop} (r : Run P rd nb (.code c :: k) T h D Q) : Run P rd nb (.code (.scope c) :: k) T h D Q := by
  intro E w a hs
  refine wpIn_scope' (wpIn_mono (r E w a hs) ?_)
  intro e a w hq
  cases e with
  | goto l => exact K_goto (fun _ _ _ => Post.not_goto) k l a w hq
  | _ => exact hq

end Go.AI

namespace Go.AI

open Go
theorem buf_rep {E : Env} {w : World} {sz cap : Nat} {es : List (List PV)} {vs : List Value} (hes : ∀ e ∈ es, e.length = sz) (hn : es.length ≤ cap) (hl : vs.length = cap * sz)
    (hr : RepL E w (es.flatten.map .p) (vs.take (es.flatten.map AV.p).length)) : RepL E w (buf sz es (cap - es.length)) vs := by
  have hel : (es.flatten.map AV.p).length = es.length * sz := by rw [List.length_map, flat_length hes]
  rw [hel] at hr
  have hmul : es.length * sz + (cap - es.length) * sz = cap * sz := by rw [← Nat.add_mul]; congr 1; omega
  have hd : (vs.drop (es.length * sz)).length = (cap - es.length) * sz := by rw [List.length_drop]; omega
  have := hr.append (hd ▸ RepL.junks (E := E) (w := w) (vs.drop (es.length * sz)))
  rw [List.take_append_drop] at this
  exact this
theorem Rel.thaw {E : Env} {h : Heap} {w : World} (r : Rel E h.at w) (hf : Fresh E h.length) {id b cap sz : Nat} {es : List (List PV)} (hat : h.at id = some (.vec sz es)) (hL : E.t id = some ⟨some b, cap, es.length⟩) (hes : ∀ e ∈ es, e.length = sz) :
    let E' : Env := { E with g := fun i => if i = h.length then some b else E.g i }
    let h' : Heap := h.set id none ++ [some (.cells (buf sz es (cap - es.length)))]
    Rel E' h'.at w ∧ Fr E h.at w E' h'.at w ∧ Fresh E' (h.length + 1) ∧ es.length ≤ cap := by
  intro E' h'
  obtain ⟨blk, cap', ht, k1, k2, k3⟩ := r.toks id _ _ _ _ _ hat rfl
  rw [hL] at ht; cases ht
  obtain ⟨vs, hrow, hcl, hcr⟩ := k3 b rfl
  have hlt := lt_of_at hat
  have hx : Ext E w E' w := ⟨fun _ _ h => h, fun _ _ _ => rfl, fun i b' e => by
      show (if i = h.length then some b else E.g i) = some b'
      rw [if_neg (fun he => by rw [he, (hf _ (Nat.le_refl _)).1] at e; cases e)]; exact e, fun _ L h => ⟨L, h, Nat.le_refl _, fun _ => rfl⟩⟩
  have hnew : h'.at h.length = some (.cells (buf sz es (cap - es.length))) := by
    have := at_append (h.set id none) (some (.cells (buf sz es (cap - es.length)))) h.length
    rw [List.length_set, if_pos rfl] at this
    exact this
  have hold : ∀ i o, i ≠ h.length → h'.at i = some o → h.at i = some o ∧ i ≠ id := by
    intro i o hne e
    have := at_append (h.set id none) (some (.cells (buf sz es (cap - es.length)))) i
    rw [List.length_set, if_neg hne] at this
    have e' : Heap.at (h.set id none) i = some o := this ▸ e
    unfold Heap.at at e' ⊢
    by_cases c : id = i
    · subst c
      rw [List.getElem?_set_self'] at e'
      cases hh : h[id]? <;> simp [hh] at e'
    · rw [List.getElem?_set_ne c] at e'
      exact ⟨e', fun q => c q.symm⟩
  have hg' : ∀ i, i ≠ h.length → E'.g i = E.g i := fun i hne => if_neg hne
  have hgn : E'.g h.length = some b := if_pos rfl
  have hO : ∀ i b', Owns E' h'.at i b' → (i = h.length ∧ b' = b) ∨ (i ≠ h.length ∧ i ≠ id ∧ Owns E h.at i b') := by
    intro i b' ho
    by_cases e : i = h.length
    · subst e
      left; refine ⟨rfl, ?_⟩
      rcases ho with ⟨o', h1, h3, h2⟩ | ⟨o', x, c, m, h1, hk, h2⟩
      · rw [hgn] at h2; cases h2; rfl
      · rw [hnew] at h1; cases h1; simp [AO.tk] at hk
    · right
      rcases ho with ⟨o', h1, h3, h2⟩ | ⟨o', x, c, m, h1, hk, h2⟩
      · obtain ⟨q1, q2⟩ := hold i o' e h1
        rw [hg' i e] at h2
        exact ⟨e, q2, .inl ⟨o', q1, h3, h2⟩⟩
      · obtain ⟨q1, q2⟩ := hold i o' e h1
        exact ⟨e, q2, .inr ⟨o', x, c, m, q1, hk, h2⟩⟩
  have hown : Owns E h.at id b := .inr ⟨_, _, _, _, hat, rfl, hL⟩
  refine ⟨⟨fun i o hc hn => ?_, fun i o n s k cs hc hk => ?_, fun i i' b' h1 h2 => ?_, fun i o b' off hc hn hg hb => ?_, fun i o n s k cs b' c m off hc hk hg hl hb => ?_, r.lt⟩, ⟨fun _ _ _ => rfl, hx, fun _ _ h => .inl h, Nat.le_refl _, fun b' ⟨i, ho⟩ => ?_, Kp.refl w⟩, fun i hi => ?_, k1⟩
  · by_cases e : i = h.length
    · subst e; rw [hnew] at hc; cases hc
      exact ⟨b, hgn, vs, hrow, (buf_rep hes k1 hcl hcr).ext hx⟩
    · obtain ⟨q1, _⟩ := hold i o e hc
      obtain ⟨b', hg, ho⟩ := r.objsO i o q1 hn
      exact ⟨b', by rw [hg' i e]; exact hg, ho.move hx rfl⟩
  · have e : i ≠ h.length := fun e => by subst e; rw [hnew] at hc; cases hc; simp [AO.tk] at hk
    obtain ⟨q1, _⟩ := hold i o e hc
    obtain ⟨blk, cap2, ht, h1, h2, h3⟩ := r.toks i o n s k cs q1 hk
    refine ⟨blk, cap2, ht, h1, h2, fun b' hb => ?_⟩
    obtain ⟨us, hr, hl, hp⟩ := h3 b' hb
    exact ⟨us, hr, hl, hp.ext hx⟩
  · rcases hO i b' h1 with ⟨e1, e2⟩ | ⟨e1, e2, o1⟩ <;> rcases hO i' b' h2 with ⟨e3, e4⟩ | ⟨e3, e4, o2⟩
    · rw [e1, e3]
    · subst e2; exact absurd (r.inj _ _ _ o2 hown) e4
    · subst e4; exact absurd (r.inj _ _ _ o1 hown) e2
    · exact r.inj i i' b' o1 o2
  · by_cases e : i = h.length
    · subst e
      rw [hgn] at hg; cases hg
      exact r.sepT id _ _ _ _ _ b cap _ off hat rfl hL (by omega) hb
    · obtain ⟨q1, _⟩ := hold i o e hc
      rw [hg' i e] at hg; exact r.sepO i o b' off q1 hn hg hb
  · have e : i ≠ h.length := fun e => by subst e; rw [hnew] at hc; cases hc; simp [AO.tk] at hk
    obtain ⟨q1, _⟩ := hold i o e hc
    exact r.sepT i o n s k cs b' c m off q1 hk hg hl hb
  · rcases hO i b' ho with ⟨_, e2⟩ | ⟨_, _, o⟩
    · subst e2; exact .inl ⟨id, hown⟩
    · exact .inl ⟨i, o⟩
  · have hid' : h.length + 1 ≤ i := hi
    exact ⟨by rw [hg' i (by omega)]; exact (hf i (by omega)).1, (hf i (by omega)).2⟩

section

variable {P : Program} {rd : Option Nat} {nb : Nat} {k : List It} {T : List AV} {h : Heap} {D : List AD} {Q : AX → List AV → Heap → List AD → Prop}
theorem Run.thawAt (cid off : Nat) {id n sz : Nat} {cs : List AV} {es : List (List PV)} (hcid : h.at cid = some (.cells cs)) (hs : cs[off]? = some (.vec id n)) (hat : h.at id = some (.vec sz es)) (hes : ∀ e ∈ es, e.length = sz) (hn : es.length = n) (hpos : 0 < n)
    (r : ∀ cap, n ≤ cap → Run P rd nb k T ((h.set cid (some (.cells (cs.set off (.sm h.length 0 n cap sz))))).set id none ++ [some (.cells (buf sz es (cap - n)))]) D Q) : Run P rd nb k T h D Q := by
  intro E w a s
  subst hn
  have hlt := lt_of_at hat
  have hltc := lt_of_at hcid
  have hne : cid ≠ id := fun e => by subst e; rw [hcid] at hat; cases hat
  obtain ⟨blk, cap, ht, k1, k2, k3⟩ := s.rel.toks id _ _ _ _ _ hat rfl
  obtain ⟨b, rfl⟩ : ∃ b, blk = some b := by
    cases blk with
    | none => have := k2 rfl; omega
    | some b => exact ⟨b, rfl⟩
  obtain ⟨t1, t2, t3, _⟩ := s.rel.thaw s.fresh hat ht hes
  have hl1 : (h.set id none ++ [some (AO.cells (buf sz es (cap - es.length)))]).length = h.length + 1 := by simp
  have s' := s.move t2 t1 (by rw [hl1]; exact t3)
  have hid' : Heap.at (h.set id none ++ [some (.cells (buf sz es (cap - es.length)))]) cid = some (.cells cs) := by
    rw [at_append, List.length_set, if_neg (by omega)]
    unfold Heap.at at hcid ⊢
    rw [List.getElem?_set_ne (fun q => hne q.symm)]; exact hcid
  obtain ⟨bc, vs, hg, hrow, hreps⟩ := s'.rel.objs cid cs hid'
  have hl := hreps.length
  have hoff : off < cs.length := (List.getElem?_eq_some_iff.1 hs).1
  obtain ⟨v, hv⟩ : ∃ v, vs[off]? = some v := ⟨_, List.getElem?_eq_getElem (by omega)⟩
  have hvr : Rep { E with g := fun i => if i = h.length then some b else E.g i } w (.vec id es.length) v := by
    have := hreps.get off
    simpa only [List.getD, hs, hv, Option.getD_some] using this
  simp only [Rep] at hvr
  obtain ⟨L, hL, _, ad, cap0, rfl, hcur⟩ := hvr
  rw [ht] at hL; cases hL
  obtain ⟨e1, e2⟩ := hcur rfl
  simp only [Option.map_some] at e1 e2
  subst e1
  have e3 := e2.symm
  subst e3
  have hx : Rep { E with g := fun i => if i = h.length then some b else E.g i } w (.sm h.length 0 es.length cap sz) (.slice (some ⟨b, 0, none⟩) es.length cap) := by
    simp only [Rep]
    exact ⟨b, by simp, rfl⟩
  have hsame : vs.set off (.slice (some ⟨b, 0, none⟩) es.length cap) = vs := by
    apply List.ext_getElem?
    intro j
    rw [List.getElem?_set]
    split
    · rename_i e; subst e; simp [show off < vs.length by omega] at hv ⊢; exact hv.symm
    · rfl
  have hset := hreps.set hx off
  rw [hsame] at hset
  obtain ⟨w1, w2⟩ := s'.rel.write hid' hg hrow (fun _ _ => rfl) rfl rfl rfl hset
  have e : List.set (h.set id none ++ [some (AO.cells (buf sz es (cap - es.length)))]) cid (some (.cells (cs.set off (.sm h.length 0 es.length cap sz)))) = (h.set cid (some (.cells (cs.set off (.sm h.length 0 es.length cap sz))))).set id none ++ [some (.cells (buf sz es (cap - es.length)))] := by
    rw [List.set_append_left _ _ (by rw [List.length_set]; exact hltc), List.set_comm _ _ (fun q => hne q.symm)]
  rw [e] at w1 w2
  have s2 := s'.move w2 w1 (by rw [List.length_append, List.length_set, List.length_set]; exact t3)
  exact K_mono (P := P) (rd := rd) (Post.of_fr (Q := Q) (t2.trans w2)) k _ _ _ (r cap k1 _ w a s2)

end

end Go.AI

namespace Go.AI

open Go

section

variable {P : Program} {rd : Option Nat} {nb : Nat} {k : List It} {T : List AV} {h : Heap} {D : List AD} {Q : AX → List AV → Heap → List AD → Prop}
theorem Run.freezeAt (cid off : Nat) {id n cap sz m : Nat} {cs : List AV} {es : List (List PV)} (hcid : h.at cid = some (.cells cs)) (hs : cs[off]? = some (.sm id 0 n cap sz)) (hat : h.at id = some (.cells (buf sz es m))) (hne : cid ≠ id) (hes : ∀ e ∈ es, e.length = sz) (hn : es.length = n) (hcap : n ≤ cap)
    (r : Run P rd nb k T ((h.set cid (some (.cells (cs.set off (.p (.sl sz es)))))).set id none) D Q) : Run P rd nb k T h D Q := by
  intro E w a s
  have hlt := lt_of_at hat
  have hltc := lt_of_at hcid
  obtain ⟨b, vals, hg, hrow, hreps⟩ := s.rel.objs id _ hat
  obtain ⟨f1, f2⟩ := s.rel.freeze hat hg
  have s' := s.move f2 f1 (fun i hi => s.fresh i (by simpa using hi))
  have hel : (es.flatten.map AV.p).length = es.length * sz := by rw [List.length_map, flat_length hes]
  have hx : Rep { E with ro := fun b' off => E.ro b' off ∨ b' = b } w (.p (.sl sz es)) (.slice (some ⟨b, 0, none⟩) n cap) := by
    simp only [Rep, RepP]
    refine ⟨_, cap, by rw [hn], by omega, .inr ⟨b, 0, rfl, ?_⟩⟩
    refine RepEs.of_row (vs := vals.take (es.length * sz)) hes (fun j v hj => ⟨.inr rfl, ?_⟩) ?_
    · rw [hrow.cell, Nat.zero_add]
      rw [List.getElem?_take] at hj
      split at hj
      · exact hj
      · cases hj
    · have := (hreps.ext f2.ext).take (es.length * sz)
      unfold buf at this
      rwa [List.take_append_of_le_length (by omega), List.take_of_length_le (by omega)] at this
  have hid' : Heap.at (h.set id none) cid = some (.cells cs) := by
    unfold Heap.at at hcid ⊢
    rw [List.getElem?_set_ne (fun q => hne q.symm)]; exact hcid
  obtain ⟨bc, vs, hgc, hrowc, hrepsc⟩ := s'.rel.objs cid cs hid'
  have hl := hrepsc.length
  have hoff : off < cs.length := (List.getElem?_eq_some_iff.1 hs).1
  obtain ⟨v, hv⟩ : ∃ v, vs[off]? = some v := ⟨_, List.getElem?_eq_getElem (by omega)⟩
  have hvr : Rep { E with ro := fun b' off => E.ro b' off ∨ b' = b } w (.sm id 0 n cap sz) v := by
    have := hrepsc.get off
    simpa only [List.getD, hs, hv, Option.getD_some] using this
  simp only [Rep] at hvr
  obtain ⟨b2, hb2, rfl⟩ := hvr
  have hb2 : E.g id = some b2 := hb2
  rw [hg] at hb2; cases hb2
  have hsame : vs.set off (.slice (some ⟨b, 0, none⟩) n cap) = vs := by
    apply List.ext_getElem?
    intro j
    rw [List.getElem?_set]
    split
    · rename_i e; subst e; simp [show off < vs.length by omega] at hv ⊢; exact hv.symm
    · rfl
  have hset := hrepsc.set hx off
  rw [hsame] at hset
  obtain ⟨w1, w2⟩ := s'.rel.write hid' hgc hrowc (fun _ _ => rfl) rfl rfl rfl hset
  have e : List.set (h.set id none) cid (some (.cells (cs.set off (.p (.sl sz es))))) = (h.set cid (some (.cells (cs.set off (.p (.sl sz es)))))).set id none := by
    rw [List.set_comm _ _ (fun q => hne q.symm)]
  rw [e] at w1 w2
  have s2 := s'.move w2 w1 (fun i hi => s'.fresh i (by simpa using hi))
  exact K_mono (P := P) (rd := rd) (Post.of_fr (Q := Q) (f2.trans w2)) k _ _ _ (r _ w a s2)

end

end Go.AI
