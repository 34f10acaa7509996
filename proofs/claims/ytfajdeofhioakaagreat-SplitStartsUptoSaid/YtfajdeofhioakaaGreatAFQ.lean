import Derived.Test.YtfajdeofhioakaaGreatAFX

namespace Go.AI

open Go

section

variable {P : Program} {rd : Option Nat} {nb : Nat} {k : List It} {T : List AV} {h : Heap} {D : List AD} {Q : AX → List AV → Heap → List AD → Prop}
theorem Run.freezeAt (cid off : Nat) {id n cap sz m : Nat} {cs : List AV} {es : List (List PV)} (hcid : h.at cid = some (.cells cs)) (hs : cs[off]? = some (.sm id 0 n cap sz)) (hat : h.at id = some (.cells (buf sz es m))) (hne : cid ≠ id) (hes : ∀ e ∈ es, e.length = sz) (hn : es.length = n) (hcap : n ≤ cap)
  (r : Run P rd nb k T ((h.set cid (some (.cells (cs.set off (.p (.sl sz es)))))).set id none) D Q) : Run P rd nb k T h D Q := by
 intro E w a s
 have hlt := lt_of_at hat
 have hltc := lt_of_at hcid
 obtain ⟨b, vals, hg, hrow, hreps⟩ := s.rel.objs id _ hat
 obtain ⟨f1, f2⟩ := s.rel.freeze hat hg
 have s' := s.move f2 f1 (fun i hi => s.fresh i (by simpa using hi))
 have hel : (es.flatten.map AV.p).length = es.length * sz := by rw [List.length_map, flat_length hes]
 have hx : Rep { E with ro := fun b' off => E.ro b' off ∨ b' = b } w (.p (.sl sz es)) (.slice (some ⟨b, 0, none⟩) n cap) := by
  simp only [Rep, RepP]
  refine ⟨_, cap, by rw [hn], by omega, .inr ⟨b, 0, rfl, ?_⟩⟩
  refine RepEs.of_row (vs := vals.take (es.length * sz)) hes (fun j v hj => ⟨.inr rfl, ?_⟩) ?_
  ·rw [hrow.cell, Nat.zero_add]
   rw [List.getElem?_take] at hj
   split at hj
   ·exact hj
   ·cases hj
  ·have := (hreps.ext f2.ext).take (es.length * sz)
   unfold buf at this
   rwa [List.take_append_of_le_length (by omega), List.take_of_length_le (by omega)] at this
 have hid' : Heap.at (h.set id none) cid = some (.cells cs) := by
  unfold Heap.at at hcid ⊢
  rw [List.getElem?_set_ne (fun q => hne q.symm)]; exact hcid
 obtain ⟨bc, vs, hgc, hrowc, hrepsc⟩ := s'.rel.objs cid cs hid'
 have hl := hrepsc.length
 have hoff : off < cs.length := (List.getElem?_eq_some_iff.1 hs).1
 obtain ⟨v, hv⟩ : ∃ v, vs[off]? = some v := ⟨_, List.getElem?_eq_getElem (by omega)⟩
 have hvr : Rep { E with ro := fun b' off => E.ro b' off ∨ b' = b } w (.sm id 0 n cap sz) v := by
  have := hrepsc.get off
  simpa only [List.getD, hs, hv, Option.getD_some] using this
 simp only [Rep] at hvr
 obtain ⟨b2, hb2, rfl⟩ := hvr
 have hb2 : E.g id = some b2 := hb2
 rw [hg] at hb2; cases hb2
 have hsame : vs.set off (.slice (some ⟨b, 0, none⟩) n cap) = vs := by
  apply List.ext_getElem?
  intro j
  rw [List.getElem?_set]
  split
  ·rename_i e; subst e; simp [show off < vs.length by omega] at hv ⊢; exact hv.symm
  ·rfl
 have hset := hrepsc.set hx off
 rw [hsame] at hset
 obtain ⟨w1, w2⟩ := s'.rel.write hid' hgc hrowc (fun _ _ => rfl) rfl rfl rfl hset
 have e : List.set (h.set id none) cid (some (.cells (cs.set off (.p (.sl sz es))))) = (h.set cid (some (.cells (cs.set off (.p (.sl sz es)))))).set id none := by
  rw [List.set_comm _ _ (fun q => hne q.symm)]
 rw [e] at w1 w2
 have s2 := s'.move w2 w1 (fun i hi => s'.fresh i (by simpa using hi))
 exact K_mono (P := P) (rd := rd) (Post.of_fr (Q := Q) (f2.trans w2)) k _ _ _ (r _ w a s2)

end


open Go

mutual
theorem RepP.roMono {E E' : Env} {w : World} (h : ∀ b off, E.ro b off → E'.ro b off) : ∀ {x : PV} {v : Value}, RepP E w x v → RepP E' w x v
 | .prim _, _, r => by simpa only [RepP] using r
 | .sl sz es, v, r => by
  simp only [RepP] at r ⊢
  obtain ⟨a, cap, e, hc, r⟩ := r
  refine ⟨a, cap, e, hc, r.imp id ?_⟩
  rintro ⟨b, off, ea, r⟩
  exact ⟨b, off, ea, RepEs.roMono h r⟩
 | .ro cs, v, r => by
  simp only [RepP] at r ⊢
  obtain ⟨b, off, e, r⟩ := r
  exact ⟨b, off, e, RepAt.roMono h r⟩
 | .ifc t x, v, r => by
  simp only [RepP] at r ⊢; obtain ⟨u, e, r⟩ := r; exact ⟨u, e, RepP.roMono h r⟩
theorem RepAt.roMono {E E' : Env} {w : World} (h : ∀ b off, E.ro b off → E'.ro b off) {b : Nat} : ∀ {xs : List PV} {off : Nat}, RepAt E w b off xs → RepAt E' w b off xs
 | [], _, _ => by simp only [RepAt]
 | x :: xs, off, r => by
  simp only [RepAt] at r ⊢
  obtain ⟨v, ho, e, r1, r2⟩ := r
  exact ⟨v, h _ _ ho, e, RepP.roMono h r1, RepAt.roMono h r2⟩
theorem RepEs.roMono {E E' : Env} {w : World} (h : ∀ b off, E.ro b off → E'.ro b off) {b sz : Nat} : ∀ {es : List (List PV)} {off : Nat}, RepEs E w b sz off es → RepEs E' w b sz off es
 | [], _, _ => by simp only [RepEs]
 | e :: es, off, r => by
  simp only [RepEs] at r ⊢
  exact ⟨r.1, RepAt.roMono h r.2.1, RepEs.roMono h r.2.2⟩
end
theorem Rel.later {E : Env} {h : Nat → Option AO} {w w' : World} (r : Rel E h w) (hs : ∀ b, b < w.heap.size → w'.heap[b]? = w.heap[b]?) (hsz : w.heap.size ≤ w'.heap.size) (kp : Kp w w') : Rel E h w' ∧ Fr E h w E h w' := by
 have hx : Ext E w E w' := ⟨fun _ _ h => h, fun b off hb => cell_of_heap (hs b (r.lt b off hb)) off, fun _ _ h => h, fun _ L h => ⟨L, h, Nat.le_refl _, fun _ => rfl⟩⟩
 refine ⟨⟨fun id o h1 h2 => ?_, fun id o n sz m cs h1 h2 => ?_, r.inj, r.sepO, r.sepT, fun b off hb => Nat.lt_of_lt_of_le (r.lt b off hb) hsz⟩, ⟨fun b hb _ => hs b hb, hx, fun _ _ h => .inl h, hsz, fun _ h => .inl h, kp⟩⟩
 ·obtain ⟨b, g, hb⟩ := r.objsO id o h1 h2
  exact ⟨b, g, hb.move hx (hs b hb.lt)⟩
 ·obtain ⟨blk, cap, g1, g2, g3, g4⟩ := r.toks id o n sz m cs h1 h2
  refine ⟨blk, cap, g1, g2, g3, fun b hb => ?_⟩
  obtain ⟨vs, k1, k2, k3⟩ := g4 b hb
  exact ⟨vs, k1.same (hs b k1.lt), k2, k3.ext hx⟩

end Go.AI
