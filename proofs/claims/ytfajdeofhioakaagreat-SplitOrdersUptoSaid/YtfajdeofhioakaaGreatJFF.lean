import Derived.Test.YtfajdeofhioakaaGreatJA0
import Derived.Test.YtfajdeofhioakaaGreatJFD

namespace Go.AI

open Go
def buf (sz : Nat) (es : List (List PV)) (m : Nat) : List AV := es.flatten.map .p ++ List.replicate (m * sz) .junk
theorem RepL.junks {E w} : ∀ (l : List Value), RepL E w (List.replicate l.length .junk) l
 | [] => by simp [RepL]
 | v :: l => by simp only [bBm, bCn, RepL]; exact ⟨v, l, rfl, by simp only [Rep], RepL.junks l⟩
theorem aFm {sz : Nat} {es : List (List PV)} {m : Nat} (h : ∀ e ∈ es, e.length = sz) : (buf sz es m).length = (es.length + m) * sz := by
 unfold buf;rw [bBp, bC9, aQ h, List.length_replicate, bDn]
theorem iD (n sz : Nat) (es : List (List PV)) (m : Nat) : AV.underL n (buf sz es m) = true := by
 have hj : ∀ k, AV.underL n (List.replicate k .junk) = true := by
  intro k
  induction k with
  | zero => simp [AV.underL]
  | succ k ih => simp only [bCn, AV.underL, AV.under, ih]; rfl
 have ha : ∀ (xs ys : List AV), AV.underL n xs = true -> AV.underL n ys = true -> AV.underL n (xs ++ ys) = true := by
  intro xs ys h1 h2
  induction xs with
  | nil => exact h2
  | cons x xs ih => simp only [AV.underL, bBs, bBj] at h1 ⊢; exact ⟨h1.1, ih h1.2⟩
 refine ha _ _ ?_ (hj _);generalize es.flatten = l
 induction l with
 | nil => simp [AV.underL]
 | cons x l ih => simp only [bBx, AV.underL, AV.under, ih]; rfl

section

variable {P : Program} {rd : Option Nat} {nb : Nat} {k : List It} {T : List AV} {h : Heap} {D : List AD} {Q : AX -> List AV -> Heap -> List AD -> Prop} {all : Array Oper} {o : Oper} {rest : List Oper}
theorem mS (b : List Oper) : ∀ (l : List Oper) (T : List AV) (h : Heap), cM P all (fun l T h => Run P rd nb (.ops all (l ++ b) :: k) T h D Q) l T h -> Run P rd nb (.ops all (l ++ b) :: k) T h D Q
 | [], T, h, r => r
 | o :: l, T, h, r => by
  simp only [cM] at r;split at r
  ·rename_i hw;split at r
   ·rename_i x h' ho;exact Run.op hw ho (mS b l _ _ r)
   ·exact r
  ·rename_i hw;exact Run.off hw (mS b l _ _ r)
  ·exact r
theorem Run.opsPre (n : Nat) {l : List Oper} (r : ∀ K : List Oper -> List AV -> Heap -> Prop, (∀ l' T h, Run P rd nb (.ops all (l' ++ l.drop n) :: k) T h D Q -> K l' T h) -> cM P all K (l.take n) T h) : Run P rd nb (.ops all l :: k) T h D Q := by
 have := mS (P := P) (rd := rd) (nb := nb) (all := all) (k := k) (D := D) (Q := Q) (l.drop n) (l.take n) T h (r _ fun _ _ _ h => h)
 rwa [bCp] at this
theorem Run.opR {R : AV -> Heap -> Prop} (hw : awanted all T o = some true) (hnd : ∀ c, o.op ≠ .defer c)
  (ho : ∀ E w a, St E w a T h D -> ∃ x h' E' w' v, R x h' /\ (execOp a.eval o).run P w = .ok (.value v) w' /\ Rel E' (Heap.at h') w' /\ Fresh E' h'.length /\ Rep E' w' x v /\ Fr E (Heap.at h) w E' (Heap.at h') w')
  (r : ∀ x h', R x h' -> Run P rd nb (.ops all rest :: k) (tput T o.dst x) h' D Q) : Run P rd nb (.ops all (o :: rest) :: k) T h D Q := by
 intro E w a s;obtain ⟨x, h', E', w', v, hR, hrun, hr, hf, hx, hfr⟩ := ho E w a s;have s' : St E' w' (a.put o.dst v) (tput T o.dst x) h' D := (s.move hfr hr hf).put hx o.dst;have := r x h' hR E' w' _ s';exact y2v
theorem exec_append {a : Act} {s x : Operand} {t : TypeId} {v : Value} {w w' : World} (ho : o.op = .call ⟨.builtin .append, #[s, x], #[t, t]⟩) (hrun : (Builtin.append_ #[t, t] o.type #[a.eval s, a.eval x]).run P w = .ok v w') :
  (execOp a.eval o).run P w = .ok (.value v) w' := by
 simp only [execOp, ho, resolve, Sem.run_bind, Sem.run_pure, Result.andThen_ok, invoke];simp [builtin, hrun]
theorem Run.freezeS (slot : Nat) {id n cap sz m : Nat} {es : List (List PV)} (hs : tget T slot = .sm id 0 n cap sz) (hat : h.at id = some (.cells (buf sz es m))) (hes : ∀ e ∈ es, e.length = sz) (hn : es.length = n) (hcap : n <= cap)
  (r : Run P rd nb k (T.set slot (.p (.sl sz es))) (h.set id none) D Q) : Run P rd nb k T h D Q := by
 intro E w a s;have hv := s.tmps.get slot;rw [<- tget_eq, hs] at hv;simp only [Rep] at hv;obtain ⟨b, hg, hv⟩ := hv;obtain ⟨b', vals, hg', hrow, hreps⟩ := s.rel.objs id _ hat;rw [hg] at hg'; cases hg';obtain ⟨f1, f2⟩ := s.rel.freeze hat hg;have s' := s.move f2 f1 (fun i hi => s.fresh i (by simpa using hi));have hel : (es.flatten.map AV.p).length = es.length * sz := by rw [bC9, aQ hes]
 have hx : Rep { E with ro := fun b' off => E.ro b' off \/ b' = b } w (.p (.sl sz es)) (.slice (some ⟨b, 0, none⟩) n cap) := by
  simp only [Rep, RepP];refine ⟨_, cap, by rw [hn], by omega, .inr ⟨b, 0, rfl, ?_⟩⟩;refine RepEs.of_row (vs := vals.take (es.length * sz)) hes (fun j v hj => ⟨.inr rfl, ?_⟩) ?_
  ·rw [hrow.cell, bCg];exact y4h
  ·have := (hreps.ext f2.ext).take (es.length * sz);unfold buf at this
   rwa [bCh aB, bBr aB] at this
 have hset := s'.tmps.set hx slot
 have hsame : (a.tmps.toList).set slot (.slice (some ⟨b, 0, none⟩) n cap) = a.tmps.toList := by
  exact y3f
 rw [hsame] at hset;exact K_mono (P := P) (rd := rd) (Post.of_fr (Q := Q) f2) k _ _ _ (r _ w a ⟨s'.rel, s'.fresh, hset, s'.defers⟩)

end


open Go

section

variable {P : Program} {rd : Option Nat} {nb : Nat} {k : List It} {T : List AV} {h : Heap} {D : List AD} {Q : AX -> List AV -> Heap -> List AD -> Prop} {all : Array Oper} {o : Oper} {rest : List Oper}
theorem Run.weakH (id : Nat) {cs cs' : List AV} (hid : h.at id = some (.cells cs)) (hw : WeakL cs cs') (r : Run P rd nb k T (h.set id (some (.cells cs'))) D Q) : Run P rd nb k T h D Q := by
 intro E w a s;obtain ⟨b, vals, hg, hrow, hreps⟩ := s.rel.objs id cs hid;obtain ⟨g1, g2⟩ := s.rel.writeO hid rfl (o' := .cells cs') rfl hg (fun _ => ⟨vals, hrow, hw E w vals hreps⟩) (fun _ _ => rfl) rfl rfl rfl;exact K_mono (P := P) (rd := rd) (Post.of_fr (Q := Q) g2) k _ _ _ (r E w a (s.move g2 g1 (by simpa using s.fresh)))
theorem Run.regPre {id : Nat} (n : Nat) {l : List Oper} (r : ∀ K : List Oper -> List AV -> Heap -> Prop, (∀ l' T h, Run P rd nb (.ops l.toArray (l' ++ l.drop n) :: k) T h D Q -> K l' T h) -> cM P l.toArray K (l.take n) T h) : Run P rd nb (.code (.region id l.toArray false) :: k) T h D Q :=
 Run.region (Run.opsPre n r)

end
theorem patch_app {α : Type} : ∀ (us l r : List α) (off : Nat), off + us.length <= l.length -> patch (l ++ r) off us = patch l off us ++ r
 | [], l, r, off, _ => rfl
 | u :: us, l, r, off, h => by
  simp only [bBm] at h;simp only [patch];rw [bCa _ _ aB];exact patch_app us (l.set off u) r (off + 1) (by rw [bDe]; omega)
theorem buf_set {sz : Nat} {es : List (List PV)} {m k : Nat} {e : List PV} (h : ∀ e ∈ es, e.length = sz) (hk : k < es.length) (he : e.length = sz) : patch (buf sz es m) (k * sz) (e.map .p) = buf sz (es.set k e) m := by
 have hle : (k + 1) * sz <= es.length * sz := bD4 _ aB;rw [bE6] at hle;unfold buf;rw [patch_app _ _ _ _ (by rw [bC9, bC9, aQ h, he]; omega), <- iK, kW sz es k e h he hk]

end Go.AI
