import Derived.Test.YtfajdeofhioakaaGreatJA0
import Derived.Test.YtfajdeofhioakaaGreatJEVb

namespace Go.AI.EV

open Go Go.AI

inductive XO where
 | cells (cs : List AV)
 | row (n0 j sz : Nat) (cs : List AV)
 | tok (n sz : Nat)
 | map (kvs : List (Value × Value))
 | loop (j : Nat) (st : LoopState) (pend : Option Code)
 | dblk
 | dead
def iO (ks : Ks) : XO -> Option AO
 | .cells cs => some (.cells (cs.map (io ks)))
 | .row n0 j sz cs => some (.cells (cs.map (io ks) ++ List.replicate ((n0 + (ks j).1) * sz - cs.length) .junk))
 | .tok n sz => some (.tok n sz)
 | .map kvs => some (.aux (.map kvs))
 | .loop j st pend => some (.aux (.loop (ks j).1 st pend (ks j).2.T (ks j).2.ps (ks j).2.asg (ks j).2.bd))
 | .dblk => some (.aux .dblk)
 | .dead => none
abbrev HX := List XO
def iH (ks : Ks) (H : HX) : Heap := H.map (iO ks)
theorem bD (ks : Ks) (H : HX) : (iH ks H).length = H.length := by simp [iH]
theorem dX (ks : Ks) (H G : HX) : iH ks (H ++ G) = iH ks H ++ iH ks G := by simp [iH]
theorem iF (ks : Ks) (H : HX) (i : Nat) (o : XO) : (iH ks H).set i (iO ks o) = iH ks (H.set i o) := by simp [iH, List.map_set]
theorem kF {ks : Ks} {H : HX} {i : Nat} {o : XO} (h : H[i]? = some o) : (iH ks H).at i = iO ks o := by
 unfold Heap.at iH;simp [h]
def cellsOf : XO -> Option (List AV)
 | .cells cs => some cs
 | .row _ _ _ cs => some cs
 | _ => none
def putCells : XO -> List AV -> XO
 | .row n0 j sz _, cs => .row n0 j sz cs
 | _, cs => .cells cs
theorem gL {ks : Ks} {o : XO} {cs : List AV} (h : cellsOf o = some cs) : ∃ R, iO ks o = some (.cells (cs.map (io ks) ++ R)) /\ ∀ cs', cs'.length = cs.length -> iO ks (putCells o cs') = some (.cells (cs'.map (io ks) ++ R)) := by
 cases o <;> simp only [cellsOf, bBk] at h <;> try (cases h; done)
 ·subst h; exact ⟨[], by simp [iO], fun cs' _ => by simp [iO, putCells]⟩
 ·subst h; exact ⟨_, rfl, fun cs' hl => by simp [iO, putCells, hl]⟩

section

variable {P : Program} {ks : Ks}
def aBo (P : Program) (t : TypeId) (a : AV) (H : HX) : Option AV :=
 match jD P t, szT P t with
 | some ag, some n => match a with
  | .ptr id off => match (H[id]?).bind cellsOf with
   | some cs => if ag then (if off + n <= cs.length then some (.agg ((cs.drop off).take n)) else none) else cs[off]?
   | none => none
  | .p (.ro cs) => if ag then (if n <= cs.length then some (.agg ((cs.take n).map .p)) else none) else (cs[0]?).map .p
  | _ => none
 | _, _ => none
theorem fU {H : HX} {id : Nat} {cs : List AV} (h : (H[id]?).bind cellsOf = some cs) : ∃ o, H[id]? = some o /\ cellsOf o = some cs := by
 cases e : H[id]? with
 | none => rw [e] at h; cases h
 | some o => rw [e] at h; exact ⟨o, rfl, h⟩
theorem eC {f : AV -> AV} {cs R : List AV} {off n : Nat} (h : off + n <= cs.length) : ((cs.map f ++ R).drop off).take n = ((cs.drop off).take n).map f := by
 rw [List.drop_append_of_le_length (by simp; omega), bCh (by simp; omega), List.map_take, List.map_drop]
theorem aD6 {t : TypeId} {a x : AV} {H : HX} (h : aBo P t a H = some x) : zV P t (io ks a) (iH ks H) = some (io ks x) := by
 unfold aBo at h;unfold zV
 cases hg : jD P t with
 | none => simp [hg] at h
 | some ag =>
  cases hs : szT P t with
  | none => simp [hg, hs] at h
  | some n =>
   simp only [hg, hs] at h ⊢
   cases a with
   | ptr id off =>
    simp only [nC] at h ⊢
    cases hb : (H[id]?).bind cellsOf with
    | none => simp only [hb] at h; cases h
    | some cs =>
     simp only [hb] at h;obtain ⟨o, h1, h2⟩ := fU hb;obtain ⟨R, h3, _⟩ := gL (ks := ks) h2;rw [kF h1, h3]
     cases ag with
     | true =>
      simp only [if_true] at h ⊢;split at h
      ·rename_i hc;simp only [bBk] at h;subst h;rw [if_pos (by simp; omega), eC hc, xK]
      ·cases h
     | false =>
      simp only [bBy, if_false] at h ⊢;have hlt : off < cs.length := (bBg.1 h).1;rw [bBt (by simpa using hlt)];simp [h]
   | p x => cases x with
    | ro cs =>
     simp only [dY] at h ⊢
     cases ag with
     | true =>
      simp only [if_true] at h ⊢;split at h
      ·rename_i hc;rw [if_pos hc];simp only [bBk] at h;subst h;rw [xK, bEb, show io ks ∘ AV.p = AV.p from funext (dY ks)]
      ·cases h
     | false =>
      simp only [bBy, if_false] at h ⊢;obtain ⟨y, h1, rfl⟩ := bBv.1 h;rw [h1]; simp
    | _ => cases h
   | _ => cases h
def aIs (P : Program) (t : TypeId) (a v : AV) (H : HX) : Option HX :=
 match a with
 | .ptr id off => match H[id]?, cP v with
  | some o, some us => match cellsOf o with
   | some cs => if szT P t = some us.length /\ off + us.length <= cs.length /\ us.all nR = true then some (H.set id (putCells o (patch cs off us))) else none
   | none => none
  | _, _ => none
 | _ => none
theorem patch_app {α : Type} : ∀ (us l R : List α) (off : Nat), off + us.length <= l.length -> patch (l ++ R) off us = patch l off us ++ R
 | [], _, _, _, _ => rfl
 | u :: us, l, R, off, h => by
  simp only [bBm] at h;simp only [patch];rw [bCa _ _ aB, patch_app us _ R _ (by simp; omega)]
theorem rW (us : List AV) : (us.map (io ks)).all nR = us.all nR := by
 rw [List.all_map]
 congr 1
 funext x
 exact aP9 ks x
theorem aIt {t : TypeId} {a v : AV} {H H' : HX} (h : aIs P t a v H = some H') : rX P t (io ks a) (io ks v) (iH ks H) = some (iH ks H') := by
 unfold aIs at h
 cases a with
 | ptr id off =>
  simp only at h
  cases h1 : H[id]? with
  | none => rw [h1] at h; cases h
  | some o =>
   cases h2 : cP v with
   | none => rw [h1, h2] at h; cases h
   | some us =>
    cases h3 : cellsOf o with
    | none => simp only [h1, h2, h3] at h; cases h
    | some cs =>
     simp only [h1, h2, h3] at h;split at h
     ·rename_i hc;obtain ⟨c1, c2, c3⟩ := hc;simp only [bBk] at h;subst h;obtain ⟨R, h4, h5⟩ := gL (ks := ks) h3;unfold rX;simp only [nC, kF h1, h4, iE, h2, bCm];rw [if_pos ⟨by simpa using c1, by simp; omega, by rw [rW]; exact c3⟩];rw [<- iF, h5 _ (by rw [cH]), patch_app _ _ _ _ (by simp; exact c2), iS]
     ·cases h
 | _ => cases h
theorem yD (z : List Value) : (prims z).map (io ks) = prims z := lB ks z
def aPp (P : Program) (t : TypeId) (l c : AV) (H : HX) : Option (AV × HX) :=
 match elT P t, rB l, rB c with
 | some e, some n, some m => match szT P e, byT P e, bM P e with
  | some sz, some by_, some z => if 0 <= n /\ n = m /\ n.toNat * by_ <= 140737488355328 /\ n.toNat <= 1099511627776 /\ 0 < sz then
    some (.sm H.length 0 n.toNat (2 * n.toNat) sz, H ++ [.cells (List.replicate n.toNat (prims z)).flatten]) else none
  | _, _, _ => none
 | _, _, _ => none
theorem sG (z : List Value) (n : Nat) : ((List.replicate n (prims z)).flatten).map (io ks) = (List.replicate n (prims z)).flatten := by
 rw [List.map_flatten, List.map_replicate, lB]
theorem iG (ks : Ks) (n : Nat) : nQ ks (2 * n) = n := by unfold nQ; rw [if_pos aB]; omega
theorem aLp {t : TypeId} {l c x : AV} {H H' : HX} (h : aPp P t l c H = some (x, H')) : aDm P t (io ks l) (io ks c) (iH ks H) = some (io ks x, iH ks H') := by
 unfold aPp at h;unfold aDm;rw [gM, gM]
 cases h1 : elT P t with
 | none => simp only [h1] at h; cases h
 | some e =>
  cases h2 : rB l with
  | none => simp only [h1, h2] at h; cases h
  | some n =>
   cases h3 : rB c with
   | none => simp only [h1, h2, h3] at h; cases h
   | some m =>
    cases h4 : szT P e with
    | none => simp only [h1, h2, h3, h4] at h; cases h
    | some sz =>
     cases h5 : byT P e with
     | none => simp only [h1, h2, h3, h4, h5] at h; cases h
     | some by_ =>
      cases h6 : bM P e with
      | none => simp only [h1, h2, h3, h4, h5, h6] at h; cases h
      | some z =>
       simp only [h1, h2, h3, h4, h5, h6] at h ⊢;split at h
       ·rename_i hc;rw [if_pos hc];simp only [bBk, bBz] at h;obtain ⟨rfl, rfl⟩ := h
        have e1 : iH ks [XO.cells (List.replicate n.toNat (prims z)).flatten] = [some (.cells (List.replicate n.toNat (prims z)).flatten)] := by
         show [some (AO.cells _)] = _;rw [sG]
        rw [dX, bD, io_sm, iG, e1]
       ·cases h
def aIp (P : Program) (t : TypeId) (x : AV) (lo hi mx : Option AV) : Option AV :=
 match x with
 | .sm id off len code s => if code % 2 = 0 then (match aslice P t (.sm id off len (code / 2) s) lo hi mx with
   | some (.sm a b c d e) => some (.sm a b c (2 * d) e)
   | _ => none)
  else match elT P t with
   | some e => match szT P e with
    | some sz => match loA lo, hiA len hi with
     | some l, some u => match mx with
      | none => if s = sz /\ 0 <= l /\ l <= u /\ u.toNat <= code / 2 % 1048576 then
        (if l = 0 then some (.sm id off u.toNat code s)
         else if l.toNat < code / 2 % 1048576 then some (.sm id (off + l.toNat * sz) (u.toNat - l.toNat) (2 * ((code / 2 % 1048576 - l.toNat) + 1048576 * (code / 2 / 1048576)) + 1) s) else none) else none
      | some mv => match rB mv with
       | some m => if s = sz /\ 0 <= l /\ l <= u /\ u <= m /\ m.toNat <= code / 2 % 1048576 /\ hi.isSome = true then some (.sm id (if m.toNat = l.toNat then off else off + l.toNat * sz) (u.toNat - l.toNat) (2 * (m.toNat - l.toNat)) s) else none
       | none => none
     | _, _ => none
    | none => none
   | none => none
 | .p (.sl s es) => aslice P t (.p (.sl s es)) lo hi mx
 | .p (.prim (.slice none 0 0)) => (match aslice P t (.p (.prim (.slice none 0 0))) lo hi mx with
   | some (.p (.prim (.slice none 0 0))) => some (.p (.prim (.slice none 0 0)))
   | _ => none)
 | .own k s es => aslice P t (.own k s es) lo hi mx
 | _ => none
theorem aMd (o : Option AV) : loA (o.map (io ks)) = loA o := by cases o with
 | none => rfl
 | some v => exact gM ks v
theorem aM6 (n : Nat) (o : Option AV) : hiA n (o.map (io ks)) = hiA n o := by cases o with
 | none => rfl
 | some v => exact gM ks v
theorem aV6 (n : Nat) (o : Option AV) : maA n (o.map (io ks)) = maA n o := by cases o with
 | none => rfl
 | some v => exact gM ks v
theorem aDq {t : TypeId} {x : AV} {lo hi mx : Option AV} : aslice P t x (lo.map (io ks)) (hi.map (io ks)) (mx.map (io ks)) = aslice P t x lo hi mx := by
 unfold aslice;simp only [aMd, aM6, aV6, Option.isSome_map, Option.isNone_map]
theorem wJ {t : TypeId} {x y : AV} {s : Nat} {es : List (List PV)} {lo hi mx : Option AV} (hx : x = .p (.sl s es) \/ ∃ k, x = .own k s es) (h : aslice P t x lo hi mx = some y) : ∃ s' es', y = .p (.sl s' es') := by
 unfold aslice at h
 cases h1 : elT P t with
 | none => simp only [h1] at h; cases h
 | some e =>
  cases h2 : szT P e with
  | none => simp only [h1, h2] at h; cases h
  | some sz =>
   simp only [h1, h2] at h;rcases hx with rfl | ⟨k, rfl⟩
   all_goals
    simp only at h;split at h
    ·split at h
     ·simp only [bBk] at h; exact ⟨_, _, h.symm⟩
     ·cases h
    ·cases h
theorem aIq {t : TypeId} {x y : AV} {lo hi mx : Option AV} (h : aIp P t x lo hi mx = some y) : aslice P t (io ks x) (lo.map (io ks)) (hi.map (io ks)) (mx.map (io ks)) = some (io ks y) := by
 rw [aDq];unfold aIp at h;split at h
 ·rename_i id off len code s;split at h
  ·rename_i hev;split at h
   ·rename_i a b c d e h1;simp only [bBk] at h;subst h;rw [io_sm, io_sm, iG, show nQ ks code = code / 2 by unfold nQ; rw [if_pos hev]];exact h1
   ·cases h
  ·rename_i hod
   cases h1 : elT P t with
   | none => simp only [h1] at h; cases h
   | some e =>
    cases h2 : szT P e with
    | none => simp only [h1, h2] at h; cases h
    | some sz =>
     simp only [h1, h2] at h;have hcap : nQ ks code = code / 2 % 1048576 + (ks (code / 2 / 1048576)).1 := by unfold nQ; rw [if_neg hod]
     split at h
     ·rename_i l u hl hu;split at h
      ·split at h
       ·rename_i hc;obtain ⟨rfl, c2, c3, c4⟩ := hc;split at h
        ·rename_i hl0;subst hl0;simp only [bBk] at h;subst h;refine y11 ?_;refine y1e ?_;refine ⟨by split <;> simp, by omega, by omega⟩
        ·split at h
         ·rename_i hlt;simp only [bBk] at h;subst h;refine y11 ?_
          have hcap2 : nQ ks (2 * ((code / 2 % 1048576 - l.toNat) + 1048576 * (code / 2 / 1048576)) + 1) = (code / 2 % 1048576 - l.toNat) + (ks (code / 2 / 1048576)).1 := by
           have q1 : (2 * ((code / 2 % 1048576 - l.toNat) + 1048576 * (code / 2 / 1048576)) + 1) / 2 = (code / 2 % 1048576 - l.toNat) + 1048576 * (code / 2 / 1048576) := aB;have q2 : ((code / 2 % 1048576 - l.toNat) + 1048576 * (code / 2 / 1048576)) % 1048576 = code / 2 % 1048576 - l.toNat := aB;have q3 : ((code / 2 % 1048576 - l.toNat) + 1048576 * (code / 2 / 1048576)) / 1048576 = code / 2 / 1048576 := aB;unfold nQ;rw [if_neg aB, q1, q2, q3]
          refine y1e ?_;refine ⟨by rw [if_neg aB], by rw [hcap2]; omega⟩
         ·cases h
       ·cases h
      ·split at h
       ·rename_i mv m hm;split at h
        ·rename_i hc;obtain ⟨rfl, c2, c3, c4, c5, c6⟩ := hc;simp only [bBk] at h;subst h;unfold aslice;simp only [io_sm, h1, h2, hl, hu, maA, hm];rw [if_pos ⟨trivial, by omega, by omega, by omega, by omega, by simp [c6]⟩];refine y1e ?_;rw [iG]
        ·cases h
       ·cases h
     ·cases h
 ·obtain ⟨s', es', rfl⟩ := wJ (.inl rfl) h;rw [dY, dY]; exact h
 ·split at h
  ·rename_i h1;simp only [bBk] at h;subst h;rw [dY]; exact h1
  ·cases h
 ·obtain ⟨s', es', rfl⟩ := wJ (.inr ⟨_, rfl⟩) h;rw [lA, dY]; exact h
 ·cases h

end


open Go Go.AI
theorem tJ {E : Env} {h : Heap} {w : World} (r : Rel E h.at w) {id : Nat} {o : AO} (hid : h.at id = some o) : Rel E (Heap.at (h.set id none)) w /\ Fr E h.at w E (Heap.at (h.set id none)) w := by
 have hlt := bF hid;have hold : ∀ id', id' ≠ id -> Heap.at (h.set id none) id' = h.at id' := fun id' hne => by rw [eV _ _ _ _ hlt, if_neg hne]
 have hnew : Heap.at (h.set id none) id = none := by rw [eV _ _ _ _ hlt, if_pos rfl]
 have hne : ∀ id' o, Heap.at (h.set id none) id' = some o -> id' ≠ id := fun id' o e e' => by subst e'; rw [hnew] at e; cases e
 have hO : ∀ id' b', eQ E (Heap.at (h.set id none)) id' b' -> eQ E h.at id' b' := by
  intro id' b' ho;rcases ho with ⟨c, h1, h3, h2⟩ | ⟨c, x, c', m, h1, hk, h2⟩
  ·have e := hne _ _ h1; rw [hold id' e] at h1; exact .inl ⟨c, h1, h3, h2⟩
  ·have e := hne _ _ h1; rw [hold id' e] at h1; exact .inr ⟨c, x, c', m, h1, hk, h2⟩
 refine ⟨⟨fun id' c hc hm => ?_, fun id' c n sz k cs hc hk => ?_, fun i i' b' h1 h2 => r.inj i i' b' (hO _ _ h1) (hO _ _ h2), fun id' c b' off hc hm hg' hb => ?_, fun id' c n sz k cs b' c' m off hc hk hg' hl hb => ?_, r.lt⟩, ⟨fun _ _ _ => rfl, Ext.refl _ _, fun b off hb => .inl hb, bBh _, fun b' ⟨i, ho⟩ => .inl ⟨i, hO _ _ ho⟩, Kp.refl w⟩⟩
 ·have e := hne _ _ hc; rw [hold id' e] at hc; exact r.objsO id' c hc hm
 ·have e := hne _ _ hc; rw [hold id' e] at hc; exact r.toks id' c n sz k cs hc hk
 ·have e := hne _ _ hc; rw [hold id' e] at hc; exact r.sepO id' c b' off hc hm hg' hb
 ·have e := hne _ _ hc; rw [hold id' e] at hc; exact r.sepT id' c n sz k cs b' c' m off hc hk hg' hl hb
theorem aEo {E : Env} {h : Heap} {w : World} (r : Rel E h.at w) (hf : Fresh E h.length) {id b : Nat} {cs : List AV} (hat : h.at id = some (.cells cs)) (hgb : E.g id = some b) :
  let E' : Env := { E with g := fun i => if i = h.length then some b else E.g i }
  let h' : Heap := h.set id none ++ [some (.cells cs)]
  Rel E' h'.at w /\ Fr E h.at w E' h'.at w /\ Fresh E' (h.length + 1) /\ E'.g h.length = some b := by
 intro E' h';have hlt := bF hat
 have hx : Ext E w E' w := ⟨fun _ _ h => h, fun _ _ _ => rfl, fun i b' e => by
   show (if i = h.length then some b else E.g i) = some b';rw [if_neg (fun he => by rw [he, (hf _ (bBh _)).1] at e; cases e)]; exact e, fun _ L h => ⟨L, h, bBh _, fun _ => rfl⟩⟩
 have hnew : h'.at h.length = some (.cells cs) := by
  have := cC (h.set id none) (some (.cells cs)) h.length;rw [bDe, if_pos rfl] at this;exact this
 have hold : ∀ i o, i ≠ h.length -> h'.at i = some o -> h.at i = some o /\ i ≠ id := by
  intro i o hne e;have := cC (h.set id none) (some (.cells cs)) i;exact y2l
 have hg' : ∀ i, i ≠ h.length -> E'.g i = E.g i := fun i hne => if_neg hne
 have hgn : E'.g h.length = some b := if_pos rfl
 have hO : ∀ i b', eQ E' h'.at i b' -> (i = h.length /\ b' = b) \/ (i ≠ h.length /\ i ≠ id /\ eQ E h.at i b') := by
  intro i b' ho;exact y25
 have hown : eQ E h.at id b := .inl ⟨_, hat, rfl, hgb⟩;refine ⟨⟨fun i o hc hn => ?_, fun i o n s k cs hc hk => ?_, fun i i' b' h1 h2 => ?_, fun i o b' off hc hn hg hb => ?_, fun i o n s k cs b' c m off hc hk hg hl hb => ?_, r.lt⟩, ⟨fun _ _ _ => rfl, hx, fun _ _ h => .inl h, bBh _, fun b' ⟨i, ho⟩ => ?_, Kp.refl w⟩, fun i hi => ?_, hgn⟩
 ·by_cases e : i = h.length
  ·subst e; rw [hnew] at hc; cases hc;obtain ⟨b2, hg2, ho⟩ := r.objsO id _ hat rfl;rw [hgb] at hg2; cases hg2;exact ⟨b, hgn, ho.move hx rfl⟩
  ·exact y57
 ·exact y2j
 ·exact y31
 ·by_cases e : i = h.length
  ·subst e;rw [hgn] at hg; cases hg;exact r.sepO id _ b off hat rfl hgb hb
  ·exact y6c
 ·exact y43
 ·exact y5p
 ·exact y5l
def Src (E : Env) (w : World) (v : Value) (m sz : Nat) (us : List AV) : Prop :=
 ∃ a cx news, v = .slice (some a) m cx /\ news.length = m * sz /\ (∀ j u, news[j]? = some u -> w.cell? (a.add j) = some u) /\ RepL E w us news /\ ∀ u ∈ news, u.oneCell' = true
theorem aWe {E : Env} {w : World} {x : AV} {ys : List (List PV)} {sz : Nat} {v : Value} (h1 : wD x = some ys) (h2 : iV sz x = true) (hx : Rep E w x v) (hpos : 0 < ys.length) : Src E w v ys.length sz (ys.flatten.map .p) := by
 have hX := mU h1 h2 hx;simp only [RepP] at hX;obtain ⟨ad, cx, hxv, _, hX⟩ := hX;have hne : ys ≠ [] := by intro h0; rw [h0] at hpos; simp at hpos
 obtain ⟨b, off, rfl, hr⟩ := hX.resolve_left hne;have hyl := hr.length;have hfl := aQ hyl;obtain ⟨news, n1, n2, n3⟩ := RepAt.values hr.flat;exact ⟨⟨b, off, none⟩, cx, news, hxv, by rw [n1, hfl], fun j u hj => by rw [addr_add]; exact n2 j u hj, n3, RepL.one_p n3⟩
theorem aWf {E : Env} {w : World} {h : Heap} {id off len cap sz : Nat} {cs : List AV} {v : Value} (r : Rel E h.at w) (hat : h.at id = some (.cells cs)) (hx : Rep E w (.sm id off len cap sz) v) (hl : off + len * sz <= cs.length)
  (h1 : ((cs.drop off).take (len * sz)).all nR = true) : Src E w v len sz ((cs.drop off).take (len * sz)) := by
 simp only [Rep] at hx;obtain ⟨b, hg, rfl⟩ := hx;obtain ⟨b', vs, hg', hrow, hreps⟩ := r.objs id cs hat;rw [hg] at hg'; cases hg';have hvl := hreps.length;have hr := (hreps.drop off).take (len * sz);refine ⟨⟨b, off, none⟩, cap, (vs.drop off).take (len * sz), rfl, by simp; omega, fun j u hj => ?_, hr, RepL.one_all h1 hr⟩;rw [addr_add, hrow.cell];exact y47
theorem aCt {E : Env} {h : Heap} {w : World} {us : List AV} {vals zs : List Value} {e : TypeId} (r : Rel E h.at w) (hf : Fresh E h.length) (hv : RepL E w us vals) :
  ∃ E', Rel E' (Heap.at (h ++ [some (.cells (us ++ List.replicate zs.length .junk))])) (w.drew.alloc (.cells (List.toArray (vals ++ zs)) e (0, 0))) /\ Fresh E' (h.length + 1) /\
   Fr E h.at w E' (Heap.at (h ++ [some (.cells (us ++ List.replicate zs.length .junk))])) (w.drew.alloc (.cells (List.toArray (vals ++ zs)) e (0, 0))) /\ E'.g h.length = some w.heap.size := by
 have hb : RepL E w.drew (us ++ List.replicate zs.length .junk) (vals ++ zs) := by
  refine RepL.append (RepL.ext (E := E) (w := w) (E' := E) (w' := w.drew) ⟨fun _ _ h => h, fun _ _ _ => rfl, fun _ _ h => h, fun _ L h => ⟨L, h, bBh _, fun _ => rfl⟩⟩ hv) ?_;exact RepL.junks zs
 have hd := r.of_heap (w' := w.drew) rfl rfl rfl;obtain ⟨h1, h2, h3⟩ := hd.1.alloc hf hb e;exact ⟨_, h1, h3, hd.2.trans h2, if_pos rfl⟩

section

variable {P : Program} {T : List AV} {h : Heap} {D : List AD} {o : Oper} {E : Env} {w : World} {a : Act} {s x : Operand} {t e : TypeId} {sz by_ m : Nat} {z : List Value} {us : List AV}
def Out (P : Program) (o : Oper) (E : Env) (w : World) (a : Act) (h : Heap) (x : AV) (h' : Heap) : Prop :=
 ∃ E' w' v, (execOp a.eval o).run P w = .ok (.value v) w' /\ Rel E' (Heap.at h') w' /\ Fresh E' h'.length /\ Rep E' w' x v /\ Fr E (Heap.at h) w E' (Heap.at h') w'
theorem aN3 (st : St E w a T h D) (ho : o.op = .call ⟨.builtin .append, #[s, x], #[t, t]⟩) (he : elT P t = some e) (hsz : szT P e = some sz) (hby : byT P e = some by_) (hz : bM P e = some z)
  (hs : aev T s = .p (.prim (.slice none 0 0))) (src : Src E w (a.eval x) m sz us) (hm : 0 < m) (hb : m * by_ <= 140737488355328) (hb2 : m <= 9223372036854775807) :
  ∃ c', m <= c' /\ Out P o E w a h (.sm h.length 0 m c' sz) (h ++ [some (.cells (us ++ List.replicate (c' * sz - us.length) .junk))]) := by
 obtain ⟨ad, cx, news, hxv, n1, n2, n3, n4⟩ := src;have hsr := aev_rep st s;rw [hs] at hsr;simp only [Rep, RepP] at hsr;have hu := iW he;obtain ⟨i, zv, hi, hzv, hzc, hzl, _⟩ := aS hz;have hisz : i.size = sz := by unfold szT at hsz; rw [hi] at hsz; simpa using hsz
 have hiby : i.bytes = by_ := by unfold byT at hby; rw [hi] at hby; simpa using hby
 have hrun := run_append_nil (P := P) w t o.type e i zv hu hi hzv ad m cx news (by rw [n1, hisz]) n2 hm aB (by rw [hiby]; omega);have hul := n3.length
 have hzs : ((Builtin.zeroCells zv.cells (grownCap w m 0 e - m)).toList).length = grownCap w m 0 e * sz - us.length := by
  rw [bE5, size_zeroCells, hzc, <- hul, n1, <- Nat.sub_mul]; simp [hzl, hisz]
 obtain ⟨E', g1, g2, g3, g4⟩ := aCt (h := h) (e := e) (zs := (Builtin.zeroCells zv.cells (grownCap w m 0 e - m)).toList) st.rel st.fresh n3;rw [hzs] at g1 g3;refine ⟨grownCap w m 0 e, bZ w _ 0 e, E', _, .slice (some ⟨w.heap.size, 0, none⟩) m (grownCap w m 0 e), ?_, g1, by simpa using g2, ?_, g3⟩
 ·have hq : List.toArray (news ++ (Builtin.zeroCells zv.cells (grownCap w m 0 e - m)).toList) = news.toArray ++ Builtin.zeroCells zv.cells (grownCap w m 0 e - m) := by
   exact y69
  rw [hq];exact exec_append ho (by rw [hsr.1, hxv]; exact hrun)
 ·simp only [Rep];exact ⟨_, g4, rfl⟩
theorem aBv (st : St E w a T h D) (ho : o.op = .call ⟨.builtin .append, #[s, x], #[t, t]⟩) (he : elT P t = some e) (hsz : szT P e = some sz) (hz : bM P e = some z) {id n cap : Nat} {cs : List AV}
  (hs : aev T s = .sm id 0 n cap sz) (hid : h.at id = some (.cells cs)) (src : Src E w (a.eval x) m sz us) (hfit : n * sz + us.length <= cs.length) (hroom : n + m <= cap) :
  Out P o E w a h (.sm id 0 (n + m) cap sz) (h.set id (some (.cells (patch cs (n * sz) us)))) := by
 obtain ⟨ad, cx, news, hxv, n1, n2, n3, n4⟩ := src;have hsr := aev_rep st s;rw [hs] at hsr;simp only [Rep] at hsr;obtain ⟨g, hg, hsv⟩ := hsr;have hu := iW he;obtain ⟨i, zv, hi, hzv, hzc, hzl, _⟩ := aS hz;have hisz : i.size = sz := by unfold szT at hsz; rw [hi] at hsz; simpa using hsz
 obtain ⟨g', cur, hg', hrow, hreps⟩ := st.rel.objs id _ hid;rw [hg] at hg'; cases hg';have hcl := hreps.length;have hul := n3.length;obtain ⟨w', hrun, hrow', hsame, hsize, hos, hout⟩ := gE (P := P) (ty := o.type) hu hi hrow (a := ad) (m := m) (c := cx) (news := news) (n := n) (cap := cap) (by rw [n1, hisz]) n2 n4 hroom (by rw [hisz]; omega);rw [hisz] at hrow';have hnew : RepL E w (patch cs (n * sz) us) (patch cur (n * sz) news) := RepL.patch (n * sz) n3 hreps;obtain ⟨g1, g2⟩ := st.rel.writeO hid rfl (o' := .cells (patch cs (n * sz) us)) rfl hg (fun hx => ⟨_, hrow', hnew.ext hx⟩) hsame hsize hos hout;refine ⟨E, w', .slice (some ⟨g, 0, none⟩) (n + m) cap, ?_, g1, by simpa using st.fresh, ?_, g2⟩
 ·exact y4a
 ·simp only [Rep];exact ⟨g, hg, rfl⟩
theorem aBu (st : St E w a T h D) (ho : o.op = .call ⟨.builtin .append, #[s, x], #[t, t]⟩) (he : elT P t = some e) (hsz : szT P e = some sz) (hby : byT P e = some by_) (hz : bM P e = some z) {id off n cap : Nat} {cs : List AV}
  (hs : aev T s = .sm id off n cap sz) (hid : h.at id = some (.cells cs)) (hcs : off + n * sz <= cs.length) (src : Src E w (a.eval x) m sz us) (_hm : 0 < m) (hroom : cap < n + m) (hb : (n + m) * by_ <= 140737488355328) (hb2 : n + m <= 9223372036854775807) (_hcn : n <= cap) :
  ∃ c', n + m <= c' /\ Out P o E w a h (.sm h.length 0 (n + m) c' sz) (h ++ [some (.cells ((cs.drop off).take (n * sz) ++ us ++ List.replicate (c' * sz - (n + m) * sz) .junk))]) := by
 obtain ⟨ad, cx, news, hxv, n1, n2, n3, n4⟩ := src;have hsr := aev_rep st s;rw [hs] at hsr;simp only [Rep] at hsr;obtain ⟨g, hg, hsv⟩ := hsr;have hu := iW he;obtain ⟨i, zv, hi, hzv, hzc, hzl, _⟩ := aS hz;have hisz : i.size = sz := by unfold szT at hsz; rw [hi] at hsz; simpa using hsz
 have hiby : i.bytes = by_ := by unfold byT at hby; rw [hi] at hby; simpa using hby
 obtain ⟨g', cur, hg', hrow, hreps⟩ := st.rel.objs id _ hid;rw [hg] at hg'; cases hg';have hcl := hreps.length;have hul := n3.length
 have holds : ∀ j v, ((cur.drop off).take (n * sz))[j]? = some v -> w.cell? ((⟨g, off, none⟩ : Addr).add j) = some v := by
  intro j v hj;rw [addr_add, hrow.cell];exact y47
 have hol : ((cur.drop off).take (n * sz)).length = n * sz := by rw [bC7, bCl]; omega
 have horep : RepL E w ((cs.drop off).take (n * sz)) ((cur.drop off).take (n * sz)) := (hreps.drop off).take _
 have hrun := run_append_grow (P := P) w t o.type e i zv hu hi hzv ⟨g, off, none⟩ n cap ((cur.drop off).take (n * sz)) (by rw [hol, hisz]) holds ad m cx news (by rw [n1, hisz])
  n2 aB aB (growslice_fits aB (by rw [hiby]; exact hb))
 have hzs : ((Builtin.zeroCells zv.cells (grownCap w (n + m) cap e - (n + m))).toList).length = grownCap w (n + m) cap e * sz - (n + m) * sz := by
  rw [bE5, size_zeroCells, hzc, <- Nat.sub_mul]; simp [hzl, hisz]
 obtain ⟨E', g1, g2, g3, g4⟩ := aCt (h := h) (e := e) (zs := (Builtin.zeroCells zv.cells (grownCap w (n + m) cap e - (n + m))).toList) st.rel st.fresh (horep.append n3);rw [hzs] at g1 g3;refine ⟨grownCap w (n + m) cap e, bZ w _ cap e, E', _, .slice (some ⟨w.heap.size, 0, none⟩) (n + m) (grownCap w (n + m) cap e), ?_, g1, by simpa using g2, ?_, g3⟩
 ·have hq : List.toArray ((cur.drop off).take (n * sz) ++ news ++ (Builtin.zeroCells zv.cells (grownCap w (n + m) cap e - (n + m))).toList) =
    ((cur.drop off).take (n * sz)).toArray ++ news.toArray ++ Builtin.zeroCells zv.cells (grownCap w (n + m) cap e - (n + m)) := by
   exact y69
  rw [hq];exact y4a
 ·simp only [Rep];exact ⟨_, g4, rfl⟩
theorem aJa (st : St E w a T h D) (ho : o.op = .call ⟨.builtin .append, #[s, x], #[t, t]⟩) (he : elT P t = some e) (hsz : szT P e = some sz) (hby : byT P e = some by_) (hz : bM P e = some z) {id n cap : Nat} {cs : List AV}
  (hs : aev T s = .sm id 0 n cap sz) (hid : h.at id = some (.cells cs)) (hcs : cs.length = cap * sz) (hcn : n <= cap) (src : Src E w (a.eval x) m sz us) (hm : 0 < m) (hb : (n + m) * by_ <= 140737488355328) (hb2 : n + m <= 9223372036854775807) :
  ∃ c', n + m <= c' /\ Out P o E w a h (.sm h.length 0 (n + m) c' sz) (h.set id none ++ [some (.cells (cs.take (n * sz) ++ us ++ List.replicate (c' * sz - (n + m) * sz) .junk))]) := by
 have hnc : n * sz <= cap * sz := bD4 _ hcn
 by_cases hroom : n + m <= cap
 ·have hul : us.length = m * sz := by
   obtain ⟨_, _, news, _, n1, _, n3, _⟩ := src;rw [<- n3.length, n1]
  have hadd : (n + m) * sz = n * sz + m * sz := bDn _ _ _;have hle : (n + m) * sz <= cap * sz := bD4 _ hroom;obtain ⟨E1, w1, v, hrun, r1, f1, x1, fr1⟩ := aBv st ho he hsz hz hs hid src aB hroom;simp only [Rep] at x1;obtain ⟨b, hg, rfl⟩ := x1;have hlt := bF hid;have hid1 : Heap.at (h.set id (some (.cells (patch cs (n * sz) us)))) id = some (.cells (patch cs (n * sz) us)) := by rw [eV _ _ _ _ hlt, if_pos rfl]
  -- the cells behind are forgotten
  obtain ⟨b', vs, hg', hrow, hreps⟩ := r1.objs id _ hid1;rw [hg] at hg'; cases hg';have hpl : (patch cs (n * sz) us).length = cap * sz := by rw [cH, hcs]
  have hvl := hreps.length
  have hpe : ∀ (us l : List AV) (off : Nat), off + us.length <= l.length -> (patch l off us).take (off + us.length) = l.take off ++ us := by
   intro us
   induction us with
   | nil => intro l off _; simp [patch]
   | cons u us ih =>
    intro l off hl;simp only [bBm] at hl ⊢;rw [patch, show off + (us.length + 1) = off + 1 + us.length by omega, ih _ _ (by simp; omega), bD1, List.take_set_of_le (bBh _), List.getElem?_set];simp [show off < l.length by omega]
  have hrep2 : RepL E1 w1 (cs.take (n * sz) ++ us ++ List.replicate (cap * sz - (n + m) * sz) .junk) vs := by
   have h1 := hreps.take ((n + m) * sz)
   have h2 : (patch cs (n * sz) us).take ((n + m) * sz) = cs.take (n * sz) ++ us := by
    rw [hadd, <- hul]; exact hpe us cs (n * sz) aB
   rw [h2] at h1;have h3 := h1.append (RepL.junks (E := E1) (w := w1) (vs.drop ((n + m) * sz)));rw [bCp] at h3;have h4 : (vs.drop ((n + m) * sz)).length = cap * sz - (n + m) * sz := by rw [bCl]; omega
   rwa [h4] at h3
  obtain ⟨r2, fr2⟩ := r1.writeO hid1 rfl (o' := .cells (cs.take (n * sz) ++ us ++ List.replicate (cap * sz - (n + m) * sz) .junk)) rfl hg (fun hx => ⟨_, hrow, hrep2.ext hx⟩) (fun _ _ => rfl) rfl rfl rfl;rw [List.set_set] at r2 fr2;have f1' : Fresh E1 (h.set id (some (.cells (cs.take (n * sz) ++ us ++ List.replicate (cap * sz - (n + m) * sz) .junk)))).length := by simpa using f1
  have hid2 : Heap.at (h.set id (some (.cells (cs.take (n * sz) ++ us ++ List.replicate (cap * sz - (n + m) * sz) .junk)))) id = some (.cells (cs.take (n * sz) ++ us ++ List.replicate (cap * sz - (n + m) * sz) .junk)) := by rw [eV _ _ _ _ hlt, if_pos rfl]
  obtain ⟨r3, fr3, f3, g3⟩ := aEo r2 f1' hid2 hg;simp only [List.set_set, bDe] at r3 fr3 f3 g3;refine ⟨cap, hroom, _, w1, .slice (some ⟨b, 0, none⟩) (n + m) cap, hrun, r3, by simpa using f3, ?_, (fr1.trans fr2).trans fr3⟩;simp only [Rep];exact ⟨b, g3, rfl⟩
 ·obtain ⟨c', hc', E1, w1, v, hrun, r1, f1, x1, fr1⟩ := aBu st ho he hsz hby hz hs hid aB src hm aB hb hb2 hcn;have hlt := bF hid
  have hid1 : Heap.at (h ++ [some (.cells ((cs.drop 0).take (n * sz) ++ us ++ List.replicate (c' * sz - (n + m) * sz) .junk))]) id = some (.cells cs) := by
   rw [cC, if_neg aB]; exact hid
  obtain ⟨r2, fr2⟩ := tJ r1 hid1;rw [bCa _ _ hlt] at r2 fr2;refine ⟨c', hc', E1, w1, v, hrun, r2, by simpa using f1, x1, fr1.trans fr2⟩

end

end Go.AI.EV
