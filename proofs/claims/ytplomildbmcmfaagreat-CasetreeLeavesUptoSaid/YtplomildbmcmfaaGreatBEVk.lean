/-
  A part of the heap is put aside while an operation runs; a block under a reserved name.
-/
import Derived.Test.YtplomildbmcmfaaGreatBEVh

namespace Go.AI.EV

open Go Go.AI
theorem Heap.at_app (h L : Heap) (id : Nat) : Heap.at (h ++ L) id = if id < h.length then h.at id else Heap.at L (id - h.length) := by
  unfold Heap.at
  split
  · rename_i l; rw [List.getElem?_append_left l]
  · rename_i l; rw [List.getElem?_append_right (by omega)]
def joinE (E1 E : Env) (m : Nat) : Env := { ro := E1.ro, g := fun id => if id < m then E1.g id else E.g id, t := fun id => if id < m then E1.t id else E.t id }
theorem uncut {E E1 : Env} {h L h1 : Heap} {w w1 : World} (r : Rel E (Heap.at (h ++ L)) w) (hf : Fresh E (h ++ L).length) (_hun : h.all (AO.under h.length) = true) (r1 : Rel E1 h1.at w1) (f1 : Fresh E1 h1.length) (hl : h1.length = h.length)
    (fr : Fr (E.cut h.length) h.at w E1 h1.at w1) :
    Rel (joinE E1 E h.length) (Heap.at (h1 ++ L)) w1 ∧ Fr E (Heap.at (h ++ L)) w (joinE E1 E h.length) (Heap.at (h1 ++ L)) w1 ∧ Fresh (joinE E1 E h.length) (h1 ++ L).length ∧ Ext E1 w1 (joinE E1 E h.length) w1 ∧ Ext E w (joinE E1 E h.length) w1 := by
  obtain ⟨m, hm⟩ : ∃ m, h.length = m := ⟨_, rfl⟩
  rw [hm] at hl fr ⊢
  have hlo : ∀ id, id < m → Heap.at (h ++ L) id = h.at id := fun id l => by rw [Heap.at_app, if_pos (by omega)]
  have hlo1 : ∀ id, id < m → Heap.at (h1 ++ L) id = h1.at id := fun id l => by rw [Heap.at_app, if_pos (by omega)]
  have hhi : ∀ id, m ≤ id → Heap.at (h1 ++ L) id = Heap.at (h ++ L) id := fun id l => by rw [Heap.at_app, Heap.at_app, if_neg (by omega), if_neg (by omega), hl, hm]
  have hhi0 : ∀ id, m ≤ id → h.at id = none := fun id l => at_ge h id (by omega)
  have hhi1 : ∀ id, m ≤ id → h1.at id = none := fun id l => at_ge h1 id (by omega)
  have ga : ∀ id, id < m → (joinE E1 E m).g id = E1.g id := fun id l => if_pos l
  have gb : ∀ id, m ≤ id → (joinE E1 E m).g id = E.g id := fun id l => if_neg (by omega)
  have ta : ∀ id, id < m → (joinE E1 E m).t id = E1.t id := fun id l => if_pos l
  have tb : ∀ id, m ≤ id → (joinE E1 E m).t id = E.t id := fun id l => if_neg (by omega)
  have cg : ∀ id, id < m → (E.cut m).g id = E.g id := fun id l => by simp [Env.cut, l]
  have ct : ∀ id, id < m → (E.cut m).t id = E.t id := fun id l => by simp [Env.cut, l]
  -- owners
  have oE : ∀ id b, Owns (E.cut m) h.at id b → id < m ∧ Owns E (Heap.at (h ++ L)) id b := by
    intro id b ho
    have lt : id < m := by
      rcases Nat.lt_or_ge id m with l | l
      · exact l
      · rcases ho with ⟨o, h1, _⟩ | ⟨o, x, c, k, h1, _⟩ <;> (rw [hhi0 id l] at h1; cases h1)
    refine ⟨lt, ?_⟩
    rcases ho with ⟨o, h1, h3, h2⟩ | ⟨o, x, c, k, h1, h3, h2⟩
    · exact .inl ⟨o, by rw [hlo id lt]; exact h1, h3, by rw [cg id lt] at h2; exact h2⟩
    · exact .inr ⟨o, x, c, k, by rw [hlo id lt]; exact h1, h3, by rw [ct id lt] at h2; exact h2⟩
  have oJ : ∀ id b, Owns (joinE E1 E m) (Heap.at (h1 ++ L)) id b → (id < m ∧ Owns E1 h1.at id b) ∨ (m ≤ id ∧ Owns E (Heap.at (h ++ L)) id b) := by
    intro id b ho
    rcases Nat.lt_or_ge id m with l | l
    · left; refine ⟨l, ?_⟩
      rcases ho with ⟨o, h1, h3, h2⟩ | ⟨o, x, c, k, h1, h3, h2⟩
      · exact .inl ⟨o, by rw [← hlo1 id l]; exact h1, h3, by rw [ga id l] at h2; exact h2⟩
      · exact .inr ⟨o, x, c, k, by rw [← hlo1 id l]; exact h1, h3, by rw [ta id l] at h2; exact h2⟩
    · right; refine ⟨l, ?_⟩
      rcases ho with ⟨o, h1, h3, h2⟩ | ⟨o, x, c, k, h1, h3, h2⟩
      · exact .inl ⟨o, by rw [← hhi id l]; exact h1, h3, by rw [gb id l] at h2; exact h2⟩
      · exact .inr ⟨o, x, c, k, by rw [← hhi id l]; exact h1, h3, by rw [tb id l] at h2; exact h2⟩
  -- what is put aside belongs to nobody below
  have apart : ∀ id b, m ≤ id → Owns E (Heap.at (h ++ L)) id b → b < w.heap.size ∧ ¬ InG (E.cut m) h.at b := by
    intro id b l ho
    refine ⟨r.owns_lt ho, ?_⟩
    rintro ⟨id', ho'⟩
    obtain ⟨l', ho'⟩ := oE id' b ho'
    have := r.inj id id' b ho ho'
    omega
  have x1 : ∀ id b, E1.g id = some b → (joinE E1 E m).g id = some b := by
    intro id b e
    rcases Nat.lt_or_ge id m with l | l
    · rw [ga id l]; exact e
    · rw [(f1 id (by omega)).1] at e; cases e
  have x2 : ∀ id L', E1.t id = some L' → ∃ L'', (joinE E1 E m).t id = some L'' ∧ L'.cur ≤ L''.cur ∧ (L''.cur = L'.cur → L'' = L') := by
    intro id L' e
    rcases Nat.lt_or_ge id m with l | l
    · exact ⟨L', by rw [ta id l]; exact e, Nat.le_refl _, fun _ => rfl⟩
    · rw [(f1 id (by omega)).2] at e; cases e
  have x3 : ∀ id b, E.g id = some b → (joinE E1 E m).g id = some b := by
    intro id b e
    rcases Nat.lt_or_ge id m with l | l
    · rw [ga id l]; exact fr.ext.g id b (by rw [cg id l]; exact e)
    · rw [gb id l]; exact e
  have x4 : ∀ id L', E.t id = some L' → ∃ L'', (joinE E1 E m).t id = some L'' ∧ L'.cur ≤ L''.cur ∧ (L''.cur = L'.cur → L'' = L') := by
    intro id L' e
    rcases Nat.lt_or_ge id m with l | l
    · rw [ta id l]; exact fr.ext.t id L' (by rw [ct id l]; exact e)
    · exact ⟨L', by rw [tb id l]; exact e, Nat.le_refl _, fun _ => rfl⟩
  have xE1 : Ext E1 w1 (joinE E1 E m) w1 := ⟨fun _ _ h => h, fun _ _ _ => rfl, x1, x2⟩
  have xE : Ext E w (joinE E1 E m) w1 := ⟨fun b off hb => fr.ext.ro b off hb, fun b off hb => fr.ext.cells b off hb, x3, x4⟩
  have hG1 : ∀ id b, m ≤ id → Owns E (Heap.at (h ++ L)) id b → ¬ InG E1 h1.at b := by
    intro id b l ho hg
    obtain ⟨a1, a2⟩ := apart id b l ho
    rcases fr.inG b hg with h | h
    · exact a2 h
    · omega
  have hro : ∀ id b off, m ≤ id → Owns E (Heap.at (h ++ L)) id b → E1.ro b off → E.ro b off := by
    intro id b off l ho hb
    obtain ⟨a1, a2⟩ := apart id b l ho
    rcases fr.roNew b off hb with h | h | h
    · exact h
    · exact absurd h a2
    · omega
  refine ⟨⟨fun id o hc hn => ?_, fun id o n sz k cs hc hk => ?_, fun id id' b h1' h2' => ?_, fun id o b off hc hn hg hb => ?_, fun id o n sz k cs b c k' off hc hk hg hl' hb => ?_, fun b off hb => r1.lt b off hb⟩,
    ⟨fun b hb hn => fr.same b hb fun ⟨id, ho⟩ => hn ⟨id, (oE id b ho).2⟩, xE, fun b off hb => ?_, fr.size, fun b ⟨id, ho⟩ => ?_, fr.kp⟩, fun id hid => ?_, xE1, xE⟩
  · rcases Nat.lt_or_ge id m with l | l
    · rw [hlo1 id l] at hc
      obtain ⟨b, hg, ho⟩ := r1.objsO id o hc hn
      exact ⟨b, by rw [ga id l]; exact hg, ho.move xE1 rfl⟩
    · rw [hhi id l] at hc
      obtain ⟨b, hg, ho⟩ := r.objsO id o hc hn
      obtain ⟨a1, a2⟩ := apart id b l (.inl ⟨o, hc, hn, hg⟩)
      exact ⟨b, by rw [gb id l]; exact hg, ho.move xE (fr.same b a1 a2)⟩
  · rcases Nat.lt_or_ge id m with l | l
    · rw [hlo1 id l] at hc
      obtain ⟨blk, cap, ht, q1, q2, q3⟩ := r1.toks id o n sz k cs hc hk
      exact ⟨blk, cap, by rw [ta id l]; exact ht, q1, q2, fun b hb => by
        obtain ⟨vs, p1, p2, p3⟩ := q3 b hb
        exact ⟨vs, p1, p2, p3.ext xE1⟩⟩
    · rw [hhi id l] at hc
      obtain ⟨blk, cap, ht, q1, q2, q3⟩ := r.toks id o n sz k cs hc hk
      refine ⟨blk, cap, by rw [tb id l]; exact ht, q1, q2, fun b hb => ?_⟩
      subst hb
      obtain ⟨vs, p1, p2, p3⟩ := q3 b rfl
      obtain ⟨a1, a2⟩ := apart id b l (.inr ⟨o, _, cap, n, hc, hk, ht⟩)
      exact ⟨vs, p1.same (fr.same b a1 a2), p2, p3.ext xE⟩
  · rcases oJ id b h1' with ⟨l1, o1⟩ | ⟨l1, o1⟩ <;> rcases oJ id' b h2' with ⟨l2, o2⟩ | ⟨l2, o2⟩
    · exact r1.inj id id' b o1 o2
    · exact absurd ⟨id, o1⟩ (hG1 id' b l2 o2)
    · exact absurd ⟨id', o2⟩ (hG1 id b l1 o1)
    · exact r.inj id id' b o1 o2
  · rcases Nat.lt_or_ge id m with l | l
    · rw [hlo1 id l] at hc; rw [ga id l] at hg; exact r1.sepO id o b off hc hn hg hb
    · rw [hhi id l] at hc; rw [gb id l] at hg
      exact r.sepO id o b off hc hn hg (hro id b off l (.inl ⟨o, hc, hn, hg⟩) hb)
  · rcases Nat.lt_or_ge id m with l | l
    · rw [hlo1 id l] at hc; rw [ta id l] at hg; exact r1.sepT id o n sz k cs b c k' off hc hk hg hl' hb
    · rw [hhi id l] at hc; rw [tb id l] at hg
      exact r.sepT id o n sz k cs b c k' off hc hk hg hl' (hro id b off l (.inr ⟨o, _, c, k', hc, hk, hg⟩) hb)
  · rcases fr.roNew b off hb with h | ⟨id, ho⟩ | h
    · exact .inl h
    · exact .inr (.inl ⟨id, (oE id b ho).2⟩)
    · exact .inr (.inr h)
  · rcases oJ id b ho with ⟨l1, o1⟩ | ⟨l1, o1⟩
    · rcases fr.inG b ⟨id, o1⟩ with ⟨id', h⟩ | h
      · exact .inl ⟨id', (oE id' b h).2⟩
      · exact .inr h
    · exact .inl ⟨id, o1⟩
  · have hid' : m ≤ id := by rw [List.length_append] at hid; omega
    have : (h ++ L).length ≤ id := by rw [List.length_append] at hid ⊢; omega
    rw [gb id hid', tb id hid']; exact hf id this
theorem alloc_hole {E : Env} {h : Heap} {w : World} (r : Rel E h.at w) (hf : Fresh E h.length) {id : Nat} (hid : id < h.length) (hn : h.at id = none) (hg0 : E.g id = none) {cs : List AV} {vs : List Value} (hc : RepL E w cs vs) (T : TypeId) :
    let E' : Env := { E with g := fun i => if i = id then some w.heap.size else E.g i }
    let w' := w.alloc (.cells (List.toArray vs) T (0, 0))
    Rel E' (Heap.at (h.set id (some (.cells cs)))) w' ∧ Fr E h.at w E' (Heap.at (h.set id (some (.cells cs)))) w' ∧ Fresh E' (h.set id (some (.cells cs))).length := by
  intro E' w'
  have hx : Ext E w E' w' := ⟨fun _ _ h => h, fun b off hb => cell_of_heap (alloc_old _ (r.lt b off hb)) off, fun i b e => by
      show (if i = id then some w.heap.size else E.g i) = some b
      rw [if_neg (fun he => by rw [he, hg0] at e; cases e)]; exact e, fun _ L h => ⟨L, h, Nat.le_refl _, fun _ => rfl⟩⟩
  have hold : ∀ i, i ≠ id → Heap.at (h.set id (some (.cells cs))) i = h.at i := fun i hne => by rw [at_set _ _ _ _ hid, if_neg hne]
  have hnew : Heap.at (h.set id (some (.cells cs))) id = some (.cells cs) := by rw [at_set _ _ _ _ hid, if_pos rfl]
  have hg' : ∀ i, i ≠ id → E'.g i = E.g i := fun i hne => if_neg hne
  have hgn : E'.g id = some w.heap.size := if_pos rfl
  have hO : ∀ i b, Owns E' (Heap.at (h.set id (some (.cells cs)))) i b → (i = id ∧ b = w.heap.size) ∨ (i ≠ id ∧ Owns E h.at i b) := by
    intro i b ho
    by_cases e : i = id
    · subst e
      rcases ho with ⟨o', h1, h3, h2⟩ | ⟨o', x, c, m, h1, hk, h2⟩
      · left; rw [hgn] at h2; cases h2; exact ⟨rfl, rfl⟩
      · rw [hnew] at h1; cases h1; simp [AO.tk] at hk
    · right; refine ⟨e, ?_⟩
      rcases ho with ⟨o', h1, h3, h2⟩ | ⟨o', x, c, m, h1, hk, h2⟩
      · rw [hold i e] at h1; rw [hg' i e] at h2; exact .inl ⟨o', h1, h3, h2⟩
      · rw [hold i e] at h1; exact .inr ⟨o', x, c, m, h1, hk, h2⟩
  refine ⟨⟨fun i o' hc' hn' => ?_, fun i o' n sz k cs' hc' hk => ?_, fun i i' b h1 h2 => ?_, fun i o' b off hc' hn' hg hb => ?_, fun i o' n sz k cs' b c m off hc' hk hg hl hb => ?_, fun b off hb => ?_⟩, ⟨fun b hb _ => alloc_old _ hb, hx, fun b off hb => .inl hb, by rw [alloc_size]; omega, fun b hb => ?_, Kp.alloc (fun _ _ _ e => by cases e; rfl)⟩, fun i hi => ?_⟩
  · by_cases e : i = id
    · subst e; rw [hnew] at hc'; cases hc'
      exact ⟨w.heap.size, hgn, vs, ⟨T, alloc_new _⟩, hc.ext hx⟩
    · rw [hold i e] at hc'
      obtain ⟨b, hg, ho⟩ := r.objsO i o' hc' hn'
      exact ⟨b, by rw [hg' i e]; exact hg, ho.move hx (alloc_old _ ho.lt)⟩
  · have e : i ≠ id := fun e => by subst e; rw [hnew] at hc'; cases hc'; simp [AO.tk] at hk
    rw [hold i e] at hc'
    obtain ⟨blk, cap, ht, h1, h2, h3⟩ := r.toks i o' n sz k cs' hc' hk
    refine ⟨blk, cap, ht, h1, h2, fun b hb => ?_⟩
    obtain ⟨us, hr, hl, hp⟩ := h3 b hb
    exact ⟨us, hr.same (alloc_old _ hr.lt), hl, hp.ext hx⟩
  · rcases hO i b h1 with ⟨e1, e2⟩ | ⟨e1, o1⟩ <;> rcases hO i' b h2 with ⟨e3, e4⟩ | ⟨e3, o2⟩
    · rw [e1, e3]
    · have := r.owns_lt o2; omega
    · have := r.owns_lt o1; omega
    · exact r.inj i i' b o1 o2
  · by_cases e : i = id
    · subst e
      rw [hgn] at hg; cases hg
      have := r.lt _ off hb; omega
    · rw [hold i e] at hc'; rw [hg' i e] at hg; exact r.sepO i o' b off hc' hn' hg hb
  · have e : i ≠ id := fun e => by subst e; rw [hnew] at hc'; cases hc'; simp [AO.tk] at hk
    rw [hold i e] at hc'
    exact r.sepT i o' n sz k cs' b c m off hc' hk hg hl hb
  · have := r.lt b off hb; rw [alloc_size]; omega
  · obtain ⟨i, ho⟩ := hb
    rcases hO i b ho with ⟨_, e2⟩ | ⟨_, o⟩
    · exact .inr (by omega)
    · exact .inl ⟨i, o⟩
  · rw [List.length_set] at hi
    exact ⟨by rw [hg' i (by omega)]; exact (hf i hi).1, (hf i hi).2⟩
def cutA (m : Nat) (x : AV) : AV := if x.under m = true then x else .junk
theorem cutA_under (m : Nat) (x : AV) : (cutA m x).under m = true := by
  unfold cutA
  split
  · assumption
  · rfl
theorem cutA_underL (m : Nat) : ∀ l : List AV, AV.underL m (l.map (cutA m)) = true
  | [] => rfl
  | x :: l => by simp only [List.map_cons, AV.underL, cutA_under, cutA_underL m l]; rfl
theorem cutA_rep {E : Env} {w : World} {m : Nat} : ∀ {l : List AV} {vs : List Value}, RepL E w l vs → RepL E w (l.map (cutA m)) vs
  | [], vs, r => by simpa only [List.map_nil, RepL] using r
  | x :: l, vs, r => by
    simp only [List.map_cons, RepL] at r ⊢
    obtain ⟨v, us, e, r1, r2⟩ := r
    refine ⟨v, us, e, ?_, cutA_rep r2⟩
    unfold cutA
    split
    · exact r1
    · simp only [Rep]
theorem cutA_io (m : Nat) (ks : Ks) (x : AV) (hu : ∀ x, AV.under m (io ks x) = AV.under m x) : cutA m (io ks x) = io ks (cutA m x) := by
  unfold cutA
  rw [hu]
  split
  · rfl
  · simp
def Put (o : Oper) (E : Env) (w : World) (a : Act) (h : Heap) (x : AV) (h' : Heap) (K : Act → World → Prop) : Prop :=
  ∀ E' w' v, Rel E' (Heap.at h') w' → Fresh E' h'.length → Rep E' w' x v → Fr E h.at w E' (Heap.at h') w' → K (a.put o.dst v) w'
theorem opStep {P : Program} {rd : Option Nat} {ops : Array Oper} {i : Nat} {o : Oper} {T : List AV} {h h' : Heap} {D : List AD} {x : AV} {E : Env} {w : World} {a : Act} {Qw : Exit → Act → World → Prop} {Kw : Act → World → Prop} (ho : ops[i]? = some o) (s : St E w a T h D)
    (hd : (awanted ops T o = some false ∧ x = .tup [] ∧ h' = h) ∨ (awanted ops T o = some true ∧ aop P (aev T) h o.op = some (x, h')) ∨
      (awanted ops T o = some true ∧ ∃ c f args, o.op = .call c ∧ acallee T c = some (f, args) ∧ enterable P f = true ∧ ACalls P f args h (fun o' g => o' = .ret x ∧ g = h')) ∨
      (awanted ops T o = some true ∧ h' = h ∧ ∃ sz ys n, x = .p (.sl sz ys) ∧ aop P (aev T) h o.op = some (.own h.length sz ys, h ++ [some (.tok n sz)])))
    (hun : h.all (AO.under h.length) = true) (hk : Put o E w a h x h' Kw) : wpOpIn (fen rd) 0 P ops Qw i Kw a w := by
  unfold wpOpIn
  simp only [ho]
  rcases hd with ⟨h1, rfl, rfl⟩ | ⟨h1, h2⟩ | ⟨h1, c, f, args, h3, h4, h5, h6⟩ | ⟨h1, rfl, sz, ys, n0, rfl, h2⟩
  · rw [awanted_sound s h1]
    simp only [Bool.false_eq_true, if_false]
    exact ⟨fun _ _ => trivial, hk E w undef s.rel s.fresh (by simp only [Rep, RepL]; exact ⟨[], rfl, rfl⟩) (Fr.refl _ _ _)⟩
  · rw [awanted_sound s h1]
    simp only [if_true]
    obtain ⟨E', w', nn, v, hrun, hn, hr, hf, hx, hfr⟩ := aop_sound h2 s
    have := hk E' w' v hr hf hx hfr
    refine ⟨fun _ _ => trivial, ?_⟩
    rw [Oper.semAt_eq _ _ _ (fun c hc => by rw [hc] at h2; simp [aop] at h2), hrun]
    rcases hn with rfl | ⟨rfl, rfl⟩ <;> exact this
  · rw [awanted_sound s h1]
    simp only [if_true]
    obtain ⟨vs, hrun, hvs⟩ := acallee_sound (P := P) s h4 h5 h3
    refine ⟨fun _ _ => trivial, ?_⟩
    rw [Oper.semAt_eq _ _ _ (fun c hc => by rw [hc] at h3; cases h3), hrun]
    refine ⟨fun hd => (by cases hd), callsIn_fen.2 (Calls.mono (h6 E w vs s.rel s.fresh hvs) ?_)⟩
    rintro e w' ⟨out, h'', E', ⟨rfl, rfl⟩, hrel, hf, hout, hfr⟩
    simp only [RepO] at hout
    obtain ⟨u, rfl, hx⟩ := hout
    exact hk E' w' u hrel hf hx hfr
  · rw [awanted_sound s h1]
    simp only [if_true]
    obtain ⟨E', w', nn, v, hrun, hn, hr, hf, hx, hfr⟩ := aop_sound h2 s
    have e1 : (h' ++ [some (AO.tok n0 sz)]).take h'.length = h' := List.take_left
    have hx' : Rep (E'.cut h'.length) w' (.p (.sl sz ys)) v := by
      have := own_sl hx
      simp only [Rep]
      exact RepP.cut _ this
    have := hk (E'.cut h'.length) w' v (by have := hr.cut h'.length (by rw [e1]; exact hun); rw [e1] at this; exact this) (by have := Fresh.cut E' (m := h'.length) (h := h' ++ [some (.tok n0 sz)]) (by simp); rw [e1] at this; exact this) hx' (by have := (hfr.toN _).cut s.fresh (Nat.le_refl _); rw [e1] at this; exact this)
    refine ⟨fun _ _ => trivial, ?_⟩
    rw [Oper.semAt_eq _ _ _ (fun c hc => by rw [hc] at h2; simp [aop] at h2), hrun]
    rcases hn with rfl | ⟨rfl, rfl⟩ <;> exact this

end Go.AI.EV
