/-
  Regions that draw their order: as FG and FH, and calls and operations may have one of several outcomes.
-/
import Derived.Test.YtplomildbmcmfaaGreatBFH

namespace Go.AI.ND

open Go Go.AI
def eF (pc : List Nat) (i : Nat) (o : Oper) : Bool := isE o.op && !pc.contains i
def pv (P : Program) (T : List AV) (o : Oper) (x : AV) (g : Heap) : Prop :=
  aop P (aev T) g o.op = some (x, g) ∨ ∃ c f args, o.op = .call c ∧ acallee T c = some (f, args) ∧ enterable P f = true ∧ ACalls P f args g (fun o' g' => o' = .ret x ∧ g' = g)
theorem pv_tput {P : Program} {all : Array Oper} {T : List AV} {g : Heap} {o : Oper} {dst : Option Tmp} {y x : AV} (hd : ∀ d, dst = some d → d ∉ o.looksAt all) : pv P (tput T dst y) o x g = pv P T o x g := by
  apply propext
  unfold pv
  rw [aop_tput hd]
  refine or_congr Iff.rfl ⟨?_, ?_⟩
  · rintro ⟨c, f, args, h1, h2, h3⟩
    exact ⟨c, f, args, h1, by rwa [acallee_tput h1 hd] at h2, h3⟩
  · rintro ⟨c, f, args, h1, h2, h3⟩
    exact ⟨c, f, args, h1, by rwa [acallee_tput h1 hd], h3⟩
def stab (P : Program) (T : List AV) (x : AV) (o : Oper) : List Heap → Prop
  | [] => True
  | g :: gs => pv P T o x g ∧ stab P T x o gs
theorem stab_iff {P : Program} {T : List AV} {x : AV} {o : Oper} : ∀ {l : List Heap}, stab P T x o l ↔ ∀ g ∈ l, pv P T o x g
  | [] => by simp [stab]
  | g :: gs => by simp [stab, stab_iff (l := gs)]
def NStep (P : Program) (T : List AV) (o : Oper) (h : Heap) (R : AV → Heap → Prop) : Prop :=
  (∃ c f args, o.op = .call c ∧ acallee T c = some (f, args) ∧ enterable P f = true ∧ ACalls P f args h (fun o' g => ∃ v, o' = .ret v ∧ R v g)) ∨
  ((∀ c, o.op ≠ .defer c) ∧ ∀ T', (∀ y ∈ o.op.operands, aev T' y = aev T y) → ∀ E w a D, St E w a T' h D → ∃ x h' E' w' v, R x h' ∧ (execOp a.eval o).run P w = .ok (.value v) w' ∧ Rel E' (Heap.at h') w' ∧ Fresh E' h'.length ∧ Rep E' w' x v ∧ Fr E (Heap.at h) w E' (Heap.at h') w')
theorem NStep.tput {P : Program} {all : Array Oper} {T : List AV} {o : Oper} {h : Heap} {R : AV → Heap → Prop} {dst : Option Tmp} {x : AV} (hd : ∀ d, dst = some d → d ∉ o.looksAt all) (s : NStep P T o h R) : NStep P (AI.tput T dst x) o h R := by
  have hop : ∀ y ∈ o.op.operands, aev (AI.tput T dst x) y = aev T y := fun y hy => aev_tput fun d e hyd => hd d e (by
    subst hyd
    exact List.mem_append_left _ (List.mem_filterMap.2 ⟨.tmp d, by simpa using hy, rfl⟩))
  rcases s with ⟨c, f, args, h1, h2, h3⟩ | ⟨h1, h2⟩
  · exact .inl ⟨c, f, args, h1, by rw [acallee_tput h1 hd]; exact h2, h3⟩
  · exact .inr ⟨h1, fun T' hT => h2 T' fun y hy => by rw [hT y hy, hop y hy]⟩
theorem pv_one {P : Program} {T : List AV} {o : Oper} {x y : AV} {g : Heap} (he : isE o.op = false) (h1 : pv P T o x g) (h2 : pv P T o y g) : x = y := by
  have key : ∀ z, pv P T o z g → aop P (aev T) g o.op = some (z, g) := by
    intro z hz
    rcases hz with hz | ⟨c, f, args, e1, e2, _⟩
    · exact hz
    · exfalso
      rw [e1] at he
      obtain ⟨callee, a, t⟩ := c
      cases callee with
      | value v => simp [isE] at he
      | invoke r m => simp [acallee] at e2
      | builtin b => simp [acallee] at e2
  have := (key x h1).symm.trans (key y h2)
  simpa using this

section

variable (pc : List Nat) (P : Program) (ops : Array Oper) (lo : List Nat) (Kont : List AV → Heap → Prop)
def drStep (i : Nat) (next : List Heap → List AV → Heap → Prop) (hist : List Heap) (T : List AV) (h : Heap) : Prop :=
  ∃ o, ops[i]? = some o ∧
    ((awanted ops T o = some false ∧ next (if eF pc i o then hist ++ [h] else hist) (tput T o.dst (.tup [])) h) ∨
     (awanted ops T o = some true ∧ eF pc i o = false ∧ ∃ x, pv P T o x h ∧ stab P T x o (hist.drop (lo.getD i 0)) ∧ next hist (tput T o.dst x) h) ∨
     (awanted ops T o = some true ∧ eF pc i o = true ∧ ∃ x h', aop P (aev T) h o.op = some (x, h') ∧ next (hist ++ [h]) (tput T o.dst x) h') ∨
     (awanted ops T o = some true ∧ eF pc i o = true ∧ ∃ c f args h', o.op = .call c ∧ acallee T c = some (f, args) ∧ enterable P f = true ∧
        ∃ v, ACalls P f args h (fun o' g => o' = .ret v ∧ g = h') ∧ next (hist ++ [h]) (tput T o.dst v) h') ∨
     (awanted ops T o = some true ∧ eF pc i o = true ∧ pc = [] ∧ ∃ R, NStep P T o h R ∧ (∃ x g, R x g) ∧ ∀ x g, R x g → next (hist ++ [h]) (tput T o.dst x) g))
def DR : List Nat → List Heap → List AV → Heap → Prop
  | [], _, T, h => Kont T h
  | i :: π, hist, T, h => drStep pc P ops lo i (DR π) hist T h

end

section

variable {pc : List Nat} {P : Program} {ops : Array Oper} {lo : List Nat} {Kont : List AV → Heap → Prop}
theorem drStep_mono {i : Nat} {n n' : List Heap → List AV → Heap → Prop} {hist : List Heap} {T : List AV} {h : Heap} (hn : ∀ hist' T' h', (∃ t, hist' = hist ++ t ∧ t.length = if ((ops[i]?).map fun o => eF pc i o) = some true then 1 else 0) → n hist' T' h' → n' hist' T' h')
    (d : drStep pc P ops lo i n hist T h) : drStep pc P ops lo i n' hist T h := by
  obtain ⟨o, ho, hd⟩ := d
  refine ⟨o, ho, ?_⟩
  simp only [ho, Option.map_some, Option.some.injEq] at hn
  rcases hd with ⟨h1, h2⟩ | ⟨h1, h2, x, h3, h4, h5⟩ | ⟨h1, h2, x, h', h3, h4⟩ | ⟨h1, h2, c, f, args, h', h3, h4, h5, h6⟩ | ⟨h1, h2, h3, R, h4, h5, h6⟩
  · refine .inl ⟨h1, hn _ _ _ ?_ h2⟩
    cases eF pc i o
    · exact ⟨[], by simp, by simp⟩
    · exact ⟨[h], by simp, by simp⟩
  · exact .inr (.inl ⟨h1, h2, x, h3, h4, hn _ _ _ ⟨[], by simp, by simp [h2]⟩ h5⟩)
  · exact .inr (.inr (.inl ⟨h1, h2, x, h', h3, hn _ _ _ ⟨[h], rfl, by simp [h2]⟩ h4⟩))
  · obtain ⟨v, h7, h8⟩ := h6
    exact .inr (.inr (.inr (.inl ⟨h1, h2, c, f, args, h', h3, h4, h5, v, h7, hn _ _ _ ⟨[h], rfl, by simp [h2]⟩ h8⟩)))
  · exact .inr (.inr (.inr (.inr ⟨h1, h2, h3, R, h4, h5, fun x g hx => hn _ _ _ ⟨[h], rfl, by simp [h2]⟩ (h6 x g hx)⟩)))
theorem dr_swap {i j : Nat} {oi oj : Oper} (hi : ops[i]? = some oi) (hj : ops[j]? = some oj) (hap : oi.apart ops oj = true) (hE : eF pc i oi = false) {next : List Heap → List AV → Heap → Prop} {hist : List Heap} {T : List AV} {h : Heap}
    (hrank : eF pc j oj = true → lo.getD i 0 ≤ hist.length)
    (d : drStep pc P ops lo j (drStep pc P ops lo i next) hist T h) : drStep pc P ops lo i (drStep pc P ops lo j next) hist T h := by
  obtain ⟨a1, a2, a3⟩ := Oper.apart_spec hap
  obtain ⟨oj', hj', hd⟩ := d
  rw [hj] at hj'; cases hj'
  -- what i does behind j, told of the slots ahead of j
  have inner : ∀ (hist' : List Heap) (y : AV) (h' : Heap), (eF pc j oj = false → h' = h ∧ hist' = hist) → (eF pc j oj = true → hist' = hist ++ [h]) → drStep pc P ops lo i next hist' (tput T oj.dst y) h' →
      ∃ x, ((awanted ops T oi = some false ∧ x = .tup []) ∨ (awanted ops T oi = some true ∧ pv P T oi x h ∧ stab P T x oi (hist.drop (lo.getD i 0)))) ∧ next hist' (tput (tput T oi.dst x) oj.dst y) h' := by
    intro hist' y h' e1 e2 di
    obtain ⟨o, ho, hd⟩ := di
    rw [hi] at ho; cases ho
    have hw : awanted ops (tput T oj.dst y) oi = awanted ops T oi := awanted_tput a3
    have hop : ∀ g x, pv P (tput T oj.dst y) oi x g = pv P T oi x g := fun g x => pv_tput a3
    have hcm : ∀ x, tput (tput T oj.dst y) oi.dst x = tput (tput T oi.dst x) oj.dst y := fun x => tput_comm _ _ fun d e e' => a2 d e' e
    rw [hw] at hd
    simp only [hE, Bool.false_eq_true, false_and, and_false, or_false, if_false, hop, hcm] at hd
    rcases hd with ⟨h1, h2⟩ | ⟨h1, _, x, h3, h4, h5⟩
    · exact ⟨.tup [], .inl ⟨h1, rfl⟩, h2⟩
    · refine ⟨x, .inr ⟨h1, ?_⟩, h5⟩
      rw [stab_iff] at h4
      simp only [hop] at h4
      cases hEj : eF pc j oj with
      | false =>
        obtain ⟨rfl, rfl⟩ := e1 hEj
        exact ⟨h3, stab_iff.2 h4⟩
      | true =>
        have e := e2 hEj
        subst e
        have hl := hrank hEj
        rw [List.drop_append_of_le_length hl] at h4
        exact ⟨h4 h (List.mem_append_right _ (by simp)), stab_iff.2 fun g hg => h4 g (List.mem_append_left _ hg)⟩
  -- j ahead of which i has been done
  have outer : ∀ x, awanted ops (tput T oi.dst x) oj = awanted ops T oj ∧ (∀ g, aop P (aev (tput T oi.dst x)) g oj.op = aop P (aev T) g oj.op) ∧ (∀ c, oj.op = .call c → acallee (tput T oi.dst x) c = acallee T c) ∧ (∀ y l, stab P (tput T oi.dst x) y oj l ↔ stab P T y oj l) ∧ (∀ g y, pv P (tput T oi.dst x) oj y g = pv P T oj y g) := by
    intro x
    have hop : ∀ g, aop P (aev (tput T oi.dst x)) g oj.op = aop P (aev T) g oj.op := fun g => aop_tput a1
    have hpv : ∀ g y, pv P (tput T oi.dst x) oj y g = pv P T oj y g := fun g y => pv_tput a1
    exact ⟨awanted_tput a1, hop, fun c hc => acallee_tput hc a1, fun y l => by rw [stab_iff, stab_iff]; simp only [hpv], hpv⟩
  have close : ∀ x, ((awanted ops T oi = some false ∧ x = .tup []) ∨ (awanted ops T oi = some true ∧ pv P T oi x h ∧ stab P T x oi (hist.drop (lo.getD i 0)))) →
      drStep pc P ops lo j next hist (tput T oi.dst x) h → drStep pc P ops lo i (drStep pc P ops lo j next) hist T h := by
    intro x hx hdj
    refine ⟨oi, hi, ?_⟩
    rcases hx with ⟨h1, rfl⟩ | ⟨h1, h2, h3⟩
    · exact .inl ⟨h1, by simpa [hE] using hdj⟩
    · exact .inr (.inl ⟨h1, hE, x, h2, h3, hdj⟩)
  rcases hd with ⟨h1, h2⟩ | ⟨h1, h2, y, h3, h4, h5⟩ | ⟨h1, h2, y, h', h3, h4⟩ | ⟨h1, h2, c, f, args, h', h3, h4, h5, h6⟩ | ⟨h1, h2, h3, R, h4, ⟨y0, g0, hR0⟩, h6⟩
  · obtain ⟨x, hx, hn⟩ := inner _ _ _ (fun e => ⟨rfl, by simp [e]⟩) (fun e => by simp [e]) h2
    obtain ⟨o1, o2, o3, o4, o5⟩ := outer x
    exact close x hx ⟨oj, hj, .inl ⟨by rw [o1]; exact h1, hn⟩⟩
  · obtain ⟨x, hx, hn⟩ := inner hist y h (fun _ => ⟨rfl, rfl⟩) (fun e => by rw [h2] at e; cases e) h5
    obtain ⟨o1, o2, o3, o4, o5⟩ := outer x
    exact close x hx ⟨oj, hj, .inr (.inl ⟨by rw [o1]; exact h1, h2, y, by rw [o5]; exact h3, (o4 y _).2 h4, hn⟩)⟩
  · obtain ⟨x, hx, hn⟩ := inner (hist ++ [h]) y h' (fun e => by rw [h2] at e; cases e) (fun _ => rfl) h4
    obtain ⟨o1, o2, o3, o4, o5⟩ := outer x
    exact close x hx ⟨oj, hj, .inr (.inr (.inl ⟨by rw [o1]; exact h1, h2, y, h', by rw [o2]; exact h3, hn⟩))⟩
  · obtain ⟨v, h7, h8⟩ := h6
    obtain ⟨x, hx, hn⟩ := inner (hist ++ [h]) v h' (fun e => by rw [h2] at e; cases e) (fun _ => rfl) h8
    obtain ⟨o1, o2, o3, o4, o5⟩ := outer x
    exact close x hx ⟨oj, hj, .inr (.inr (.inr (.inl ⟨by rw [o1]; exact h1, h2, c, f, args, h', h3, by rw [o3 c h3]; exact h4, h5, v, h7, hn⟩)))⟩
  · have hEi : isE oi.op = false := by
      have := hE
      unfold eF at this
      rw [h3] at this
      simpa using this
    obtain ⟨x, hx, _⟩ := inner (hist ++ [h]) y0 g0 (fun e => by rw [h2] at e; cases e) (fun _ => rfl) (h6 y0 g0 hR0)
    obtain ⟨o1, o2, o3, o4, o5⟩ := outer x
    refine close x hx ⟨oj, hj, .inr (.inr (.inr (.inr ⟨by rw [o1]; exact h1, h2, h3, R, h4.tput a1, ⟨y0, g0, hR0⟩, fun y g hR => ?_⟩)))⟩
    obtain ⟨x', hx', hn'⟩ := inner (hist ++ [h]) y g (fun e => by rw [h2] at e; cases e) (fun _ => rfl) (h6 y g hR)
    have he : x' = x := by
      rcases hx with ⟨k1, k2⟩ | ⟨k1, k2, _⟩ <;> rcases hx' with ⟨l1, l2⟩ | ⟨l1, l2, _⟩
      · rw [k2, l2]
      · rw [k1] at l1; cases l1
      · rw [k1] at l1; cases l1
      · exact pv_one hEi l2 k2
    rw [he] at hn'
    exact hn'
def Ranked (pc : List Nat) (ops : Array Oper) (rk : List Nat) : List Nat → Nat → Prop
  | [], _ => True
  | i :: π, n => if ((ops[i]?).map fun o => eF pc i o) = some true then rk.getD i 0 = n ∧ Ranked pc ops rk π (n + 1) else Ranked pc ops rk π n
def Loose (pc : List Nat) (ops : Array Oper) (lo rk : List Nat) (j i : Nat) : Prop :=
  ∃ oi oj, ops[i]? = some oi ∧ ops[j]? = some oj ∧ oi.apart ops oj = true ∧ eF pc i oi = false ∧ (eF pc j oj = true → lo.getD i 0 ≤ rk.getD j 0)
theorem dr_front {rk : List Nat} {i : Nat} : ∀ (π1 π2 : List Nat) (hist : List Heap) (T : List AV) (h : Heap), (∀ j ∈ π1, Loose pc ops lo rk j i) → Ranked pc ops rk (π1 ++ i :: π2) hist.length → DR pc P ops lo Kont (π1 ++ i :: π2) hist T h → DR pc P ops lo Kont (i :: (π1 ++ π2)) hist T h
  | [], π2, hist, T, h, _, _, d => d
  | j :: π1, π2, hist, T, h, hl, hr, d => by
    obtain ⟨oi, oj, hi, hj, hap, hE, hlo⟩ := hl j (by simp)
    simp only [List.cons_append, Ranked, hj, Option.map_some, Option.some.injEq] at hr
    simp only [List.cons_append, DR] at d ⊢
    have d1 : drStep pc P ops lo j (DR pc P ops lo Kont (i :: (π1 ++ π2))) hist T h := by
      refine drStep_mono ?_ d
      rintro hist' T' h' ⟨t, rfl, ht⟩ dd
      refine dr_front π1 π2 _ _ _ (fun k hk => hl k (by simp [hk])) ?_ dd
      simp only [hj, Option.map_some, Option.some.injEq] at ht
      cases hEj : eF pc j oj with
      | true => simp only [hEj, if_true] at hr ht; rw [List.length_append, ht]; exact hr.2
      | false => simp only [hEj, Bool.false_eq_true, if_false] at hr ht; rw [List.length_append, ht]; exact hr
    exact dr_swap hi hj hap hE (fun hEj => by simp only [hEj, if_true] at hr; have := hlo hEj; omega) d1

end

structure Plan (pc : List Nat) (ops : Array Oper) (lo rk : List Nat) (pr : Nat → Nat → Bool) (fin : Option Nat) (listed : Array Bool) (π : List Nat) (n : Nat) : Prop where
  size : listed.size = ops.size
  mem : ∀ i ∈ π, i < ops.size ∧ listed.getD i true = false
  all : ∀ i, i < ops.size → listed.getD i true = false → i ∈ π ∨ ∃ e, fin = some e ∧ e < ops.size ∧ listed.getD e true = false ∧ (i = e ∨ pr e i = true)
  finU : ∀ e, fin = some e → e < ops.size ∧ listed.getD e true = false
  nodup : π.Nodup
  closed : ∀ i j, i < ops.size → listed.getD i true = true → pr j i = true → listed.getD j true = true
  edge : ∀ i j, i < ops.size → pr j i = true → ∃ o e, ops[i]? = some o ∧ e ∈ o.after ∧ Region.binds .any e = true ∧ (e.on = j ∨ pr j e.on = true) ∧ e.on < ops.size
  pair : π.Pairwise fun j i => pr j i = true ∨ Loose pc ops lo rk j i
  last : ∀ e, fin = some e → e ∉ π ∧ ∀ j ∈ π, pr j e = true ∨ ∃ oe oj, ops[e]? = some oe ∧ ops[j]? = some oj ∧ oj.apart ops oe = true ∧ eF pc j oj = false
  ready : ∀ π1 i π2, (π ++ fin.toList) = π1 ++ i :: π2 → ∀ o, ops[i]? = some o → ∀ e ∈ o.after, Region.binds .any e = true → listed.getD e.on false = true ∨ e.on ∈ π1
  rank : Ranked pc ops rk π n
theorem Ranked.remove {pc : List Nat} {ops : Array Oper} {rk : List Nat} {i : Nat} (hE : ((ops[i]?).map fun o => eF pc i o) ≠ some true) : ∀ (π1 π2 : List Nat) (n : Nat), Ranked pc ops rk (π1 ++ i :: π2) n → Ranked pc ops rk (π1 ++ π2) n
  | [], π2, n, h => by simpa only [List.nil_append, Ranked, hE, if_false] using h
  | j :: π1, π2, n, h => by
    simp only [List.cons_append, Ranked] at h ⊢
    split
    · rename_i hj; simp only [hj, if_true] at h; exact ⟨h.1, Ranked.remove hE π1 π2 _ h.2⟩
    · rename_i hj; simp only [hj, if_false] at h; exact Ranked.remove hE π1 π2 _ h
theorem split_insert (i k : Nat) : ∀ (A B σ1 σ2 : List Nat), A ++ B = σ1 ++ k :: σ2 → ∃ τ1 τ2, A ++ i :: B = τ1 ++ k :: τ2 ∧ ∀ x ∈ τ1, x = i ∨ x ∈ σ1
  | [], B, σ1, σ2, hB => by
    simp only [List.nil_append] at hB
    exact ⟨i :: σ1, σ2, by simp [hB], fun x hx => by
      rcases List.mem_cons.1 hx with h | h
      · exact .inl h
      · exact .inr h⟩
  | a :: A, B, [], σ2, hB => by
    simp only [List.cons_append, List.nil_append, List.cons.injEq] at hB
    obtain ⟨rfl, hB⟩ := hB
    exact ⟨[], A ++ i :: B, by simp, by simp⟩
  | a :: A, B, s :: σ1, σ2, hB => by
    simp only [List.cons_append, List.cons.injEq] at hB
    obtain ⟨rfl, hB⟩ := hB
    obtain ⟨τ1, τ2, h1, h2⟩ := split_insert i k A B σ1 σ2 hB
    exact ⟨a :: τ1, τ2, by simp [h1], fun x hx => by
      rcases List.mem_cons.1 hx with h | h
      · exact .inr (by simp [h])
      · rcases h2 x h with h | h
        · exact .inl h
        · exact .inr (by simp [h])⟩
theorem listed_true_of_false {l : Array Bool} {i : Nat} (h : l.getD i false = true) : l.getD i true = true := by
  rcases Nat.lt_or_ge i l.size with h' | h'
  · simp [h'] at h ⊢; exact h
  · simp [Array.getElem?_eq_none h'] at h ⊢
theorem getD_set {l : Array Bool} {i j : Nat} (hi : i < l.size) : (l.setIfInBounds i true).getD j true = if j = i then true else l.getD j true := by
  by_cases e : j = i
  · subst e; simp [hi]
  · simp [e, Array.getElem?_setIfInBounds_ne (Ne.symm e)]
theorem getD_setF {l : Array Bool} {i j : Nat} (hi : i < l.size) : (l.setIfInBounds i true).getD j false = if j = i then true else l.getD j false := by
  by_cases e : j = i
  · subst e; simp [hi]
  · simp [e, Array.getElem?_setIfInBounds_ne (Ne.symm e)]

section

variable {pc : List Nat} {P : Program} {ops : Array Oper} {lo rk : List Nat} {pr : Nat → Nat → Bool} {fin : Option Nat} {listed : Array Bool} {π : List Nat} {n : Nat}
theorem Plan.below (p : Plan pc ops lo rk pr fin listed π n) {i : Nat} (hi : i ∈ Region.ready .any ops listed) {j : Nat} (hp : pr j i = true) : listed.getD j true = true := by
  obtain ⟨h0, o, ho, hall⟩ := mem_ready.1 hi
  have hlt : i < ops.size := (Array.getElem?_eq_some_iff.1 ho).1
  obtain ⟨o', e, ho', he, hb, hj, hon⟩ := p.edge i j hlt hp
  rw [ho] at ho'; cases ho'
  have hl := listed_true_of_false (hall e he hb)
  rcases hj with rfl | hj
  · exact hl
  · exact p.closed e.on j hon hl hj
theorem Plan.step (p : Plan pc ops lo rk pr fin listed π n) {i : Nat} (hi : i ∈ Region.ready .any ops listed) {π1 π2 : List Nat} (hπ : π = π1 ++ i :: π2) {m : Nat} (hr : Ranked pc ops rk (π1 ++ π2) m) :
    Plan pc ops lo rk pr fin (listed.setIfInBounds i true) (π1 ++ π2) m := by
  have hmi := p.mem i (by rw [hπ]; simp)
  have hil : i < listed.size := by rw [p.size]; exact hmi.1
  have hnd := p.nodup
  rw [hπ] at hnd
  have hni : i ∉ π1 ++ π2 := by
    rw [List.nodup_append] at hnd
    obtain ⟨h1, h2, h3⟩ := hnd
    rw [List.nodup_cons] at h2
    intro hm
    rcases List.mem_append.1 hm with hm | hm
    · exact h3 i hm i (by simp) rfl
    · exact h2.1 hm
  have hsub : List.Sublist (π1 ++ π2) π := by rw [hπ]; exact List.Sublist.append (List.Sublist.refl _) (List.sublist_cons_self _ _)
  refine ⟨by simpa using p.size, fun j hj => ?_, fun j hj hl => ?_, fun e he => ?_, hsub.nodup p.nodup, fun a b ha hl hp => ?_, p.edge, p.pair.sublist hsub, fun e he => ?_, ?_, hr⟩
  · have := p.mem j (hsub.subset hj)
    refine ⟨this.1, ?_⟩
    rw [getD_set hil, if_neg (fun e : j = i => hni (e ▸ hj))]; exact this.2
  · rw [getD_set hil] at hl
    split at hl
    · cases hl
    · rename_i hne
      rcases p.all j hj hl with hm | ⟨e, he, hel, hle, hpe⟩
      · left
        rw [hπ] at hm
        rcases List.mem_append.1 hm with hm | hm
        · exact List.mem_append_left _ hm
        · rcases List.mem_cons.1 hm with hm | hm
          · exact absurd hm hne
          · exact List.mem_append_right _ hm
      · right
        refine ⟨e, he, hel, ?_, hpe⟩
        have hne' : e ≠ i := fun ee => (p.last e he).1 (by rw [hπ, ee]; simp)
        rw [getD_set hil, if_neg hne']; exact hle
  · have hne' : e ≠ i := fun ee => (p.last e he).1 (by rw [hπ, ee]; simp)
    refine ⟨(p.finU e he).1, ?_⟩
    rw [getD_set hil, if_neg hne']; exact (p.finU e he).2
  · rw [getD_set hil] at hl ⊢
    split
    · rfl
    · split at hl
      · rename_i e; subst e; exact p.below hi hp
      · exact p.closed a b ha hl hp
  · obtain ⟨h1, h2⟩ := p.last e he
    exact ⟨fun hm => h1 (hsub.subset hm), fun j hj => h2 j (hsub.subset hj)⟩
  · intro σ1 k σ2 hk o ho e he hb
    rw [getD_setF hil]
    by_cases hei : e.on = i
    · exact .inl (by simp [hei])
    · simp only [hei, if_false]
      -- where k stood in the whole order
      have : ∃ τ1 τ2, π ++ fin.toList = τ1 ++ k :: τ2 ∧ ∀ x ∈ τ1, x = i ∨ x ∈ σ1 := by
        obtain ⟨τ1, τ2, h1, h2⟩ := split_insert i k π1 (π2 ++ fin.toList) σ1 σ2 (by simpa using hk)
        exact ⟨τ1, τ2, by rw [hπ]; simpa using h1, h2⟩
      obtain ⟨τ1, τ2, h1, h2⟩ := this
      rcases p.ready τ1 k τ2 h1 o ho e he hb with h3 | h3
      · exact .inl h3
      · rcases h2 _ h3 with h | h
        · exact absurd h hei
        · exact .inr h

variable {D : List AD} {Q : AX → List AV → Heap → List AD → Prop}
theorem drStep_wp {rd : Option Nat} {i : Nat} {next : List Heap → List AV → Heap → Prop} {hist : List Heap} {T : List AV} {h : Heap} {E : Env} {w : World} {a : Act} {Qw : Exit → Act → World → Prop} {Kw : Act → World → Prop}
    (d : drStep pc P ops lo i next hist T h) (s : St E w a T h D)
    (hk : ∀ hist' T' h' E' w' a', (∃ t, hist' = hist ++ t ∧ t.length = if ((ops[i]?).map fun o => eF pc i o) = some true then 1 else 0) → next hist' T' h' → St E' w' a' T' h' D → Fr E h.at w E' (Heap.at h') w' → Kw a' w') :
    wpOpIn (fen rd) 0 P ops Qw i Kw a w := by
  obtain ⟨o, ho, hd⟩ := d
  simp only [ho, Option.map_some, Option.some.injEq] at hk
  unfold wpOpIn
  simp only [ho]
  have ops1 : ∀ {x h'}, awanted ops T o = some true → aop P (aev T) h o.op = some (x, h') → (∀ E' w' a', St E' w' a' (tput T o.dst x) h' D → Fr E h.at w E' (Heap.at h') w' → Kw a' w') →
      (if Region.wanted o (yielded ops a.tmps) = true then o.wpIn (fen rd) 0 P a w Kw Qw else (∀ f, o.about P w a.eval = some f → (fen rd).fn f) ∧ Kw (a.put o.dst undef) w) := by
    intro x h' hw hop hK
    rw [awanted_sound s hw]
    simp only [if_true]
    obtain ⟨E', w', nn, v, hrun, hn, hr, hf, hx, hfr⟩ := aop_sound hop s
    have := hK E' w' _ ((s.move hfr hr hf).put hx o.dst) hfr
    refine ⟨fun _ _ => trivial, ?_⟩
    rw [Oper.semAt_eq _ _ _ (fun c hc => by rw [hc] at hop; simp [aop] at hop), hrun]
    rcases hn with rfl | ⟨rfl, rfl⟩ <;> exact this
  rcases hd with ⟨h1, h2⟩ | ⟨h1, h2, x, h3, h4, h5⟩ | ⟨h1, h2, x, h', h3, h4⟩ | ⟨h1, h2, c, f, args, h', h3, h4, h5, v, h6, h7⟩ | ⟨h1, h2, h3, R, h4, _, h6⟩
  · rw [awanted_sound s h1]
    simp only [Bool.false_eq_true, if_false]
    refine ⟨fun _ _ => trivial, ?_⟩
    refine hk _ _ _ E w _ ?_ h2 (s.put (by simp only [Rep, RepL]; exact ⟨[], rfl, rfl⟩) o.dst) (Fr.refl _ _ _)
    cases eF pc i o
    · exact ⟨[], by simp, by simp⟩
    · exact ⟨[h], by simp, by simp⟩
  · rcases h3 with h3 | ⟨c, f, args, e1, e2, e3, e4⟩
    · exact ops1 h1 h3 fun E' w' a' hs hfr => hk _ _ _ E' w' a' ⟨[], by simp, by simp [h2]⟩ h5 hs hfr
    · rw [awanted_sound s h1]
      simp only [if_true]
      obtain ⟨vs, hrun, hvs⟩ := acallee_sound (P := P) s e2 e3 e1
      refine ⟨fun _ _ => trivial, ?_⟩
      rw [Oper.semAt_eq _ _ _ (fun c hc => by rw [hc] at e1; cases e1), hrun]
      refine ⟨fun hd => (by cases hd), callsIn_fen.2 (Calls.mono (e4 E w vs s.rel s.fresh hvs) ?_)⟩
      rintro e w' ⟨out, h'', E', ⟨rfl, rfl⟩, hrel, hf, hout, hfr⟩
      simp only [RepO] at hout
      obtain ⟨u, rfl, hx⟩ := hout
      exact hk _ _ _ E' w' _ ⟨[], by simp, by simp [h2]⟩ h5 ((s.move hfr hrel hf).put hx o.dst) hfr
  · exact ops1 h1 h3 fun E' w' a' hs hfr => hk _ _ _ E' w' a' ⟨[h], rfl, by simp [h2]⟩ h4 hs hfr
  · rw [awanted_sound s h1]
    simp only [if_true]
    obtain ⟨vs, hrun, hvs⟩ := acallee_sound (P := P) s h4 h5 h3
    refine ⟨fun _ _ => trivial, ?_⟩
    rw [Oper.semAt_eq _ _ _ (fun c hc => by rw [hc] at h3; cases h3), hrun]
    refine ⟨fun hd => (by cases hd), callsIn_fen.2 (Calls.mono (h6 E w vs s.rel s.fresh hvs) ?_)⟩
    rintro e w' ⟨out, h'', E', ⟨rfl, rfl⟩, hrel, hf, hout, hfr⟩
    simp only [RepO] at hout
    obtain ⟨u, rfl, hx⟩ := hout
    exact hk _ _ _ E' w' _ ⟨[h], rfl, by simp [h2]⟩ h7 ((s.move hfr hrel hf).put hx o.dst) hfr
  · rw [awanted_sound s h1]
    simp only [if_true]
    rcases h4 with ⟨c, f, args, e1, e2, e3, e4⟩ | ⟨e1, e2⟩
    · obtain ⟨vs, hrun, hvs⟩ := acallee_sound (P := P) s e2 e3 e1
      refine ⟨fun _ _ => trivial, ?_⟩
      rw [Oper.semAt_eq _ _ _ (fun c hc => by rw [hc] at e1; cases e1), hrun]
      refine ⟨fun hd => (by cases hd), callsIn_fen.2 (Calls.mono (e4 E w vs s.rel s.fresh hvs) ?_)⟩
      rintro e w' ⟨out, h'', E', ⟨v, rfl, hv⟩, hrel, hf, hout, hfr⟩
      simp only [RepO] at hout
      obtain ⟨u, rfl, hx⟩ := hout
      exact hk _ _ _ E' w' _ ⟨[h], rfl, by simp [h2]⟩ (h6 _ _ hv) ((s.move hfr hrel hf).put hx o.dst) hfr
    · obtain ⟨x, h', E', w', v, hR, hrun, hr, hf, hx, hfr⟩ := e2 T (fun _ _ => rfl) E w a D s
      refine ⟨fun _ _ => trivial, ?_⟩
      rw [Oper.semAt_eq _ _ _ e1, hrun]
      exact hk _ _ _ E' w' _ ⟨[h], rfl, by simp [h2]⟩ (h6 x h' hR) ((s.move hfr hr hf).put hx o.dst) hfr
def Agree (ops : Array Oper) (T T' : List AV) : Prop := ∀ s, ops.all (fun o => o.dst != some s) = true → tget T' s = tget T s
def PanStep (P : Program) (ops : Array Oper) (Q : AX → List AV → Heap → List AD → Prop) (D : List AD) (e : Nat) (T : List AV) (h : Heap) : Prop :=
  ∃ o c f args v h', ops[e]? = some o ∧ awanted ops T o = some true ∧ o.op = .call c ∧ acallee T c = some (f, args) ∧ enterable P f = true ∧ ACalls P f args h (fun o' g => o' = .panic v ∧ g = h') ∧ ∀ T', Agree ops T T' → Q (.panic v) T' h' D
theorem panStep_back {e j : Nat} {oe oj : Oper} (he : ops[e]? = some oe) (hj : ops[j]? = some oj) (hap : oj.apart ops oe = true) {T : List AV} {h : Heap} {y : AV} (ps : PanStep P ops Q D e (tput T oj.dst y) h) : PanStep P ops Q D e T h := by
  obtain ⟨a1, a2, a3⟩ := Oper.apart_spec hap
  obtain ⟨o, c, f, args, v, h', h1, h2, h3, h4, h5, h6, h7⟩ := ps
  rw [he] at h1; cases h1
  refine ⟨oe, c, f, args, v, h', he, by rwa [awanted_tput a1] at h2, h3, by rwa [acallee_tput h3 a1] at h4, h5, h6, fun T' hT => h7 T' fun s hs => ?_⟩
  rw [hT s hs]
  have hne : oj.dst ≠ some s := by
    have := Array.all_eq_true_iff_forall_mem.1 hs oj (Array.mem_of_getElem? hj)
    simpa using this
  cases hd : oj.dst with
  | none => rfl
  | some d =>
    rw [hd] at hne
    have hds : d ≠ s := fun e => hne (by rw [e])
    simp only [tput, tget_eq, List.getD, List.getElem?_set_ne hds]
theorem pan_front {e : Nat} {Kont : List AV → Heap → Prop} (hK : ∀ T h, Kont T h → PanStep P ops Q D e T h) : ∀ (π : List Nat) (hist : List Heap) (T : List AV) (h : Heap),
    (∀ j ∈ π, ∃ oe oj, ops[e]? = some oe ∧ ops[j]? = some oj ∧ oj.apart ops oe = true ∧ eF pc j oj = false) → DR pc P ops lo Kont π hist T h → PanStep P ops Q D e T h
  | [], _, T, h, _, d => hK T h d
  | j :: π, hist, T, h, hl, d => by
    obtain ⟨oe, oj, he, hj, hap, hE⟩ := hl j (by simp)
    obtain ⟨o, ho, hd⟩ := d
    rw [hj] at ho; cases ho
    simp only [hE, Bool.false_eq_true, false_and, and_false, or_false, if_false] at hd
    rcases hd with ⟨_, h2⟩ | ⟨_, _, x, _, _, h5⟩
    · exact panStep_back he hj hap (pan_front hK π _ _ _ (fun k hk => hl k (by simp [hk])) h2)
    · exact panStep_back he hj hap (pan_front hK π _ _ _ (fun k hk => hl k (by simp [hk])) h5)
theorem wpAny_post {F : Fence} {n : Nat} {Q1 Q2 : Exit → Act → World → Prop} (hq : ∀ e a w, Q1 e a w → Q2 e a w) : ∀ (fuel : Nat) (listed : Array Bool) (a : Act) (w : World), wpAnyIn F n P .any ops Q1 fuel listed a w → wpAnyIn F n P .any ops Q2 fuel listed a w
  | 0, listed, a, w, r => ⟨r.1, hq _ _ _ r.2⟩
  | fuel + 1, listed, a, w, r => by
    refine ⟨fun h => hq _ _ _ (r.1 h), fun i hi => ?_⟩
    have := r.2 i hi
    unfold wpOpIn at this ⊢
    split
    · rename_i hn; simp only [hn] at this; exact wpAny_post hq fuel _ _ _ this
    · rename_i o ho
      simp only [ho] at this
      split
      · rename_i hw
        simp only [hw, if_true] at this
        exact opIn_mono (wpAny_post hq fuel _) hq this
      · rename_i hw
        simp only [hw] at this
        exact ⟨this.1, wpAny_post hq fuel _ _ _ this.2⟩
theorem dr_sound {rd : Option Nat} {nb : Nat} {k : List It} {Kont : List AV → Heap → Prop} (hK : fin = none → ∀ T h, Kont T h → Run P rd nb k T h D Q) (hP : ∀ e, fin = some e → ∀ T h, Kont T h → PanStep P ops Q D e T h) :
    ∀ (fuel : Nat) (π : List Nat) (listed : Array Bool) (hist : List Heap) (T : List AV) (h : Heap), Plan pc ops lo rk pr fin listed π hist.length → DR pc P ops lo Kont π hist T h →
      (fin = none → fuel = π.length) → (∀ e, fin = some e → π.length < fuel) → ∀ E w a, St E w a T h D → wpAnyIn (fen rd) 0 P .any ops (K P rd (Post nb Q E h w) k) fuel listed a w := by
  intro fuel
  induction fuel with
  | zero =>
    intro π listed hist T h p d hf0 hf1 E w a s
    cases hfin : fin with
    | some e => exact absurd (hf1 e hfin) (by omega)
    | none =>
      have hπ : π = [] := List.length_eq_zero_iff.1 (hf0 hfin).symm
      subst hπ
      refine ⟨?_, hK hfin T h d E w a s⟩
      rw [List.eq_nil_iff_forall_not_mem]
      intro i hi
      obtain ⟨h0, o, ho, _⟩ := mem_ready.1 hi
      rcases p.all i (Array.getElem?_eq_some_iff.1 ho).1 h0 with hm | ⟨e, he, _⟩
      · cases hm
      · rw [hfin] at he; cases he
  | succ fuel ih =>
    intro π listed hist T h p d hf0 hf1 E w a s
    refine ⟨fun hnil => ?_, fun i hi => ?_⟩
    · -- the first of the order is ready
      exfalso
      have hne : π ++ fin.toList ≠ [] := by
        cases hfin : fin with
        | none =>
          have := hf0 hfin
          intro hh
          rw [List.append_eq_nil_iff] at hh
          rw [hh.1] at this; simp at this
        | some e => simp
      obtain ⟨i, σ, hσ⟩ := List.exists_cons_of_ne_nil hne
      have hlt : i < ops.size ∧ listed.getD i true = false := by
        have hm : i ∈ π ++ fin.toList := by rw [hσ]; simp
        rcases List.mem_append.1 hm with hm | hm
        · exact p.mem i hm
        · cases hfin : fin with
          | none => rw [hfin] at hm; simp at hm
          | some e =>
            rw [hfin] at hm; simp at hm; subst hm
            exact p.finU _ hfin
      have : i ∈ Region.ready .any ops listed := by
        refine mem_ready.2 ⟨hlt.2, ops[i], Array.getElem?_eq_getElem hlt.1, fun e he hb => ?_⟩
        rcases p.ready [] i σ (by simpa using hσ) _ (Array.getElem?_eq_getElem hlt.1) e he hb with h1 | h1
        · exact h1
        · cases h1
      rw [hnil] at this; cases this
    · obtain ⟨h0, o, ho, hall⟩ := mem_ready.1 hi
      have hlt := (Array.getElem?_eq_some_iff.1 ho).1
      have hin : i ∈ π ∨ fin = some i := by
        rcases p.all i hlt h0 with hm | ⟨e, he, hel, hle, hpe⟩
        · exact .inl hm
        · rcases hpe with rfl | hpe
          · exact .inr he
          · have := p.below hi hpe; rw [hle] at this; cases this
      rcases hin with hin | hfin
      · obtain ⟨π1, π2, hπ⟩ := List.append_of_mem hin
        have hloose : ∀ j ∈ π1, Loose pc ops lo rk j i := by
          intro j hj
          have hpw := p.pair
          rw [hπ, List.pairwise_append] at hpw
          rcases hpw.2.2 j hj i (by simp) with hp | hp
          · have := p.below hi hp
            rw [(p.mem j (by rw [hπ]; simp [hj])).2] at this; cases this
          · exact hp
        have hrk := p.rank
        rw [hπ] at hrk d
        have d' := dr_front π1 π2 hist T h hloose hrk d
        simp only [DR] at d'
        refine drStep_wp d' s ?_
        rintro hist' T' h' E' w' a' ⟨t, rfl, ht⟩ dn s' hfr
        have hr' : Ranked pc ops rk (π1 ++ π2) (hist ++ t).length := by
          rw [List.length_append, ht]
          by_cases hE : ((ops[i]?).map fun o => eF pc i o) = some true
          · have hπ1 : π1 = [] := by
              cases π1 with
              | nil => rfl
              | cons j π1 =>
                obtain ⟨oi, oj, hoi, _, _, hEi, _⟩ := hloose j (by simp)
                rw [hoi] at hE; simp [hEi] at hE
            subst hπ1
            simp only [List.nil_append, Ranked, hE, if_true] at hrk ⊢
            exact hrk.2
          · simp only [hE, if_false, Nat.add_zero]
            exact Ranked.remove hE π1 π2 _ hrk
        have p' := p.step hi hπ hr'
        have hlen : π.length = (π1 ++ π2).length + 1 := by rw [hπ]; simp; omega
        have := ih (π1 ++ π2) _ (hist ++ t) T' h' p' dn (fun e => by have := hf0 e; omega) (fun e he => by have := hf1 e he; omega) E' w' a' s'
        exact wpAny_post (K_mono (P := P) (rd := rd) (Post.of_fr (Q := Q) hfr) k) fuel _ _ _ this
      · -- the one that panics
        have hl := (p.last i hfin).2
        have ps := pan_front (hP i hfin) π hist T h (fun j hj => by
          rcases hl j hj with hp | hp
          · have := p.below hi hp
            rw [(p.mem j hj).2] at this; cases this
          · exact hp) d
        obtain ⟨o', c, f, args, v, h', e1, e2, e3, e4, e5, e6, e7⟩ := ps
        unfold wpOpIn
        simp only [e1]
        rw [awanted_sound s e2]
        simp only [if_true]
        obtain ⟨vs, hrun, hvs⟩ := acallee_sound (P := P) s e4 e5 e3
        refine ⟨fun _ _ => trivial, ?_⟩
        rw [Oper.semAt_eq _ _ _ (fun c hc => by rw [hc] at e3; cases e3), hrun]
        refine ⟨fun hd => (by cases hd), callsIn_fen.2 (Calls.mono (e6 E w vs s.rel s.fresh hvs) ?_)⟩
        rintro e w' ⟨out, h'', E', ⟨rfl, rfl⟩, hrel, hf, hout, hfr⟩
        simp only [RepO] at hout
        obtain ⟨u, rfl, hx⟩ := hout
        show K P rd (Post nb Q E h w) k (.panic _) a w'
        rw [K_panic]
        exact ⟨E', T, h'', D, .panic v, e7 T (fun _ _ => rfl), s.move hfr hrel hf, hfr.toN _, u, rfl, hx⟩

end

/- The check of an order. -/
def prB (tbl : List Nat) (n j i : Nat) : Bool := decide (j < n) && (tbl.getD i 0).testBit j
def looseB (pc : List Nat) (ops : Array Oper) (lo rk : List Nat) (j i : Nat) : Bool :=
  match ops[i]?, ops[j]? with
  | some oi, some oj => oi.apart ops oj && !eF pc i oi && (!eF pc j oj || decide (lo.getD i 0 ≤ rk.getD j 0))
  | _, _ => false
def pairB (pc : List Nat) (ops : Array Oper) (lo rk : List Nat) (pr : Nat → Nat → Bool) : List Nat → Bool
  | [] => true
  | j :: π => (π.all fun i => j != i && (pr j i || looseB pc ops lo rk j i)) && pairB pc ops lo rk pr π
def readyB (ops : Array Oper) (done : List Nat) : List Nat → Bool
  | [] => true
  | i :: π => (match ops[i]? with
    | some o => o.after.all fun e => !Region.binds .any e || done.contains e.on
    | none => true) && readyB ops (i :: done) π
def rankB (pc : List Nat) (ops : Array Oper) (rk : List Nat) : List Nat → Nat → Bool
  | [], _ => true
  | i :: π, n => match ops[i]? with
    | some o => if eF pc i o then rk.getD i 0 == n && rankB pc ops rk π (n + 1) else rankB pc ops rk π n
    | none => rankB pc ops rk π n
def edgeB (ops : Array Oper) (pr : Nat → Nat → Bool) (i : Nat) : Bool :=
  (List.range ops.size).all fun j => !pr j i || match ops[i]? with
    | some o => o.after.any fun e => Region.binds .any e && (e.on == j || pr j e.on) && decide (e.on < ops.size)
    | none => false
def lastB (pc : List Nat) (ops : Array Oper) (pr : Nat → Nat → Bool) (π : List Nat) : Option Nat → Bool
  | none => true
  | some e => decide (e < ops.size) && !π.contains e && π.all fun j => pr j e || match ops[e]?, ops[j]? with
    | some oe, some oj => oj.apart ops oe && !eF pc j oj
    | _, _ => false
def okDraw (pc : List Nat) (ops : Array Oper) (lo rk tbl : List Nat) (fin : Option Nat) (π : List Nat) : Bool :=
  (π.all fun i => decide (i < ops.size)) &&
  ((List.range ops.size).all fun i => π.contains i || match fin with
    | some e => i == e || prB tbl ops.size e i
    | none => false) &&
  ((List.range ops.size).all fun i => edgeB ops (prB tbl ops.size) i) &&
  pairB pc ops lo rk (prB tbl ops.size) π && lastB pc ops (prB tbl ops.size) π fin && readyB ops [] (π ++ fin.toList) && rankB pc ops rk π 0
theorem looseB_sound {pc : List Nat} {ops : Array Oper} {lo rk : List Nat} {j i : Nat} (h : looseB pc ops lo rk j i = true) : Loose pc ops lo rk j i := by
  unfold looseB at h
  split at h
  · rename_i oi oj hi hj
    simp only [Bool.and_eq_true, Bool.not_eq_true', Bool.or_eq_true, decide_eq_true_eq] at h
    exact ⟨oi, oj, hi, hj, h.1.1, h.1.2, fun he => h.2.resolve_left (by rw [he]; simp)⟩
  · cases h
theorem pairB_sound {pc : List Nat} {ops : Array Oper} {lo rk : List Nat} {pr : Nat → Nat → Bool} : ∀ {π : List Nat}, pairB pc ops lo rk pr π = true → π.Nodup ∧ π.Pairwise fun j i => pr j i = true ∨ Loose pc ops lo rk j i
  | [], _ => ⟨List.nodup_nil, List.Pairwise.nil⟩
  | j :: π, h => by
    simp only [pairB, Bool.and_eq_true, List.all_eq_true, bne_iff_ne, ne_eq, Bool.or_eq_true] at h
    obtain ⟨h1, h2⟩ := pairB_sound h.2
    exact ⟨List.nodup_cons.2 ⟨fun hm => (h.1 j hm).1 rfl, h1⟩, List.Pairwise.cons (fun i hi => (h.1 i hi).2.imp id looseB_sound) h2⟩
theorem readyB_sound {ops : Array Oper} : ∀ {σ done : List Nat}, readyB ops done σ = true → ∀ π1 i π2, σ = π1 ++ i :: π2 → ∀ o, ops[i]? = some o → ∀ e ∈ o.after, Region.binds .any e = true → e.on ∈ done ∨ e.on ∈ π1
  | [], _, _, π1, i, π2, hs, _, _, _, _, _ => by simp at hs
  | x :: σ, done, h, π1, i, π2, hs, o, ho, e, he, hb => by
    simp only [readyB, Bool.and_eq_true] at h
    cases π1 with
    | nil =>
      simp only [List.nil_append, List.cons.injEq] at hs
      obtain ⟨rfl, rfl⟩ := hs
      have h1 := h.1
      simp only [ho] at h1
      have := Array.all_eq_true_iff_forall_mem.1 h1 e he
      simp [hb] at this
      exact .inl this
    | cons y π1 =>
      simp only [List.cons_append, List.cons.injEq] at hs
      obtain ⟨rfl, hs⟩ := hs
      rcases readyB_sound h.2 π1 i π2 hs o ho e he hb with h' | h'
      · rcases List.mem_cons.1 h' with h' | h'
        · exact .inr (by simp [h'])
        · exact .inl h'
      · exact .inr (by simp [h'])
theorem rankB_sound {pc : List Nat} {ops : Array Oper} {rk : List Nat} : ∀ {π : List Nat} {n : Nat}, rankB pc ops rk π n = true → Ranked pc ops rk π n
  | [], _, _ => trivial
  | i :: π, n, h => by
    simp only [rankB] at h
    simp only [Ranked]
    split at h
    · rename_i o ho
      simp only [ho, Option.map_some, Option.some.injEq]
      split at h
      · rename_i hE
        simp only [Bool.and_eq_true, beq_iff_eq] at h
        simp only [hE, if_true]
        exact ⟨h.1, rankB_sound h.2⟩
      · rename_i hE
        rw [if_neg hE]
        exact rankB_sound h
    · rename_i ho
      simp only [ho, Option.map_none]
      exact rankB_sound h
theorem okDraw_sound {pc : List Nat} {ops : Array Oper} {lo rk tbl : List Nat} {fin : Option Nat} {π : List Nat} (h : okDraw pc ops lo rk tbl fin π = true) :
    Plan pc ops lo rk (prB tbl ops.size) fin (Array.replicate ops.size false) π 0 := by
  simp only [okDraw, Bool.and_eq_true, List.all_eq_true, decide_eq_true_eq, List.mem_range] at h
  obtain ⟨⟨⟨⟨⟨⟨h1, h2⟩, h3⟩, h4⟩, h5⟩, h6⟩, h7⟩ := h
  obtain ⟨h41, h42⟩ := pairB_sound h4
  have hun : ∀ i, i < ops.size → (Array.replicate ops.size false).getD i true = false := fun i hi => by simp [hi]
  have hno : ∀ i, (Array.replicate ops.size false).getD i false ≠ true := fun i => by
    rcases Nat.lt_or_ge i ops.size with hi | hi <;> simp [hi]
  refine ⟨by simp, fun i hi => ⟨h1 i hi, hun i (h1 i hi)⟩, fun i hi _ => ?_, fun e he => ?_, h41, fun i j hi hl => ?_, fun i j hi hp => ?_, h42, fun e he => ?_, ?_, rankB_sound h7⟩
  · have := h2 i hi
    simp only [Bool.or_eq_true, List.contains_iff_mem] at this
    rcases this with hm | hm
    · exact .inl hm
    · right
      cases hf : fin with
      | none => rw [hf] at hm; cases hm
      | some e =>
        rw [hf] at hm h5
        simp only [lastB, Bool.and_eq_true, decide_eq_true_eq] at h5
        simp only [Bool.or_eq_true, beq_iff_eq] at hm
        exact ⟨e, rfl, h5.1.1, hun e h5.1.1, hm⟩
  · subst he
    simp only [lastB, Bool.and_eq_true, decide_eq_true_eq] at h5
    exact ⟨h5.1.1, hun e h5.1.1⟩
  · rw [hun i hi] at hl; cases hl
  · have := h3 i hi
    simp only [edgeB, List.all_eq_true, List.mem_range, Bool.or_eq_true, Bool.not_eq_true'] at this
    have hj : j < ops.size := by simp only [prB, Bool.and_eq_true, decide_eq_true_eq] at hp; exact hp.1
    have := (this j hj).resolve_left (by rw [hp]; simp)
    split at this
    · rename_i o ho
      obtain ⟨e, he, hc⟩ := Array.any_eq_true'.1 this
      simp only [Bool.and_eq_true, Bool.or_eq_true, beq_iff_eq, decide_eq_true_eq] at hc
      exact ⟨o, e, ho, he, hc.1.1, hc.1.2, hc.2⟩
    · cases this
  · subst he
    simp only [lastB, Bool.and_eq_true, Bool.not_eq_true', List.all_eq_true, Bool.or_eq_true] at h5
    refine ⟨(fun hm => by have := h5.1.2; rw [List.contains_iff_mem.2 hm] at this; cases this), fun j hj => (h5.2 j hj).imp id ?_⟩
    intro hx
    split at hx
    · rename_i oe oj he hj'
      simp only [Bool.and_eq_true, Bool.not_eq_true'] at hx
      exact ⟨oe, oj, he, hj', hx.1, hx.2⟩
    · cases hx
  · intro π1 i π2 hs o ho e he hb
    rcases readyB_sound h6 π1 i π2 hs o ho e he hb with h' | h'
    · cases h'
    · exact .inr h'

section

variable {pc : List Nat} {P : Program} {rd : Option Nat} {nb : Nat} {ops : Array Oper} {D : List AD} {Q : AX → List AV → Heap → List AD → Prop} {k : List It} {T : List AV} {h : Heap}
theorem draw_len {pc : List Nat} {ops : Array Oper} {lo rk tbl : List Nat} {π : List Nat} (p : Plan pc ops lo rk (prB tbl ops.size) none (Array.replicate ops.size false) π 0) : ops.size = π.length := by
  have h1 : (List.range ops.size).length ≤ π.length := by
    apply List.Nodup.length_le_of_subset List.nodup_range
    intro i hi
    rcases p.all i (List.mem_range.1 hi) (by simp [List.mem_range.1 hi]) with hm | ⟨e, he, _⟩
    · exact hm
    · cases he
  have h2 : π.length ≤ (List.range ops.size).length := by
    apply List.Nodup.length_le_of_subset p.nodup
    intro i hi
    exact List.mem_range.2 (p.mem i hi).1
  simp at h1 h2
  omega
theorem draw_len' {pc : List Nat} {ops : Array Oper} {lo rk tbl : List Nat} {π : List Nat} {e : Nat} (p : Plan pc ops lo rk (prB tbl ops.size) (some e) (Array.replicate ops.size false) π 0) : π.length < ops.size := by
  have h2 : (e :: π).length ≤ (List.range ops.size).length := by
    apply List.Nodup.length_le_of_subset (List.nodup_cons.2 ⟨(p.last e rfl).1, p.nodup⟩)
    intro i hi
    rcases List.mem_cons.1 hi with rfl | hi
    · exact List.mem_range.2 (p.finU _ rfl).1
    · exact List.mem_range.2 (p.mem i hi).1
  simp at h2
  omega
theorem St.drew {E w a} (s : St E w a T h D) : St E { w with drawn := w.drawn + 1 } a T h D ∧ Fr E h.at w E h.at { w with drawn := w.drawn + 1 } := by
  obtain ⟨h1, h2⟩ := s.rel.of_heap (w' := { w with drawn := w.drawn + 1 }) rfl rfl rfl
  exact ⟨s.move h2 h1 s.fresh, h2⟩
def drOps (pc : List Nat) (P : Program) (ops : Array Oper) (lo : List Nat) (K : List Nat → List Heap → List AV → Heap → Prop) : List Nat → List Heap → List AV → Heap → Prop
  | [], hist, T, h => K [] hist T h
  | i :: π, hist, T, h =>
    match ops[i]? with
    | none => False
    | some o => match awanted ops T o with
      | some false => drOps pc P ops lo K π (if eF pc i o then hist ++ [h] else hist) (tput T o.dst (.tup [])) h
      | some true => match aop P (aev T) h o.op with
        | some (x, h') => if isE o.op then pc.contains i = false ∧ drOps pc P ops lo K π (hist ++ [h]) (tput T o.dst x) h' else stab P T x o (hist.drop (lo.getD i 0)) ∧ drOps pc P ops lo K π hist (tput T o.dst x) h
        | none => K (i :: π) hist T h
      | none => K (i :: π) hist T h
theorem drOps_sound {lo : List Nat} {Kont : List AV → Heap → Prop} : ∀ (π : List Nat) (hist : List Heap) (T : List AV) (h : Heap), drOps pc P ops lo (DR pc P ops lo Kont) π hist T h → DR pc P ops lo Kont π hist T h
  | [], _, _, _, d => d
  | i :: π, hist, T, h, d => by
    simp only [drOps] at d
    split at d
    · exact d.elim
    · rename_i o ho
      split at d
      · rename_i hw
        exact ⟨o, ho, .inl ⟨hw, drOps_sound π _ _ _ d⟩⟩
      · rename_i hw
        split at d
        · rename_i x h' hop
          split at d
          · rename_i hE
            exact ⟨o, ho, .inr (.inr (.inl ⟨hw, by unfold eF; rw [hE, d.1]; rfl, x, h', hop, drOps_sound π _ _ _ d.2⟩))⟩
          · rename_i hE
            have hE' : isE o.op = false := by simpa using hE
            have := aop_still hE' hop
            subst this
            exact ⟨o, ho, .inr (.inl ⟨hw, by unfold eF; rw [hE']; rfl, x, .inl hop, d.1, drOps_sound π _ _ _ d.2⟩)⟩
        · exact d
      · exact d
theorem DR.go {lo : List Nat} {Kont : List AV → Heap → Prop} {π : List Nat} {hist : List Heap} (r : ∀ K : List Nat → List Heap → List AV → Heap → Prop, (∀ π hist T h, DR pc P ops lo Kont π hist T h → K π hist T h) → drOps pc P ops lo K π hist T h) : DR pc P ops lo Kont π hist T h :=
  drOps_sound π hist T h (r _ fun _ _ _ _ h => h)
theorem DR.call {lo : List Nat} {Kont : List AV → Heap → Prop} {π : List Nat} {hist : List Heap} {i : Nat} {o : Oper} {c : Call} {f : FuncId} {args : List AV} {v : AV} {h' : Heap} (hi : ops[i]? = some o) (ho : o.op = .call c) (hw : awanted ops T o = some true)
    (hc : acallee T c = some (f, args)) (he : enterable P f = true) (hpc : pc.contains i = false) (hR : ACalls P f args h (fun o' g => o' = .ret v ∧ g = h')) (d : DR pc P ops lo Kont π (hist ++ [h]) (tput T o.dst v) h') : DR pc P ops lo Kont (i :: π) hist T h := by
  refine ⟨o, hi, .inr (.inr (.inr (.inl ⟨hw, ?_, c, f, args, h', ho, hc, he, v, hR, d⟩)))⟩
  unfold eF
  rw [ho, hpc]
  obtain ⟨callee, a, t⟩ := c
  cases callee with
  | value x => rfl
  | invoke r m => simp [acallee] at hc
  | builtin b => simp [acallee] at hc
theorem DR.opR {lo : List Nat} {Kont : List AV → Heap → Prop} {π : List Nat} {hist : List Heap} {i : Nat} {o : Oper} {R : AV → Heap → Prop} (hi : ops[i]? = some o) (hE : isE o.op = true) (hw : awanted ops T o = some true) (hpc : pc = []) (hR : NStep P T o h R) (hne : ∃ v g, R v g)
    (d : ∀ v g, R v g → DR pc P ops lo Kont π (hist ++ [h]) (tput T o.dst v) g) : DR pc P ops lo Kont (i :: π) hist T h := by
  refine ⟨o, hi, .inr (.inr (.inr (.inr ⟨hw, ?_, hpc, R, hR, hne, d⟩)))⟩
  unfold eF
  rw [hE, hpc]
  rfl

end
theorem drOps_nil (pc : List Nat) (P : Program) (ops : Array Oper) (lo : List Nat) (K : List Nat → List Heap → List AV → Heap → Prop) (hist : List Heap) (T : List AV) (h : Heap) : drOps pc P ops lo K [] hist T h = K [] hist T h := by simp only [drOps] <;> rfl
theorem drOps_cons (pc : List Nat) (P : Program) (ops : Array Oper) (lo : List Nat) (K : List Nat → List Heap → List AV → Heap → Prop) (i : Nat) (π : List Nat) (hist : List Heap) (T : List AV) (h : Heap) : drOps pc P ops lo K (i :: π) hist T h =
    (match ops[i]? with
    | none => False
    | some o => match awanted ops T o with
      | some false => drOps pc P ops lo K π (if eF pc i o then hist ++ [h] else hist) (tput T o.dst (.tup [])) h
      | some true => match aop P (aev T) h o.op with
        | some (x, h') => if isE o.op then pc.contains i = false ∧ drOps pc P ops lo K π (hist ++ [h]) (tput T o.dst x) h' else stab P T x o (hist.drop (lo.getD i 0)) ∧ drOps pc P ops lo K π hist (tput T o.dst x) h
        | none => K (i :: π) hist T h
      | none => K (i :: π) hist T h) := by simp only [drOps] <;> rfl
theorem stab_nil (P : Program) (T : List AV) (x : AV) (o : Oper) : stab P T x o [] = True := by simp only [stab]
theorem stab_cons (P : Program) (T : List AV) (x : AV) (o : Oper) (g : Heap) (gs : List Heap) : stab P T x o (g :: gs) = (pv P T o x g ∧ stab P T x o gs) := by simp only [stab]
theorem pv_iff (P : Program) (T : List AV) (o : Oper) (x : AV) (g : Heap) : pv P T o x g = (aop P (aev T) g o.op = some (x, g) ∨ ∃ c f args, o.op = .call c ∧ acallee T c = some (f, args) ∧ enterable P f = true ∧ ACalls P f args g (fun o' g' => o' = .ret x ∧ g' = g)) := by simp only [pv]

attribute [simp] drOps_nil drOps_cons stab_nil stab_cons pv_iff eF

section

variable {pc : List Nat} {P : Program} {ops : Array Oper} {lo rk : List Nat} {D : List AD} {Q : AX → List AV → Heap → List AD → Prop}
theorem wpOps_post {F : Fence} {n : Nat} {Q1 Q2 : Exit → Act → World → Prop} (hq : ∀ e a w, Q1 e a w → Q2 e a w) : ∀ (τ : List Nat) (a : Act) (w : World), wpOpsIn F n P ops Q1 τ a w → wpOpsIn F n P ops Q2 τ a w
  | [], a, w, h => by
    simp only [wpOpsIn] at h ⊢
    exact hq _ _ _ h
  | i :: τ, a, w, h => by
    rw [wpOpsIn_cons] at h ⊢
    unfold wpOpIn at h ⊢
    split
    · rename_i ho
      simp only [ho] at h
      exact wpOps_post hq τ _ _ h
    · rename_i o ho
      simp only [ho] at h
      split
      · rename_i hw
        rw [if_pos hw] at h
        exact opIn_mono (fun a w => wpOps_post hq τ a w) hq h
      · rename_i hw
        rw [if_neg hw] at h
        exact ⟨h.1, wpOps_post hq τ _ _ h.2⟩
def unl (ops : Array Oper) (listed : Array Bool) : List Nat := (List.range ops.size).filter fun i => !(listed.getD i true)
theorem unl_mem {listed : Array Bool} {i : Nat} : i ∈ unl ops listed ↔ i < ops.size ∧ listed.getD i true = false := by
  simp only [unl, List.mem_filter, List.mem_range, Bool.not_eq_true']
theorem unl_nodup (listed : Array Bool) : (unl ops listed).Nodup := List.Pairwise.filter _ List.nodup_range
theorem unl_set {listed : Array Bool} {i : Nat} (hs : listed.size = ops.size) (hi : i ∈ unl ops listed) : (unl ops (listed.setIfInBounds i true)).length + 1 = (unl ops listed).length := by
  have h1 := unl_mem.1 hi
  have e : unl ops (listed.setIfInBounds i true) = (unl ops listed).erase i := by
    rw [(unl_nodup listed).erase_eq_filter]
    unfold unl
    rw [List.filter_filter]
    refine List.filter_congr fun j _ => ?_
    rw [getD_set (by rw [hs]; exact h1.1)]
    by_cases c : j = i
    · subst c; simp
    · simp [c]
  rw [e, List.length_erase_of_mem hi]
  have := List.length_pos_of_mem hi
  omega

structure Lin (ops : Array Oper) (listed : Array Bool) (τ : List Nat) : Prop where
  mem : ∀ i, i ∈ τ ↔ i ∈ unl ops listed
  nodup : τ.Nodup
  ready : ∀ τ1 i τ2, τ = τ1 ++ i :: τ2 → ∀ o, ops[i]? = some o → ∀ e ∈ o.after, Region.binds .any e = true → listed.getD e.on false = true ∨ e.on ∈ τ1
theorem lin_spec {π0 : List Nat} (hcov : ∀ i, i < ops.size → i ∈ π0) (hlt : ∀ i ∈ π0, i < ops.size) (hready : ∀ π1 i π2, π0 = π1 ++ i :: π2 → ∀ o, ops[i]? = some o → ∀ e ∈ o.after, Region.binds .any e = true → e.on ∈ π1) :
    ∀ (fuel t : Nat) (listed : Array Bool), listed.size = ops.size → (unl ops listed).length = fuel → Lin ops listed (Region.linearise.go .any ops fuel t listed [])
  | 0, t, listed, hs, hl => by
    have h0 : unl ops listed = [] := List.length_eq_zero_iff.1 hl
    simp only [Region.linearise.go, List.reverse_nil]
    exact ⟨fun i => by rw [h0], List.nodup_nil, fun τ1 i τ2 h => by simp at h⟩
  | fuel + 1, t, listed, hs, hl => by
    have hne : Region.ready .any ops listed ≠ [] := by
      -- the first of the order that is not listed
      have hex : ∃ i ∈ π0, listed.getD i true = false := by
        obtain ⟨i, hi⟩ := List.exists_mem_of_ne_nil (unl ops listed) (fun e => by rw [e] at hl; cases hl)
        have := unl_mem.1 hi
        exact ⟨i, hcov i this.1, this.2⟩
      have hfirst : ∀ (l r : List Nat), π0 = l ++ r → (∀ i ∈ l, listed.getD i true = true) → (∃ i ∈ r, listed.getD i true = false) → ∃ i, i ∈ Region.ready .any ops listed := by
        intro l r
        induction r generalizing l with
        | nil => rintro _ _ ⟨i, hi, _⟩; cases hi
        | cons j r ih =>
          intro hπ hall hx
          cases hj : listed.getD j true with
          | false =>
            have hjl : j < ops.size := hlt j (by rw [hπ]; simp)
            refine ⟨j, mem_ready.2 ⟨hj, ops[j], Array.getElem?_eq_getElem hjl, fun e he hb => ?_⟩⟩
            have h1 := hready l j r hπ _ (Array.getElem?_eq_getElem hjl) e he hb
            have h2 := hall _ h1
            have h3 : e.on < ops.size := hlt _ (by rw [hπ]; exact List.mem_append_left _ h1)
            simp only [Array.getD_eq_getD_getElem?, Array.getElem?_eq_getElem (show e.on < listed.size by omega), Option.getD_some] at h2 ⊢
            exact h2
          | true =>
            refine ih (l ++ [j]) (by rw [hπ]; simp) (fun i hi => ?_) ?_
            · rcases List.mem_append.1 hi with hi | hi
              · exact hall i hi
              · simp at hi; subst hi; exact hj
            · obtain ⟨i, hi, hf⟩ := hx
              rcases List.mem_cons.1 hi with rfl | hi
              · rw [hj] at hf; cases hf
              · exact ⟨i, hi, hf⟩
      obtain ⟨i, hi⟩ := hfirst [] π0 rfl (by simp) hex
      exact List.ne_nil_of_mem hi
    simp only [Region.linearise.go]
    change Lin ops listed (match (Region.ready .any ops listed)[t % (Region.ready .any ops listed).length]? with
      | some i => Region.linearise.go .any ops fuel (t / (Region.ready .any ops listed).length) (listed.setIfInBounds i true) [i]
      | none => [].reverse)
    cases hi : (Region.ready .any ops listed)[t % (Region.ready .any ops listed).length]? with
    | none =>
      exfalso
      have hlt : t % (Region.ready .any ops listed).length < (Region.ready .any ops listed).length := Nat.mod_lt _ (List.length_pos_iff.2 hne)
      rw [List.getElem?_eq_none_iff] at hi
      omega
    | some i =>
      simp only []
      rw [linearise_go_acc, List.reverse_singleton, List.singleton_append]
      have hrd := List.mem_of_getElem? hi
      obtain ⟨h0, o, ho, hall⟩ := mem_ready.1 hrd
      have hil := (Array.getElem?_eq_some_iff.1 ho).1
      have hiu : i ∈ unl ops listed := unl_mem.2 ⟨hil, h0⟩
      have hset := unl_set hs hiu
      have L := lin_spec hcov hlt hready fuel (t / (Region.ready .any ops listed).length) (listed.setIfInBounds i true) (by simpa using hs) (by omega)
      generalize Region.linearise.go .any ops fuel (t / (Region.ready .any ops listed).length) (listed.setIfInBounds i true) [] = τ at L
      have hil' : i < listed.size := by omega
      refine ⟨fun j => ?_, List.nodup_cons.2 ⟨fun hm => ?_, L.nodup⟩, ?_⟩
      · rw [List.mem_cons, L.mem, unl_mem, unl_mem, getD_set hil']
        by_cases c : j = i
        · subst c; simp [hil, h0]
        · simp [c]
      · have := unl_mem.1 ((L.mem i).1 hm)
        rw [getD_set hil', if_pos rfl] at this
        cases this.2
      · intro τ1 j τ2 hτ o' ho' e he hb
        cases τ1 with
        | nil =>
          simp only [List.nil_append, List.cons.injEq] at hτ
          obtain ⟨rfl, rfl⟩ := hτ
          rw [ho] at ho'; cases ho'
          exact .inl (hall e he hb)
        | cons x τ1 =>
          simp only [List.cons_append, List.cons.injEq] at hτ
          obtain ⟨rfl, hτ⟩ := hτ
          rcases L.ready τ1 j τ2 hτ o' ho' e he hb with h1 | h1
          · rw [getD_setF hil'] at h1
            split at h1
            · rename_i c; exact .inr (by simp [c])
            · exact .inl h1
          · exact .inr (List.mem_cons_of_mem _ h1)
theorem before_of {pr : Nat → Nat → Bool} {art : List (Nat × Nat)} {τ : List Nat} (hlt : ∀ i ∈ τ, i < ops.size)
    (hE : ∀ i j, i < ops.size → pr j i = true → (∃ o e, ops[i]? = some o ∧ e ∈ o.after ∧ Region.binds .any e = true ∧ (e.on = j ∨ pr j e.on = true)) ∨ ∃ u, (u, i) ∈ art ∧ (u = j ∨ pr j u = true))
    (hR : ∀ τ1 i τ2, τ = τ1 ++ i :: τ2 → ∀ o, ops[i]? = some o → ∀ e ∈ o.after, Region.binds .any e = true → e.on ∈ τ1) (hA : ∀ u v, (u, v) ∈ art → ∀ τ1 τ2, τ = τ1 ++ v :: τ2 → u ∈ τ1) :
    ∀ (n : Nat) τ1 i τ2, τ1.length ≤ n → τ = τ1 ++ i :: τ2 → ∀ j, pr j i = true → j ∈ τ1 := by
  intro n
  induction n with
  | zero =>
    intro τ1 i τ2 hn hτ j hj
    have h0 : τ1 = [] := List.length_eq_zero_iff.1 (by omega)
    subst h0
    have hil := hlt i (by rw [hτ]; simp)
    rcases hE i j hil hj with ⟨o, e, ho, he, hb, _⟩ | ⟨u, hu, _⟩
    · have := hR [] i τ2 hτ o ho e he hb; cases this
    · have := hA u i hu [] τ2 hτ; cases this
  | succ n ih =>
    intro τ1 i τ2 hn hτ j hj
    have hil := hlt i (by rw [hτ]; simp)
    have key : ∀ u, u ∈ τ1 → (u = j ∨ pr j u = true) → j ∈ τ1 := by
      intro u hu hc
      rcases hc with rfl | hc
      · exact hu
      · obtain ⟨a, b, hab⟩ := List.append_of_mem hu
        have : j ∈ a := ih a u (b ++ i :: τ2) (by rw [hab] at hn; simp at hn; omega) (by rw [hτ, hab]; simp) j hc
        rw [hab]; exact List.mem_append_left _ this
    rcases hE i j hil hj with ⟨o, e, ho, he, hb, hc⟩ | ⟨u, hu, hc⟩
    · exact key _ (hR τ1 i τ2 hτ o ho e he hb) hc
    · exact key _ (hA u i hu τ1 τ2 hτ) hc
theorem split_unique {α : Type} {x : α} : ∀ {a b c d : List α}, (a ++ x :: b).Nodup → a ++ x :: b = c ++ x :: d → a = c
  | [], b, [], d, _, _ => rfl
  | [], b, y :: c, d, hn, h => by
    simp only [List.nil_append, List.cons_append, List.cons.injEq] at h
    obtain ⟨rfl, rfl⟩ := h
    simp at hn
  | y :: a, b, [], d, hn, h => by
    simp only [List.nil_append, List.cons_append, List.cons.injEq] at h
    obtain ⟨rfl, rfl⟩ := h
    simp at hn
  | y :: a, b, z :: c, d, hn, h => by
    simp only [List.cons_append, List.cons.injEq] at h
    obtain ⟨rfl, h⟩ := h
    rw [List.cons_append, List.nodup_cons] at hn
    rw [split_unique hn.2 h]
theorem pairwise_of_before {pr : Nat → Nat → Bool} {τ : List Nat} (hn : τ.Nodup) (hb : ∀ τ1 i τ2, τ = τ1 ++ i :: τ2 → ∀ j, pr j i = true → j ∈ τ1) : τ.Pairwise (fun i j => pr j i = false) := by
  rw [List.pairwise_iff_forall_sublist]
  intro i j hs
  cases hp : pr j i with
  | false => rfl
  | true =>
    exfalso
    have hi : i ∈ τ := hs.subset (by simp)
    obtain ⟨a, b, hab⟩ := List.append_of_mem hi
    have hj : j ∈ a := hb a i b hab j hp
    -- i stands ahead of j
    obtain ⟨c, d, hcd⟩ := List.append_of_mem hj
    subst hcd
    subst hab
    have hij : i ≠ j := by
      have := hn.sublist hs
      simp at this
      exact this
    have h1 : List.Sublist [i, j] (c ++ j :: (d ++ i :: b)) := by simpa using hs
    have hn2 : (c ++ j :: (d ++ i :: b)).Nodup := by simpa using hn
    rw [List.sublist_append_iff] at h1
    obtain ⟨l1, l2, he, s1, s2⟩ := h1
    rw [List.nodup_append] at hn2
    obtain ⟨n1, n2, n3⟩ := hn2
    match l1, he with
    | [], he =>
      simp only [List.nil_append] at he
      subst he
      rcases List.sublist_cons_iff.1 s2 with s2 | ⟨r, hr, s2⟩
      · have := s2.subset (show j ∈ [i, j] by simp)
        rw [List.nodup_cons] at n2
        exact n2.1 this
      · simp only [List.cons.injEq] at hr
        exact hij hr.1
    | x :: l1, he =>
      simp only [List.cons_append, List.cons.injEq] at he
      obtain ⟨rfl, he⟩ := he
      have hic : i ∈ c := s1.subset (by simp)
      exact n3 i hic i (by simp) rfl

end
def edgeM (ops : Array Oper) (pr : Nat → Nat → Bool) (art : List (Nat × Nat)) (i : Nat) : Bool :=
  (List.range ops.size).all fun j => !pr j i || (match ops[i]? with
    | some o => o.after.any fun e => Region.binds .any e && (e.on == j || pr j e.on)
    | none => false) || art.any fun p => p.2 == i && (p.1 == j || pr j p.1)

section

variable {pc : List Nat} {P : Program} {rd : Option Nat} {nb : Nat} {ops : Array Oper} {D : List AD} {Q : AX → List AV → Heap → List AD → Prop} {k : List It} {T : List AV} {h : Heap}

end

section

variable {pc : List Nat} {P : Program} {rd : Option Nat} {nb : Nat} {ops : Array Oper} {D : List AD} {Q : AX → List AV → Heap → List AD → Prop} {k : List It} {T : List AV} {h : Heap} {o : Oper}

variable {lo : List Nat} {Kont : List AV → Heap → Prop} {π : List Nat} {hist : List Heap} {i : Nat}

end

end Go.AI.ND
