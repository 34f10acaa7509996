/-
  A scope through which a run goes straight.
-/
import Derived.Shelf.Sort.Plain
import Derived.Shelf.Slices.In.SortNone
import Derived.Test.YtplomildbmcmfaaGreatBEVa
import Derived.Scope

namespace Go.AI

open Go

section

variable {P : Program} {rd : Option Nat} {nb : Nat} {k : List It} {T : List AV} {h : Heap} {D : List AD} {Q : AX → List AV → Heap → List AD → Prop} {all : Array Oper} {o : Oper} {rest : List Oper}
theorem Rel.forget {E : Env} {h : Heap} {w : World} (r : Rel E h.at w) {id : Nat} : Rel E (Heap.at (h.set id none)) w ∧ Fr E h.at w E (Heap.at (h.set id none)) w := by
  have hat : ∀ id' o, Heap.at (h.set id none) id' = some o → h.at id' = some o := by
    intro id' o e
    unfold Heap.at at e ⊢
    by_cases e' : id = id'
    · subst e'
      rw [List.getElem?_set_self'] at e
      cases hh : h[id]? <;> simp [hh] at e
    · rwa [List.getElem?_set_ne e'] at e
  have hO : ∀ id' b', Owns E (Heap.at (h.set id none)) id' b' → Owns E h.at id' b' := by
    intro id' b' ho
    rcases ho with ⟨c, h1, h3, h2⟩ | ⟨c, x, c', m, h1, hk, h2⟩
    · exact .inl ⟨c, hat _ _ h1, h3, h2⟩
    · exact .inr ⟨c, x, c', m, hat _ _ h1, hk, h2⟩
  exact ⟨⟨fun id' c hc hm => r.objsO id' c (hat _ _ hc) hm, fun id' c n sz k cs hc hk => r.toks id' c n sz k cs (hat _ _ hc) hk, fun i i' b' h1 h2 => r.inj i i' b' (hO _ _ h1) (hO _ _ h2), fun id' c b' off hc hm => r.sepO id' c b' off (hat _ _ hc) hm,
    fun id' c n sz k cs b' c' m off hc => r.sepT id' c n sz k cs b' c' m off (hat _ _ hc), r.lt⟩,
    ⟨fun _ _ _ => rfl, Ext.refl _ _, fun _ _ h => .inl h, Nat.le_refl _, fun b' ⟨i, ho⟩ => .inl ⟨i, hO _ _ ho⟩, Kp.refl w⟩⟩

end

section

open Go.Shelf Go.Sort Go.Proofs

end

end Go.AI

namespace Go.AI

open Go

section

variable {P : Program} {b : Frame} {a : Act} {k : List Item} {cs : List Frame} {w : World} {Q : Exit → Act → World → Prop} {F : Fence} {n : Nat}
theorem stepR_scope' {c : Code} : step P (lone (b.atR a (.code (.scope c) :: k)) cs w) = .next (lone (b.atR a (.code c :: .inScope c :: k)) cs w) :=
  step_lone_go (by simp [stepG, stepG.exec, Frame.atR])
theorem stepR_inScope' {c : Code} : step P (lone (b.atR a (.inScope c :: k)) cs w) = .next (lone (b.atR a k) cs w) :=
  step_lone_go (by simp [stepG, stepG.exec, Frame.atR])
theorem wpIn_scope' {c : Code} (h : c.wpIn F n P (Exit.noGoto Q) a w) : (Code.scope c).wpIn F n P Q a w := by
  intro b k cs hro hb hr
  have h0 : (lone (b.atR a (.code (.scope c) :: k)) cs w).fenced P F := fenced_calm hb hr rfl
  obtain ⟨e, a₁, w₁, hq, harr⟩ := h b (.inScope c :: k) cs hro hb hr
  cases e with
  | normal => exact ⟨.normal, a₁, w₁, hq, .head h0 stepR_scope' (StepsIn.trans harr (.one (fenced_calm hb hr rfl) stepR_inScope'))⟩
  | exit id =>
    have hx : exitTo id (.inScope c :: k) = exitTo id k := by simp [exitTo]
    exact ⟨.exit id, a₁, w₁, hq, fun k' hk => .head h0 stepR_scope' (harr.1 k' (by rw [hx]; exact hk)),
      fun hr' hk => let ⟨k₁, h1, h2⟩ := harr.2 hr' (by rw [hx]; exact hk); ⟨k₁, h1, .head h0 stepR_scope' h2⟩⟩
  | goto l => exact hq.elim
  | ret => exact ⟨_, a₁, w₁, hq, .of_steps (.one h0 stepR_scope') harr⟩
  | panic ch => exact ⟨_, a₁, w₁, hq, .of_steps (.one h0 stepR_scope') harr⟩
  | outgrown => exact ⟨_, a₁, w₁, hq, .of_steps (.one h0 stepR_scope') harr⟩

end
theorem K_goto {P : Program} {rd : Option Nat} {Q : Exit → Act → World → Prop} (hQ : ∀ l a w, ¬ Q (.goto l) a w) : ∀ (k : List It) l a w, ¬ K P rd Q k (.goto l) a w
  | [], l, a, w => hQ l a w
  | .code _ :: k, l, a, w => K_goto hQ k l a w
  | .ops _ _ :: k, l, a, w => K_goto hQ k l a w
  | .inBlock _ :: k, l, a, w => K_goto hQ k l a w
theorem Post.not_goto {nb Q E h w l a w'} : ¬ Post nb Q E h w (.goto l) a w' := by
  rintro ⟨_, _, _, _, x, _, _, _, h⟩
  cases x <;> simp [RepX] at h
theorem Run.scope {P : Program} {rd : Option Nat} {nb : Nat} {c : Code} {k : List It} {T : List AV} {h : Heap} {D : List AD} {Q : AX → List AV → Heap → List AD → Prop} (r : Run P rd nb (.code c :: k) T h D Q) : Run P rd nb (.code (.scope c) :: k) T h D Q := by
  intro E w a hs
  refine wpIn_scope' (wpIn_mono (r E w a hs) ?_)
  intro e a w hq
  cases e with
  | goto l => exact K_goto (fun _ _ _ => Post.not_goto) k l a w hq
  | _ => exact hq

end Go.AI
