/-
  Operations that leave the heap alone, over letters.
-/
import Derived.Test.YtplomildbmcmfaaGreatBEVa

namespace Go.AI.EV

open Go Go.AI
def pureOp : Op → Bool
  | .move _ | .assign _ | .pick .. | .build .. | .buildSlice .. | .nilCheck _ | .binOp .. | .unOp .. | .convert .. | .makeInterface .. | .fieldAddr .. | .field .. | .indexAddr .. | .index .. | .extract .. | .typeAssert .. => true
  | .makeFunc f _ _ => match f with | .yield _ => false | _ => true
  | .call ⟨.builtin .len, _, _⟩ | .call ⟨.builtin .max, _, _⟩ | .call ⟨.builtin .min, _, _⟩ => true
  | _ => false

section

variable {P : Program} {ks : Ks}
theorem abuild_io {t : TypeId} {parts : List (Nat × AV)} {x : AV} (h : abuild P t parts = some x) : abuild P t (parts.map fun p => (p.1, io ks p.2)) = some (io ks x) := by
  unfold abuild at h ⊢
  cases hz : zeroT P t with
  | none => simp [hz] at h
  | some z =>
    cases hs : stT P t with
    | none => simp [hz, hs] at h
    | some pl =>
      simp only [hz, hs] at h ⊢
      obtain ⟨cs, h1, rfl⟩ := Option.map_eq_some_iff.1 h
      have := afill_io ks pl parts (prims z)
      rw [io_prims', h1] at this
      rw [this]; simp
theorem abuildS_io {t : TypeId} {n : Nat} {parts : List (Nat × AV)} {x : AV} (h : abuildS P t n parts = some x) : abuildS P t n (parts.map fun p => (p.1, io ks p.2)) = some (io ks x) := by
  unfold abuildS at h ⊢
  cases he : elT P t with
  | none => simp [he] at h
  | some e =>
    cases h1 : szT P e with
    | none => simp [he, h1] at h
    | some sz =>
      cases h2 : zeroT P e with
      | none => simp [he, h1, h2] at h
      | some z =>
        simp only [he, h1, h2, afillS_io] at h ⊢
        split at h
        · rename_i hc
          rw [if_pos hc]
          obtain ⟨es, h3, rfl⟩ := Option.map_eq_some_iff.1 h
          rw [h3]; simp
        · cases h
theorem anil_io {op : BinOp} {t : TypeId} {x y : AV} (h : anil P op t x = some y) : anil P op t (io ks x) = some (io ks y) := by
  unfold anil at h ⊢
  cases hu : P.underlying t with
  | none => simp [hu] at h
  | some d =>
    cases d <;> simp only [hu] at h ⊢ <;> try (cases h; done)
    split at h <;> first | (cases h; done) | (simp only [Option.some.injEq] at h; subst h; simp)
theorem abin_io {op : BinOp} {t : TypeId} {x y z : AV} (h : abin P op t x y = some z) : abin P op t (io ks x) (io ks y) = some (io ks z) := by
  unfold abin at h
  split at h
  · split at h
    · rename_i hb
      split at h <;> first | (cases h; done) | (simp only [Option.some.injEq] at h; subst h; simp [abin, hb])
    · cases h
  · rename_i a b hne
    obtain ⟨v, h1, rfl⟩ := Option.map_eq_some_iff.1 h
    unfold abin
    split
    · rename_i e1 e2
      simp only [io_p, AV.p.injEq, PV.prim.injEq] at e1 e2
      exact absurd e2 (hne _ _ e1)
    · rename_i e1 e2
      simp only [io_p, AV.p.injEq, PV.prim.injEq] at e1 e2
      subst e1; subst e2
      rw [h1]; simp
    · rename_i e1 e2
      simp at e1
    · rename_i e1 e2 e3
      exact absurd rfl (e2 _ _ (io_p ks _) )
  · split at h
    · rename_i hb
      split at h <;> first | (cases h; done) | (simp only [Option.some.injEq] at h; subst h; simp [abin, hb])
    · cases h
  · cases h
theorem aun_io {op : UnOp} {x y : AV} (h : aun op x = some y) : aun op (io ks x) = some (io ks y) := by
  unfold aun at h
  split at h <;> first | (cases h; done) | (simp only [Option.some.injEq] at h; subst h; simp [aun])
theorem aconv_io {s d : TypeId} {x y : AV} (h : aconv P s d x = some y) : aconv P s d (io ks x) = some (io ks y) := by
  unfold aconv at h
  split at h <;> first | (cases h; done) | (rename_i e1 e2; simp only [Option.some.injEq] at h; subst h; simp [aconv, e1, e2])
theorem afieldAddr_io {t : TypeId} {f : Nat} {x y : AV} (h : afieldAddr P t x f = some y) : afieldAddr P t (io ks x) f = some (io ks y) := by
  unfold afieldAddr at h ⊢
  cases hf : fldT P t f with
  | none => simp [hf] at h
  | some q =>
    obtain ⟨fo, n, g⟩ := q
    simp only [hf] at h ⊢
    cases x with
    | ptr id off => simp only [Option.some.injEq] at h; subst h; simp
    | p x => cases x with
      | ro cs =>
        simp only [io_p] at h ⊢
        split at h
        · rename_i hc; rw [if_pos hc]; simp only [Option.some.injEq] at h; subst h; simp
        · cases h
      | _ => cases h
    | _ => cases h
theorem afield_io {t : TypeId} {f : Nat} {x y : AV} (h : afield P t x f = some y) : afield P t (io ks x) f = some (io ks y) := by
  unfold afield at h ⊢
  cases hf : fldT P t f with
  | none => simp [hf] at h
  | some q =>
    obtain ⟨fo, n, g⟩ := q
    simp only [hf] at h ⊢
    cases x with
    | agg cs =>
      simp only [io_agg] at h ⊢
      cases g with
      | true => simp only [if_true, Option.some.injEq] at h ⊢; subst h; simp
      | false => simp only [Bool.false_eq_true, if_false] at h ⊢; simp [h]
    | _ => cases h
theorem aindexAddr_io {t : TypeId} {x i y : AV} (h : aindexAddr P t x i = some y) : aindexAddr P t (io ks x) (io ks i) = some (io ks y) := by
  unfold aindexAddr at h ⊢
  rw [intA_io]
  cases hi : intA i with
  | none => rw [hi] at h; cases h
  | some n =>
    simp only [hi] at h ⊢
    split at h
    · cases h
    · rename_i hn
      rw [if_neg hn]
      cases he : elT P t with
      | some e =>
        simp only [he] at h ⊢
        cases hs : szT P e with
        | none => simp [hs] at h
        | some sz =>
          simp only [hs] at h ⊢
          cases x with
          | p x => cases x with
            | sl s es =>
              simp only [io_p] at h ⊢
              split at h
              · rename_i hc; rw [if_pos hc]
                obtain ⟨e, h1, rfl⟩ := Option.map_eq_some_iff.1 h
                rw [h1]; simp
              · cases h
            | _ => cases h
          | own a b c =>
            simp only [io_own] at h ⊢
            split at h
            · rename_i hc; rw [if_pos hc]
              obtain ⟨e, h1, rfl⟩ := Option.map_eq_some_iff.1 h
              rw [h1]; simp
            · cases h
          | sm id off len c s =>
            simp only [io_sm] at h ⊢
            split at h
            · rename_i hc; rw [if_pos hc]
              simp only [Option.some.injEq] at h; subst h; simp
            · cases h
          | _ => cases h
      | none =>
        simp only [he] at h ⊢
        cases ha : arT P t with
        | none => simp [ha] at h
        | some q =>
          obtain ⟨m, e⟩ := q
          simp only [ha] at h ⊢
          cases hs : szT P e with
          | none => simp [hs] at h
          | some sz =>
            simp only [hs] at h ⊢
            cases x with
            | ptr id off =>
              simp only [io_ptr] at h ⊢
              split at h
              · rename_i hc; rw [if_pos hc]
                simp only [Option.some.injEq] at h; subst h; simp
              · cases h
            | p x => cases x with
              | ro cs =>
                simp only [io_p] at h ⊢
                split at h
                · rename_i hc; rw [if_pos hc]
                  simp only [Option.some.injEq] at h; subst h; simp
                · cases h
              | _ => cases h
            | _ => cases h
theorem aindex_io {t : TypeId} {x i y : AV} (h : aindex P t x i = some y) : aindex P t (io ks x) (io ks i) = some (io ks y) := by
  unfold aindex at h ⊢
  rw [intA_io]
  cases hi : intA i with
  | none => rw [hi] at h; cases h
  | some n =>
    simp only [hi] at h ⊢
    split at h
    · cases h
    · rename_i hn
      rw [if_neg hn]
      cases x with
      | p x => cases x with
        | prim v => cases v with
          | string s =>
            simp only [io_p] at h ⊢
            split at h
            · rename_i hc; rw [if_pos hc]
              obtain ⟨e, h1, rfl⟩ := Option.map_eq_some_iff.1 h
              rw [h1]; simp
            · cases h
          | _ => cases h
        | _ => cases h
      | agg cs =>
        simp only [io_agg] at h ⊢
        cases ha : arT P t with
        | none => simp [ha] at h
        | some q =>
          obtain ⟨m, e⟩ := q
          simp only [ha] at h ⊢
          cases hs : szT P e with
          | none => simp [hs] at h
          | some sz =>
            cases hg : aggT P e with
            | none => simp [hs, hg] at h
            | some ag =>
              simp only [hs, hg] at h ⊢
              split at h
              · rename_i hc; rw [if_pos hc]
                cases ag with
                | true => simp only [if_true, Option.some.injEq] at h ⊢; subst h; simp
                | false => simp only [Bool.false_eq_true, if_false] at h ⊢; simp [h]
              · cases h
      | _ => cases h
theorem alen_io {t : TypeId} {x y : AV} (h : alen P t x = some y) : alen P t (io ks x) = some (io ks y) := by
  unfold alen at h
  split at h <;> first | (cases h; done) | (rename_i e1; simp only [Option.some.injEq] at h; subst h; simp [alen, e1])
theorem atassert_io {t : TypeId} {x y : AV} (h : atassert P t x = some y) : atassert P t (io ks x) = some (io ks y) := by
  unfold atassert at h ⊢
  cases hu : P.underlying t with
  | none => simp [hu] at h
  | some d =>
    cases d <;> simp only [hu] at h ⊢ <;> try (cases h; done)
    all_goals
      split at h
      · split at h
        · rename_i hc; simp only [Option.some.injEq] at h; subst h; simp [hc]
        · cases h
      · cases h
theorem aop_pure {ρ ρ' : Operand → AV} {op : Op} {x : AV} {g h : Heap} (hp : pureOp op = true) (hr : ∀ y, ρ' y = io ks (ρ y)) (e : aop P ρ [] op = some (x, g)) : aop P ρ' h op = some (io ks x, h) := by
  have hmap : ∀ l : List Operand, l.map ρ' = (l.map ρ).map (io ks) := fun l => by rw [List.map_map]; exact List.map_congr_left fun y _ => hr y
  have pairs : ∀ ps : List (Nat × Operand), (ps.map fun p => (p.1, ρ' p.2)) = (ps.map fun p => (p.1, ρ p.2)).map fun p => (p.1, io ks p.2) := fun ps => by
    rw [List.map_map]; exact List.map_congr_left fun y _ => by simp [hr]
  cases op <;> simp only [pureOp] at hp <;> try (cases hp; done)
  case move y => simp only [aop, Option.some.injEq, Prod.mk.injEq] at e ⊢; exact ⟨by rw [hr, e.1], trivial⟩
  case assign y => simp only [aop, Option.some.injEq, Prod.mk.injEq] at e ⊢; exact ⟨by rw [hr, e.1], trivial⟩
  case pick c a b =>
    simp only [aop] at e ⊢
    split at e
    · rename_i t hc
      simp only [Option.some.injEq, Prod.mk.injEq] at e
      rw [hr, hc]
      simp only [io_p, Option.some.injEq, Prod.mk.injEq, and_true]
      rw [← e.1]
      cases t <;> simp [hr]
    · cases e
  case build t ps =>
    simp only [aop] at e ⊢
    obtain ⟨v, h1, h2⟩ := Option.map_eq_some_iff.1 e
    cases h2
    rw [pairs, abuild_io h1]; rfl
  case buildSlice t n ps =>
    simp only [aop] at e ⊢
    obtain ⟨v, h1, h2⟩ := Option.map_eq_some_iff.1 e
    cases h2
    rw [pairs, abuildS_io h1]; rfl
  case nilCheck y =>
    simp only [aop] at e ⊢
    rw [hr, nonNil_io]
    split at e
    · rename_i hc; rw [if_pos hc]; simp only [Option.some.injEq, Prod.mk.injEq] at e; rw [e.1]
    · cases e
  case binOp op t x' y' u =>
    simp only [aop] at e ⊢
    obtain ⟨v, h1, h2⟩ := Option.map_eq_some_iff.1 e
    cases h2
    split at h1
    · rename_i hc; rw [if_pos hc, hr, anil_io h1]; rfl
    · rename_i hc; rw [if_neg hc, hr, hr, abin_io h1]; rfl
  case unOp op t x' =>
    simp only [aop] at e ⊢
    obtain ⟨v, h1, h2⟩ := Option.map_eq_some_iff.1 e
    cases h2
    rw [hr, aun_io h1]; rfl
  case convert s d x' =>
    simp only [aop] at e ⊢
    obtain ⟨v, h1, h2⟩ := Option.map_eq_some_iff.1 e
    cases h2
    rw [hr, aconv_io h1]; rfl
  case makeInterface t x' =>
    simp only [aop] at e ⊢
    cases hu : P.underlying t with
    | none => simp [hu] at e
    | some d =>
      cases d <;> simp only [hu] at e ⊢ <;> first | (cases e; done) | (simp only [Option.some.injEq, Prod.mk.injEq] at e ⊢; exact ⟨by rw [hr, aifc_io, e.1], trivial⟩)
  case makeFunc f a b =>
    simp only [aop, Option.some.injEq, Prod.mk.injEq] at e ⊢
    rw [← e.1, hmap, hmap, io_fn]
    cases f <;> simp [iof] at hp ⊢
  case fieldAddr t x' f =>
    simp only [aop] at e ⊢
    obtain ⟨v, h1, h2⟩ := Option.map_eq_some_iff.1 e
    cases h2
    rw [hr, afieldAddr_io h1]; rfl
  case field t x' f =>
    simp only [aop] at e ⊢
    obtain ⟨v, h1, h2⟩ := Option.map_eq_some_iff.1 e
    cases h2
    rw [hr, afield_io h1]; rfl
  case indexAddr t x' i =>
    simp only [aop] at e ⊢
    obtain ⟨v, h1, h2⟩ := Option.map_eq_some_iff.1 e
    cases h2
    rw [hr, hr, aindexAddr_io h1]; rfl
  case index t x' i =>
    simp only [aop] at e ⊢
    obtain ⟨v, h1, h2⟩ := Option.map_eq_some_iff.1 e
    cases h2
    rw [hr, hr, aindex_io h1]; rfl
  case extract t i =>
    simp only [aop] at e ⊢
    split at e
    · rename_i vs hc
      obtain ⟨v, h1, h2⟩ := Option.map_eq_some_iff.1 e
      cases h2
      rw [hr, hc]; simp [h1]
    · cases e
  case typeAssert x' a b c =>
    cases c with
    | false => simp [aop] at e
    | true =>
      simp only [aop] at e ⊢
      obtain ⟨v, h1, h2⟩ := Option.map_eq_some_iff.1 e
      cases h2
      rw [hr, atassert_io h1]; rfl
  case call c =>
    obtain ⟨callee, args, types⟩ := c
    cases callee with
    | value f => simp at hp
    | invoke r m => simp at hp
    | builtin b =>
      simp only [aop] at e ⊢
      rw [hmap]
      generalize args.toList.map ρ = as at e
      have key : ∀ b, (b = .len ∨ b = .max ∨ b = .min) → abuiltin P b types as [] = some (x, g) → abuiltin P b types (as.map (io ks)) h = some (io ks x, h) := by
        intro b hb e
        unfold abuiltin at e
        split at e
        · rename_i t' x' e2 _
          obtain ⟨v, h1, h2⟩ := Option.map_eq_some_iff.1 e
          cases h2
          unfold abuiltin
          rw [e2]
          simp only [List.map_cons, List.map_nil, alen_io h1, Option.map_some]
        · simp only [Option.some.injEq, Prod.mk.injEq] at e; obtain ⟨rfl, rfl⟩ := e; simp [abuiltin]
        · simp only [Option.some.injEq, Prod.mk.injEq] at e; obtain ⟨rfl, rfl⟩ := e; simp [abuiltin]
        · rcases hb with hb | hb | hb <;> cases hb
        · rcases hb with hb | hb | hb <;> cases hb
        · rcases hb with hb | hb | hb <;> cases hb
        · rcases hb with hb | hb | hb <;> cases hb
        · cases e
      refine key b ?_ e
      cases b <;> simp only [] at hp <;> first | (cases hp; done) | simp

end

end Go.AI.EV
