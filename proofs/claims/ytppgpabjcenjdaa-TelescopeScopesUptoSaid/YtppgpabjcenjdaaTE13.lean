/-
  euclidlaw04: the examples' small functions.
-/
import Derived.Test.YtppgpabjcenjdaaTE12
import Derived.Test.YtppgpabjcenjdaaTD
import Derived.Test.YtppgpabjcenjdaaTE4
namespace Go.AI

open Go

/- Values of which more is forgotten inside. -/

def WeakP (x y : PV) : Prop := ∀ E w v, RepP E w x v → RepP E w y v

def WeakPL (xs ys : List PV) : Prop := xs.length = ys.length ∧ ∀ E w b off, RepAt E w b off xs → RepAt E w b off ys

def WeakPs (es es' : List (List PV)) : Prop := es.length = es'.length ∧ ∀ E w b sz off, RepEs E w b sz off es → RepEs E w b sz off es'

theorem WeakP.refl (x : PV) : WeakP x x := fun _ _ _ h => h

theorem WeakP.nil (sz : Nat) : WeakP (.prim (.slice none 0 0)) (.sl sz []) := fun E w v h => Weak.nil sz E w v h

theorem WeakPL.nil : WeakPL [] [] := ⟨rfl, fun _ _ _ _ h => h⟩

theorem WeakPL.refl (x : List PV) : WeakPL x x := ⟨rfl, fun _ _ _ _ h => h⟩

theorem WeakPL.cons {x y : PV} {xs ys : List PV} (h : WeakP x y) (hs : WeakPL xs ys) : WeakPL (x :: xs) (y :: ys) := ⟨by simp [hs.1], fun E w b off r => by
  simp only [RepAt] at r ⊢
  obtain ⟨v, r1, r2, r3, r4⟩ := r
  exact ⟨v, r1, r2, h E w v r3, hs.2 E w b _ r4⟩⟩

theorem WeakPs.nil : WeakPs [] [] := ⟨rfl, fun _ _ _ _ _ h => h⟩

theorem WeakPs.cons {x y : List PV} {xs ys : List (List PV)} (h : WeakPL x y) (hs : WeakPs xs ys) : WeakPs (x :: xs) (y :: ys) := ⟨by simp [hs.1], fun E w b sz off r => by
  simp only [RepEs] at r ⊢
  obtain ⟨r1, r2, r3⟩ := r
  exact ⟨by rw [← h.1]; exact r1, h.2 E w b _ r2, hs.2 E w b sz _ r3⟩⟩

theorem WeakP.sl {sz : Nat} {es es' : List (List PV)} (h : WeakPs es es') : WeakP (.sl sz es) (.sl sz es') := fun E w v r => by
  simp only [RepP] at r ⊢
  obtain ⟨a, cap, rfl, h1, h2⟩ := r
  refine ⟨a, cap, by rw [h.1], by rw [← h.1]; exact h1, ?_⟩
  rcases h2 with rfl | ⟨b, off, rfl, h3⟩
  · left; have := h.1; cases es' with
    | nil => rfl
    | cons _ _ => simp at this
  · exact .inr ⟨b, off, rfl, h.2 _ _ _ _ _ h3⟩

theorem WeakP.av {x y : PV} (h : WeakP x y) : Weak (.p x) (.p y) := fun E w v r => by simp only [Rep] at r ⊢; exact h E w v r

/-- A call with arguments of which more is known. -/
theorem ACalls.weak {P : Program} {f : FuncId} {args args' : List AV} {h : Heap} {R : AOut → Heap → Prop} (hw : WeakL args args') (c : ACalls P f args' h R) : ACalls P f args h R :=
  fun E w vs h1 h2 h3 => c E w vs h1 h2 (hw E w vs h3)

end Go.AI

namespace Go.Proofs.Ytppgpabjcenjdaa

open Go Go.AI

def appT (a b : Tm) : Tm := .mk 4 0 [] [] [a, b]

end Go.Proofs.Ytppgpabjcenjdaa
