/-
  euclidlaw05: what is few; sizes of what comes out.
-/
import Derived.Test.YtppgpabjcenjdaaU1
namespace Go.Proofs.Ytppgpabjcenjdaa
open Go Go.AI

theorem few5_ok {vars : Int} {t : Tm} (hv : 0 ≤ vars) (hl : t.lvs) (h : few5 vars t = true) : t.ok vars ∧ t.size ≤ 120 ∧ t.depth ≤ 100 := by
  simp only [few5, Bool.and_eq_true, decide_eq_true_eq, beq_iff_eq, checkZ] at h
  rw [if_neg (by omega : ¬ vars < 0)] at h
  obtain ⟨⟨h1, h2⟩, h3⟩ := h
  by_cases hc : chk vars 8 100 100 0 t = 0
  · exact ⟨by simpa using chk_ok vars 8 100 100 t 0 hl hc, by omega, by omega⟩
  · rw [if_pos hc] at h3; exact absurd h3 hc
theorem fews5_ok {vars step : Int} {l : List Tm} (hv : 0 ≤ vars) (hv2 : vars ≤ 1000) (hs : 0 ≤ step) (hs2 : step ≤ 1) (hl : Tm.lvss l) (h : fews5 vars step l = true) : l.length ≤ 12 ∧ ∀ t ∈ l, t.ok 65536 ∧ t.size ≤ 120 := by
  obtain ⟨h1, h2⟩ := fews5_at h
  refine ⟨h1, fun t ht => ?_⟩
  obtain ⟨j, hj, rfl⟩ := List.getElem_of_mem ht
  have hb : 0 ≤ step * j ∧ step * j ≤ 12 := by
    rcases (by omega : step = 0 ∨ step = 1) with rfl | rfl
    · simp
    · omega
  have := few5_ok (by omega) (Tm.lvss_at hl _ (List.getElem_mem hj)) (h2 j hj)
  exact ⟨ok_mono _ _ _ this.1 (by omega), this.2.1⟩

theorem lvs_zT : zT.lvs ∧ zT.size ≤ 1 := by simp [zT, Tm.lvs, Tm.lvss, Tm.size, Tm.sizes]
theorem isB_some {k : Int} {t a b : Tm} (h : isB k t = some (a, b)) (hl : t.lvs) : a.lvs ∧ b.lvs ∧ a.size + b.size + 1 ≤ t.size := by
  obtain ⟨k', i, n, ls, ks⟩ := t
  match ks, h with
  | [x, y], h =>
    simp only [isB] at h
    split at h
    · injection h with h; injection h with h1 h2
      subst h1; subst h2
      simp only [Tm.lvs, Tm.lvss, Tm.size, Tm.sizes] at hl ⊢
      exact ⟨hl.2.2.1, hl.2.2.2.1, by omega⟩
    · cases h
theorem openA_ok (M : Nat) (hM : 1 ≤ M) : ∀ (n : Nat) (acc : List Tm) (t : Tm), (∀ u ∈ acc, u.lvs ∧ u.size ≤ M) → t.lvs → t.size ≤ M → (∀ u ∈ (openA n acc t).1, u.lvs ∧ u.size ≤ M) ∧ (openA n acc t).2.1.lvs ∧ (openA n acc t).2.1.size ≤ M ∧ (openA n acc t).1.length ≤ acc.length + t.size
  | 0, acc, t, ha, hl, hs => ⟨ha, hl, hs, by simp only [openA]; omega⟩
  | n + 1, acc, t, ha, hl, hs => by
    simp only [openA]
    cases hb : isB 6 t with
    | none => exact ⟨by simp, lvs_zT.1, by have := lvs_zT.2; simp only; omega, by simp⟩
    | some p =>
      obtain ⟨a, b⟩ := p
      have h := isB_some hb hl
      simp only
      have ih := openA_ok M hM n (acc ++ [a]) b (fun u hu => by
        rcases List.mem_append.1 hu with hu | hu
        · exact ha u hu
        · simp at hu; subst hu; exact ⟨h.1, by omega⟩) h.2.1 (by omega)
      refine ⟨ih.1, ih.2.1, ih.2.2.1, ?_⟩
      have := ih.2.2.2
      simp only [List.length_append, List.length_singleton] at this
      omega
theorem resOpen_ok (t : Tm) (n : Int) (hl : t.lvs) : (∀ u ∈ (resOpen t n).1, u.lvs ∧ u.size ≤ t.size) ∧ (resOpen t n).2.1.lvs ∧ (resOpen t n).2.1.size ≤ t.size ∧ (resOpen t n).1.length ≤ t.size := by
  have := t.size_pos
  unfold resOpen
  by_cases h : n < 0
  · rw [if_pos h]; exact ⟨by simp, lvs_zT.1, by have := lvs_zT.2; simp only; omega, by simp⟩
  · rw [if_neg h]
    have := openA_ok t.size (by omega) n.toNat [] t (by simp) hl (Nat.le_refl _)
    simpa using this
theorem allF_ok (k : Int) (M : Nat) : ∀ (n : Nat) (acc : List Tm) (t : Tm), (∀ u ∈ acc, u.lvs ∧ u.size ≤ M) → t.lvs → t.size ≤ M → (∀ u ∈ (allF k n acc t).1, u.lvs ∧ u.size ≤ M) ∧ (allF k n acc t).2.lvs ∧ (allF k n acc t).2.size ≤ M ∧ (allF k n acc t).1.length ≤ acc.length + t.size
  | 0, acc, t, ha, hl, hs => ⟨ha, hl, hs, by simp only [allF]; omega⟩
  | n + 1, acc, t, ha, hl, hs => by
    simp only [allF]
    cases hb : isB k t with
    | none => exact ⟨ha, hl, hs, by simp only; omega⟩
    | some p =>
      obtain ⟨a, b⟩ := p
      have h := isB_some hb hl
      simp only
      have ih := allF_ok k M n (acc ++ [a]) b (fun u hu => by
        rcases List.mem_append.1 hu with hu | hu
        · exact ha u hu
        · simp at hu; subst hu; exact ⟨h.1, by omega⟩) h.2.1 (by omega)
      refine ⟨ih.1, ih.2.1, ih.2.2.1, ?_⟩
      have := ih.2.2.2
      simp only [List.length_append, List.length_singleton] at this
      omega
theorem resAll_ok (t : Tm) (hl : t.lvs) : (∀ u ∈ (resAll t).1, u.lvs ∧ u.size ≤ t.size) ∧ (resAll t).2.lvs ∧ (resAll t).2.size ≤ t.size ∧ (resAll t).1.length ≤ t.size := by
  have := allF_ok 6 t.size t.size [] t (by simp) hl (Nat.le_refl _)
  simpa [resAll] using this
theorem bindT_ok (k : Int) (t : Tm) (hl : t.lvs) : ∀ (ctx : List Tm), Tm.lvss ctx → (bindT k ctx t).lvs ∧ (bindT k ctx t).size = t.size + Tm.sizes ctx + ctx.length
  | [], _ => ⟨hl, by simp [bindT, Tm.sizes]⟩
  | a :: l, h => by
    simp only [Tm.lvss] at h
    have ih := bindT_ok k t hl l h.2
    have e : bindT k (a :: l) t = .mk k 0 [] [] [a, bindT k l t] := rfl
    rw [e]
    simp only [Tm.lvs, Tm.lvss, Tm.size, Tm.sizes, List.length_cons, List.length_nil]
    exact ⟨⟨by omega, by simp, h.1, ih.1, trivial⟩, by rw [ih.2]; omega⟩
theorem sameS (t : Tm) (hl : t.lvs) (hs : t.size ≤ 1099511627776) (g : Heap) (hg : WF g) : ACalls Try.prog 33 [t.av, t.av] g fun o h' => o = .ret (bA true) ∧ h' = g := by
  have := same_any t.size t t g (Nat.le_refl _) hs hl hg
  rwa [sameT_refl] at this
theorem sameLS (l : List Tm) (hl : l.length ≤ 1099511627776) (hx : ∀ t ∈ l, t.lvs ∧ t.size ≤ 1099511627776) (g : Heap) (hg : WF g) : ACalls Try.prog 52 [.p (.sl 5 (tmPs l)), .p (.sl 5 (tmPs l))] g fun o h' => o = .ret (bA true) ∧ h' = g := by
  have := sameL_any g hg l l hl hx
  rwa [sameL_refl] at this
theorem varL_ok (n fr : Int) : (varL n fr).length ≤ 4096 ∧ ∀ t ∈ varL n fr, t.lvs ∧ t.size ≤ 1 := by
  unfold varL varZ
  split
  · simp
  · refine ⟨by simp; omega, fun t ht => ?_⟩
    obtain ⟨x, _, rfl⟩ := List.mem_map.1 ht
    simp [vr, Tm.lvs, Tm.lvss, Tm.size, Tm.sizes]
theorem resLook_ok (ctx : List Tm) (i : Int) (hc : ∀ t ∈ ctx, t.ok 65536 ∧ t.size ≤ 120) : (resLook ctx i).1.lvs ∧ (resLook ctx i).1.size ≤ 120 := by
  unfold resLook
  split
  · exact ⟨lvs_zT.1, by have := lvs_zT.2; simp only; omega⟩
  · split
    · rename_i t ht
      have hm := hc t (List.mem_of_getElem? ht)
      have := resRefShift_ok (i + 1) 0 t hm.1
      exact ⟨ok_lvs _ _ this.1, by omega⟩
    · exact ⟨lvs_zT.1, by have := lvs_zT.2; simp only; omega⟩

end Go.Proofs.Ytppgpabjcenjdaa
