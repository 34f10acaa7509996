/-
  euclidlaw04: the contract of SubstMoves.
-/
import Derived.Test.YtppgpabjcenjdaaUP15
import Derived.Test.YtppgpabjcenjdaaUP14
import Derived.Test.YtppgpabjcenjdaaUN2
import Derived.Test.YtppgpabjcenjdaaUM6b
import Derived.Test.YtppgpabjcenjdaaUE14
import Derived.Test.YtppgpabjcenjdaaUG1
namespace Go.Proofs.Ytppgpabjcenjdaa.mv

open Go Go.AI

abbrev uA (i : Int) : AV := .p (.prim (.int .u8 i))

theorem zT_ok : zT.ok 65536 ∧ zT.size ≤ 4096 := by simp [zT, Tm.ok, Tm.oks, Tm.okN, Tm.size, Tm.sizes]

theorem shift_res {by_ fr : Int} {t : Tm} (hok : t.ok 65536) (h1 : -65536 ≤ by_ ∧ by_ ≤ 65536) (h2 : 0 ≤ fr ∧ fr ≤ 65536) : resShift by_ fr t = if shiftBad by_ fr 0 t = true then (zT, 24) else (shiftT by_ fr 0 t, 0) := by
  rw [res_shift by_ fr t hok]
  unfold resRefShift
  rw [if_neg (by omega), if_neg (by omega : ¬ 65536 < fr)]

theorem shiftC {by_ fr : Int} {t q : Tm} {e : Int} (ht : t.ok 65536 ∧ t.size ≤ 4096) (h1 : -65536 ≤ by_ ∧ by_ ≤ 65536) (h2 : 0 ≤ fr ∧ fr ≤ 65536) (hr : (if shiftBad by_ fr 0 t = true then (zT, 24) else (shiftT by_ fr 0 t, 0)) = (q, e)) (g : Heap) (hg : WF g) :
    ACalls Try.prog 31 [t.av, iA by_, iA fr] g fun o h' => o = .ret (.tup [q.av, iA e]) ∧ h' = g := by
  have := shift_any g hg t by_ fr (by omega) (by omega) (by omega) ⟨by simpa using ht.1, by omega, by have := ht.2; omega⟩
  rw [shift_res ht.1 h1 h2, hr] at this
  exact this

theorem sameC {t : Tm} (hl : t.lvs) (hs : t.size ≤ 1099511627776) (g : Heap) (hg : WF g) : ACalls Try.prog 33 [t.av, t.av] g fun o h' => o = .ret (bA true) ∧ h' = g := by
  have := same_any t.size t t g (Nat.le_refl _) hs hl hg
  rwa [sameT_refl] at this

/-- The four shifts of the law. -/
theorem four {n m fr : Int} {t : Tm} (hok : t.ok 65536 ∧ t.size ≤ 4096) (hn : 0 ≤ n ∧ n ≤ 255) (hm : 0 ≤ m ∧ m ≤ 255) (hf : 0 ≤ fr ∧ fr ≤ 255) :
    ∃ q1 e1 q2 e2 q3 e3 q4 e4, (∀ g : Heap, WF g → ACalls Try.prog 31 [t.av, iA n, iA fr] g fun o h' => o = .ret (.tup [Tm.av q1, iA e1]) ∧ h' = g) ∧
      (∀ g : Heap, WF g → ACalls Try.prog 31 [Tm.av q1, iA m, iA fr] g fun o h' => o = .ret (.tup [Tm.av q2, iA e2]) ∧ h' = g) ∧
      (∀ g : Heap, WF g → ACalls Try.prog 31 [t.av, iA (n + m), iA fr] g fun o h' => o = .ret (.tup [Tm.av q3, iA e3]) ∧ h' = g) ∧
      (∀ g : Heap, WF g → ACalls Try.prog 31 [Tm.av q1, iA (-n), iA fr] g fun o h' => o = .ret (.tup [Tm.av q4, iA e4]) ∧ h' = g) ∧
      ((e1 = 24 ∧ e3 = 24) ∨ (e1 = 0 ∧ e2 = 24 ∧ e3 = 24) ∨ (e1 = 0 ∧ e2 = 0 ∧ e3 = 0 ∧ e4 = 0 ∧ q2 = q3 ∧ q4 = t ∧ q1 = shiftT n fr 0 t ∧ q3.lvs ∧ q3.size ≤ 4096 ∧ q1.lvs ∧ q1.size ≤ 4096)) := by
  cases b1 : shiftBad n fr 0 t with
  | true =>
    have b3 := bad_mono (m := n + m) hn.1 (by omega) t 0 b1
    obtain ⟨⟨q2, e2⟩, h2⟩ : ∃ r, (if shiftBad m fr 0 zT = true then (zT, (24 : Int)) else (shiftT m fr 0 zT, 0)) = r := ⟨_, rfl⟩
    obtain ⟨⟨q4, e4⟩, h4⟩ : ∃ r, (if shiftBad (-n) fr 0 zT = true then (zT, (24 : Int)) else (shiftT (-n) fr 0 zT, 0)) = r := ⟨_, rfl⟩
    exact ⟨zT, 24, q2, e2, zT, 24, q4, e4, shiftC hok (by omega) (by omega) (by rw [if_pos b1]), shiftC zT_ok (by omega) (by omega) h2, shiftC hok (by omega) (by omega) (by rw [if_pos b3]), shiftC zT_ok (by omega) (by omega) h4, .inl ⟨rfl, rfl⟩⟩
  | false =>
    have hA : (shiftT n fr 0 t).ok 65536 := shiftT_ok n fr hf.1 t 0 65536 65536 hok.1 (by omega) (by omega) (by omega) b1
    have hAs : (shiftT n fr 0 t).size ≤ 4096 := by rw [shiftT_size n fr t 0 65536 hok.1]; exact hok.2
    have b4 := bad_undo hn.1 t 0 b1
    have u4 := shift_undo (fr := fr) hn.1 t 0 65536 hok.1
    have b2 := bad_add (fr := fr) hn.1 hm.1 t 0
    have u2 := shift_add (fr := fr) hn.1 hm.1 t 0
    cases b3 : shiftBad (n + m) fr 0 t with
    | true =>
      rw [b3] at b2
      exact ⟨shiftT n fr 0 t, 0, zT, 24, zT, 24, t, 0, shiftC hok (by omega) (by omega) (by rw [if_neg (by simp [b1])]), shiftC ⟨hA, hAs⟩ (by omega) (by omega) (by rw [if_pos b2]), shiftC hok (by omega) (by omega) (by rw [if_pos b3]),
        shiftC ⟨hA, hAs⟩ (by omega) (by omega) (by rw [if_neg (by simp [b4]), u4]), .inr (.inl ⟨rfl, rfl, rfl⟩)⟩
    | false =>
      rw [b3] at b2
      have hB : (shiftT (n + m) fr 0 t).ok 65536 := shiftT_ok (n + m) fr hf.1 t 0 65536 65536 hok.1 (by omega) (by omega) (by omega) b3
      have hBs : (shiftT (n + m) fr 0 t).size ≤ 4096 := by rw [shiftT_size (n + m) fr t 0 65536 hok.1]; exact hok.2
      exact ⟨shiftT n fr 0 t, 0, shiftT (n + m) fr 0 t, 0, shiftT (n + m) fr 0 t, 0, t, 0, shiftC hok (by omega) (by omega) (by rw [if_neg (by simp [b1])]), shiftC ⟨hA, hAs⟩ (by omega) (by omega) (by rw [if_neg (by simp [b2]), u2]), shiftC hok (by omega) (by omega) (by rw [if_neg (by simp [b3])]),
        shiftC ⟨hA, hAs⟩ (by omega) (by omega) (by rw [if_neg (by simp [b4]), u4]), .inr (.inr ⟨rfl, rfl, rfl, rfl, rfl, rfl, rfl, ok_lvs _ _ hB, hBs, ok_lvs _ _ hA, hAs⟩)⟩

/-- The renaming that is the shift. -/
theorem renC {n fr : Int} {t : Tm} (hok : t.ok 65536 ∧ t.size ≤ 4096) (hn : 0 ≤ n ∧ n ≤ 255) (hf : 0 ≤ fr ∧ fr ≤ 255) (hF : ∀ x ∈ freeZ t, x < 300) (g : Heap) (hg : WF g) :
    ACalls Try.prog 59 [t.av, .p (.sl 1 (intPs (toZ n fr 300)))] g fun o h' => o = .ret (.tup [(shiftT n fr 0 t).av, iA 0]) ∧ h' = g := by
  have h1 := ren_shift hf.1 hn t 0 65536 hok.1 (by omega) (by omega) (fun x hx => hF x ((mem_freeZ t x).2 hx))
  have h2 := rename_any g hg t (toZ n fr 300) (by rw [toZ_length]; omega) ⟨by simpa using hok.1, by omega, by omega⟩
  rw [resRen, if_neg (by simp [h1.2]), h1.1] at h2
  exact h2

end Go.Proofs.Ytppgpabjcenjdaa.mv
