/-
  Same is symmetric.
-/
import Derived.Test.YtppgpabjcenjdaaLG1
namespace Go.Proofs.Ytppgpabjcenjdaa

open Go Go.AI

theorem bne_comm' (a b : Int) : (a != b) = (b != a) := by rw [Bool.eq_iff_iff]; simp; exact ⟨fun h => fun e => h e.symm, fun h => fun e => h e.symm⟩

theorem sameVar_symm (a b : Int × Int) : sameVar a b = sameVar b a := by
  unfold sameVar
  rw [Bool.eq_iff_iff]
  simp only [Bool.and_eq_true, beq_iff_eq]
  exact ⟨fun h => ⟨h.1.symm, h.2.symm⟩, fun h => ⟨h.1.symm, h.2.symm⟩⟩

theorem sameLv_symm (a b : Lv) : sameLv a b = sameLv b a := by
  unfold sameLv
  rw [bne_comm' a.c b.c, bne_comm' (a.vars.length : Int) b.vars.length]
  by_cases h : (a.vars.length : Int) = b.vars.length
  · have h' : a.vars.length = b.vars.length := by omega
    rw [h']
    congr 1
    rw [Bool.eq_iff_iff, allTo_iff, allTo_iff]
    have e : ∀ j, varsAt a.vars b.vars j = varsAt b.vars a.vars j := by
      intro j
      unfold varsAt
      cases a.vars[j]? <;> cases b.vars[j]? <;> simp [sameVar_symm]
    simp [e]
  · have h1 : ((b.vars.length : Int) != a.vars.length) = true := by simp; omega
    rw [h1]; simp

theorem sameLvs_symm (a b : List Lv) : sameLvs a b = sameLvs b a := by
  unfold sameLvs
  rw [bne_comm' (a.length : Int) b.length]
  by_cases h : (a.length : Int) = b.length
  · have h' : a.length = b.length := by omega
    rw [h']
    congr 1
    rw [Bool.eq_iff_iff, allTo_iff, allTo_iff]
    have e : ∀ j, lvsAt a b j = lvsAt b a j := by
      intro j
      unfold lvsAt
      cases a[j]? <;> cases b[j]? <;> simp [sameLv_symm]
    simp [e]
  · have h1 : ((b.length : Int) != a.length) = true := by simp; omega
    rw [h1]; simp

theorem sameHead_symm (a b : Tm) : sameHead a b = sameHead b a := by
  unfold sameHead
  rw [bne_comm' a.kind b.kind, bne_comm' a.index b.index, sameLvs_symm a.levels b.levels, bne_comm' (a.kids.length : Int) b.kids.length]
  have : (a.name == b.name) = (b.name == a.name) := by rw [Bool.eq_iff_iff, beq_iff_eq, beq_iff_eq]; exact ⟨fun h => h.symm, fun h => h.symm⟩
  rw [this]

mutual
theorem sameT_symm : ∀ a b : Tm, sameT a b = sameT b a
  | .mk k i n ls ks, .mk k' i' n' ls' ks' => by simp only [sameT]; rw [sameHead_symm, sameTs_symm ks ks']
theorem sameTs_symm : ∀ a b : List Tm, sameTs a b = sameTs b a
  | [], [] => rfl
  | [], _ :: _ => by simp only [sameTs]
  | _ :: _, [] => by simp only [sameTs]
  | a :: xs, b :: ys => by simp only [sameTs]; rw [sameT_symm a b, sameTs_symm xs ys]
end

end Go.Proofs.Ytppgpabjcenjdaa
