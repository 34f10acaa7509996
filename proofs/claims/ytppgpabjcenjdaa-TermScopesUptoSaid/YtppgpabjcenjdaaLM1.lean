/-
  term: letter, Name.
-/
import Derived.Test.YtppgpabjcenjdaaLP8
namespace Go.Proofs.Ytppgpabjcenjdaa

open Go Go.AI

set_option maxRecDepth 4000 in
theorem tletter_any (h : Heap) (hh : WF h) (c : Int) : ACalls Try.prog 145 [.p (.prim (.int .u8 c))] h fun o h' => o = .ret (bA (letterB c)) ∧ h' = h := by
  refine ACalls.of_run Try.func145 rfl ?_
  simp only [Try.ntmps145, List.length_cons, List.length_nil]
  repeat (first | refine Run.seq ?_ | refine Run.block ?_ | refine Run.skip ?_ | refine Run.inBlock ?_ | refine Run.opsNil ?_)
  repeat (first | refine Run.seq ?_ | refine Run.block ?_ | refine Run.skip ?_ | refine Run.inBlock ?_ | refine Run.opsNil ?_)
  refine Run.reg fun K hK => ?_
  simp
  try (simp (disch := omega) only [wrap_id])
  refine hK _ _ _ ?_; clear hK K
  repeat (first | refine Run.seq ?_ | refine Run.block ?_ | refine Run.skip ?_ | refine Run.inBlock ?_ | refine Run.opsNil ?_)
  repeat (first | refine Run.seq ?_ | refine Run.block ?_ | refine Run.skip ?_ | refine Run.inBlock ?_ | refine Run.opsNil ?_)
  refine Run.regJ [] 2 (letterB c) (fun K hK => ?_) ?_
  · simp
    repeat' (first | apply And.intro | intro _)
    all_goals
      try (simp (disch := omega) only [wrap_id])
      refine hK _ ?_
      simp
      repeat' (first | exact WeakL.nil | apply WeakL.cons)
      all_goals first | exact Weak.junk _ | (refine Weak.bool ?_; clear hK K; rw [Bool.eq_iff_iff]; simp [letterB]; done) | (refine Weak.bool ?_; clear hK K; rw [Bool.eq_iff_iff]; simp [letterB]; omega) | (refine Weak.bool ?_; clear hK K; simp_all; done) | (refine Weak.bool ?_; clear hK K; simp [*]; done) | (refine Weak.bool ?_; clear hK K; rw [Bool.eq_iff_iff]; simp [*]; omega) | exact Weak.refl _
  simp only [setMany, keepT, keepT.go, List.set_cons_succ, List.set_cons_zero]
  simp
  refine Run.ret ?_
  exact Fin.ret' (by simp) rfl hh (List.append_nil _).symm rfl rfl (Weak.refl _) rfl ⟨rfl, rfl⟩

theorem letter_not (z : Int) (h : letterB z = true) : z ≠ 46 ∧ z ≠ 39 ∧ ¬ (48 ≤ z ∧ z ≤ 57) := by
  unfold letterB at h
  simp at h
  omega

set_option maxRecDepth 8000 in
set_option maxHeartbeats 4000000 in
theorem tname_any (h : Heap) (hh : WF h) (n : List UInt8) (hb : n.length ≤ 1099511627776) : ACalls Try.prog 76 [.p (sP n)] h fun o h' => o = .ret (bA (nameP n)) ∧ h' = h := by
  refine ACalls.of_run Try.func76 rfl ?_
  simp only [Try.ntmps76, List.length_cons, List.length_nil]
  repeat (first | refine Run.seq ?_ | refine Run.block ?_ | refine Run.skip ?_ | refine Run.inBlock ?_ | refine Run.opsNil ?_)
  repeat (first | refine Run.seq ?_ | refine Run.block ?_ | refine Run.skip ?_ | refine Run.inBlock ?_ | refine Run.opsNil ?_)
  refine Run.reg fun K hK => ?_
  simp
  try (simp (disch := omega) only [wrap_id])
  refine hK _ _ _ ?_; clear hK K
  repeat (first | refine Run.seq ?_ | refine Run.block ?_ | refine Run.skip ?_ | refine Run.inBlock ?_ | refine Run.opsNil ?_)
  repeat (first | refine Run.seq ?_ | refine Run.block ?_ | refine Run.skip ?_ | refine Run.inBlock ?_ | refine Run.opsNil ?_)
  refine Run.reg fun K hK => ?_
  simp
  try (simp (disch := omega) only [wrap_id])
  refine hK _ _ _ ?_; clear hK K
  repeat (first | refine Run.seq ?_ | refine Run.block ?_ | refine Run.skip ?_ | refine Run.inBlock ?_ | refine Run.opsNil ?_)
  repeat (first | refine Run.seq ?_ | refine Run.block ?_ | refine Run.skip ?_ | refine Run.inBlock ?_ | refine Run.opsNil ?_)
  refine Run.reg fun K hK => ?_
  simp [ByteArray.size]
  try (simp (disch := omega) only [wrap_id])
  refine hK _ _ _ ?_; clear hK K
  repeat (first | refine Run.seq ?_ | refine Run.block ?_ | refine Run.skip ?_ | refine Run.inBlock ?_ | refine Run.opsNil ?_)
  refine Run.loopS (ι := Nat × Bool) [0, 7] (fun p => p.1 ≤ n.length ∧ nameSt (n.take p.1) = some p.2) (fun p => n.length - p.1) (fun p => [(3, bA p.2), (8, iA p.1)]) (fun _ => _) (0, true) (by simp [nameSt]) ?_ rfl ?_
  · simp
    repeat' (first | exact WeakL.nil | apply WeakL.cons)
    all_goals first | exact Weak.junk _ | exact Weak.refl _ | exact Weak.nil _ | exact Weak.own _ _ _ | exact Weak.int (by omega)
  · rintro ⟨j, fst⟩ ⟨hj, hst⟩ IH
    simp only at hj hst
    simp
    repeat (first | refine Run.seq ?_ | refine Run.block ?_ | refine Run.skip ?_ | refine Run.inBlock ?_ | refine Run.opsNil ?_)
    refine Run.reg fun K hK => ?_
    simp
    try (simp (disch := omega) only [wrap_id])
    refine hK _ _ _ ?_; clear hK K
    repeat (first | refine Run.seq ?_ | refine Run.block ?_ | refine Run.skip ?_ | refine Run.inBlock ?_ | refine Run.opsNil ?_)
    by_cases hjl : j < n.length
    · have hg : n[j]? = some n[j] := List.getElem?_eq_getElem hjl
      obtain ⟨c, hcj⟩ : ∃ c, n[j] = c := ⟨_, rfl⟩
      rw [hcj] at hg
      have hsn := nst_snoc hg
      rw [hst] at hsn
      repeat (first | refine Run.seq ?_ | refine Run.block ?_ | refine Run.skip ?_ | refine Run.inBlock ?_ | refine Run.opsNil ?_)
      refine Run.cond (b := true) (by simp [hjl]) ?_
      simp only [if_true]
      repeat (first | refine Run.seq ?_ | refine Run.block ?_ | refine Run.skip ?_ | refine Run.inBlock ?_ | refine Run.opsNil ?_)
      repeat (first | refine Run.seq ?_ | refine Run.block ?_ | refine Run.skip ?_ | refine Run.inBlock ?_ | refine Run.opsNil ?_)
      refine Run.reg fun K hK => ?_
      simp
      try (simp (disch := omega) only [wrap_id])
      refine hK _ _ _ ?_; clear hK K
      repeat (first | refine Run.seq ?_ | refine Run.block ?_ | refine Run.skip ?_ | refine Run.inBlock ?_ | refine Run.opsNil ?_)
      repeat (first | refine Run.seq ?_ | refine Run.block ?_ | refine Run.skip ?_ | refine Run.inBlock ?_ | refine Run.opsNil ?_)
      refine Run.reg fun K hK => ?_
      simp [hg]
      try (simp (disch := omega) only [wrap_id])
      refine hK _ _ _ ?_; clear hK K
      repeat (first | refine Run.seq ?_ | refine Run.block ?_ | refine Run.skip ?_ | refine Run.inBlock ?_ | refine Run.opsNil ?_)
      repeat (first | refine Run.seq ?_ | refine Run.block ?_ | refine Run.skip ?_ | refine Run.inBlock ?_ | refine Run.opsNil ?_)
      refine Run.reg fun K hK => ?_
      simp
      try (simp (disch := omega) only [wrap_id])
      refine hK _ _ _ ?_; clear hK K
      repeat (first | refine Run.seq ?_ | refine Run.block ?_ | refine Run.skip ?_ | refine Run.inBlock ?_ | refine Run.opsNil ?_)
      refine Run.call rfl (by first | rfl | simp) (by simp) rfl (tletter_any _ hh c.toNat) ?_ ?_
      rotate_left
      · rintro v h' ⟨hv, _⟩; cases hv
      rintro v h' ⟨hv, rfl⟩
      simp only [AOut.ret.injEq] at hv
      subst hv
      obtain ⟨z, hz⟩ : ∃ z : Int, (c.toNat : Int) = z := ⟨_, rfl⟩
      have hst2 : nstep (some fst) c = if fst = true then (if letterB z = true then some false else none) else if z = 46 then some true else if (letterB z || z == 39 || (decide (48 ≤ z) && decide (z ≤ 57))) = true then some false else none := by
        rw [← hz]
        cases fst <;> simp [nstep]
      rw [hz] at *
      have hlt := letter_not z
      cases hlb : letterB z with
      | true =>
        obtain ⟨l1, l2, l3⟩ := hlt hlb
        rw [hlb] at hst2
        have hs3 : nstep (some fst) c = some false := by rw [hst2]; cases fst <;> simp [l1]
        rw [hs3] at hsn
        refine Run.ops fun K hK => ?_
        simp
        try (simp (disch := omega) only [wrap_id])
        refine hK _ _ _ ?_; clear hK K
        repeat (first | refine Run.seq ?_ | refine Run.block ?_ | refine Run.skip ?_ | refine Run.inBlock ?_ | refine Run.opsNil ?_)
        repeat (first | refine Run.seq ?_ | refine Run.block ?_ | refine Run.skip ?_ | refine Run.inBlock ?_ | refine Run.opsNil ?_)
        refine Run.cond (b := true) (by simp) ?_
        simp only [if_true]
        repeat (first | refine Run.seq ?_ | refine Run.block ?_ | refine Run.skip ?_ | refine Run.inBlock ?_ | refine Run.opsNil ?_)
        repeat (first | refine Run.seq ?_ | refine Run.block ?_ | refine Run.skip ?_ | refine Run.inBlock ?_ | refine Run.opsNil ?_)
        refine Run.reg fun K hK => ?_
        simp
        try (simp (disch := omega) only [wrap_id])
        refine hK _ _ _ ?_; clear hK K
        repeat (first | refine Run.seq ?_ | refine Run.block ?_ | refine Run.skip ?_ | refine Run.inBlock ?_ | refine Run.opsNil ?_)
        repeat (first | refine Run.seq ?_ | refine Run.block ?_ | refine Run.skip ?_ | refine Run.inBlock ?_ | refine Run.opsNil ?_)
        refine Run.reg fun K hK => ?_
        simp
        try (simp (disch := omega) only [wrap_id])
        refine hK _ _ _ ?_; clear hK K
        repeat (first | refine Run.seq ?_ | refine Run.block ?_ | refine Run.skip ?_ | refine Run.inBlock ?_ | refine Run.opsNil ?_)
        refine IH (j + 1, false) _ _ ⟨by simp only; omega, hsn⟩ (by simp only; omega) ?_ rfl
        simp
        repeat' (first | exact WeakL.nil | apply WeakL.cons)
        all_goals first | exact Weak.junk _ | exact Weak.refl _ | exact Weak.nil _ | exact Weak.own _ _ _ | exact Weak.int (by omega)
      | false =>
        rw [hlb] at hst2
        refine Run.ops fun K hK => ?_
        simp
        try (simp (disch := omega) only [wrap_id])
        refine hK _ _ _ ?_; clear hK K
        repeat (first | refine Run.seq ?_ | refine Run.block ?_ | refine Run.skip ?_ | refine Run.inBlock ?_ | refine Run.opsNil ?_)
        repeat (first | refine Run.seq ?_ | refine Run.block ?_ | refine Run.skip ?_ | refine Run.inBlock ?_ | refine Run.opsNil ?_)
        refine Run.cond (b := false) (by simp) ?_
        simp only [Bool.false_eq_true, if_false]
        repeat (first | refine Run.seq ?_ | refine Run.block ?_ | refine Run.skip ?_ | refine Run.inBlock ?_ | refine Run.opsNil ?_)
        repeat (first | refine Run.seq ?_ | refine Run.block ?_ | refine Run.skip ?_ | refine Run.inBlock ?_ | refine Run.opsNil ?_)
        refine Run.reg fun K hK => ?_
        simp
        try (simp (disch := omega) only [wrap_id])
        refine hK _ _ _ ?_; clear hK K
        repeat (first | refine Run.seq ?_ | refine Run.block ?_ | refine Run.skip ?_ | refine Run.inBlock ?_ | refine Run.opsNil ?_)
        cases fst with
        | true =>
          simp only [if_true, Bool.false_eq_true, if_false] at hst2
          rw [hst2] at hsn
          repeat (first | refine Run.seq ?_ | refine Run.block ?_ | refine Run.skip ?_ | refine Run.inBlock ?_ | refine Run.opsNil ?_)
          refine Run.cond (b := true) (by simp) ?_
          simp only [if_true]
          repeat (first | refine Run.seq ?_ | refine Run.block ?_ | refine Run.skip ?_ | refine Run.inBlock ?_ | refine Run.opsNil ?_)
          repeat (first
            | refine Run.seq ?_ | refine Run.block ?_ | refine Run.skip ?_ | refine Run.inBlock ?_ | refine Run.opsNil ?_
            | (refine Run.reg fun K hK => ?_; simp; (try (simp (disch := omega) only [wrap_id])); refine hK _ _ _ ?_; clear hK K)
            | (refine Run.cond (b := true) rfl ?_; simp only [if_true])
            | (refine Run.cond (b := false) rfl ?_; simp only [Bool.false_eq_true, if_false])
            | refine Run.exit rfl ?_ | refine Run.ret ?_)
          exact Fin.ret' (by simp) rfl hh (List.append_nil _).symm rfl rfl (Weak.refl _) rfl ⟨by simp [nameP, nst_dead hsn], rfl⟩
        | false =>
          simp only [Bool.false_eq_true, if_false, Bool.false_or] at hst2
          repeat (first | refine Run.seq ?_ | refine Run.block ?_ | refine Run.skip ?_ | refine Run.inBlock ?_ | refine Run.opsNil ?_)
          refine Run.cond (b := false) (by simp) ?_
          simp only [Bool.false_eq_true, if_false]
          repeat (first | refine Run.seq ?_ | refine Run.block ?_ | refine Run.skip ?_ | refine Run.inBlock ?_ | refine Run.opsNil ?_)
          repeat (first | refine Run.seq ?_ | refine Run.block ?_ | refine Run.skip ?_ | refine Run.inBlock ?_ | refine Run.opsNil ?_)
          refine Run.reg fun K hK => ?_
          simp
          try (simp (disch := omega) only [wrap_id])
          refine hK _ _ _ ?_; clear hK K
          repeat (first | refine Run.seq ?_ | refine Run.block ?_ | refine Run.skip ?_ | refine Run.inBlock ?_ | refine Run.opsNil ?_)
          by_cases h46 : z = 46
          · rw [if_pos h46] at hst2
            rw [hst2] at hsn
            repeat (first | refine Run.seq ?_ | refine Run.block ?_ | refine Run.skip ?_ | refine Run.inBlock ?_ | refine Run.opsNil ?_)
            refine Run.cond (b := true) (by simp [h46]) ?_
            simp only [if_true]
            repeat (first | refine Run.seq ?_ | refine Run.block ?_ | refine Run.skip ?_ | refine Run.inBlock ?_ | refine Run.opsNil ?_)
            repeat (first | refine Run.seq ?_ | refine Run.block ?_ | refine Run.skip ?_ | refine Run.inBlock ?_ | refine Run.opsNil ?_)
            refine Run.reg fun K hK => ?_
            simp
            try (simp (disch := omega) only [wrap_id])
            refine hK _ _ _ ?_; clear hK K
            repeat (first | refine Run.seq ?_ | refine Run.block ?_ | refine Run.skip ?_ | refine Run.inBlock ?_ | refine Run.opsNil ?_)
            repeat (first | refine Run.seq ?_ | refine Run.block ?_ | refine Run.skip ?_ | refine Run.inBlock ?_ | refine Run.opsNil ?_)
            refine Run.reg fun K hK => ?_
            simp
            try (simp (disch := omega) only [wrap_id])
            refine hK _ _ _ ?_; clear hK K
            repeat (first | refine Run.seq ?_ | refine Run.block ?_ | refine Run.skip ?_ | refine Run.inBlock ?_ | refine Run.opsNil ?_)
            refine IH (j + 1, true) _ _ ⟨by simp only; omega, hsn⟩ (by simp only; omega) ?_ rfl
            simp
            repeat' (first | exact WeakL.nil | apply WeakL.cons)
            all_goals first | exact Weak.junk _ | exact Weak.refl _ | exact Weak.nil _ | exact Weak.own _ _ _ | exact Weak.int (by omega)
          · rw [if_neg h46] at hst2
            repeat (first | refine Run.seq ?_ | refine Run.block ?_ | refine Run.skip ?_ | refine Run.inBlock ?_ | refine Run.opsNil ?_)
            refine Run.cond (b := false) (by simp [h46]) ?_
            simp only [Bool.false_eq_true, if_false]
            repeat (first | refine Run.seq ?_ | refine Run.block ?_ | refine Run.skip ?_ | refine Run.inBlock ?_ | refine Run.opsNil ?_)
            repeat (first | refine Run.seq ?_ | refine Run.block ?_ | refine Run.skip ?_ | refine Run.inBlock ?_ | refine Run.opsNil ?_)
            refine Run.regJ [0, 3, 5, 7, 8] 22 (decide (z < 48) || decide (57 < z)) (fun K hK => ?_) ?_
            · simp
              repeat' (first | apply And.intro | intro _)
              all_goals
                try (simp (disch := omega) only [wrap_id])
                refine hK _ ?_
                simp
                repeat' (first | exact WeakL.nil | apply WeakL.cons)
                all_goals first | exact Weak.junk _ | (refine Weak.bool ?_; clear hK K; rw [Bool.eq_iff_iff]; simp; done) | (refine Weak.bool ?_; clear hK K; rw [Bool.eq_iff_iff]; simp; omega) | (refine Weak.bool ?_; clear hK K; simp_all; done) | (refine Weak.bool ?_; clear hK K; simp [*]; done) | (refine Weak.bool ?_; clear hK K; rw [Bool.eq_iff_iff]; simp [*]; omega) | exact Weak.refl _
            simp only [setMany, keepT, keepT.go, List.contains_cons, List.set_cons_succ, List.set_cons_zero]
            simp
            refine Run.condB rfl (fun h1 => ?_) (fun h1 => ?_)
            · repeat (first | refine Run.seq ?_ | refine Run.block ?_ | refine Run.skip ?_ | refine Run.inBlock ?_ | refine Run.opsNil ?_)
              refine Run.reg fun K hK => ?_
              simp
              try (simp (disch := omega) only [wrap_id])
              refine hK _ _ _ ?_; clear hK K
              repeat (first | refine Run.seq ?_ | refine Run.block ?_ | refine Run.skip ?_ | refine Run.inBlock ?_ | refine Run.opsNil ?_)
              by_cases h39 : z = 39
              · rw [if_pos (by simp [h39])] at hst2
                rw [hst2] at hsn
                repeat (first | refine Run.seq ?_ | refine Run.block ?_ | refine Run.skip ?_ | refine Run.inBlock ?_ | refine Run.opsNil ?_)
                refine Run.cond (b := false) (by simp [h39]) ?_
                simp only [Bool.false_eq_true, if_false]
                repeat (first | refine Run.seq ?_ | refine Run.block ?_ | refine Run.skip ?_ | refine Run.inBlock ?_ | refine Run.opsNil ?_)
                repeat (first | refine Run.seq ?_ | refine Run.block ?_ | refine Run.skip ?_ | refine Run.inBlock ?_ | refine Run.opsNil ?_)
                refine Run.reg fun K hK => ?_
                simp
                try (simp (disch := omega) only [wrap_id])
                refine hK _ _ _ ?_; clear hK K
                repeat (first | refine Run.seq ?_ | refine Run.block ?_ | refine Run.skip ?_ | refine Run.inBlock ?_ | refine Run.opsNil ?_)
                refine IH (j + 1, false) _ _ ⟨by simp only; omega, hsn⟩ (by simp only; omega) ?_ rfl
                simp
                repeat' (first | exact WeakL.nil | apply WeakL.cons)
                all_goals first | exact Weak.junk _ | exact Weak.refl _ | exact Weak.nil _ | exact Weak.own _ _ _ | exact Weak.int (by omega)
              · rw [if_neg (by simp [h39]; simp at h1; omega)] at hst2
                rw [hst2] at hsn
                repeat (first | refine Run.seq ?_ | refine Run.block ?_ | refine Run.skip ?_ | refine Run.inBlock ?_ | refine Run.opsNil ?_)
                refine Run.cond (b := true) (by simp [h39]) ?_
                simp only [if_true]
                repeat (first | refine Run.seq ?_ | refine Run.block ?_ | refine Run.skip ?_ | refine Run.inBlock ?_ | refine Run.opsNil ?_)
                repeat (first
                  | refine Run.seq ?_ | refine Run.block ?_ | refine Run.skip ?_ | refine Run.inBlock ?_ | refine Run.opsNil ?_
                  | (refine Run.reg fun K hK => ?_; simp; (try (simp (disch := omega) only [wrap_id])); refine hK _ _ _ ?_; clear hK K)
                  | (refine Run.cond (b := true) rfl ?_; simp only [if_true])
                  | (refine Run.cond (b := false) rfl ?_; simp only [Bool.false_eq_true, if_false])
                  | refine Run.exit rfl ?_ | refine Run.ret ?_)
                exact Fin.ret' (by simp) rfl hh (List.append_nil _).symm rfl rfl (Weak.refl _) rfl ⟨by simp [nameP, nst_dead hsn], rfl⟩
            · rw [if_pos (by simp at h1 ⊢; omega)] at hst2
              rw [hst2] at hsn
              repeat (first | refine Run.seq ?_ | refine Run.block ?_ | refine Run.skip ?_ | refine Run.inBlock ?_ | refine Run.opsNil ?_)
              refine Run.reg fun K hK => ?_
              simp
              try (simp (disch := omega) only [wrap_id])
              refine hK _ _ _ ?_; clear hK K
              repeat (first | refine Run.seq ?_ | refine Run.block ?_ | refine Run.skip ?_ | refine Run.inBlock ?_ | refine Run.opsNil ?_)
              refine IH (j + 1, false) _ _ ⟨by simp only; omega, hsn⟩ (by simp only; omega) ?_ rfl
              simp
              repeat' (first | exact WeakL.nil | apply WeakL.cons)
              all_goals first | exact Weak.junk _ | exact Weak.refl _ | exact Weak.nil _ | exact Weak.own _ _ _ | exact Weak.int (by omega)
    · have hje : j = n.length := by omega
      subst hje
      rw [List.take_length] at hst
      repeat (first | refine Run.seq ?_ | refine Run.block ?_ | refine Run.skip ?_ | refine Run.inBlock ?_ | refine Run.opsNil ?_)
      refine Run.cond (b := false) (by simp) ?_
      simp only [Bool.false_eq_true, if_false]
      repeat (first | refine Run.seq ?_ | refine Run.block ?_ | refine Run.skip ?_ | refine Run.inBlock ?_ | refine Run.opsNil ?_)
      repeat (first | refine Run.seq ?_ | refine Run.block ?_ | refine Run.skip ?_ | refine Run.inBlock ?_ | refine Run.opsNil ?_)
      refine Run.exit rfl ?_
      repeat (first | refine Run.seq ?_ | refine Run.block ?_ | refine Run.skip ?_ | refine Run.inBlock ?_ | refine Run.opsNil ?_)
      repeat (first | refine Run.seq ?_ | refine Run.block ?_ | refine Run.skip ?_ | refine Run.inBlock ?_ | refine Run.opsNil ?_)
      refine Run.regJ [] 2 (!fst && decide ((n.length : Int) ≤ 64)) (fun K hK => ?_) ?_
      · simp [ByteArray.size]
        repeat' (first | apply And.intro | intro _)
        all_goals
          try (simp (disch := omega) only [wrap_id])
          refine hK _ ?_
          simp
          repeat' (first | exact WeakL.nil | apply WeakL.cons)
          all_goals first | exact Weak.junk _ | (refine Weak.bool ?_; clear hK K; rw [Bool.eq_iff_iff]; simp; done) | (refine Weak.bool ?_; clear hK K; rw [Bool.eq_iff_iff]; simp; omega) | (refine Weak.bool ?_; clear hK K; simp_all; done) | (refine Weak.bool ?_; clear hK K; simp [*]; done) | (refine Weak.bool ?_; clear hK K; rw [Bool.eq_iff_iff]; simp [*]; omega) | exact Weak.refl _
      simp only [setMany, keepT, keepT.go, List.set_cons_succ, List.set_cons_zero]
      simp
      refine Run.ret ?_
      refine Fin.ret' (by simp) rfl hh (List.append_nil _).symm rfl rfl (Weak.refl _) rfl ⟨?_, rfl⟩
      simp only [nameP, hst]
      cases fst <;> rfl

end Go.Proofs.Ytppgpabjcenjdaa
