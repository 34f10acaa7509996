import Derived.Test.YtcfcolkbeelegaaGreatVX10
set_option maxRecDepth 8000
set_option maxHeartbeats 16000000

namespace Go.Proofs.YtcfcolkbeelegaaGreat

open Go Go.AI
def declZ (env : List Dc) (d : Dc) : Int :=
 if (decide (d.k < 0) || decide (4 < d.k)) = true then 1
 else if unusedB d = false then 3
 else if countsZ d ≠ 0 then countsZ d
 else if dnZ env d ≠ 0 then dnZ env d
 else termsZ env d
theorem decl_any (h : Heap) (hh : WF h) (env : List Dc) (d : Dc) (hd : d.good) (hn : d.nm.length ≤ 1099511627776) (hg : Env.good env) (hs : Env.short env) : ACalls Tryz.prog 169 [envA env, d.av] h fun o h' => o = .ret (iA (declZ env d)) ∧ h' = h := by
 have c1 := fun (g : Heap) (hw : WF g) => unused_any g hw d hd
 have c2 := fun (g : Heap) (hw : WF g) => counts_any g hw d hd
 have c3 := fun (g : Heap) (hw : WF g) => declNames_any g hw env d hd hn hg hs
 have c4 := fun (g : Heap) (hw : WF g) => terms_any g hw env d hd hn hg hs
 obtain ⟨r, hr⟩ : ∃ r, r = declZ env d := ⟨_, rfl⟩
 rw [← hr]
 unfold declZ at hr
 generalize unusedB d = b1 at c1 hr
 generalize countsZ d = e2 at c2 hr
 generalize dnZ env d = e3 at c3 hr
 generalize termsZ env d = e4 at c4 hr
 clear hd hg hs hn
 obtain ⟨k, nm, ps, ⟨k1, i1, n1, l1, s1⟩, ⟨k2, i2, n2, l2, s2⟩, fx, cs, rp, ⟨k3, i3, n3, l3, s3⟩, rr, fs⟩ := d
 simp only at hr
 simp only [Dc.av, Dc.cells, cells_mk, List.map, List.cons_append, List.nil_append] at c1 c2 c3 c4 ⊢
 refine ACalls.of_run Tryz.func169 rfl ?_
 simp only [Tryz.ntmps169, List.length_cons, List.length_nil]
 refine nv ?_
 refine Run.reg fun K J => ?_
 simp
 refine J _ _ _ (nv ?_); clear J
 refine Run.regJ [0, 3] 14 (decide (k < 0) || decide (4 < k)) (fun K J => ?_) ?_
 ·simp
  repeat' (first | apply And.intro | intro _)
  all_goals
   refine J _ ?_
   simp
   repeat' first | exact wn | apply wc
   all_goals first | exact Weak.junk _ | (refine Weak.bool ?_; clear J; rw [Bool.eq_iff_iff]; simp; done) | (refine Weak.bool ?_; clear J; rw [Bool.eq_iff_iff]; simp; omega) | (refine Weak.bool ?_; clear J; simp_all; done) | (refine Weak.bool ?_; clear J; simp [*]; done) | (refine Weak.bool ?_; clear J; rw [Bool.eq_iff_iff]; simp [*]; omega) | exact Weak.refl _
 simp only [setMany, keepT, keepT.go, List.contains_cons, List.set_cons_succ, List.set_cons_zero]
 simp
 refine Run.condB rfl (fun h1 => ?_) (fun h1 => ?_)
 ·rw [if_pos h1] at hr
  repeat (first | refine nw ?_ | (refine Run.reg fun K J => ?_; simp; (try (simp (disch := omega) only [wrap_id])); refine J _ _ _ ?_; clear J) | refine ct rfl ?_ | refine cf rfl ?_ | refine Run.exit rfl ?_ | refine Run.ret ?_)
  exact Fin.ret' (h0 := h) (by simp) rfl hh rfl rfl rfl (Weak.refl _) rfl ⟨by rw [hr]; rfl, rfl⟩
 rw [if_neg (by rw [h1]; simp)] at hr
 refine nv ?_
 refine Run.reg fun K J => ?_
 simp
 refine J _ _ _ ?_; clear J
 refine rl rfl (by first | rfl | simp) (by simp) rfl (c1 _ (hh.app (by simp))) ?_
 cases b1 with
 | false =>
  rw [if_pos rfl] at hr
  refine Run.ops fun K J => ?_
  simp
  refine J _ _ _ (nv ?_); clear J
  refine ct (by simp) (nv ?_)
  repeat (first | refine nw ?_ | (refine Run.reg fun K J => ?_; simp; (try (simp (disch := omega) only [wrap_id])); refine J _ _ _ ?_; clear J) | refine ct rfl ?_ | refine cf rfl ?_ | refine Run.exit rfl ?_ | refine Run.ret ?_)
  exact Fin.ret' (h0 := h) (by simp) rfl hh rfl rfl rfl (Weak.refl _) rfl ⟨by rw [hr]; rfl, rfl⟩
 | true =>
 rw [if_neg (by simp)] at hr
 refine Run.ops fun K J => ?_
 simp
 refine J _ _ _ (nv ?_); clear J
 refine cf (by simp) (nv ?_)
 refine Run.reg fun K J => ?_
 simp
 refine J _ _ _ ?_; clear J
 refine rl rfl (by first | rfl | simp) (by simp) rfl (c2 _ (hh.app (by simp))) ?_
 refine Run.ops fun K J => ?_
 simp
 refine J _ _ _ (nv ?_); clear J
 refine Run.reg fun K J => ?_
 simp
 refine J _ _ _ (nv ?_); clear J
 by_cases h2 : e2 = 0
 rotate_left
 ·rw [if_pos h2] at hr
  refine ct (by simp [h2]) (nv ?_)
  repeat (first | refine nw ?_ | (refine Run.reg fun K J => ?_; simp; (try (simp (disch := omega) only [wrap_id])); refine J _ _ _ ?_; clear J) | refine ct rfl ?_ | refine cf rfl ?_ | refine Run.exit rfl ?_ | refine Run.ret ?_)
  exact Fin.ret' (h0 := h) (by simp) rfl hh rfl rfl rfl (Weak.refl _) rfl ⟨by rw [hr]; rfl, rfl⟩
 rw [if_neg (by simp [h2])] at hr
 refine cf (by simp [h2]) (nv ?_)
 refine Run.reg fun K J => ?_
 simp
 refine J _ _ _ ?_; clear J
 refine rl rfl (by first | rfl | simp) (by simp) rfl (c3 _ (hh.app (by simp))) ?_
 refine Run.ops fun K J => ?_
 simp
 refine J _ _ _ (nv ?_); clear J
 refine Run.reg fun K J => ?_
 simp
 refine J _ _ _ (nv ?_); clear J
 by_cases h3 : e3 = 0
 rotate_left
 ·rw [if_pos h3] at hr
  refine ct (by simp [h3]) (nv ?_)
  repeat (first | refine nw ?_ | (refine Run.reg fun K J => ?_; simp; (try (simp (disch := omega) only [wrap_id])); refine J _ _ _ ?_; clear J) | refine ct rfl ?_ | refine cf rfl ?_ | refine Run.exit rfl ?_ | refine Run.ret ?_)
  exact Fin.ret' (h0 := h) (by simp) rfl hh rfl rfl rfl (Weak.refl _) rfl ⟨by rw [hr]; rfl, rfl⟩
 rw [if_neg (by simp [h3])] at hr
 refine cf (by simp [h3]) (nv ?_)
 refine Run.reg fun K J => ?_
 simp
 refine J _ _ _ ?_; clear J
 refine rl rfl (by first | rfl | simp) (by simp) rfl (c4 _ (hh.app (by simp))) ?_
 refine Run.ops fun K J => ?_
 simp
 refine J _ _ _ (nv ?_); clear J
 refine Run.ret ?_
 exact Fin.ret' (h0 := h) (by simp) rfl hh rfl (by simp; rfl) rfl (Weak.refl _) (by simp) ⟨by rw [hr]; rfl, rfl⟩
def EnvOk (env : List Dc) : Prop := ∀ (j : Nat) (d : Dc), env[j]? = some d → declZ (env.take j) d = 0
def RetII (P : Int → Int → Prop) (o : AOut) : Prop := ∃ a b, o = .ret (.tup [iA a, iA b]) ∧ P a b
theorem checkEnv_any (h : Heap) (hh : WF h) (env : List Dc) (hg : Env.good env) (hs : Env.short env) : ACalls Tryz.prog 120 [envA env] h fun o h' => RetII (fun _ e => e = 0 → EnvOk env) o ∧ h' = h := by
 obtain ⟨hl, hgd⟩ := hg
 refine ACalls.of_run Tryz.func120 rfl ?_
 simp only [Tryz.ntmps120, List.length_cons, List.length_nil]
 refine nv ?_
 refine Run.reg fun K J => ?_
 simp
 refine J _ _ _ (nv ?_); clear J
 refine Run.reg fun K J => ?_
 simp
 refine J _ _ _ (nv ?_); clear J
 by_cases h1 : 1000 < (env.length : Int)
 ·skip
  refine ct (by simp [h1]) (nv ?_)
  refine Run.reg fun K J => ?_
  simp
  refine J _ _ _ (nv ?_); clear J
  refine Run.ret ?_
  exact Fin.ret' (by simp) rfl hh (List.append_nil _).symm (by simp; rfl) rfl (Weak.refl _) (by simp) ⟨⟨_, _, rfl, fun h => by cases h⟩, rfl⟩
 refine cf (by simp [h1]) (nv ?_)
 refine Run.reg fun K J => ?_
 simp
 refine J _ _ _ (nv ?_); clear J
 refine Run.loopS [0] (fun j : Nat => j ≤ env.length ∧ ∀ (i : Nat) (d : Dc), i < j → env[i]? = some d → declZ (env.take i) d = 0) (fun j => env.length - j) (fun j => [(4, iA j)]) (fun _ => _) 0 (by simp) ?_ rfl ?_
 ·simp
  repeat' first | exact wn | apply wc | exact wj _ | exact wr _ | exact wz _ | exact wo _ _ _ | exact wi (by omega)
 rintro j ⟨hj, hall⟩ IH
 simp
 refine nv ?_
 refine Run.reg fun K J => ?_
 simp
 refine J _ _ _ (nv ?_); clear J
 by_cases hjl : j < env.length
 ·have hge : env[j]? = some env[j] := List.getElem?_eq_getElem hjl
  have hmem : env[j] ∈ env := List.getElem_mem hjl
  have hd := hgd _ hmem
  have hdn := hs _ hmem
  have hdl := dc_cells_len env[j]
  have c1 := fun (g : Heap) (hw : WF g) => decl_any g hw (env.take j) env[j] hd (by omega) ⟨by simp; omega, fun d hd => hgd d (List.mem_of_mem_take hd)⟩ (fun d hd => hs d (List.mem_of_mem_take hd))
  have hal2 : ∀ (i : Nat) (d : Dc), declZ (env.take j) env[j] = 0 → i < j + 1 → env[i]? = some d → declZ (env.take i) d = 0 := fun i d h0 hi hgi => by
   rcases Nat.lt_or_ge i j with h | h
   ·exact hall i d h hgi
   ·obtain rfl : i = j := by omega
    rw [hge] at hgi; cases hgi; exact h0
  generalize declZ (env.take j) env[j] = e at c1 hal2
  generalize env[j] = d at hge hd hdn hdl c1
  clear hmem
  have htd : List.take 23 (d.cells.map AV.p) = d.cells.map .p := List.take_of_length_le (by simp [hdl])
  have hnj : ¬ ((j : Int) < 0) := by omega
  simp only [Dc.av] at c1
  refine ct (by simp [hjl]) (nv ?_)
  refine Run.draw [0, 0, 0, 0, 0, 0, 0, 0, 1] [0, 0, 0, 0, 0, 0, 0, 0, 0] [0, 0, 3, 0, 0, 24, 56, 127, 255] [0, 1, 2, 3, 4, 5, 6, 7, 8] (by kernel_rfl) (by kernel_rfl) ?_
  refine DR.go fun K J => ?_
  simp [hge, hdl, htd, hnj, hj]
  refine J _ _ _ _ ?_; clear J
  refine DR.call rfl rfl rfl (by simp) rfl (c1 _ hh) ?_
  refine DR.go fun K J => ?_
  simp
  refine J _ _ _ _ ?_; clear J
  change Run _ _ _ _ _ _ _ _
  refine nv ?_
  refine Run.reg fun K J => ?_
  simp
  refine J _ _ _ (nv ?_); clear J
  by_cases he : e = 0
  ·skip
   refine cf (by simp [he]) (nv ?_)
   refine Run.reg fun K J => ?_
   simp
   try (simp (disch := omega) only [wrap_id])
   refine J _ _ _ (nv ?_); clear J
   refine IH (j + 1) _ _ ⟨by omega, fun i d => hal2 i d he⟩ (by omega) ?_ rfl
   simp
   repeat' first | exact wn | apply wc | exact wj _ | exact wr _ | exact wz _ | exact wo _ _ _ | exact wi (by omega)
  ·skip
   refine ct (by simp [he]) (nv ?_)
   refine Run.reg fun K J => ?_
   simp
   refine J _ _ _ (nv ?_); clear J
   refine Run.ret ?_
   exact Fin.ret' (by simp) rfl hh (List.append_nil _).symm (by simp; rfl) rfl (Weak.refl _) (by simp) ⟨⟨_, _, rfl, fun h => absurd h he⟩, rfl⟩
 ·have hje : j = env.length := by omega
  subst hje
  refine cf (by simp) ?_
  refine Run.exit rfl ?_
  refine nv ?_
  refine Run.reg fun K J => ?_
  simp
  refine J _ _ _ (nv ?_); clear J
  refine Run.ret ?_
  exact Fin.ret' (by simp) rfl hh (List.append_nil _).symm (by simp; rfl) rfl (Weak.refl _) (by simp) ⟨⟨_, _, rfl, fun _ i d hgi => hall i d (List.getElem?_eq_some_iff.1 hgi).1 hgi⟩, rfl⟩

end Go.Proofs.YtcfcolkbeelegaaGreat
