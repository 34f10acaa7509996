/-
  New blocks under reserved names.
-/
import Derived.Test.YtplomildbmcmfaaGreatBEVk

namespace Go.AI.EV

open Go Go.AI
def fobj (P : Program) (ρ : Operand → AV) (n : Nat) (op : Op) : Option (AV × List AV) :=
  match op with
  | .alloc t => match zeroT P t with
    | some z => some (.ptr n 0, prims z)
    | none => none
  | .box _ x => match cellsA (ρ x) with
    | some cs => some (.ptr n 0, cs)
    | none => none
  | .makeSlice t l c => match elT P t, intA (ρ l), intA (ρ c) with
    | some e, some k, some m => match szT P e, byT P e, zeroT P e with
      | some sz, some by_, some z => if 0 ≤ k ∧ k = m ∧ k.toNat * by_ ≤ 140737488355328 ∧ k.toNat ≤ 1099511627776 ∧ 0 < sz then
          some (.sm n 0 k.toNat (2 * k.toNat) sz, (List.replicate k.toNat (prims z)).flatten) else none
      | _, _, _ => none
    | _, _, _ => none
  | .buildSlice t 0 ⟨[]⟩ => match elT P t with
    | some e => match szT P e with
      | some sz => some (.sm n 0 0 0 sz, [])
      | none => none
    | none => none
  | _ => none

section

variable {P : Program} {ks : Ks} {E : Env} {w : World} {T : List AV} {h : Heap} {D : List AD} {a : Act} {o : Oper}
theorem fobj_run {n : Nat} {x : AV} {cs : List AV} (s : St E w a (T.map (io ks)) h D) (hf : fobj P (aev T) n o.op = some (x, cs)) :
    ∃ vs t v, (execOp a.eval o).run P w = .ok (.value v) (w.alloc (.cells (List.toArray vs) t (0, 0))) ∧ RepL E w (cs.map (io ks)) vs ∧ ∀ E' w', E'.g n = some w.heap.size → Rep E' w' (io ks x) v := by
  unfold fobj at hf
  split at hf
  · rename_i t hop
    split at hf
    · rename_i z hz
      simp only [Option.some.injEq, Prod.mk.injEq] at hf
      obtain ⟨rfl, rfl⟩ := hf
      obtain ⟨zv, hzr, hzc⟩ := run_zeroT (w := w) hz
      obtain ⟨_, _, _, _, _, _, hprim⟩ := zeroT_parts hz
      refine ⟨z, t, .pointer (some ⟨w.heap.size, 0, none⟩), ?_, by rw [prims_map]; exact prims_rep hprim, fun E' w' hg => by simp only [io_ptr, Rep]; exact ⟨_, hg, rfl⟩⟩
      have e : (Instr.alloc t true (.tuple #[])).run P w = .ok (.pointer (some ⟨w.heap.size, 0, none⟩)) (w.alloc (.cells (List.toArray z) t (0, 0))) := by
        simp [Instr.alloc, hzr, newVar, newRow, hzc]
      simp [execOp, hop, e]
    · cases hf
  · rename_i t y hop
    split at hf
    · rename_i cs' hc
      simp only [Option.some.injEq, Prod.mk.injEq] at hf
      obtain ⟨rfl, rfl⟩ := hf
      have hr := aev_rep s y
      rw [aev_io] at hr
      obtain ⟨vs, e1, e2⟩ := cellsA_rep (by rw [cellsA_io, hc]; rfl) hr
      refine ⟨vs, t, .pointer (some ⟨w.heap.size, 0, none⟩), ?_, e2, fun E' w' hg => by simp only [io_ptr, Rep]; exact ⟨_, hg, rfl⟩⟩
      have e : (Instr.box t (a.eval y)).run P w = .ok (.pointer (some ⟨w.heap.size, 0, none⟩)) (w.alloc (.cells (List.toArray vs) t (0, 0))) := by
        simp [Instr.box, newVar, newRow, e1]
      simp [execOp, hop, e]
    · cases hf
  · rename_i t l c hop
    split at hf
    · rename_i e k m hel hk hm'
      obtain ⟨kk, hkv⟩ := intA_rep (E := E) (w := w) (v := a.eval l) (by rw [intA_io ks]; exact hk) (by rw [← aev_io ks]; exact aev_rep s l)
      obtain ⟨kk', hmv⟩ := intA_rep (E := E) (w := w) (v := a.eval c) (by rw [intA_io ks]; exact hm') (by rw [← aev_io ks]; exact aev_rep s c)
      split at hf
      · rename_i sz by_ z hsz hby hz
        split at hf
        · rename_i hcond
          obtain ⟨h0, rfl, hb, hn40, hpos⟩ := hcond
          simp only [Option.some.injEq, Prod.mk.injEq] at hf
          obtain ⟨rfl, rfl⟩ := hf
          obtain ⟨i, zv, hi, hzv, hzc, hzl, hprim⟩ := zeroT_parts hz
          have hisz : i.size = sz := by unfold szT at hsz; rw [hi] at hsz; simpa using hsz
          have hiby : i.bytes = by_ := by unfold byT at hby; rw [hi] at hby; simpa using hby
          have hw := wrap64_id h0 (by omega)
          have hrep : RepL E w (List.replicate k.toNat (prims z)).flatten (List.replicate k.toNat z).flatten := by
            have : (List.replicate k.toNat (prims z)).flatten = prims (List.replicate k.toNat z).flatten := by
              unfold prims
              generalize k.toNat = q
              induction q with
              | zero => rfl
              | succ q ih => rw [List.replicate_succ, List.replicate_succ, List.flatten_cons, List.flatten_cons, List.map_append, ih]
            rw [this]
            refine prims_rep ?_
            intro v hv
            obtain ⟨l, hl, hv⟩ := List.mem_flatten.1 hv
            rw [(List.mem_replicate.1 hl).2] at hv
            exact hprim v hv
          refine ⟨(List.replicate k.toNat z).flatten, e, .slice (some ⟨w.heap.size, 0, none⟩) k.toNat k.toNat, ?_, by rw [flat_prims]; exact hrep, fun E' w' hg => by rw [io_sm, icap_even]; simp only [Rep]; exact ⟨_, hg, rfl⟩⟩
          have hrun : (Instr.makeSlice t (.int kk k) (.int kk' k)).run P w = .ok (.slice (some ⟨w.heap.size, 0, none⟩) k.toNat k.toNat) (w.alloc (.cells (List.toArray (List.replicate k.toNat z).flatten) e (0, 0))) := by
            have hinit : (Array.range (k.toNat * sz)).map (fun i => (List.toArray z)[i % (List.toArray z).size]!) = List.toArray (List.replicate k.toNat z).flatten := by
              have := flat_replicate (List.toArray z) k.toNat
              simp only [List.size_toArray, hzl, hisz] at this ⊢
              exact this
            have hbn : (i.bytes : Int) * k ≤ 140737488355328 := by
              rw [hiby]
              have h2 : (k.toNat : Int) = k := Int.toNat_of_nonneg h0
              have h3 : ((k.toNat * by_ : Nat) : Int) ≤ 140737488355328 := by omega
              rw [Int.natCast_mul, h2, Int.mul_comm] at h3
              exact h3
            have htl : ¬ (k < 0 ∨ 281474976710656 < (i.bytes : Int) * k) := by omega
            by_cases hz0 : k.toNat * sz = 0
            · have hn0 : k.toNat = 0 := by
                rcases Nat.mul_eq_zero.1 hz0 with h | h
                · exact h
                · omega
              have hn00 : k = 0 := by omega
              subst hn00
              have er : Array.range 0 = #[] := rfl
              simp [Instr.makeSlice, run_elT hel, asInt, asIntOf, typeInfo, hi, hw, sizeOf, newRow, er]
            · simp [Instr.makeSlice, run_elT hel, asInt, asIntOf, typeInfo, hi, hw, htl, sizeOf, hisz, hz0, zeroValue, hzv, newRow, hzc]
              rw [if_neg (by omega)]
              simp at hinit
              rw [hinit]
          simp [execOp, hop, hkv, hmv, hrun]
        · cases hf
      · cases hf
    · cases hf
  · rename_i t hop
    split at hf
    · rename_i e he
      split at hf
      · rename_i sz hsz
        simp only [Option.some.injEq, Prod.mk.injEq] at hf
        obtain ⟨rfl, rfl⟩ := hf
        refine ⟨[], e, .slice (some ⟨w.heap.size, 0, none⟩) 0 0, ?_, by simp [RepL], fun E' w' hg => by rw [io_sm, show (0 : Nat) = 2 * 0 from rfl, icap_even]; simp only [Rep]; exact ⟨_, hg, rfl⟩⟩
        have hrun : (Instr.buildSlice t 0 #[]).run P w = .ok (.slice (some ⟨w.heap.size, 0, none⟩) 0 0) (w.alloc (.cells (List.toArray []) e (0, 0))) := by
          unfold Instr.buildSlice
          simp only [Sem.run_bind, run_elT he, Result.andThen_ok, run_szT hsz, Nat.zero_mul]
          simp [Instr.fill, newRow, show Array.range 0 = #[] from rfl]
        simp only [execOp, hop]
        rw [Sem.run_bind, show (Array.map (fun p : Nat × Operand => (p.1, a.eval p.2)) #[]) = #[] from by simp, hrun]
        rfl
      · cases hf
    · cases hf
  · cases hf
theorem fobj_step {rd : Option Nat} {ops : Array Oper} {i n : Nat} {x : AV} {cs : List AV} {Qw : Exit → Act → World → Prop} {Kw : Act → World → Prop} (ho : ops[i]? = some o) (s : St E w a (T.map (io ks)) h D) (hw : awanted ops (T.map (io ks)) o = some true)
    (hf : fobj P (aev T) n o.op = some (x, cs)) (hn : n < h.length) (hat : h.at n = none) (hg : E.g n = none)
    (hk : ∀ E' w' v, Rel E' (Heap.at (h.set n (some (.cells (cs.map (io ks)))))) w' → Fresh E' h.length → Rep E' w' (io ks x) v → Fr E h.at w E' (Heap.at (h.set n (some (.cells (cs.map (io ks)))))) w' → (∀ id, id ≠ n → E'.g id = E.g id) → Kw (a.put o.dst v) w') :
    wpOpIn (fen rd) 0 P ops Qw i Kw a w := by
  obtain ⟨vs, t, v, hrun, hrep, hx⟩ := fobj_run s hf
  obtain ⟨g1, g2, g3⟩ := alloc_hole s.rel s.fresh hn hat hg hrep t
  unfold wpOpIn
  simp only [ho]
  rw [awanted_sound s hw]
  simp only [if_true]
  refine ⟨fun _ _ => trivial, ?_⟩
  have hnd : ∀ c, o.op ≠ .defer c := by
    intro c hc
    rw [hc] at hf
    simp [fobj] at hf
  rw [Oper.semAt_eq _ _ _ hnd, hrun]
  refine hk _ _ v g1 (by rw [List.length_set] at g3; exact g3) (hx _ _ (by simp)) g2 ?_
  intro id hne
  show (if id = n then _ else _) = _
  rw [if_neg hne]

end

end Go.AI.EV
