/-
  Joined: F12 F13 F14 F15 F16.
-/
import Derived.IntWalk
import Derived.Recover
import Derived.RangeFuncIn
import Derived.RangeFuncRecord
import Derived.RangeFuncSeq
import Derived.RangeFuncLeaves
import Derived.Test.YtplomildbmcmfaaGreatBFC

/-
  What simp unfolds when a body is run.
-/

namespace Go.AI

open Go
theorem runOps_nil (P : Program) (all : Array Oper) (K : List Oper → List AV → Heap → Prop) (T : List AV) (h : Heap) : runOps P all K [] T h = K [] T h := by simp only [runOps] <;> rfl
theorem runOps_cons (P : Program) (all : Array Oper) (K : List Oper → List AV → Heap → Prop) (o : Oper) (l : List Oper) (T : List AV) (h : Heap) : runOps P all K (o :: l) T h =
    (match awanted all T o with
    | some true => match aop P (aev T) h o.op with
      | some (x, h') => runOps P all K l (tput T o.dst x) h'
      | none => K (o :: l) T h
    | some false => runOps P all K l (tput T o.dst (.tup [])) h
    | none => K (o :: l) T h) := by simp only [runOps] <;> rfl
theorem drOps_nil (P : Program) (ops : Array Oper) (lo : List Nat) (K : List Nat → List Heap → List AV → Heap → Prop) (hist : List Heap) (T : List AV) (h : Heap) : drOps P ops lo K [] hist T h = K [] hist T h := by simp only [drOps] <;> rfl
theorem drOps_cons (P : Program) (ops : Array Oper) (lo : List Nat) (K : List Nat → List Heap → List AV → Heap → Prop) (i : Nat) (π : List Nat) (hist : List Heap) (T : List AV) (h : Heap) : drOps P ops lo K (i :: π) hist T h =
    (match ops[i]? with
    | none => False
    | some o => match awanted ops T o with
      | some false => drOps P ops lo K π (if isE o.op then hist ++ [h] else hist) (tput T o.dst (.tup [])) h
      | some true => match aop P (aev T) h o.op with
        | some (x, h') => if isE o.op then drOps P ops lo K π (hist ++ [h]) (tput T o.dst x) h' else stab P T x o.op (hist.drop (lo.getD i 0)) ∧ drOps P ops lo K π hist (tput T o.dst x) h
        | none => K (i :: π) hist T h
      | none => K (i :: π) hist T h) := by simp only [drOps] <;> rfl

attribute [simp] runOps_nil runOps_cons awanted aop aev tget tput cellsA ofVal isPrim aload astore afieldAddr afield abuiltin alen abin binV aun aconv aindexAddr aindex intA setMany keepT keepT.go Heap.at abuild abuildS afill afillS toPV toPVs patch oneA nonNil aifc aappend srcA srcSz amake aslice loA hiA maA acopy aclear aappS lenA anil isNilConst atassert acallee aresults atuple drOps_nil drOps_cons stab isE prims AV.under AV.underL AO.under
theorem wrap_id {n : Int} (h1 : -9223372036854775808 ≤ n) (h2 : n ≤ 9223372036854775807) : IntKind.i64.wrap n = n := IntWalk.i64_in n (by omega)
@[simp] theorem natCast_not_neg (n : Nat) : ((n : Int) < 0) = False := by simp
@[simp] theorem get_last (h l : List (Option AO)) (k : Nat) : (h ++ l)[h.length + k]? = l[k]? := by rw [List.getElem?_append_right (by omega)]; congr 1; omega
@[simp] theorem get_last0 (h l : List (Option AO)) : (h ++ l)[h.length]? = l[0]? := get_last h l 0
@[simp] theorem set_last (h l : List (Option AO)) (k : Nat) (o : Option AO) : (h ++ l).set (h.length + k) o = h ++ l.set k o := by rw [List.set_append_right _ _ (by omega)]; congr 2; omega
@[simp] theorem set_last0 (h l : List (Option AO)) (o : Option AO) : (h ++ l).set h.length o = h ++ l.set 0 o := set_last h l 0 o
@[simp] theorem take_last (h l : List (Option AO)) : (h ++ l).take h.length = h := by rw [List.take_append_of_le_length (Nat.le_refl _), List.take_length]
@[simp] theorem get_lastS (h l : List (Option AO)) (i k : Nat) (o : Option AO) : (h.set i o ++ l)[h.length + k]? = l[k]? := by have := get_last (h.set i o) l k; rwa [List.length_set] at this
@[simp] theorem get_lastS0 (h l : List (Option AO)) (i : Nat) (o : Option AO) : (h.set i o ++ l)[h.length]? = l[0]? := get_lastS h l i 0 o
@[simp] theorem set_lastS (h l : List (Option AO)) (i k : Nat) (o o' : Option AO) : (h.set i o ++ l).set (h.length + k) o' = h.set i o ++ l.set k o' := by have := set_last (h.set i o) l k o'; rwa [List.length_set] at this
@[simp] theorem set_lastS0 (h l : List (Option AO)) (i : Nat) (o o' : Option AO) : (h.set i o ++ l).set h.length o' = h.set i o ++ l.set 0 o' := set_lastS h l i 0 o o'
@[simp] theorem take_lastS (h l : List (Option AO)) (i : Nat) (o : Option AO) : (h.set i o ++ l).take h.length = h.set i o := by have := take_last (h.set i o) l; rwa [List.length_set] at this
@[simp] theorem get_left (h l : List (Option AO)) (i : Nat) (hi : i < h.length) : (h ++ l)[i]? = h[i]? := List.getElem?_append_left hi
@[simp] theorem set_left (h l : List (Option AO)) (i : Nat) (o : Option AO) (hi : i < h.length) : (h ++ l).set i o = h.set i o ++ l := List.set_append_left _ _ hi
@[simp] theorem get_leftS (h : List (Option AO)) (i : Nat) (o : Option AO) (hi : i < h.length) : (h.set i o)[i]? = some o := by simp [hi]

mutual
theorem AV.under_mono {n m : Nat} (h : n ≤ m) : ∀ {x : AV}, x.under n = true → x.under m = true
  | .p _, _ => by simp only [AV.under]
  | .agg cs, hx => by simp only [AV.under] at hx ⊢; exact AV.underL_mono h hx
  | .tup cs, hx => by simp only [AV.under] at hx ⊢; exact AV.underL_mono h hx
  | .ptr id _, hx => by simp only [AV.under, decide_eq_true_eq] at hx ⊢; omega
  | .sm id _ _ _ _, hx => by simp only [AV.under, decide_eq_true_eq] at hx ⊢; omega
  | .own tok _ _, hx => by simp only [AV.under, decide_eq_true_eq] at hx ⊢; omega
  | .fn _ xs ys, hx => by simp only [AV.under, Bool.and_eq_true] at hx ⊢; exact ⟨AV.underL_mono h hx.1, AV.underL_mono h hx.2⟩
  | .ifc _ x, hx => by simp only [AV.under] at hx ⊢; exact AV.under_mono h hx
  | .mp id, hx => by simp only [AV.under, decide_eq_true_eq] at hx ⊢; omega
  | .vec id _, hx => by simp only [AV.under, decide_eq_true_eq] at hx ⊢; omega
  | .junk, _ => by simp only [AV.under]
theorem AV.underL_mono {n m : Nat} (h : n ≤ m) : ∀ {xs : List AV}, AV.underL n xs = true → AV.underL m xs = true
  | [], _ => by simp only [AV.underL]
  | x :: xs, hx => by simp only [AV.underL, Bool.and_eq_true] at hx ⊢; exact ⟨AV.under_mono h hx.1, AV.underL_mono h hx.2⟩
end
theorem AO.under_mono {n m : Nat} (h : n ≤ m) {o : Option AO} (ho : AO.under n o = true) : AO.under m o = true := by
  cases o with
  | none => rfl
  | some o => cases o with
    | cells cs => exact AV.underL_mono h ho
    | tok _ _ => rfl
    | vec _ _ => rfl
    | aux x => cases x with
      | loop => exact AV.underL_mono h ho
      | dblk => rfl
      | map => rfl
theorem Weak.int {k : IntKind} {a b : Int} (h : a = b) : Weak (.p (.prim (.int k a))) (.p (.prim (.int k b))) := by subst h; exact Weak.refl _
def WF (h : Heap) : Prop := h.all (AO.under h.length) = true
theorem WF.nil : WF [] := rfl
theorem WF.app {h : Heap} (hh : WF h) {l : List (Option AO)} (hl : l.all (AO.under (h.length + l.length)) = true) : WF (h ++ l) := by
  unfold WF at *
  rw [List.all_append, Bool.and_eq_true, List.length_append]
  refine ⟨?_, hl⟩
  rw [List.all_eq_true] at hh ⊢
  exact fun o ho => AO.under_mono (by omega) (hh o ho)
theorem WF.set {h : Heap} (hh : WF h) {id : Nat} {o : Option AO} (ho : AO.under h.length o = true) : WF (List.set h id o) := by
  unfold WF at *
  rw [List.all_eq_true] at hh ⊢
  intro x hx
  rw [List.length_set]
  rcases List.mem_or_eq_of_mem_set hx with h1 | h1
  · exact hh x h1
  · rw [h1]; exact ho
theorem WF.all {h : Heap} (hh : WF h) : h.all (AO.under h.length) = true := hh
theorem Fin.ret' {P : Program} {fn : Func} {R : AOut → Heap → Prop} {T : List AV} {h h0 : Heap} {n : Nat} {l : List (Option AO)} {x y : AV} {xs : List AV} {ax : AX} (hax : (∀ v, ax ≠ .panic v) ∧ ∀ i, ax ≠ .exit i) (hn : h0.length = n) (hh : WF h0) (e : h = h0 ++ l) (hr : aresults P T h fn.results.toList = some xs) (hx : atuple xs = x) (hw : Weak x y) (hy : y.under n = true) (hR : R (.ret y) h0) :
    Fin P fn n R ax T h [] := by
  subst e hx hn
  have : ∃ l' y' h' m, aresults P T (h0 ++ l) fn.results.toList = some l' ∧ Settles (atuple l') (h0 ++ l) y' h' ∧ h0.length ≤ m ∧ m ≤ h'.length ∧ y'.under m = true ∧ (h'.take m).all (AO.under m) = true ∧ R (.ret y') (h'.take m) := by
    refine ⟨xs, y, h0 ++ l, h0.length, hr, Settles.weak hw _, Nat.le_refl _, by simp, hy, ?_, ?_⟩
    · rw [take_last]; exact hh
    · rw [take_last]; exact hR
  cases ax with
  | panic v => exact absurd rfl (hax.1 v)
  | exit v => exact absurd rfl (hax.2 v)
  | normal => exact ⟨rfl, this⟩
  | ret => exact ⟨rfl, this⟩
theorem Fin.ret {P : Program} {fn : Func} {R : AOut → Heap → Prop} {T : List AV} {h h0 : Heap} {l : List (Option AO)} {x y : AV} {xs : List AV} (hh : WF h0) (e : h = h0 ++ l) (hr : aresults P T h fn.results.toList = some xs) (hx : atuple xs = x) (hw : Weak x y) (hy : y.under h0.length = true) (hR : R (.ret y) h0) :
    Fin P fn h0.length R .ret T h [] := by
  subst e hx
  refine ⟨rfl, xs, y, h0 ++ l, h0.length, hr, Settles.weak hw _, Nat.le_refl _, by simp, hy, ?_, ?_⟩
  · rw [take_last]; exact hh
  · rw [take_last]; exact hR
theorem Run.tok {P : Program} {rd : Option Nat} {nb : Nat} {k : List It} {T : List AV} {h : Heap} {D : List AD} {Q : AX → List AV → Heap → List AD → Prop} (slot sz : Nat) (hs : tget T slot = .p (.prim (.slice none 0 0))) (r : Run P rd nb k (T.set slot (.own h.length sz [])) (h ++ [some (.tok 0 sz)]) D Q) : Run P rd nb k T h D Q := by
  intro E w a s
  obtain ⟨t1, t2, t3⟩ := s.rel.newTok s.fresh sz
  have s' := s.move t2 t1 (by simpa using t3)
  have hv := s.tmps.get slot
  rw [← tget_eq, hs] at hv
  simp only [Rep, RepP] at hv
  have hx : Rep { E with t := fun id => if id = h.length then some ⟨none, 0, 0⟩ else E.t id } w (.own h.length sz []) (.slice none 0 0) := by
    simp only [Rep]
    exact ⟨⟨none, 0, 0⟩, by simp, Nat.le_refl _, none, 0, rfl, Nat.le_refl _, .inl trivial, fun _ => ⟨rfl, rfl⟩⟩
  have hset := s'.tmps.set hx slot
  have hsame : (a.tmps.toList).set slot (.slice none 0 0) = a.tmps.toList := by
    apply List.ext_getElem?
    intro j
    rw [List.getElem?_set]
    split
    · rename_i e; subst e
      have h1 := hv.1
      rcases Nat.lt_or_ge slot a.tmps.size with l | l
      · simp [l] at h1 ⊢; exact h1.symm
      · have l' : ¬ slot < a.tmps.size := by omega
        simp [l']
    · rfl
  rw [hsame] at hset
  exact K_mono (P := P) (rd := rd) (Post.of_fr (Q := Q) t2) k _ _ _ (r _ w a ⟨s'.rel, s'.fresh, hset, s'.defers⟩)

end Go.AI

/-
  Panics, deferred calls, recover.
-/

namespace Go.AI

open Go

section

variable {P : Program} {rd : Option Nat} {nb : Nat} {k : List It} {T : List AV} {h : Heap} {D : List AD} {Q : AX → List AV → Heap → List AD → Prop} {all : Array Oper} {o : Oper} {rest : List Oper}
theorem Run.panic {x : Operand} {t : TypeId} {y : PV} (ho : o.op = .panic x) (hw : awanted all T o = some true) (hx : aev T x = .p (.ifc t y)) (hq : Q (.panic (.p (.ifc t y))) T h D) : Run P rd nb (.ops all (o :: rest) :: k) T h D Q := by
  intro E w a s
  have hr := aev_rep s x
  rw [hx] at hr
  have hr' := hr
  simp only [Rep, RepP] at hr
  obtain ⟨u, e, hu⟩ := hr
  show wpListIn (fen rd) 0 P all (K P rd (Post nb Q E h w) k) (o :: rest) a w
  simp only [wpListIn]
  rw [awanted_sound s hw]
  simp only [if_true]
  refine ⟨fun _ _ => trivial, ?_⟩
  rw [Oper.semAt_eq _ _ _ (fun c hc => by rw [hc] at ho; cases ho)]
  have : (execOp a.eval o).run P w = .halt (.panic (.iface t u)) w := by simp [execOp, ho, Instr.panic, e]
  rw [this]
  show K P rd (Post nb Q E h w) k (.panic _) a w
  rw [K_panic]
  exact ⟨E, T, h, D, .panic (.p (.ifc t y)), hq, s, (Fr.refl _ _ _).toN _, .iface t u, rfl, by rw [e] at hr'; exact hr'⟩
theorem Run.defer {c : Call} {f : Operand} {i : FuncId} {first cap : List AV} (ho : o.op = .defer c) (hw : awanted all T o = some true) (hc : c.callee = .value f) (hf : aev T f = .fn (.func i) first cap)
    (r : Run P none nb (.ops all rest :: k) (tput T o.dst (.tup [])) h ((.func i, cap, first ++ c.args.toList.map (aev T)) :: D) Q) : Run P none nb (.ops all (o :: rest) :: k) T h D Q := by
  intro E w a s
  have hr := aev_rep s f
  rw [hf] at hr
  simp only [Rep] at hr
  obtain ⟨vs, us, e, r1, r2⟩ := hr
  have hargs := aev_list s c.args.toList
  have hun : Rep E w (.tup []) undef := by simp only [Rep, RepL]; exact ⟨[], rfl, rfl⟩
  show wpListIn (fen none) 0 P all (K P none (Post nb Q E h w) k) (o :: rest) a w
  simp only [wpListIn]
  rw [awanted_sound s hw]
  simp only [if_true]
  refine ⟨fun _ _ => trivial, ?_⟩
  rw [Oper.semAt_none]
  have : (execOp a.eval o).run P w = .ok (.defer { target := .fn (.func i) (List.toArray us), args := List.toArray (vs ++ c.args.toList.map a.eval) }) w := by
    simp [execOp, ho, resolve, hc, e, Deferred.ofValue]
  rw [this]
  have s1 : St E w { a with defers := { target := .fn (.func i) (List.toArray us), args := List.toArray (vs ++ c.args.toList.map a.eval) } :: a.defers } T h ((.func i, cap, first ++ c.args.toList.map (aev T)) :: D) :=
    ⟨s.rel, s.fresh, s.tmps, us, vs ++ c.args.toList.map a.eval, a.defers, rfl, r2, r1.append hargs, s.defers⟩
  exact r E w _ (s1.put hun o.dst)

end
def ModeIs (E : Env) (w : World) : Option AV → FrameMode → Prop
  | none, u => u = .returning
  | some x, u => ∃ v, u = .panicking [{ v, recovered := false }] ∧ Rep E w x v
def recA : Option AV → AV
  | none => .p (.prim .nilIface)
  | some x => x
def ADef (P : Program) (f : FuncId) (args : List AV) (m : Option AV) (h h' : Heap) : Prop :=
  ∀ E w vs u, Rel E h.at w → Fresh E h.length → RepL E w args vs → ModeIs E w m u →
    CallsD P f (List.toArray vs) u w fun e u' w' => (∃ v, e = .returned v) ∧ settle u' = .returning ∧ ∃ E', Rel E' (Heap.at h') w' ∧ Fresh E' h'.length ∧ Fr E h.at w E' (Heap.at h') w'
theorem wpOpsS_of_list {P : Program} {ops : Array Oper} {Q : Exit → Act → List Frame → World → Prop} {cs : List Frame} (hQ : ∀ a w, ¬ Q .outgrown a cs w) :
    ∀ (l : List Nat) (a : Act) (w : World), wpOps P ops (fun e a w => Q e a cs w) l a w → wpOpsS P ops Q l a cs w
  | [], a, w, r => r
  | i :: l, a, w, r => by
    simp only [wpOps] at r
    simp only [wpOpsS]
    split
    · rename_i ho; simp only [ho] at r; exact wpOpsS_of_list hQ l a w r
    · rename_i o ho
      simp only [ho] at r
      split
      · rename_i hw
        simp only [hw, if_true] at r
        have r := r.resolve_right (fun ⟨_, a0, w0, hq⟩ => hQ a0 w0 hq)
        unfold Oper.wp at r
        split
        · rename_i w' hr
          rw [hr] at r
          exact r.elim
        · generalize (execOp a.eval o).run P w = rr at *
          cases rr with
          | ok n w' =>
            cases n <;> simp only [Oper.upon] at r ⊢ <;> first
              | exact wpOpsS_of_list hQ l _ _ r
              | exact Calls.mono r (fun e w'' he => by
                  cases e with
                  | returned v => exact wpOpsS_of_list hQ l _ _ he
                  | panicked ch => exact he
                  | outgrown => obtain ⟨x, y, z⟩ := he; exact absurd z (hQ _ _))
              | exact Rows.mono r (fun _ _ he => wpOpsS_of_list hQ l _ _ he)
          | halt x w' => cases x <;> simp only [Oper.upon] at r ⊢ <;> exact r
      · rename_i hw
        simp only [hw] at r
        exact wpOpsS_of_list hQ l _ _ r
theorem runOps_list {P : Program} {all : Array Oper} {D : List AD} {Q : Exit → Act → World → Prop} {R : List AV → Heap → Prop} :
    ∀ (l : List Oper) (T : List AV) (h : Heap) (E : Env) (w : World) (a : Act), runOps P all (fun l T h => l = [] ∧ R T h) l T h → St E w a T h D →
      (∀ E' w' a' T' h', R T' h' → St E' w' a' T' h' D → Fr E h.at w E' (Heap.at h') w' → Q .normal a' w') → wpList P all Q l a w
  | [], T, h, E, w, a, r, s, hQ => hQ E w a T h r.2 s (Fr.refl _ _ _)
  | o :: l, T, h, E, w, a, r, s, hQ => by
    simp only [runOps] at r
    simp only [wpList]
    split at r
    · rename_i hw
      rw [awanted_sound s hw]
      simp only [if_true]
      split at r
      · rename_i x h' ho
        left
        obtain ⟨E', w', n, v, hrun, hn, hr, hf, hx, hfr⟩ := aop_sound ho s
        have s' : St E' w' (a.put o.dst v) (tput T o.dst x) h' D := (s.move hfr hr hf).put hx o.dst
        have := runOps_list (Q := Q) l _ _ E' w' _ r s' (fun E2 w2 a2 T2 h2 hR hs hf2 => hQ E2 w2 a2 T2 h2 hR hs (hfr.trans hf2))
        unfold Oper.wp
        rw [hrun]
        rcases hn with rfl | ⟨rfl, rfl⟩ <;> exact this
      · cases r.1
    · rename_i hw
      rw [awanted_sound s hw]
      simp only [Bool.false_eq_true, if_false]
      exact runOps_list l _ _ E w _ r (s.put (by simp only [Rep, RepL]; exact ⟨[], rfl, rfl⟩) o.dst) hQ
    · cases r.1
theorem ADef.of_run {P : Program} {f : FuncId} {fn : Func} {c : Code} {id : Nat} {o0 : Oper} {os : List Oper} {ts : Array TypeId} {args : List AV} {m : Option AV} {h h' : Heap} (hf : P.funcs[f]? = some fn) (hb : fn.body = some (.seq (.region id (o0 :: os).toArray false) c))
    (ho : o0.op = .call ⟨.builtin .recover, #[], ts⟩) (hg : o0.guard = none)
    (r : ∀ K : List Oper → List AV → Heap → Prop, (∀ T g, Run P none h.length [.code c] T g [] (Fin P fn h.length fun o g => (∃ v, o = .ret v) ∧ g = h') → K [] T g) →
      runOps P (o0 :: os).toArray K os (tput (args ++ List.replicate (fn.ntmps - args.length) (.tup [])) o0.dst (recA m)) h) : ADef P f args m h h' := by
  intro E w vs u hrel hfresh hargs hm
  refine callsD_of_wpS hf hb ?_
  intro c₀ cs hmode
  -- the caller's frame behind recover
  obtain ⟨u', x, hrec, hset, hx⟩ : ∃ u' x, (recoverD (c₀ :: cs) = some (x, { c₀ with mode := u' } :: cs) ∨ (recoverD (c₀ :: cs) = none ∧ x = .nilIface ∧ { c₀ with mode := u' } = c₀)) ∧ settle u' = .returning ∧ Rep E w (recA m) x := by
    cases m with
    | none =>
      simp only [ModeIs] at hm; subst hm
      refine ⟨.returning, .nilIface, .inr ⟨?_, rfl, by rw [← hmode]⟩, rfl, by simp [recA, Rep, RepP, isPrim]⟩
      simp [recoverD, hmode]
    | some y =>
      simp only [ModeIs] at hm
      obtain ⟨v, rfl, hv⟩ := hm
      refine ⟨.panicking [{ v, recovered := true }], v, .inl ?_, rfl, hv⟩
      simp [recoverD, hmode]
  have s : St E w { tmps := List.toArray vs ++ Array.replicate (fn.ntmps - (List.toArray vs).size) undef, defers := [] } (args ++ List.replicate (fn.ntmps - args.length) (.tup [])) h [] := by
    refine ⟨hrel, hfresh, ?_, rfl⟩
    have hl := hargs.length
    have := hargs.append (RepL.replicate (E := E) (w := w) (fn.ntmps - args.length))
    simpa [hl] using this
  have hr0 := r (fun l T g => l = [] ∧ Run P none h.length [.code c] T g [] (Fin P fn h.length fun o g => (∃ v, o = .ret v) ∧ g = h')) (fun T g hh => ⟨rfl, hh⟩)
  have hs0 := s.put hx o0.dst
  generalize hA : ({ tmps := List.toArray vs ++ Array.replicate (fn.ntmps - (List.toArray vs).size) undef, defers := [] } : Act) = A at hs0 s ⊢
  -- what the body leaves
  have fin : ∀ e a w', Post h.length (Fin P fn h.length fun o g => (∃ v, o = .ret v) ∧ g = h') E h w e a w' →
      bodyPostS P fn c₀ cs (fun e u' w' => (∃ v, e = .returned v) ∧ settle u' = .returning ∧ ∃ E', Rel E' (Heap.at h') w' ∧ Fresh E' h'.length ∧ Fr E h.at w E' (Heap.at h') w') e a ({ c₀ with mode := u' } :: cs) w' := by
    rintro e a w' ⟨E', T', g, D', x', hq, s', hfr, hx'⟩
    have ret : (D' = [] ∧ ∃ l y h2 m, aresults P T' g fn.results.toList = some l ∧ Settles (atuple l) g y h2 ∧ h.length ≤ m ∧ m ≤ h2.length ∧ y.under m = true ∧ (h2.take m).all (AO.under m) = true ∧ (∃ v, AOut.ret y = .ret v) ∧ h2.take m = h') →
        a.defers = [] ∧ ∃ u'', ({ c₀ with mode := u' } :: cs) = { c₀ with mode := u'' } :: cs ∧ ∃ v, (results fn a.tmps).run P w' = .ok v w' ∧
          ((∃ v', Ending.returned v = .returned v') ∧ settle u'' = .returning ∧ ∃ E', Rel E' (Heap.at h') w' ∧ Fresh E' h'.length ∧ Fr E h.at w E' (Heap.at h') w') := by
      rintro ⟨rfl, l, y, h2, m, hl, hst, hmm, hm2, hy, hh, _, rfl⟩
      have hd := s'.defers
      simp only [RepD] at hd
      refine ⟨hd, u', rfl, ?_⟩
      obtain ⟨v, e1, e2⟩ := run_results (P := P) a.tmps s'.rel s'.tmps hl
      obtain ⟨E2, r2, f2, x2, g2⟩ := hst E' w' v s'.rel s'.fresh e2
      exact ⟨v, e1, ⟨v, rfl⟩, hset, E2.cut m, r2.cut m hh, Fresh.cut E2 hm2, (hfr.trans (g2.toN _)).cut hfresh hmm⟩
    cases x' with
    | normal => simp only [RepX] at hx'; subst hx'; exact ret hq
    | ret => simp only [RepX] at hx'; subst hx'; exact ret hq
    | exit id => exact hq.elim
    | panic x' =>
      obtain ⟨_, _, _, _, _, _, _, _, _, ⟨⟨v, hv⟩, _⟩⟩ := hq
      cases hv
  refine wpS_seq (wpS_region ?_)
  have hrange : List.range (o0 :: os).toArray.size = 0 :: List.range' 1 os.length := by
    rw [List.range_eq_range']; simp [List.range'_succ]
  rw [hrange]
  have hrunrec : (execOp A.eval o0).run P w = .ok .recover w := by
    simp [execOp, ho, resolve, invoke, builtin]
  have hz : (o0 :: os).toArray[0]? = some o0 := by simp
  have hwant : Region.wanted o0 (yielded (o0 :: os).toArray A.tmps) = true := by simp [Region.wanted, hg]
  have cont : ∀ cs', cs' = { c₀ with mode := u' } :: cs → wpOpsS P (o0 :: os).toArray (Exit.thenS (c.wpS P (bodyPostS P fn c₀ cs fun e u' w' => (∃ v, e = .returned v) ∧ settle u' = .returning ∧ ∃ E', Rel E' (Heap.at h') w' ∧ Fresh E' h'.length ∧ Fr E h.at w E' (Heap.at h') w'))
      (bodyPostS P fn c₀ cs fun e u' w' => (∃ v, e = .returned v) ∧ settle u' = .returning ∧ ∃ E', Rel E' (Heap.at h') w' ∧ Fresh E' h'.length ∧ Fr E h.at w E' (Heap.at h') w')) (List.range' 1 os.length) (A.put o0.dst x) cs' w := by
    rintro cs' rfl
    refine wpOpsS_of_list ?_ _ _ _ ?_
    · intro a w' hh
      simp only [Exit.thenS, bodyPostS] at hh
      obtain ⟨_, ⟨v, hv⟩, _⟩ := hh
      cases hv
    · rw [wpOps_eq_wpList os 1 (fun j => by simp [Nat.add_comm 1 j])]
      refine runOps_list os _ h E w _ hr0 hs0 ?_
      intro E2 w2 a2 T2 h2 hrun hs2 hf2
      simp only [Exit.thenS]
      have hk := hrun E2 w2 a2 hs2
      exact wpS_of_wp (wp_mono (wpIn_fen.1 hk) fun e a w' hp => fin e a w' (Post.of_fr hf2 _ _ _ hp))
  simp only [wpOpsS, hz, hwant, if_true, hrunrec]
  rcases hrec with hrec | ⟨hrec, rfl, hsame⟩
  · simp only [hrec]
    exact cont _ rfl
  · simp only [hrec]
    refine cont _ ?_
    rw [hsame]
def FinD (P : Program) (fn : Func) (n : Nat) (R : AOut → Heap → Prop) (x : AX) (T : List AV) (h : Heap) : List AD → Prop
  | [] => Fin P fn n R x T h []
  | [(.func f, cap, args)] => (∀ i, x ≠ .exit i) ∧ enterable P f = true ∧ ∃ h2, ADef P f (args ++ cap) (match x with | .panic v => some v | _ => none) h h2 ∧ Fin P fn n R .ret T h2 []
  | _ => False
theorem ACalls.of_runD {P : Program} {f : FuncId} {fn : Func} {c : Code} {args : List AV} {h : Heap} {R : AOut → Heap → Prop} (hf : P.funcs[f]? = some fn) (hb : fn.body = some c)
    (r : Run P none h.length [.code c] (args ++ List.replicate (fn.ntmps - args.length) (.tup [])) h [] (FinD P fn h.length R)) : ACalls P f args h R := by
  intro E w vs hrel hfresh hargs
  refine calls_of_wp_defers hf hb ?_
  have s : St E w { tmps := List.toArray vs ++ Array.replicate (fn.ntmps - (List.toArray vs).size) undef, defers := [] } (args ++ List.replicate (fn.ntmps - args.length) (.tup [])) h [] := by
    refine ⟨hrel, hfresh, ?_, rfl⟩
    have hl := hargs.length
    have := hargs.append (RepL.replicate (E := E) (w := w) (fn.ntmps - args.length))
    simpa [hl] using this
  refine wp_mono (wpIn_fen.1 (r E w _ s)) ?_
  rintro e a' w' ⟨E', T', h', D', x, hq, s', hfr, hx⟩
  have ret : ∀ (T1 : List AV) (h1 : Heap) (E1 : Env) (w1 : World), RepL E1 w1 T1 a'.tmps.toList → Rel E1 h1.at w1 → Fresh E1 h1.length → FrN h.length E h.at w E1 (Heap.at h1) w1 → Fin P fn h.length R .ret T1 h1 [] →
      ∃ v, (results fn a'.tmps).run P w1 = .ok v w1 ∧ ∃ out h'' E'', R out h'' ∧ Rel E'' (Heap.at h'') w1 ∧ Fresh E'' h''.length ∧ RepO E'' w1 out (.returned v) ∧ Fr E h.at w E'' (Heap.at h'') w1 := by
    rintro T1 h1 E1 w1 ht hr1 hf1 hfr1 ⟨_, l, y, h2, m, hl, hst, hm, hm2, hy, hh, hR⟩
    obtain ⟨v, e1, e2⟩ := run_results (P := P) a'.tmps hr1 ht hl
    obtain ⟨E2, r2, f2, x2, g2⟩ := hst E1 w1 v hr1 hf1 e2
    exact ⟨v, e1, .ret y, h2.take m, E2.cut m, hR, r2.cut m hh, Fresh.cut E2 hm2, ⟨v, rfl, x2.cut hy⟩, (hfr1.trans (g2.toN _)).cut hfresh hm⟩
  have hds := s'.defers
  match D', hq, hds with
  | [], hq, hds =>
    simp only [RepD] at hds
    simp only [FinD] at hq
    cases x with
    | normal => simp only [RepX] at hx; subst hx; simp only [bodyPostD, hds, Leaves]; exact ret T' h' E' w' s'.tmps s'.rel s'.fresh hfr hq
    | ret => simp only [RepX] at hx; subst hx; simp only [bodyPostD, hds, Leaves]; exact ret T' h' E' w' s'.tmps s'.rel s'.fresh hfr hq
    | exit id => exact hq.elim
    | panic x =>
      simp only [RepX] at hx
      obtain ⟨v, rfl, hv⟩ := hx
      obtain ⟨_, y, h2, m, hst, hm, hm2, hy, hh, hR⟩ := hq
      obtain ⟨E2, r2, f2, x2, g2⟩ := hst E' w' v s'.rel s'.fresh hv
      simp only [bodyPostD, hds, Leaves]
      exact ⟨.panic y, h2.take m, E2.cut m, hR, r2.cut m hh, Fresh.cut E2 hm2, ⟨v, rfl, x2.cut hy⟩, (hfr.trans (g2.toN _)).cut hfresh hm⟩
  | [(.func g, cap, dargs)], hq, hds =>
    obtain ⟨vc, va, rst, hd, hvc, hva, hrst⟩ := hds
    simp only [RepD] at hrst
    subst hrst
    obtain ⟨hnex, hent, h2, hdef, hfin⟩ := hq
    have hinv : ∀ w, (invoke (.fn (.func g) (List.toArray vc)) (List.toArray va)).run P w = .ok (.enter g (List.toArray (va ++ vc))) w := by
      intro w
      unfold enterable at hent
      cases e : P.funcs[g]? with
      | none => simp [e] at hent
      | some fn' =>
        simp only [e, Bool.and_eq_true, Bool.not_eq_true', beq_eq_false_iff_ne, ne_eq] at hent
        have hb' : fn'.body ≠ none := by intro hb'; simp [hb'] at hent
        simp [invoke, callFunc, e, hent.2, hb']
    have go : ∀ u, u ≠ .run → ModeIs E' w' (match x with | .panic v => some v | _ => none) u → Leaves P fn a'.tmps (fun e w'' => ∃ out h'' E'', R out h'' ∧ Rel E'' (Heap.at h'') w'' ∧ Fresh E'' h''.length ∧ RepO E'' w'' out e ∧ Fr E h.at w E'' (Heap.at h'') w'') a'.defers u w' := by
      intro u hu hmode
      rw [hd]
      refine leaves_cons hu (hinv w') ?_
      refine CallsD.mono (hdef E' w' (va ++ vc) u s'.rel s'.fresh (hva.append hvc) hmode) ?_
      rintro e u' w'' ⟨⟨v, rfl⟩, hset, E2, r2, f2, g2⟩
      show Leaves P fn a'.tmps _ [] (settle u') w''
      rw [hset]
      exact ret T' h2 E2 w'' (s'.tmps.ext g2.ext) r2 f2 (hfr.trans (g2.toN _)) hfin
    cases x with
    | normal => simp only [RepX] at hx; subst hx; exact go .returning (by simp) rfl
    | ret => simp only [RepX] at hx; subst hx; exact go .returning (by simp) rfl
    | exit id => exact absurd rfl (hnex id)
    | panic x =>
      simp only [RepX] at hx
      obtain ⟨v, rfl, hv⟩ := hx
      exact go (.panicking [{ v, recovered := false }]) (by simp) ⟨v, rfl, hv⟩

end Go.AI

/-
  Names that are given up in the middle of a run; tokens in cells; made slices that are frozen.
-/

namespace Go.AI

open Go
@[simp] def underD (n : Nat) : List AD → Bool
  | [] => true
  | (.yield id, _, _) :: l => decide (id < n) && underD n l
  | (_, cap, args) :: l => AV.underL n cap && AV.underL n args && underD n l
theorem RepD.cut {E w} {n : Nat} : ∀ {D : List AD} {ds : List Deferred}, underD n D = true → RepD E w D ds → RepD (E.cut n) w D ds
  | [], _, _, r => r
  | (f, _, _) :: _, _, hb, r => by
    cases f with
    | yield id =>
      simp only [underD, Bool.and_eq_true, decide_eq_true_eq] at hb
      obtain ⟨b, rest, hg, e, r3⟩ := r
      exact ⟨b, rest, by simp only [Env.cut, hb.1, if_true]; exact hg, e, RepD.cut hb.2 r3⟩
    | _ =>
      simp only [underD, Bool.and_eq_true] at hb
      obtain ⟨vc, va, rest, e, r1, r2, r3⟩ := r
      exact ⟨vc, va, rest, e, r1.cut hb.1.1, r2.cut hb.1.2, RepD.cut hb.2 r3⟩

section

variable {P : Program} {rd : Option Nat} {nb : Nat} {k : List It} {T : List AV} {h : Heap} {D : List AD} {Q : AX → List AV → Heap → List AD → Prop}
theorem Run.cut (n : Nat) (hn : nb ≤ n) (hn2 : n ≤ h.length) (hT : AV.underL n T = true) (hh : (h.take n).all (AO.under n) = true) (hD : underD n D = true) (r : Run P rd nb k T (h.take n) D Q) : Run P rd nb k T h D Q := by
  intro E w a s
  have s' : St (E.cut n) w a T (h.take n) D := ⟨s.rel.cut n hh, Fresh.cut E hn2, s.tmps.cut hT, s.defers.cut hD⟩
  have hat : ∀ id o, Heap.at (h.take n) id = some o → id < n ∧ h.at id = some o := by
    intro id o e
    rw [at_take] at e
    split at e
    · exact ⟨by assumption, e⟩
    · cases e
  have hfr : FrN nb E h.at w (E.cut n) (Heap.at (h.take n)) w := by
    refine ⟨fun _ _ _ => rfl, fun _ _ h => h, fun _ _ _ => rfl, fun id b l e => ?_, fun id L l e => ⟨L, ?_, Nat.le_refl _, fun _ => rfl⟩, fun _ _ h => .inl h, Nat.le_refl _, fun b ⟨id, ho⟩ => .inl ⟨id, ?_⟩, Kp.refl w⟩
    · have : id < n := by omega
      simp only [Env.cut, this, if_true]; exact e
    · have : id < n := by omega
      simp only [Env.cut, this, if_true]; exact e
    · rcases ho with ⟨c, h1, h3, h2⟩ | ⟨m, sz, c, j, h1, h2⟩
      · obtain ⟨l, h1⟩ := hat _ _ h1; simp only [Env.cut, l, if_true] at h2; exact .inl ⟨c, h1, h3, h2⟩
      · obtain ⟨l, h1⟩ := hat _ _ h1; simp only [Env.cut, l, if_true] at h2; exact .inr ⟨m, sz, c, j, h1, h2⟩
  exact K_mono (P := P) (rd := rd) (Post.of_frN (Q := Q) hfr) k _ _ _ (r _ w a s')

end
theorem keepT_weak (keep : List Nat) : ∀ (T : List AV) (i : Nat), WeakL T (keepT.go keep i T)
  | [], _ => WeakL.refl _
  | x :: T, i => by
    simp only [keepT.go]
    refine WeakL.cons ?_ (keepT_weak keep T (i + 1))
    split
    · exact Weak.refl _
    · exact Weak.junk _
theorem Run.keep {P : Program} {rd : Option Nat} {nb : Nat} {k : List It} {T : List AV} {h : Heap} {D : List AD} {Q : AX → List AV → Heap → List AD → Prop} (keep : List Nat) (r : Run P rd nb k (keepT keep T) h D Q) : Run P rd nb k T h D Q :=
  Run.weak (keepT_weak keep T 0) r
theorem take_lastK (h l : List (Option AO)) (k : Nat) : (h ++ l).take (h.length + k) = h ++ l.take k := by
  rw [List.take_append, List.take_of_length_le (by omega)]; congr 2; omega
theorem Run.cutAt {P : Program} {rd : Option Nat} {nb : Nat} {k : List It} {T : List AV} {h h0 : Heap} {l : List (Option AO)} {D : List AD} {Q : AX → List AV → Heap → List AD → Prop} (m : Nat) (hh : WF h0) (e : h = h0 ++ l) (hn : nb ≤ h0.length) (hm : m ≤ l.length) (hT : AV.underL (h0.length + m) T = true)
    (hl : (l.take m).all (AO.under (h0.length + m)) = true) (hD : underD (h0.length + m) D = true) (r : Run P rd nb k T (h0 ++ l.take m) D Q) : Run P rd nb k T h D Q := by
  subst e
  refine Run.cut (h0.length + m) (by omega) (by simp; omega) hT ?_ hD (by rw [take_lastK]; exact r)
  rw [take_lastK, List.all_append, Bool.and_eq_true]
  refine ⟨?_, hl⟩
  have := hh.all
  rw [List.all_eq_true] at this ⊢
  exact fun o ho => AO.under_mono (by omega) (this o ho)

/- Heaps whose length is a letter. -/
@[simp] theorem all_one_map (l : List PV) : (l.map AV.p).all oneA = true := by
  induction l with
  | nil => rfl
  | cons x l ih => simp [oneA, ih]
@[simp] theorem all_one_map' (l : List PV) : (∀ x ∈ l.map AV.p, oneA x = true) = True := by
  simp

end Go.AI

/-
  Ranges over functions: yield, a round, the statement, a function that leaves with a mark.
-/

namespace Go.AI

open Go
def AYield (P : Program) (l : Nat) (args : List AV) (h : Heap) (R : AOut → Heap → Prop) : Prop :=
  ∀ E w vs, Rel E h.at w → Fresh E h.length → RepL E w args vs →
    YieldAt (fen none) 0 P l (List.toArray vs) w fun e w' => ∃ out h' E', R out h' ∧ Rel E' (Heap.at h') w' ∧ Fresh E' h'.length ∧ RepO E' w' out e ∧ Fr E h.at w E' (Heap.at h') w'
theorem AYield.mono {P l args h R R'} (c : AYield P l args h R) (hr : ∀ out h', R out h' → R' out h') : AYield P l args h R' :=
  fun E w vs h1 h2 h3 => by
    obtain ⟨fn, tmps, as, bd, e, hround⟩ := c E w vs h1 h2 h3
    exact ⟨fn, tmps, as, bd, e, hround.mono fun _ _ ⟨out, h', E', hR, rest⟩ => ⟨out, h', E', hr _ _ hR, rest⟩⟩
def acalleeY (T : List AV) (c : Call) : Option (Nat × List AV) :=
  match c.callee with
  | .value f => match aev T f with
    | .fn (.yield l) [] [] => some (l, c.args.toList.map (aev T))
    | _ => none
  | _ => none

attribute [simp] acalleeY

section

variable {P : Program} {rd : Option Nat} {nb : Nat} {k : List It} {T : List AV} {h : Heap} {D : List AD} {Q : AX → List AV → Heap → List AD → Prop} {all : Array Oper} {o : Oper} {rest : List Oper}
theorem acalleeY_sound {E w a} {c : Call} {l : Nat} {args : List AV} {o : Oper} (s : St E w a T h D) (hc : acalleeY T c = some (l, args)) (ho : o.op = .call c) :
    ∃ vs, (execOp a.eval o).run P w = (Instr.yield l (List.toArray vs)).run P w ∧ RepL E w args vs := by
  unfold acalleeY at hc
  split at hc
  · rename_i fo hcal
    have hf := aev_rep s fo
    have hargs := aev_list s c.args.toList
    split at hc
    · rename_i i hev
      simp only [Option.some.injEq, Prod.mk.injEq] at hc
      obtain ⟨rfl, rfl⟩ := hc
      rw [hev] at hf
      simp only [Rep, RepL] at hf
      obtain ⟨vs, us, hv, rfl, rfl⟩ := hf
      refine ⟨c.args.toList.map a.eval, ?_, hargs⟩
      have e : (List.toArray (c.args.toList.map a.eval)) = c.args.map a.eval := by apply Array.ext'; simp
      rw [e]
      simp [execOp, ho, resolve, hcal, hv, Deferred.ofValue, invoke]
    · cases hc
  · cases hc
theorem Run.yield {c : Call} {l : Nat} {args : List AV} {R : AOut → Heap → Prop} (ho : o.op = .call c) (hw : awanted all T o = some true) (hc : acalleeY T c = some (l, args))
    (hR : AYield P l args h R) (hret : ∀ v h', R (.ret v) h' → Run P rd nb (.ops all rest :: k) (tput T o.dst v) h' D Q) (hpan : ∀ v h', R (.panic v) h' → Q (.panic v) T h' D) :
    Run P rd nb (.ops all (o :: rest) :: k) T h D Q := by
  intro E w a s
  obtain ⟨vs, hrun, hvs⟩ := acalleeY_sound (P := P) s hc ho
  obtain ⟨fn, tmps, as, bd, hy, hround⟩ := hR E w vs s.rel s.fresh hvs
  show wpListIn (fen rd) 0 P all (K P rd (Post nb Q E h w) k) (o :: rest) a w
  simp only [wpListIn]
  rw [awanted_sound s hw]
  simp only [if_true]
  refine ⟨fun _ _ => trivial, ?_⟩
  rw [Oper.semAt_eq _ _ _ (fun c hc => by rw [hc] at ho; cases ho), hrun, hy]
  refine ⟨fun hd => (by cases hd), ?_⟩
  refine RoundIn.mono (F := fen rd) (n := 0) (R := fun e w' => ∃ out h' E', R out h' ∧ Rel E' (Heap.at h') w' ∧ Fresh E' h'.length ∧ RepO E' w' out e ∧ Fr E h.at w E' (Heap.at h') w') hround ?_
  rintro e w' ⟨out, h', E', hr, hrel, hf, hout, hfr⟩
  have s' := s.move hfr hrel hf
  cases out with
  | ret x =>
    simp only [RepO] at hout
    obtain ⟨v, rfl, hx⟩ := hout
    have := hret x h' hr E' w' _ (s'.put hx o.dst)
    exact K_mono (P := P) (rd := rd) (Post.of_fr (Q := Q) hfr) (.ops all rest :: k) _ _ _ this
  | panic x =>
    simp only [RepO] at hout
    obtain ⟨v, rfl, hx⟩ := hout
    show K P rd (Post nb Q E h w) k (.panic _) a w'
    rw [K_panic]
    exact ⟨E', T, h', D, .panic x, hpan x h' hr, s', hfr.toN _, v, rfl, hx⟩

end
@[simp] def putMany (T : List AV) : List Tmp → List AV → List AV
  | p :: ps, x :: xs => putMany (T.set p x) ps xs
  | _, _ => T
theorem putMany_rep {E w} : ∀ (ps : List Tmp) (xs : List AV) (vs : List Value) (T : List AV) (tmps : Array Value), RepL E w xs vs → RepL E w T tmps.toList →
    RepL E w (putMany T ps xs) ((ps.zip vs).foldl (fun tmps (t, a) => tmps.setIfInBounds t a) tmps).toList
  | [], _, vs, T, tmps, _, ht => by simpa using ht
  | p :: ps, [], vs, T, tmps, hx, ht => by simp only [RepL] at hx; subst hx; simpa using ht
  | p :: ps, x :: xs, vs, T, tmps, hx, ht => by
    simp only [RepL] at hx
    obtain ⟨v, us, rfl, h1, h2⟩ := hx
    simp only [putMany, List.zip_cons_cons, List.foldl_cons]
    refine putMany_rep ps xs us _ _ h2 ?_
    rw [Array.toList_setIfInBounds]
    exact ht.set h1 p
def jumpOf : AX → Option (Option Code)
  | .normal => some none
  | .ret => some (some .ret)
  | .exit i => some (some (.exit i))
  | .panic _ => none
def stOf (j : Option Code) : LoopState := if j.isNone then .ready else .done
def FinY (l id n : Nat) (T0 : List AV) (ps : Array Tmp) (as bd : Code) (R : AOut → Heap → Prop) (x : AX) (_ : List AV) (h : Heap) (D : List AD) : Prop :=
  ∃ j m, jumpOf x = some j ∧ D = [] ∧ n ≤ m ∧ m ≤ h.length ∧ h.at id = some (.aux (.loop l .busy none T0 ps as bd)) ∧
    ((h.set id (some (.aux (.loop l (stOf j) j T0 ps as bd)))).take m).all (AO.under m) = true ∧
    R (.ret (.p (.prim (.bool j.isNone)))) ((h.set id (some (.aux (.loop l (stOf j) j T0 ps as bd)))).take m)
theorem Rel.turn {E : Env} {h : Heap} {w : World} (r : Rel E h.at w) {id l : Nat} {st : LoopState} {j : Option Code} {T : List AV} {ps : Array Tmp} {as bd : Code} (hid : h.at id = some (.aux (.loop l st j T ps as bd))) (st' : LoopState) (j' : Option Code) :
    ∃ rc : Loop, w.heap[l]? = some (.loop rc) ∧ rc.state = st ∧ rc.pending = j ∧ rc.params = ps ∧ rc.assign = as ∧ rc.body = bd ∧ RepL E w T rc.tmps.toList ∧ E.g id = some l ∧
      ∀ rc' : Loop, rc' = { rc with state := st', pending := j' } → Rel E (Heap.at (h.set id (some (.aux (.loop l st' j' T ps as bd))))) (w.putObj l (.loop rc')) ∧ Fr E h.at w E (Heap.at (h.set id (some (.aux (.loop l st' j' T ps as bd))))) (w.putObj l (.loop rc')) := by
  obtain ⟨b, hg, rfl, rc, hrc, h1, h2, h3, h4, h5, h6⟩ := r.objsO id _ hid rfl
  refine ⟨rc, hrc, h1, h2, h3, h4, h5, h6, hg, ?_⟩
  rintro rc' rfl
  refine Rel.writeO r hid rfl rfl hg (fun hx => ⟨rfl, _, World.putObj_heap_same (lt_of_heap hrc), rfl, rfl, h3, h4, h5, h6.ext hx⟩) (fun b' hb => World.putObj_heap_other hb) World.putObj_size rfl rfl
theorem AYield.of_run {P : Program} {l id : Nat} {T : List AV} {ps : Array Tmp} {as bd : Code} {args : List AV} {h : Heap} {R : AOut → Heap → Prop} (hid : h.at id = some (.aux (.loop l .ready none T ps as bd))) (hps : args.length = ps.size)
    (r : Run P (some l) h.length [.code as] (putMany T ps.toList args) h [] fun x T1 h1 D1 => x = .normal ∧ D1 = [] ∧ h1.at id = some (.aux (.loop l .ready none T ps as bd)) ∧
      Run P (some l) h.length [.code bd] T1 (h1.set id (some (.aux (.loop l .busy none T ps as bd)))) [] (FinY l id h.length T ps as bd R)) : AYield P l args h R := by
  intro E w vs hrel hfresh hargs
  obtain ⟨rc, hrc, h1, h2, h3, h4, h5, h6, hg, _⟩ := hrel.turn hid .ready none
  have hl := hargs.length
  have hy := run_yield (P := P) (args := List.toArray vs) hrc (by rw [h3, ← hps, ← hl]; simp)
  refine ⟨rc.fn, _, rc.assign, rc.body, hy, ?_⟩
  rw [h4, h5]
  refine roundIn_of_wpIn trivial ?_
  have hidlt : id < h.length := lt_of_at hid
  have s : St E w { tmps := (rc.params.zip (List.toArray vs)).foldl (fun tmps (t, a) => tmps.setIfInBounds t a) rc.tmps, defers := [] } (putMany T ps.toList args) h [] := by
    refine ⟨hrel, hfresh, ?_, rfl⟩
    have := putMany_rep ps.toList args vs T rc.tmps hargs h6
    have e : (rc.params.zip (List.toArray vs)).foldl (fun tmps (x : Tmp × Value) => tmps.setIfInBounds x.1 x.2) rc.tmps = (ps.toList.zip vs).foldl (fun tmps (x : Tmp × Value) => tmps.setIfInBounds x.1 x.2) rc.tmps := by
      rw [← Array.foldl_toList, Array.toList_zip, h3]
    show RepL E w _ ((rc.params.zip (List.toArray vs)).foldl (fun tmps (x : Tmp × Value) => tmps.setIfInBounds x.1 x.2) rc.tmps).toList
    rw [e]; exact this
  have hrun := r E w _ s
  refine wpIn_mono (Q := Post h.length _ E h w) hrun ?_
  rintro e a₁ w₁ ⟨E1, T1, g1, D1, x, ⟨rfl, rfl, hid1, hbody⟩, s1, hfr1, hx⟩
  simp only [RepX] at hx
  subst hx
  obtain ⟨rc1, hrc1, k1, k2, k3, k4, k5, k6, hg1, hturn⟩ := s1.rel.turn hid1 .busy none
  obtain ⟨t1, t2⟩ := hturn { rc1 with state := .busy } (by rw [← k2])
  refine ⟨_, run_beginRound hrc1 k1, ?_⟩
  have s2 := s1.move t2 t1 (s1.fresh.set)
  refine wpIn_mono (Q := Post h.length _ E1 (g1.set id (some (.aux (.loop l .busy none T ps as bd)))) (w₁.putObj l (.loop { rc1 with state := .busy }))) (hbody _ _ _ s2) ?_
  rintro e a₂ w₂ ⟨E2, T2, g2, D2, x, ⟨j, m, hj, rfl, hm1, hm2, hid2, hun, hR⟩, s3, hfr3, hx⟩
  obtain ⟨rc2, hrc2, q1, q2, q3, q4, q5, q6, hg2, hturn2⟩ := s3.rel.turn hid2 (stOf j) j
  obtain ⟨u1, u2⟩ := hturn2 { rc2 with state := if j.isNone then .ready else .done, pending := j } rfl
  have hend := run_endRound (P := P) j hrc2
  have res : ∃ out h' E', R out h' ∧ Rel E' (Heap.at h') (w₂.putObj l (.loop { rc2 with state := if j.isNone then .ready else .done, pending := j })) ∧ Fresh E' h'.length ∧
      RepO E' (w₂.putObj l (.loop { rc2 with state := if j.isNone then .ready else .done, pending := j })) out (.returned (.bool j.isNone)) ∧
      Fr E h.at w E' (Heap.at h') (w₂.putObj l (.loop { rc2 with state := if j.isNone then .ready else .done, pending := j })) := by
    refine ⟨_, _, E2.cut m, hR, u1.cut m hun, Fresh.cut E2 (by simpa using hm2), ⟨_, rfl, by simp [Rep, RepP, isPrim]⟩, ?_⟩
    exact ((hfr1.trans (t2.toN _)).trans (hfr3.trans (u2.toN _))).cut hfresh hm1
  cases x with
  | normal => simp only [RepX] at hx; subst hx; simp only [jumpOf, Option.some.injEq] at hj; subst hj; exact ⟨_, _, hend, res⟩
  | ret => simp only [RepX] at hx; subst hx; simp only [jumpOf, Option.some.injEq] at hj; subst hj; exact ⟨_, _, hend, res⟩
  | exit i => simp only [RepX] at hx; subst hx; simp only [jumpOf, Option.some.injEq] at hj; subst hj; exact ⟨_, _, hend, res⟩
  | panic v => simp [jumpOf] at hj
theorem Run.range {P : Program} {nb : Nat} {k : List It} {T : List AV} {h : Heap} {D : List AD} {Q : AX → List AV → Heap → List AD → Prop} {g : Operand} {ps : Array Tmp} {as bd : Code} {gf : FuncId} {cap : List AV} (hg : aev T g = .fn (.func gf) [] cap) (he : enterable P gf = true)
    (r : ∀ l, ∃ R : AOut → Heap → Prop, ACalls P gf (.fn (.yield l) [] [] :: cap) (h ++ [some (.aux .dblk), some (.aux (.loop l .ready none T ps as bd))]) R ∧
      ∀ o h', R o h' → ∃ v st j, o = .ret v ∧ h'.at (h.length + 1) = some (.aux (.loop l st j T ps as bd)) ∧ st ≠ .busy ∧
        Run P none nb (match j with | none => k | some c => .code c :: k) T (h'.set (h.length + 1) (some (.aux (.loop l .exhausted j T ps as bd)))) ((.yield h.length, [], []) :: D) Q) :
    Run P none nb (.code (.rangeFunc g ps as bd) :: k) T h D Q := by
  intro E w a s
  show (Code.rangeFunc g ps as bd).wpIn (fen none) 0 P (K P none (Post nb Q E h w) k) a w
  refine wpIn_rangeFunc ?_
  intro fn _
  obtain ⟨R, hcall, hret⟩ := r (w.heap.size + 1)
  have hev := aev_rep s g
  rw [hg] at hev
  simp only [Rep, RepL] at hev
  obtain ⟨_, us, hv, rfl, hus⟩ := hev
  -- the two blocks
  obtain ⟨a1, a2, a3⟩ := Rel.allocO s.rel s.fresh (o := .aux .dblk) (ob := .deferred (some [])) rfl (fun _ _ _ e => by cases e) (fun _ => alloc_new _)
  generalize hE1 : ({ E with g := fun id => if id = h.length then some w.heap.size else E.g id } : Env) = E1 at a1 a2 a3
  have hsz : (w.alloc (.deferred (some []))).heap.size = w.heap.size + 1 := alloc_size _
  obtain ⟨rc, hrc⟩ : ∃ rc : Loop, rc = { state := .ready, pending := none, fn, tmps := a.tmps, params := ps, assign := as, body := bd, defers := w.heap.size } := ⟨_, rfl⟩
  obtain ⟨b1, b2, b3⟩ := Rel.allocO a1 (h := h ++ [some (.aux .dblk)]) (by simpa using a3) (o := .aux (.loop (w.heap.size + 1) .ready none T ps as bd)) (ob := .loop rc) rfl (fun _ _ _ e => by cases e)
    (fun hx => by
      have ht : rc.tmps = a.tmps := by rw [hrc]
      refine ⟨hsz, rc, alloc_new _, by rw [hrc], by rw [hrc], by rw [hrc], by rw [hrc], by rw [hrc], ?_⟩
      rw [ht]
      exact (s.tmps.ext a2.ext).ext hx)
  rw [List.append_assoc] at b1 b2
  simp only [List.length_append, List.length_cons, List.length_nil] at b1 b2 b3
  have hE2 : ∃ E2, E2 = ({ E1 with g := fun id => if id = h.length + (0 + 1) then some (w.alloc (.deferred (some []))).heap.size else E1.g id } : Env) := ⟨_, rfl⟩
  obtain ⟨E2, hE2⟩ := hE2
  rw [← hE2] at b1 b2 b3
  have f12 := a2.trans b2
  have hargs : RepL E2 ((w.alloc (.deferred (some []))).alloc (.loop rc)) (.fn (.yield (w.heap.size + 1)) [] [] :: cap) (.func (.yield (w.heap.size + 1)) #[] #[] :: us) := by
    simp only [RepL, Rep]
    exact ⟨_, us, rfl, ⟨[], [], rfl, rfl, rfl⟩, hus.ext f12.ext⟩
  refine ⟨w.heap.size + 1, [{ target := .collected w.heap.size, args := #[] }], (w.alloc (.deferred (some []))).alloc (.loop rc), { target := .fn (.func gf) (List.toArray us), args := #[.func (.yield (w.heap.size + 1)) #[] #[]] }, (w.alloc (.deferred (some []))).alloc (.loop rc), gf,
    List.toArray (.func (.yield (w.heap.size + 1)) #[] #[] :: us), (w.alloc (.deferred (some []))).alloc (.loop rc), ?_, ?_, fun _ _ => trivial, ?_, fun hd => (by cases hd), ?_⟩
  · rw [hrc]; exact run_enterLoop_outer _ _ _ _ _
  · simp only [resolve, hv]
    simp [go_sem]
  · unfold enterable at he
    cases e : P.funcs[gf]? with
    | none => simp [e] at he
    | some fn' =>
      simp only [e, Bool.and_eq_true, Bool.not_eq_true', beq_eq_false_iff_ne, ne_eq] at he
      have hb' : fn'.body ≠ none := by intro hb'; simp [hb'] at he
      simp [invoke, callFunc, e, he.2, hb']
  · refine callsIn_fen.2 (Calls.mono (hcall E2 _ _ b1 (by simpa using b3) hargs) ?_)
    rintro e w' ⟨out, h', E', hR, hrel, hf, hout, hfr⟩
    obtain ⟨v, st, j, rfl, hat, hst, hrun⟩ := hret out h' hR
    simp only [RepO] at hout
    obtain ⟨rv, rfl, _⟩ := hout
    obtain ⟨rc2, hrc2, q1, q2, q3, q4, q5, q6, hg2, hturn⟩ := hrel.turn hat .exhausted j
    obtain ⟨u1, u2⟩ := hturn { rc2 with state := .exhausted } (by rw [← q2])
    have hend := run_endLoop (P := P) hrc2 (by rw [q1]; exact hst)
    have fall := (f12.trans hfr).trans u2
    generalize w'.putObj (w.heap.size + 1) (.loop { rc2 with state := .exhausted }) = W4 at u1 u2 hend fall
    have hmark : E'.g h.length = some w.heap.size := by
      have e1 : E1.g h.length = some w.heap.size := by rw [← hE1]; exact if_pos rfl
      have e2 := b2.ext.g _ _ e1
      exact hfr.ext.g _ _ e2
    have s' : St E' W4 { a with defers := { target := .collected w.heap.size, args := #[] } :: a.defers } T
        (h'.set (h.length + 1) (some (.aux (.loop (w.heap.size + 1) .exhausted j T ps as bd)))) ((.yield h.length, [], []) :: D) :=
      ⟨u1, hf.set, s.tmps.ext fall.ext, ⟨w.heap.size, a.defers, hmark, rfl, s.defers.ext fall.ext⟩⟩
    refine ⟨rc2.pending, _, hend, ?_⟩
    rw [q2]
    have := hrun E' _ _ s'
    cases j with
    | none => exact K_mono (P := P) (rd := none) (Post.of_fr (Q := Q) fall) k _ _ _ this
    | some c => exact wpIn_mono this (K_mono (P := P) (rd := none) (Post.of_fr (Q := Q) fall) k)
theorem Rel.drop {E : Env} {h : Heap} {w w' : World} (r : Rel E h.at w) {id b : Nat} {o : AO} (hid : h.at id = some o) (hn : o.named = true) (hg : E.g id = some b)
    (hsame : ∀ b', b' ≠ b → w'.heap[b']? = w.heap[b']?) (hsz : w'.heap.size = w.heap.size) (hos : w'.os = w.os) (hout : w'.output = w.output) (hf : ∀ off, w'.frozen? ⟨b, off, none⟩ = false) :
    Rel E (Heap.at (h.set id none)) w' ∧ Fr E h.at w E (Heap.at (h.set id none)) w' := by
  have hlt := lt_of_at hid
  have hnb : ∀ b' off, E.ro b' off → b' ≠ b := fun b' off hb e => r.sepO id o b off hid hn hg (e ▸ hb)
  have hx : Ext E w E w' := ⟨fun _ _ h => h, fun b' off hb => cell_of_heap (hsame b' (hnb b' off hb)) off, fun _ _ h => h, fun _ L h => ⟨L, h, Nat.le_refl _, fun _ => rfl⟩⟩
  have hold : ∀ id', id' ≠ id → Heap.at (h.set id none) id' = h.at id' := fun id' hne => by rw [at_set _ _ _ _ hlt, if_neg hne]
  have hnew : Heap.at (h.set id none) id = none := by rw [at_set _ _ _ _ hlt, if_pos rfl]
  have hne : ∀ id' o, Heap.at (h.set id none) id' = some o → id' ≠ id := fun id' o e e' => by subst e'; rw [hnew] at e; cases e
  have hO : ∀ id' b', Owns E (Heap.at (h.set id none)) id' b' → id' ≠ id ∧ Owns E h.at id' b' := by
    intro id' b' ho
    rcases ho with ⟨c, h1, h3, h2⟩ | ⟨c, x, c', m, h1, hk, h2⟩
    · have e := hne _ _ h1; rw [hold id' e] at h1; exact ⟨e, .inl ⟨c, h1, h3, h2⟩⟩
    · have e := hne _ _ h1; rw [hold id' e] at h1; exact ⟨e, .inr ⟨c, x, c', m, h1, hk, h2⟩⟩
  have hob : Owns E h.at id b := .inl ⟨_, hid, hn, hg⟩
  have hneq : ∀ id' b', id' ≠ id → Owns E h.at id' b' → b' ≠ b := fun id' b' hne ho e => hne (r.inj id' id b (e ▸ ho) hob)
  have hkp : Kp w w' := by
    obtain ⟨b0, hg0, ho0⟩ := r.objsO id o hid hn
    rw [hg] at hg0; cases hg0
    exact Kp.turn hos hout hsame (fun off => ho0.frozen off) hf
  refine ⟨⟨fun id' c hc hm => ?_, fun id' c n sz k cs hc hk => ?_, fun i i' b' h1 h2 => r.inj i i' b' (hO _ _ h1).2 (hO _ _ h2).2, fun id' c b' off hc hm hg' hb => ?_, fun id' c n sz k cs b' c' m off hc hk hg' hl hb => ?_, fun b' off hb => by rw [hsz]; exact r.lt b' off hb⟩,
    ⟨fun b' _ hnn => hsame b' (fun e => hnn ⟨id, e ▸ hob⟩), hx, fun _ _ h => .inl h, by rw [hsz]; exact Nat.le_refl _, fun b' ⟨i, ho⟩ => .inl ⟨i, (hO _ _ ho).2⟩, hkp⟩⟩
  · have e := hne _ _ hc; rw [hold id' e] at hc
    obtain ⟨b', hg', ho⟩ := r.objsO id' c hc hm
    exact ⟨b', hg', ho.move hx (hsame b' (hneq id' b' e (.inl ⟨c, hc, hm, hg'⟩)))⟩
  · have e := hne _ _ hc; rw [hold id' e] at hc
    obtain ⟨blk, cap, ht, h1, h2, h3⟩ := r.toks id' c n sz k cs hc hk
    refine ⟨blk, cap, ht, h1, h2, fun b' hb => ?_⟩
    obtain ⟨vs, hr, hl, hp⟩ := h3 b' hb
    subst hb
    exact ⟨vs, hr.same (hsame b' (hneq id' b' e (.inr ⟨c, _, cap, n, hc, hk, ht⟩))), hl, hp.ext hx⟩
  · have e := hne _ _ hc; rw [hold id' e] at hc
    exact r.sepO id' c b' off hc hm hg' hb
  · have e := hne _ _ hc; rw [hold id' e] at hc
    exact r.sepT id' c n sz k cs b' c' m off hc hk hg' hl hb
def FinM (P : Program) (fn : Func) (n : Nat) (R : AOut → Heap → Prop) (x : AX) (T : List AV) : Heap → List AD → Prop
  | h, [] => Fin P fn n R x T h []
  | h, (.yield id, _, _) :: D => h.at id = some (.aux .dblk) ∧ FinM P fn n R x T (h.set id none) D
  | _, _ => False
theorem ACalls.of_runM {P : Program} {f : FuncId} {fn : Func} {c : Code} {args : List AV} {h : Heap} {R : AOut → Heap → Prop} (hf : P.funcs[f]? = some fn) (hb : fn.body = some c)
    (r : Run P none h.length [.code c] (args ++ List.replicate (fn.ntmps - args.length) (.tup [])) h [] (fun x T g D => FinM P fn h.length R x T g D)) : ACalls P f args h R := by
  intro E w vs hrel hfresh hargs
  refine callsIn_fen.1 (callsIn_of_wp_marks (F := fen none) (n := 0) hf hb trivial ?_)
  have s : St E w { tmps := List.toArray vs ++ Array.replicate (fn.ntmps - (List.toArray vs).size) undef, defers := [] } (args ++ List.replicate (fn.ntmps - args.length) (.tup [])) h [] := by
    refine ⟨hrel, hfresh, ?_, rfl⟩
    have hl := hargs.length
    have := hargs.append (RepL.replicate (E := E) (w := w) (fn.ntmps - args.length))
    simpa [hl] using this
  refine wpIn_mono (Q := Post h.length _ E h w) (r E w _ s) ?_
  rintro e a' w' ⟨E', T', h', D', x, hq, s', hfr, hx⟩
  have key : ∀ (D' : List AD) (h' : Heap) (E' : Env) (w' : World) (ds : List Deferred) (u : FrameMode), RepD E' w' D' ds → Rel E' (Heap.at h') w' → Fresh E' h'.length → RepL E' w' T' a'.tmps.toList → FrN h.length E h.at w E' (Heap.at h') w' →
      FinM P fn h.length R x T' h' D' → (match x with | .panic y => ∃ v, u = .panicking [{ v, recovered := false }] ∧ Rep E' w' y v | _ => u = .returning) →
      LeavesInM (fen none) 0 P fn a'.tmps (fun e w'' => ∃ out h'' E'', R out h'' ∧ Rel E'' (Heap.at h'') w'' ∧ Fresh E'' h''.length ∧ RepO E'' w'' out e ∧ Fr E h.at w E'' (Heap.at h'') w'') ds u w' := by
    intro D'
    induction D' with
    | nil =>
      intro h' E' w' ds u hd hr1 hf1 ht hfr1 hq hu
      simp only [RepD] at hd; subst hd
      simp only [FinM] at hq
      have ret : (∃ l y h2 m, aresults P T' h' fn.results.toList = some l ∧ Settles (atuple l) h' y h2 ∧ h.length ≤ m ∧ m ≤ h2.length ∧ y.under m = true ∧ (h2.take m).all (AO.under m) = true ∧ R (.ret y) (h2.take m)) → u = .returning →
          LeavesInM (fen none) 0 P fn a'.tmps (fun e w'' => ∃ out h'' E'', R out h'' ∧ Rel E'' (Heap.at h'') w'' ∧ Fresh E'' h''.length ∧ RepO E'' w'' out e ∧ Fr E h.at w E'' (Heap.at h'') w'') [] u w' := by
        rintro ⟨l, y, h2, m, hl, hst, hm, hm2, hy, hh, hR⟩ rfl
        obtain ⟨v, e1, e2⟩ := run_results (P := P) a'.tmps hr1 ht hl
        obtain ⟨E2, r2, f2, x2, g2⟩ := hst E' w' v hr1 hf1 e2
        exact ⟨v, e1, .ret y, h2.take m, E2.cut m, hR, r2.cut m hh, Fresh.cut E2 hm2, ⟨v, rfl, x2.cut hy⟩, (hfr1.trans (g2.toN _)).cut hfresh hm⟩
      cases x with
      | normal => exact ret hq.2 hu
      | ret => exact ret hq.2 hu
      | exit id => exact hq.elim
      | panic y0 =>
        obtain ⟨v, rfl, hv⟩ := hu
        obtain ⟨_, y, h2, m, hst, hm, hm2, hy, hh, hR⟩ := hq
        obtain ⟨E2, r2, f2, x2, g2⟩ := hst E' w' v hr1 hf1 hv
        exact ⟨.panic y, h2.take m, E2.cut m, hR, r2.cut m hh, Fresh.cut E2 hm2, ⟨v, rfl, x2.cut hy⟩, (hfr1.trans (g2.toN _)).cut hfresh hm⟩
    | cons d D' ih =>
      intro h' E' w' ds u hd hr1 hf1 ht hfr1 hq hu
      obtain ⟨f0, c0, ar0⟩ := d
      cases f0 with
      | yield id =>
        obtain ⟨b, rest, hg, rfl, hrest⟩ := hd
        obtain ⟨hat, hq⟩ := hq
        obtain ⟨b', hg', hblk⟩ := hr1.objsO id _ hat rfl
        rw [hg] at hg'; cases hg'
        obtain ⟨d1, d2⟩ := hr1.drop (w' := w'.putObj b (.deferred none)) hat rfl hg (fun b' hb => World.putObj_heap_other hb) World.putObj_size rfl rfl (fun off => by simp [World.frozen?, World.putObj_heap_same (lt_of_heap hblk)])
        have hne : u ≠ .run := by
          cases x with
          | panic y0 => obtain ⟨v, rfl, _⟩ := hu; simp
          | _ => simp only at hu; rw [hu]; simp
        refine ⟨hne, .inl ⟨b, _, rfl, run_takeDeferred hblk, ?_⟩⟩
        refine ih _ E' _ rest u (hrest.ext d2.ext) d1 hf1.set (ht.ext d2.ext) (hfr1.trans (d2.toN _)) hq ?_
        cases x with
        | panic y0 => obtain ⟨v, rfl, hv⟩ := hu; exact ⟨v, rfl, hv.ext d2.ext⟩
        | _ => exact hu
      | _ => exact hq.elim
  cases x with
  | normal => simp only [RepX] at hx; subst hx; exact key D' h' E' w' _ _ s'.defers s'.rel s'.fresh s'.tmps hfr hq rfl
  | ret => simp only [RepX] at hx; subst hx; exact key D' h' E' w' _ _ s'.defers s'.rel s'.fresh s'.tmps hfr hq rfl
  | exit id =>
    simp only [RepX] at hx; subst hx
    exfalso
    have : ∀ (D' : List AD) (h' : Heap), FinM P fn h.length R (.exit id) T' h' D' → False := by
      intro D'
      induction D' with
      | nil => intro h' hq; exact hq
      | cons d D' ih =>
        intro h' hq
        obtain ⟨f0, c0, ar0⟩ := d
        cases f0 <;> first | exact hq.elim | exact ih _ hq.2
    exact this _ _ hq
  | panic v =>
    simp only [RepX] at hx
    obtain ⟨u, rfl, hv⟩ := hx
    exact key D' h' E' w' _ _ s'.defers s'.rel s'.fresh s'.tmps hfr hq ⟨u, rfl, hv⟩

end Go.AI

/-
  Guards on a truth value that is a letter: both ways are gone, and meet again.
-/

namespace Go.AI

open Go
abbrev tv (b : Bool) : AV := .p (.prim (.bool b))
def runG (P : Program) (all : Array Oper) (K : List Oper → List AV → Heap → Prop) : List Oper → List AV → Heap → Prop
  | [], T, h => K [] T h
  | o :: l, T, h =>
    match o.guard with
    | none => match aop P (aev T) h o.op with
      | some (x, h') => runG P all K l (tput T o.dst x) h'
      | none => K (o :: l) T h
    | some (g, want) => match (all[g]?).bind (·.dst) with
      | none => runG P all K l (tput T o.dst (.tup [])) h
      | some d => match tget T d with
        | .tup [] => runG P all K l (tput T o.dst (.tup [])) h
        | .p (.prim (.bool b)) =>
          (b = want → match aop P (aev (T.set d (tv want))) h o.op with
            | some (x, h') => runG P all K l (tput (T.set d (tv want)) o.dst x) h'
            | none => K (o :: l) (T.set d (tv want)) h) ∧
          (b = !want → runG P all K l (tput (T.set d (tv (!want))) o.dst (.tup [])) h)
        | _ => K (o :: l) T h
theorem runG_nil (P : Program) (all : Array Oper) (K : List Oper → List AV → Heap → Prop) (T : List AV) (h : Heap) : runG P all K [] T h = K [] T h := by simp only [runG]
theorem runG_cons (P : Program) (all : Array Oper) (K : List Oper → List AV → Heap → Prop) (o : Oper) (l : List Oper) (T : List AV) (h : Heap) : runG P all K (o :: l) T h =
    (
    match o.guard with
    | none => match aop P (aev T) h o.op with
      | some (x, h') => runG P all K l (tput T o.dst x) h'
      | none => K (o :: l) T h
    | some (g, want) => match (all[g]?).bind (·.dst) with
      | none => runG P all K l (tput T o.dst (.tup [])) h
      | some d => match tget T d with
        | .tup [] => runG P all K l (tput T o.dst (.tup [])) h
        | .p (.prim (.bool b)) =>
          (b = want → match aop P (aev (T.set d (tv want))) h o.op with
            | some (x, h') => runG P all K l (tput (T.set d (tv want)) o.dst x) h'
            | none => K (o :: l) (T.set d (tv want)) h) ∧
          (b = !want → runG P all K l (tput (T.set d (tv (!want))) o.dst (.tup [])) h)
        | _ => K (o :: l) T h) := by simp only [runG]

section

variable {P : Program} {rd : Option Nat} {nb : Nat} {k : List It} {T : List AV} {h : Heap} {D : List AD} {Q : AX → List AV → Heap → List AD → Prop}

end

section

variable {P : Program} {ops : Array Oper} {rd : Option Nat} {nb : Nat} {k : List It} {D : List AD} {Q : AX → List AV → Heap → List AD → Prop}
def drG (P : Program) (ops : Array Oper) (lo : List Nat) (K : List Nat → List Heap → List AV → Heap → Prop) : List Nat → List Heap → List AV → Heap → Prop
  | [], hist, T, h => K [] hist T h
  | i :: π, hist, T, h =>
    match ops[i]? with
    | none => False
    | some o => match o.guard with
      | none => match aop P (aev T) h o.op with
        | some (x, h') => if isE o.op then drG P ops lo K π (hist ++ [h]) (tput T o.dst x) h' else stab P T x o.op (hist.drop (lo.getD i 0)) ∧ drG P ops lo K π hist (tput T o.dst x) h
        | none => K (i :: π) hist T h
      | some (g, want) => match (ops[g]?).bind (·.dst) with
        | none => drG P ops lo K π (if isE o.op then hist ++ [h] else hist) (tput T o.dst (.tup [])) h
        | some d => match tget T d with
          | .tup [] => drG P ops lo K π (if isE o.op then hist ++ [h] else hist) (tput T o.dst (.tup [])) h
          | .p (.prim (.bool b)) =>
            (b = want → match aop P (aev (T.set d (tv want))) h o.op with
              | some (x, h') => if isE o.op then drG P ops lo K π (hist ++ [h]) (tput (T.set d (tv want)) o.dst x) h' else stab P (T.set d (tv want)) x o.op (hist.drop (lo.getD i 0)) ∧ drG P ops lo K π hist (tput (T.set d (tv want)) o.dst x) h
              | none => K (i :: π) hist (T.set d (tv want)) h) ∧
            (b = !want → drG P ops lo K π (if isE o.op then hist ++ [h] else hist) (tput (T.set d (tv (!want))) o.dst (.tup [])) h)
          | _ => K (i :: π) hist T h
theorem drG_nil (P : Program) (ops : Array Oper) (lo : List Nat) (K : List Nat → List Heap → List AV → Heap → Prop) (hist : List Heap) (T : List AV) (h : Heap) : drG P ops lo K [] hist T h = K [] hist T h := by simp only [drG]
theorem drG_cons (P : Program) (ops : Array Oper) (lo : List Nat) (K : List Nat → List Heap → List AV → Heap → Prop) (i : Nat) (π : List Nat) (hist : List Heap) (T : List AV) (h : Heap) : drG P ops lo K (i :: π) hist T h =
    (
    match ops[i]? with
    | none => False
    | some o => match o.guard with
      | none => match aop P (aev T) h o.op with
        | some (x, h') => if isE o.op then drG P ops lo K π (hist ++ [h]) (tput T o.dst x) h' else stab P T x o.op (hist.drop (lo.getD i 0)) ∧ drG P ops lo K π hist (tput T o.dst x) h
        | none => K (i :: π) hist T h
      | some (g, want) => match (ops[g]?).bind (·.dst) with
        | none => drG P ops lo K π (if isE o.op then hist ++ [h] else hist) (tput T o.dst (.tup [])) h
        | some d => match tget T d with
          | .tup [] => drG P ops lo K π (if isE o.op then hist ++ [h] else hist) (tput T o.dst (.tup [])) h
          | .p (.prim (.bool b)) =>
            (b = want → match aop P (aev (T.set d (tv want))) h o.op with
              | some (x, h') => if isE o.op then drG P ops lo K π (hist ++ [h]) (tput (T.set d (tv want)) o.dst x) h' else stab P (T.set d (tv want)) x o.op (hist.drop (lo.getD i 0)) ∧ drG P ops lo K π hist (tput (T.set d (tv want)) o.dst x) h
              | none => K (i :: π) hist (T.set d (tv want)) h) ∧
            (b = !want → drG P ops lo K π (if isE o.op then hist ++ [h] else hist) (tput (T.set d (tv (!want))) o.dst (.tup [])) h)
          | _ => K (i :: π) hist T h) := by simp only [drG]

end

attribute [simp] runG_nil runG_cons drG_nil drG_cons

end Go.AI

namespace Go.AI
open Go
/-- What lies ahead is taken apart until a piece of code is met. -/
inductive Nv : List It → List It → Prop
  | seq {x y : Code} {k k' : List It} (h : Nv (.code x :: .code y :: k) k') : Nv (.code (.seq x y) :: k) k'
  | block {id : Nat} {c : Code} {k k' : List It} (h : Nv (.code c :: .inBlock id :: k) k') : Nv (.code (.block id c) :: k) k'
  | skip {k k' : List It} (h : Nv k k') : Nv (.code .skip :: k) k'
  | inBlock {id : Nat} {k k' : List It} (h : Nv k k') : Nv (.inBlock id :: k) k'
  | opsNil {all : Array Oper} {k k' : List It} (h : Nv k k') : Nv (.ops all [] :: k) k'
  | done {k : List It} : Nv k k
theorem nv {P : Program} {rd : Option Nat} {nb : Nat} {T : List AV} {h : Heap} {D : List AD} {Q : AX → List AV → Heap → List AD → Prop} {k k' : List It} (r : Run P rd nb k' T h D Q) (n : Nv k k' := by repeat constructor) : Run P rd nb k T h D Q := by
  induction n with
  | seq _ ih => exact Run.seq (ih r)
  | block _ ih => exact Run.block (ih r)
  | skip _ ih => exact Run.skip (ih r)
  | inBlock _ ih => exact Run.inBlock (ih r)
  | opsNil _ ih => exact Run.opsNil (ih r)
  | done => exact r
end Go.AI
