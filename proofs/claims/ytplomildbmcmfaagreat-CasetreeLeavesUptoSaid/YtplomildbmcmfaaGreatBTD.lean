/-
  Handed data is opened, and a contract over what is only read becomes a law's statement; three closed facts of the program, for its long line of roots.
-/
import Derived.Test.YtplomildbmcmfaaGreatRows
import Derived.OpenShut
import Derived.JoinedCond
import Derived.ReadAgain
import Derived.Test.YtplomildbmcmfaaGreatBTA

namespace Go.Proofs.YtplomildbmcmfaaGreat
def ioCodes : List Nat := [104, 97, 114, 110, 101, 115, 115, 32, 100, 100, 98, 52, 50, 52, 54, 97, 97, 101, 52, 49, 48, 56, 52, 57, 50, 53, 50, 55, 98, 97, 97, 53, 101, 54, 57, 48, 57, 48, 98, 100, 99, 50, 53, 99, 54, 56, 53, 100, 56, 102, 56, 102, 52, 51, 98, 97, 100, 54, 53, 101, 48, 54, 50, 102, 48, 56, 51, 51, 100, 99, 54, 50, 32, 99, 117, 116, 32, 97, 116, 32, 101, 117, 99, 108, 105, 100, 47, 101, 117, 99, 108, 105, 100, 108, 97, 119, 49, 57, 46, 67, 97, 115, 101, 116, 114, 101, 101, 67, 111, 109, 112, 105, 108, 101, 115, 32, 101, 117, 99, 108, 105, 100, 47, 101, 117, 99, 108, 105, 100, 108, 97, 119, 49, 57, 46, 67, 97, 115, 101, 116, 114, 101, 101, 76, 101, 97, 118, 101, 115, 32, 101, 117, 99, 108, 105, 100, 47, 101, 117, 99, 108, 105, 100, 108, 97, 119, 49, 57, 46, 67, 97, 115, 101, 116, 114, 101, 101, 67, 97, 116, 99, 104, 101, 115, 32, 101, 117, 99, 108, 105, 100, 47, 101, 117, 99, 108, 105, 100, 108, 97, 119, 49, 57, 46, 67, 97, 115, 101, 116, 114, 101, 101, 70, 105, 114, 115, 116, 32, 101, 117, 99, 108, 105, 100, 47, 101, 117, 99, 108, 105, 100, 108, 97, 119, 49, 57, 46, 67, 97, 115, 101, 116, 114, 101, 101, 67, 111, 118, 101, 114, 115, 32, 101, 117, 99, 108, 105, 100, 47, 101, 117, 99, 108, 105, 100, 108, 97, 119, 49, 57, 46, 67, 97, 115, 101, 116, 114, 101, 101, 77, 97, 116, 99, 104, 101, 115]
def ioLetters : List Char := ioCodes.map Char.ofNat
theorem io_eq : Tryz.pinned.checked.prog.initOrder = String.ofList ioLetters := by kernel_rfl
theorem io_list : Tryz.pinned.checked.prog.initOrder.toList = ioLetters := by rw [io_eq, String.toList_ofList]
theorem head_cut : (behindMainWord (wordsSigns ioLetters)).head? = some "cut".toList := by kernel_rfl
theorem words_of {l : List (List Char)} {c : List Char} (h : l.head? = some c) : ∃ rest, l = c :: rest := by
  cases l with
  | nil => cases h
  | cons x r => injection h with h; exact ⟨r, by rw [h]⟩
theorem words_cut : ∃ rest, behindMainWord (wordsSigns ioLetters) = "cut".toList :: rest := words_of head_cut
theorem words_io : behindMainWord (wordsSigns Tryz.pinned.checked.prog.initOrder.toList) = behindMainWord (wordsSigns ioLetters) := congrArg (fun x => behindMainWord (wordsSigns x)) io_list
theorem strip_cut (rest : List (List Char)) : stripLifts liftWords ("cut".toList :: rest) = ([], "cut".toList :: rest) := by kernel_rfl
theorem no_later : Tryz.pinned.checked.prog.laysLater = false := by kernel_rfl
theorem no_reflect : Tryz.pinned.checked.prog.bearsReflect = false := by kernel_rfl
theorem doors_of {P : Program} (h : P.doorRows = []) : P.doorFits [] = true := by
  unfold Program.doorFits
  rw [h]
  simp
theorem no_doors : Tryz.pinned.checked.prog.doorRows = [] := by kernel_rfl
theorem cut_gc : ("cut".toList == "gc".toList) = false := by kernel_rfl
theorem cut_spec : ("cut".toList == "spec".toList) = false := by kernel_rfl
theorem enter_of {P : Program} {rest : List (List Char)} (h : behindMainWord (wordsSigns P.initOrder.toList) = "cut".toList :: rest) (h1 : P.laysLater = false) (h2 : P.bearsReflect = false) (h3 : P.doorRows = []) : P.mayEnter = true := by
  have h4 := doors_of h3
  unfold Program.mayEnter
  rw [h]
  simp only [strip_cut, h1, h2, h4]
  simp
theorem make_of {P : Program} {rest : List (List Char)} (h : behindMainWord (wordsSigns P.initOrder.toList) = "cut".toList :: rest) : P.make = some .cut := by
  unfold Program.make
  rw [h]
  simp only [cut_gc, cut_spec, Bool.or_self, Bool.false_eq_true, if_false, BEq.rfl, Bool.true_or, if_true]
theorem may_enter : Tryz.pinned.checked.prog.mayEnter = true := by
  obtain ⟨rest, h⟩ := words_cut
  exact enter_of (words_io.trans h) no_later no_reflect no_doors
theorem lifts_final : Tryz.pinned.checked.prog.liftsFinal = false := by
  unfold Program.liftsFinal Program.headLifts
  rw [io_list]
  kernel_rfl
theorem make_cut : Tryz.pinned.checked.prog.make = some .cut := by
  obtain ⟨rest, h⟩ := words_cut
  exact make_of (words_io.trans h)
theorem band {a b : Bool} (h : a = true) (k : b = true) : (a && b) = true := by rw [h, k]; rfl

end Go.Proofs.YtplomildbmcmfaaGreat

namespace Go.AI

open Go
def roAll (W : World) : Env := { ro := fun b _ => b < W.heap.size, g := fun _ => none, t := fun _ => none }
theorem at_nil (id : Nat) : Heap.at [] id = none := by simp [Heap.at]
theorem roAll_rel (W : World) : Rel (roAll W) (Heap.at []) W := by
  refine ⟨fun id o h => ?_, fun id n sz h => ?_, fun id id' b h => ?_, fun id o b off h => ?_, fun id n sz b c m off h => ?_, fun b off h => h⟩
  · rw [at_nil] at h; cases h
  · intro m cs h'; rw [at_nil] at h'; cases h'
  · rcases h with ⟨o, h, _⟩ | ⟨n, sz, c, m, h, _⟩ <;> (rw [at_nil] at h; cases h)
  · rw [at_nil] at h; cases h
  · intro k off1 h'; rw [at_nil] at h'; cases h'
theorem roAll_fresh (W : World) (n : Nat) : Fresh (roAll W) n := fun _ _ => ⟨rfl, rfl⟩
theorem no_inG (W : World) (b : Nat) : ¬ InG (roAll W) (Heap.at []) b := by
  rintro ⟨id, h⟩
  rcases h with ⟨o, h, _⟩ | ⟨n, sz, c, m, h, _⟩ <;> (rw [at_nil] at h; cases h)
theorem cell_lt {W : World} {b off : Nat} {v : Value} (h : W.cell? ⟨b, off, none⟩ = some v) : b < W.heap.size := by
  unfold World.cell? at h
  split at h
  · rename_i heq; exact (Array.getElem?_eq_some_iff.1 heq).1
  · cases h
theorem repAt_of {W : World} : ∀ (ps : List PV) (cs : List Value) (b off : Nat), RepL (roAll W) W (ps.map .p) cs → (∀ i v, cs[i]? = some v → W.cell? ⟨b, off + i, none⟩ = some v) → RepAt (roAll W) W b off ps
  | [], _, _, _, _, _ => trivial
  | x :: xs, cs, b, off, h, hc => by
    simp only [List.map_cons, RepL, Rep] at h
    obtain ⟨v, us, rfl, h1, h2⟩ := h
    have h0 := hc 0 v rfl
    simp only [RepAt]
    refine ⟨v, cell_lt h0, h0, h1, repAt_of xs us b (off + 1) h2 fun i w hi => ?_⟩
    have := hc (i + 1) w (by simpa using hi)
    rw [show off + 1 + i = off + (i + 1) by omega]
    exact this
theorem cells_at {W : World} {a : Addr} {sz : Nat} {cs : List Value} (h : W.cells? 0 a sz = some cs) : cs.length = sz ∧ ∀ i, i < sz → W.cell? (a.add i) = cs[i]? := by
  simp only [World.cells?, Nat.zero_le, if_true] at h
  exact ⟨by simpa using mapM_some_length h, fun i hi => by simpa using mapM_some_get h i i (by simp [hi])⟩
def GL {α β : Type} (G : α → β → Prop) : List α → List β → Prop
  | [], [] => True
  | x :: xs, d :: ds => G x d ∧ GL G xs ds
  | _, _ => False

section

variable {H : Type} {enc : TypeId × Value → H} {P : Program} {W : World} {sp : Nat → Bool} {held : Bool} {n : Nat} {e : TypeId} {sz : Nat} {α : Type}
theorem open_elems (f : α → List PV) (G : α → DataW H → Prop) (hfl : ∀ x, (f x).length = sz)
    (ih : ∀ cs y, DataW.trod enc P W 0 sp held n e cs = some y → ∃ x, RepL (roAll W) W ((f x).map .p) cs ∧ G x y.1) :
    ∀ (elems : List (DataW H × List MemPlace)) (b off : Nat), (∀ i y, elems[i]? = some y → (W.cells? 0 ⟨b, off + i * sz, none⟩ sz).bind (DataW.trod enc P W 0 sp held n e) = some y) →
      ∃ xs : List α, xs.length = elems.length ∧ RepEs (roAll W) W b sz off (xs.map f) ∧ GL G xs (elems.map (·.1))
  | [], b, off, _ => ⟨[], rfl, trivial, trivial⟩
  | y :: ys, b, off, h => by
    obtain ⟨cs, hcs, hy⟩ := Option.bind_eq_some_iff.1 (h 0 y rfl)
    obtain ⟨x, hx, hG⟩ := ih cs y hy
    obtain ⟨xs, hl, hr, hGL⟩ := open_elems f G hfl ih ys b (off + sz) fun i z hz => by
      have := h (i + 1) z (by simpa using hz)
      rw [show off + (i + 1) * sz = off + sz + i * sz by rw [Nat.add_mul]; omega] at this
      exact this
    refine ⟨x :: xs, by simp [hl], ?_, hG, hGL⟩
    simp only [List.map_cons, RepEs]
    have hca := cells_at hcs
    refine ⟨hfl x, repAt_of _ cs _ _ hx fun i v hi => ?_, hr⟩
    have hlt : i < sz := by rw [← hca.1]; exact (List.getElem?_eq_some_iff.1 hi).1
    have := hca.2 i hlt
    rw [hi] at this
    rw [← this]
    simp only [Addr.add]
    split
    · rename_i h0; subst h0; simp
    · simp
theorem open_slice {t : TypeId} (ht : P.underlying t = some (.slice e)) (hsz : P.cellsOf e = sz) (hpos : 0 < sz) (f : α → List PV) (G : α → DataW H → Prop) (hfl : ∀ x, (f x).length = sz)
    (ih : ∀ m, m < n → ∀ cs y, DataW.trod enc P W 0 sp held m e cs = some y → ∃ x, RepL (roAll W) W ((f x).map .p) cs ∧ G x y.1)
    {cs : List Value} {x : DataW H × List MemPlace} (h : DataW.trod enc P W 0 sp held n t cs = some x) :
    ∃ xs : List α, ∃ v, cs = [v] ∧ RepP (roAll W) W (.sl sz (xs.map f)) v ∧ ((xs = [] ∧ x.1 = .nil) ∨ ∃ elems rest, x.1 = .slice elems rest ∧ GL G xs elems) := by
  rcases DataW.trod_slice ht h with ⟨rfl, rfl⟩ | ⟨a, len, cap, elems, rest, m, rfl, rfl, rfl, _, hlc, _, hel, he, _, _⟩
  · refine ⟨[], _, rfl, ?_, .inl ⟨rfl, rfl⟩⟩
    simp only [RepP, List.map_nil]
    exact ⟨none, 0, rfl, Nat.le_refl _, .inl (by simp)⟩
  · rw [hsz] at he
    have hspot : elems ≠ [] → a.spot = none := by
      intro hne
      have hlen : 0 < len := by rw [← hel]; exact List.length_pos_iff.2 hne
      have h0 := he 0 hlen
      rw [List.getElem?_eq_getElem (by omega)] at h0
      obtain ⟨cs, hcs, _⟩ := Option.bind_eq_some_iff.1 h0
      have hca := cells_at hcs
      have h1 := hca.2 0 hpos
      rw [List.getElem?_eq_getElem (by omega)] at h1
      simp only [Nat.zero_mul, Addr.add, if_true] at h1
      unfold World.cell? at h1
      split at h1
      · split at h1
        · cases h1
        · rename_i hs; simpa using hs
      · cases h1
    by_cases hne : elems = []
    · subst hne
      refine ⟨[], _, rfl, ?_, .inr ⟨_, _, rfl, trivial⟩⟩
      simp only [RepP, List.map_nil]
      exact ⟨some a, cap, by simp [← hel], Nat.zero_le _, .inl (by simp)⟩
    · have hs := hspot hne
      obtain ⟨xs, hl, hr, hG⟩ := open_elems (W := W) (enc := enc) (P := P) (sp := sp) (held := held) (n := m) (e := e) (sz := sz) f G hfl (fun cs y hy => ih m (by omega) cs y hy) elems a.block a.off fun i y hy => by
        have hlt : i < len := by rw [← hel]; exact (List.getElem?_eq_some_iff.1 hy).1
        have := he i hlt
        rw [hy] at this
        rw [← this]
        congr 2
        simp only [Addr.add]
        split
        · rename_i h0; rw [h0, ← hs]; rfl
        · rfl
      refine ⟨xs, _, rfl, ?_, .inr ⟨_, _, rfl, hG⟩⟩
      simp only [RepP, List.length_map]
      refine ⟨some a, cap, by rw [hl, hel], by omega, .inr ⟨a.block, a.off, by rw [← hs], hr⟩⟩

end

end Go.AI

namespace Go.Proofs.YtplomildbmcmfaaGreat

open Go Go.AI

open Rows (uptoBulk uptoBulkAll)

section

variable {H : Type} {enc : TypeId × Value → H} {W : World} {sp : Nat → Bool} {held : Bool}
theorem cells26 : Tryz.prog.cellsOf 26 = 5 := by kernel_rfl
theorem cells122 : Tryz.prog.cellsOf 122 = 2 := by kernel_rfl
theorem cells124 : Tryz.prog.cellsOf 124 = 2 := by kernel_rfl
theorem cells36 : Tryz.prog.cellsOf 36 = 8 := by kernel_rfl
theorem cells91 : Tryz.prog.cellsOf 91 = 10 := by kernel_rfl
theorem wf_i64 {n : Int} (h : (Lit.int .i64 n).wf = true) : -9223372036854775808 ≤ n ∧ n ≤ 9223372036854775807 := by
  simpa [Lit.wf, IntKind.min, IntKind.max, IntKind.signed, IntKind.bits] using h
theorem open_i {n : Nat} {cs : List Value} {x : DataW H × List MemPlace} (h : DataW.trod enc Tryz.prog W 0 sp held n 3 cs = some x) : ∃ i : Int, cs = [.int .i64 i] ∧ RepP (roAll W) W (iP i) (.int .i64 i) ∧ -9223372036854775808 ≤ i ∧ i ≤ 9223372036854775807 := by
  obtain ⟨i, rfl, _, hw⟩ := DataW.trod_int Tryz.underlying3 h
  exact ⟨i, rfl, by simp [RepP, isPrim], wf_i64 hw⟩
def GNo {α : Type} (_ : α) (_ : DataW H) : Prop := True
set_option maxRecDepth 8000 in
theorem open_var {n : Nat} {cs : List Value} {x : DataW H × List MemPlace} (h : DataW.trod enc Tryz.prog W 0 sp held n 124 cs = some x) :
    ∃ v : Int × Int, RepL (roAll W) W (([iP v.1, iP v.2] : List PV).map .p) cs ∧ GNo v x.1 := by
  obtain ⟨xs, m, rfl, rfl, hl, hlen, hf⟩ := DataW.trod_struct Tryz.underlying124 h
  rw [cells124] at hl
  obtain ⟨c0, c1, rfl⟩ : ∃ a b, cs = [a, b] := by match cs, hl with | [a, b], _ => exact ⟨a, b, rfl⟩
  obtain ⟨x0, x1, rfl⟩ : ∃ a b, xs = [a, b] := by match xs, hlen with | [a, b], _ => exact ⟨a, b, rfl⟩
  have h0 := hf 0 _ rfl
  have h1 := hf 1 _ rfl
  simp only [List.getElem?_cons_zero, List.getElem?_cons_succ] at h0 h1
  obtain ⟨i, e0, r0, b0, _⟩ := open_i h0
  obtain ⟨j, e1, r1, _, _⟩ := open_i h1
  injection e0 with e0; injection e1 with e1; subst e0; subst e1
  refine ⟨(i, j), ?_, trivial⟩
  simp only [List.map_cons, List.map_nil, RepL, Rep]
  exact ⟨_, _, rfl, r0, _, _, rfl, r1, rfl⟩
set_option maxRecDepth 8000 in
theorem open_lv {n : Nat} {cs : List Value} {x : DataW H × List MemPlace} (h : DataW.trod enc Tryz.prog W 0 sp held n 122 cs = some x) :
    ∃ l : Lv, RepL (roAll W) W (l.cells.map .p) cs ∧ GNo l x.1 := by
  obtain ⟨xs, m, rfl, rfl, hl, hlen, hf⟩ := DataW.trod_struct Tryz.underlying122 h
  rw [cells122] at hl
  obtain ⟨c0, c1, rfl⟩ : ∃ a b, cs = [a, b] := by match cs, hl with | [a, b], _ => exact ⟨a, b, rfl⟩
  obtain ⟨x0, x1, rfl⟩ : ∃ a b, xs = [a, b] := by match xs, hlen with | [a, b], _ => exact ⟨a, b, rfl⟩
  have h0 := hf 0 _ rfl
  have h1 := hf 1 _ rfl
  simp only [List.getElem?_cons_zero, List.getElem?_cons_succ] at h0 h1
  obtain ⟨i, e0, r0, b0, _⟩ := open_i h0
  obtain ⟨vs, v, e1, r1, hG⟩ := open_slice (α := Int × Int) Tryz.underlying120 cells124 (by decide) (fun v => [iP v.1, iP v.2]) GNo (fun _ => rfl) (fun m _ cs y hy => open_var hy) h1
  injection e0 with e0; injection e1 with e1; subst e0; subst e1
  refine ⟨⟨i, vs⟩, ?_, trivial⟩
  simp only [Lv.cells, List.map_cons, List.map_nil, RepL, Rep]
  exact ⟨_, _, rfl, r0, _, _, rfl, r1, rfl⟩
set_option maxRecDepth 8000 in
theorem open_tm (N : Nat) : ∀ (n : Nat) (cs : List Value) (x : DataW H × List MemPlace), n ≤ N → DataW.trod enc Tryz.prog W 0 sp held n 26 cs = some x →
    ∃ t : Tm, RepL (roAll W) W (t.cells.map .p) cs ∧ GNo t x.1 := by
  induction N with
  | zero => intro n cs x hn h; obtain rfl : n = 0 := by omega
            simp [DataW.trod] at h
  | succ N ih =>
  intro n cs x hn h
  obtain ⟨xs, m, rfl, rfl, hl, hlen, hf⟩ := DataW.trod_struct Tryz.underlying26 h
  rw [cells26] at hl
  obtain ⟨c0, c1, c2, c3, c4, rfl⟩ : ∃ a b c d e, cs = [a, b, c, d, e] := by match cs, hl with | [a, b, c, d, e], _ => exact ⟨a, b, c, d, e, rfl⟩
  obtain ⟨x0, x1, x2, x3, x4, rfl⟩ : ∃ a b c d e, xs = [a, b, c, d, e] := by match xs, hlen with | [a, b, c, d, e], _ => exact ⟨a, b, c, d, e, rfl⟩
  have h0 := hf 0 _ rfl
  have h1 := hf 1 _ rfl
  have h2 := hf 2 _ rfl
  have h3 := hf 3 _ rfl
  have h4 := hf 4 _ rfl
  simp only [List.getElem?_cons_zero, List.getElem?_cons_succ] at h0 h1 h2 h3 h4
  obtain ⟨k, e0, r0, _, _⟩ := open_i h0
  obtain ⟨i, e1, r1, b1, b1'⟩ := open_i h1
  obtain ⟨s, e2, _, _⟩ := DataW.trod_string Tryz.underlying9 h2
  obtain ⟨ls, v3, e3, r3, hG3⟩ := open_slice (α := Lv) Tryz.underlying23 cells122 (by decide) Lv.cells GNo (fun _ => rfl) (fun m _ cs y hy => open_lv hy) h3
  obtain ⟨ks, v4, e4, r4, hG4⟩ := open_slice (α := Tm) Tryz.underlying24 cells26 (by decide) Tm.cells GNo (fun t => by cases t; rfl) (fun m' hm cs y hy => ih m' cs y (by omega) hy) h4
  injection e0 with e0; injection e1 with e1; injection e2 with e2; injection e3 with e3; injection e4 with e4
  subst e0; subst e1; subst e2; subst e3; subst e4
  refine ⟨.mk k i s.data.toList ls ks, ?_, trivial⟩
  simp only [cells_mk, List.map_cons, List.map_nil, RepL, Rep, lvPs, tmPs_eq]
  exact ⟨_, _, rfl, r0, _, _, rfl, r1, _, _, rfl, by simp [RepP, isPrim], _, _, rfl, r3, _, _, rfl, r4, rfl⟩
theorem open_s {n : Nat} {cs : List Value} {x : DataW H × List MemPlace} (h : DataW.trod enc Tryz.prog W 0 sp held n 9 cs = some x) : ∃ (s : List UInt8) (v : Value), cs = [v] ∧ RepP (roAll W) W (sP s) v := by
  obtain ⟨s, rfl, _⟩ := DataW.trod_string Tryz.underlying9 h
  exact ⟨s.data.toList, _, rfl, by simp [RepP, isPrim]⟩
theorem open_b {n : Nat} {cs : List Value} {x : DataW H × List MemPlace} (h : DataW.trod enc Tryz.prog W 0 sp held n 4 cs = some x) : ∃ b : Bool, cs = [.bool b] ∧ RepP (roAll W) W (bP b) (.bool b) := by
  obtain ⟨b, rfl, _⟩ := DataW.trod_bool Tryz.underlying4 h
  exact ⟨b, rfl, by simp [RepP, isPrim]⟩
set_option maxRecDepth 8000 in
theorem open_tr (N : Nat) : ∀ (n : Nat) (cs : List Value) (x : DataW H × List MemPlace), n ≤ N → DataW.trod enc Tryz.prog W 0 sp held n 36 cs = some x →
    ∃ t : Tr, RepL (roAll W) W (t.cells.map .p) cs ∧ GNo t x.1 := by
  induction N with
  | zero => intro n cs x hn h; obtain rfl : n = 0 := by omega
            simp [DataW.trod] at h
  | succ N ih =>
  intro n cs x hn h
  obtain ⟨xs, m, rfl, rfl, hl, hlen, hf⟩ := DataW.trod_struct Tryz.underlying36 h
  rw [cells36] at hl
  obtain ⟨c0, c1, c2, c3, c4, c5, c6, c7, rfl⟩ : ∃ a b c d e f g h, cs = [a, b, c, d, e, f, g, h] := by match cs, hl with | [a, b, c, d, e, f, g, h], _ => exact ⟨a, b, c, d, e, f, g, h, rfl⟩
  obtain ⟨x0, x1, x2, x3, rfl⟩ : ∃ a b c d, xs = [a, b, c, d] := by match xs, hlen with | [a, b, c, d], _ => exact ⟨a, b, c, d, rfl⟩
  have h0 := hf 0 _ rfl
  have h1 := hf 1 _ rfl
  have h2 := hf 2 _ rfl
  have h3 := hf 3 _ rfl
  simp only [List.getElem?_cons_zero, List.getElem?_cons_succ] at h0 h1 h2 h3
  obtain ⟨k, e0, r0, _, _⟩ := open_i h0
  obtain ⟨b, r1, g1⟩ := open_tm _ _ _ _ (Nat.le_refl _) h1
  obtain ⟨v, e2, r2, _, _⟩ := open_i h2
  obtain ⟨bs, w, e3, r3, hG3⟩ := open_slice (α := Br) Tryz.underlying34 cells91 (by decide) Br.cells GNo br_cells_len (fun m' hm cs y hy => by
    obtain ⟨xs, m2, rfl, hy1, hl, hlen, hf⟩ := DataW.trod_struct Tryz.underlying91 hy
    rw [cells91] at hl
    obtain ⟨d0, d1, d2, d3, d4, d5, d6, d7, d8, d9, rfl⟩ : ∃ a b c d e f g h i j, cs = [a, b, c, d, e, f, g, h, i, j] := by match cs, hl with | [a, b, c, d, e, f, g, h, i, j], _ => exact ⟨a, b, c, d, e, f, g, h, i, j, rfl⟩
    obtain ⟨y0, y1, y2, rfl⟩ : ∃ a b c, xs = [a, b, c] := by match xs, hlen with | [a, b, c], _ => exact ⟨a, b, c, rfl⟩
    have k0 := hf 0 _ rfl
    have k1 := hf 1 _ rfl
    have k2 := hf 2 _ rfl
    simp only [List.getElem?_cons_zero, List.getElem?_cons_succ] at k0 k1 k2
    obtain ⟨s, v, f0, q0⟩ := open_s k0
    obtain ⟨bo, f1, q1⟩ := open_b k1
    obtain ⟨t, q2, g2⟩ := ih m2 _ _ (by omega) k2
    injection f0 with f0; injection f1 with f1; subst f0; subst f1
    refine ⟨.mk s bo t, ?_, trivial⟩
    simp only [Br.cells, List.map_cons, RepL, Rep]
    exact ⟨_, _, rfl, q0, _, _, rfl, q1, q2⟩) h3
  injection e0 with e0; injection e2 with e2; injection e3 with e3
  subst e0; subst e2; subst e3
  refine ⟨.mk k b v bs, ?_, trivial⟩
  simp only [Tr.cells, brPs_eq]
  show RepL (roAll W) W (.p (iP k) :: List.map AV.p (b.cells ++ [iP v, .sl 10 (bs.map Br.cells)])) (_ :: ([c1, c2, c3, c4, c5] ++ [_, _]))
  rw [List.map_append]
  simp only [RepL, Rep]
  refine ⟨_, _, rfl, r0, RepL.append r1 ?_⟩
  simp only [List.map_cons, List.map_nil, RepL, Rep]
  exact ⟨_, _, rfl, r2, _, _, rfl, r3, rfl⟩

end

end Go.Proofs.YtplomildbmcmfaaGreat

namespace Go.Proofs.YtplomildbmcmfaaGreat

open Go Go.AI

open Go.ChangeShapes Go.WideShapes Go.ChangeAt Go.RowKit
theorem kids : Kids Tryz.prog (· < Tryz.prog.types.size) := kids_rows (by kernel_rfl) (by kernel_rfl)
theorem full : ∀ t e, t < Tryz.prog.types.size → Tryz.prog.underlying t = some (.slice e) → 0 < Tryz.prog.cellsOf e := slices_full_of Tryz.prog (by kernel_rfl)

section

variable {H : Type} {enc : TypeId × Value → H} {W W' : World}
theorem same_at (h : ∀ b, b < W.heap.size → W'.heap[b]? = W.heap[b]?) (p : MemPlace) (hp : p.block < W.heap.size) : W.sameAt W' p := by
  cases p with
  | cell b off => simp only [World.sameAt, World.cell?]; rw [h b hp]
  | map b => exact h b hp
theorem trodAll_carry {sp : Nat → Bool} (hs : ∀ b, b < W.heap.size → W'.heap[b]? = W.heap[b]?) : ∀ {ts : List TypeId} {vs : List Value} {ds : List (DataW H)} {ps : List MemPlace},
    DataW.TrodAll enc Tryz.prog W 0 sp true ts vs ds ps → DataW.TrodAll enc Tryz.prog W' 0 sp true ts vs ds ps
  | [], [], [], _, h => h
  | _ :: _, _ :: _, _ :: _, _, ⟨p, q, ⟨n, h1⟩, h2, e⟩ => ⟨p, q, ⟨n, DataW.trod_carry n _ _ _ h1 fun x hx => same_at hs x (DataW.trod_lt n _ _ _ h1 x hx)⟩, trodAll_carry hs h2, e⟩
theorem kept (kp : Kp W W') (hs : ∀ b, b < W.heap.size → W'.heap[b]? = W.heap[b]?) (may : MemPlace → Prop) : W.keptBut W' may := by
  refine ⟨kp.1, kp.2, fun i hi => ?_⟩
  rw [hs i hi]
  cases W.heap[i]? with
  | none => trivial
  | some o => cases o <;> first | exact ⟨rfl, rfl, rfl, fun _ _ => rfl⟩ | exact .inr ⟨rfl, rfl⟩ | rfl
set_option maxRecDepth 8000 in
theorem law_close {f : FuncId} {fn : Func} {s : ChangeSpec} {args : Array Value} {ds gs : List (DataW H)} {before : List MemPlace} {avs : List AV}
    (hvars : s.vars = []) (hres : fn.resultTypes = #[4]) (hspec : s.fn H ds = { results := [.lit (.bool true)], args := ds })
    (hT : ∀ t ∈ fn.params.toList, t < Tryz.prog.types.size)
    (hW : DataW.Whole enc Tryz.prog fn.params.toList s.vars false W args.toList ds gs before)
    (hrep : RepL (roAll W) W avs args.toList) (hc : ACalls Tryz.prog f avs [] fun o h' => o = .ret (bA true) ∧ h' = []) :
    Calls Tryz.prog f args W fun e W' => ∃ v, e = .returned v ∧ s.post enc Tryz.prog fn false true false false W args v W' := by
  have hW' := hW
  obtain ⟨p, q, hA, hV, rfl, hfz, hnd⟩ := hW
  rw [hvars] at hV
  obtain ⟨rfl, rfl⟩ := trodVars_none hV
  have hcall := hc (roAll W) W args.toList (roAll_rel W) (roAll_fresh W 0) hrep
  rw [show List.toArray args.toList = args from Array.toArray_toList] at hcall
  refine hcall.mono fun e W1 ⟨out, h', E', ⟨ho, hh⟩, hr, hf, hre, hfr⟩ => ?_
  subst ho
  simp only [RepO] at hre
  obtain ⟨v, rfl, hv⟩ := hre
  simp only [Rep, RepP] at hv
  obtain ⟨rfl, _⟩ := hv
  have hs : ∀ b, b < W.heap.size → W1.heap[b]? = W.heap[b]? := fun b hb => hfr.same b hb (no_inG W b)
  have e2 : s.fn H (ds ++ []) = { results := [.lit (.bool true)], args := ds } := by rw [List.append_nil]; exact hspec
  refine ⟨_, rfl, ds, [], p ++ [], [], p, [], hW', ?_, ?_, ?_, kept hfr.kp hs _, fun h => by cases h⟩
  · rw [e2, hres]
    exact trodAll_cons_mk (shut_bool Tryz.underlying4 _) trodAll_mk0
  · rw [e2]
    exact trodAll_carry hs (DataW.TrodAll.respare kids full hT hA fun x hx => by simpa using hW'.lt x (by simpa using hx))
  · rw [e2, hvars]
    rfl

end
set_option maxRecDepth 8000 in
theorem arg_tr {H : Type} {enc : TypeId × Value → H} {W : World} {v : Value} {d : DataW H} {p : List MemPlace} {base : Nat}
    (hv : Value.okWide Tryz.prog W .any base 36 v) (h : DataW.Trod enc Tryz.prog W 0 (fun _ => true) true 36 v d p) : ∃ t : Tr, Rep (roAll W) W t.av v := by
  obtain ⟨cs, rfl, hcs⟩ := okWide_struct Tryz.underlying36 hv
  obtain ⟨n, hn⟩ := h
  obtain ⟨t, ht, hG⟩ := open_tr n n _ _ (Nat.le_refl _) hn
  refine ⟨t, ?_⟩
  simp only [Tr.av, Rep]
  exact ⟨cs.toList, by simp, by simpa [Value.cells] using ht⟩

end Go.Proofs.YtplomildbmcmfaaGreat
