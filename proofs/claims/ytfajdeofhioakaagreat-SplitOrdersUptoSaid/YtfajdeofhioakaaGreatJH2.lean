import Derived.Test.YtfajdeofhioakaaGreatJA0
import Derived.Test.YtfajdeofhioakaaGreatRows
import Derived.OpenShut
import Derived.JoinedCond
import Derived.ReadAgain
import Derived.Test.YtfajdeofhioakaaGreatJG1
set_option maxRecDepth 8000

namespace Go.Proofs.YtfajdeofhioakaaGreat
open Go.AI
def ioCodes : List Nat := [104, 97, 114, 110, 101, 115, 115, 32, 49, 48, 102, 49, 102, 99, 50, 49, 100, 48, 101, 52, 48, 102, 57, 98, 52, 53, 49, 102, 48, 101, 50, 57, 50, 48, 50, 99, 56, 53, 102, 50, 55, 56, 53, 97, 98, 49, 56, 48, 102, 54, 56, 52, 54, 49, 102, 50, 49, 100, 51, 97, 100, 100, 55, 97, 99, 102, 99, 51, 51, 49, 53, 99, 32, 99, 117, 116, 32, 97, 116, 32, 101, 117, 99, 108, 105, 100, 47, 101, 117, 99, 108, 105, 100, 108, 97, 119, 49, 55, 46, 83, 112, 108, 105, 116, 83, 116, 97, 114, 116, 115, 32, 101, 117, 99, 108, 105, 100, 47, 101, 117, 99, 108, 105, 100, 108, 97, 119, 49, 55, 46, 83, 112, 108, 105, 116, 79, 114, 100, 101, 114, 115, 32, 101, 117, 99, 108, 105, 100, 47, 101, 117, 99, 108, 105, 100, 108, 97, 119, 49, 55, 46, 83, 112, 108, 105, 116, 67, 97, 115, 101, 115, 32, 101, 117, 99, 108, 105, 100, 47, 101, 117, 99, 108, 105, 100, 108, 97, 119, 49, 55, 46, 83, 112, 108, 105, 116, 75, 101, 101, 112, 115, 32, 101, 117, 99, 108, 105, 100, 47, 101, 117, 99, 108, 105, 100, 108, 97, 119, 49, 55, 46, 83, 112, 108, 105, 116, 82, 101, 102, 117, 115, 101, 115]
def iI : List Char := ioCodes.map Char.ofNat
theorem aYi : Tryz.pinned.checked.prog.initOrder = String.ofList iI := aC
theorem aGn : Tryz.pinned.checked.prog.initOrder.toList = iI := by rw [aYi, String.toList_ofList]
theorem aJu : (behindMainWord (wordsSigns iI)).head? = some "cut".toList := aC
theorem aLh {l : List (List Char)} {c : List Char} (h : l.head? = some c) : ∃ rest, l = c :: rest := by
 cases l with
 | nil => cases h
 | cons x r => injection h with h; exact ⟨r, by rw [h]⟩
theorem zI : ∃ rest, behindMainWord (wordsSigns iI) = "cut".toList :: rest := aLh aJu
theorem words_io : behindMainWord (wordsSigns Tryz.pinned.checked.prog.initOrder.toList) = behindMainWord (wordsSigns iI) := congrArg (fun x => behindMainWord (wordsSigns x)) aGn
theorem aIb (rest : List (List Char)) : stripLifts liftWords ("cut".toList :: rest) = ([], "cut".toList :: rest) := aC
theorem aKh : Tryz.pinned.checked.prog.laysLater = false := aC
theorem aEe : Tryz.pinned.checked.prog.bearsReflect = false := aC
theorem aJi {P : Program} (h : P.doorRows = []) : P.doorFits [] = true := by
 unfold Program.doorFits;rw [h];simp
theorem aKg : Tryz.pinned.checked.prog.doorRows = [] := aC
theorem aSt : ("cut".toList == "gc".toList) = false := aC
theorem aJg : ("cut".toList == "spec".toList) = false := aC
theorem aJl {P : Program} {rest : List (List Char)} (h : behindMainWord (wordsSigns P.initOrder.toList) = "cut".toList :: rest) (h1 : P.laysLater = false) (h2 : P.bearsReflect = false) (h3 : P.doorRows = []) : P.mayEnter = true := by
 have h4 := aJi h3;unfold Program.mayEnter;rw [h];simp only [aIb, h1, h2, h4];simp
theorem aP6 {P : Program} {rest : List (List Char)} (h : behindMainWord (wordsSigns P.initOrder.toList) = "cut".toList :: rest) : P.make = some .cut := by
 unfold Program.make;rw [h];simp only [aSt, aJg, Bool.or_self, bBy, if_false, BEq.rfl, bEc, if_true]
theorem aH2 : Tryz.pinned.checked.prog.mayEnter = true := by
 obtain ⟨rest, h⟩ := zI;exact aJl (words_io.trans h) aKh aEe aKg
theorem aAs : Tryz.pinned.checked.prog.liftsFinal = false := by
 unfold Program.liftsFinal Program.headLifts;rw [aGn]
 kernel_rfl
theorem aKc : Tryz.pinned.checked.prog.make = some .cut := by
 obtain ⟨rest, h⟩ := zI;exact aP6 (words_io.trans h)
theorem kB {a b : Bool} (h : a = true) (k : b = true) : (a && b) = true := by rw [h, k]; rfl

end Go.Proofs.YtfajdeofhioakaaGreat

namespace Go.AI

open Go
def gC (W : World) : Env := { ro := fun b _ => b < W.heap.size, g := fun _ => none, t := fun _ => none }
theorem at_nil (id : Nat) : Heap.at [] id = none := by simp [Heap.at]
theorem aI0 (W : World) : Rel (gC W) (Heap.at []) W := by
 refine ⟨fun id o h => ?_, fun id n sz h => ?_, fun id id' b h => ?_, fun id o b off h => ?_, fun id n sz b c m off h => ?_, fun b off h => h⟩
 ·rw [at_nil] at h; cases h
 ·intro m cs h'; rw [at_nil] at h'; cases h'
 ·exact y6l
 ·rw [at_nil] at h; cases h
 ·intro k off1 h'; rw [at_nil] at h'; cases h'
theorem aB7 (W : World) (n : Nat) : Fresh (gC W) n := fun _ _ => ⟨rfl, rfl⟩
theorem aV8 (W : World) (b : Nat) : ¬ InG (gC W) (Heap.at []) b := by
 rintro ⟨id, h⟩;exact y6l
theorem aN6 {W : World} {b off : Nat} {v : Value} (h : W.cell? ⟨b, off, none⟩ = some v) : b < W.heap.size := by
 unfold World.cell? at h;split at h
 ·rename_i heq; exact (bCt.1 heq).1
 ·cases h
theorem aCr {W : World} : ∀ (ps : List PV) (cs : List Value) (b off : Nat), RepL (gC W) W (ps.map .p) cs -> (∀ i v, cs[i]? = some v -> W.cell? ⟨b, off + i, none⟩ = some v) -> RepAt (gC W) W b off ps
 | [], _, _, _, _, _ => trivial
 | x :: xs, cs, b, off, h, hc => by
  simp only [bBx, RepL, Rep] at h;obtain ⟨v, us, rfl, h1, h2⟩ := h;have h0 := hc 0 v rfl;simp only [RepAt];refine ⟨v, aN6 h0, h0, h1, aCr xs us b (off + 1) h2 fun i w hi => ?_⟩;have := hc (i + 1) w (by simpa using hi);rw [show off + 1 + i = off + (i + 1) by omega];exact this
theorem aC3 {W : World} {a : Addr} {sz : Nat} {cs : List Value} (h : W.cells? 0 a sz = some cs) : cs.length = sz /\ ∀ i, i < sz -> W.cell? (a.add i) = cs[i]? := by
 simp only [World.cells?, Nat.zero_le, if_true] at h;exact ⟨by simpa using mapM_some_length h, fun i hi => by simpa using mapM_some_get h i i (by simp [hi])⟩
def GL {α β : Type} (G : α -> β -> Prop) : List α -> List β -> Prop
 | [], [] => True
 | x :: xs, d :: ds => G x d /\ GL G xs ds
 | _, _ => False

section

variable {H : Type} {enc : TypeId × Value -> H} {P : Program} {W : World} {sp : Nat -> Bool} {held : Bool} {n : Nat} {e : TypeId} {sz : Nat} {α : Type}
theorem tC (f : α -> List PV) (G : α -> DataW H -> Prop) (hfl : ∀ x, (f x).length = sz)
  (ih : ∀ cs y, DataW.trod enc P W 0 sp held n e cs = some y -> ∃ x, RepL (gC W) W ((f x).map .p) cs /\ G x y.1) :
  ∀ (elems : List (DataW H × List MemPlace)) (b off : Nat), (∀ i y, elems[i]? = some y -> (W.cells? 0 ⟨b, off + i * sz, none⟩ sz).bind (DataW.trod enc P W 0 sp held n e) = some y) ->
   ∃ xs : List α, xs.length = elems.length /\ RepEs (gC W) W b sz off (xs.map f) /\ GL G xs (elems.map (·.1))
 | [], b, off, _ => ⟨[], rfl, trivial, trivial⟩
 | y :: ys, b, off, h => by
  obtain ⟨cs, hcs, hy⟩ := Option.bind_eq_some_iff.1 (h 0 y rfl);obtain ⟨x, hx, hG⟩ := ih cs y hy
  obtain ⟨xs, hl, hr, hGL⟩ := tC f G hfl ih ys b (off + sz) fun i z hz => by
   have := h (i + 1) z (by simpa using hz);rw [show off + (i + 1) * sz = off + sz + i * sz by rw [bDn]; omega] at this;exact this
  refine ⟨x :: xs, by simp [hl], ?_, hG, hGL⟩;simp only [bBx, RepEs];have hca := aC3 hcs;refine ⟨hfl x, aCr _ cs _ _ hx fun i v hi => ?_, hr⟩;have hlt : i < sz := by rw [<- hca.1]; exact (bBg.1 hi).1
  have := hca.2 i hlt;rw [hi] at this;rw [<- this];simp only [Addr.add];split
  ·rename_i h0; subst h0; simp
  ·simp
theorem dP {t : TypeId} (ht : P.underlying t = some (.slice e)) (hsz : P.cellsOf e = sz) (hpos : 0 < sz) (f : α -> List PV) (G : α -> DataW H -> Prop) (hfl : ∀ x, (f x).length = sz)
  (ih : ∀ m, m < n -> ∀ cs y, DataW.trod enc P W 0 sp held m e cs = some y -> ∃ x, RepL (gC W) W ((f x).map .p) cs /\ G x y.1)
  {cs : List Value} {x : DataW H × List MemPlace} (h : DataW.trod enc P W 0 sp held n t cs = some x) :
  ∃ xs : List α, ∃ v, cs = [v] /\ RepP (gC W) W (.sl sz (xs.map f)) v /\ ((xs = [] /\ x.1 = .nil) \/ ∃ elems rest, x.1 = .slice elems rest /\ GL G xs elems) := by
 rcases DataW.trod_slice ht h with ⟨rfl, rfl⟩ | ⟨a, len, cap, elems, rest, m, rfl, rfl, rfl, _, hlc, _, hel, he, _, _⟩
 ·refine ⟨[], _, rfl, ?_, .inl ⟨rfl, rfl⟩⟩;simp only [RepP, bCv];exact ⟨none, 0, rfl, bBh _, .inl aA⟩
 ·rw [hsz] at he
  have hspot : elems ≠ [] -> a.spot = none := by
   intro hne;have hlen : 0 < len := by rw [<- hel]; exact bDh.2 hne
   have h0 := he 0 hlen;rw [bBf aB] at h0;obtain ⟨cs, hcs, _⟩ := Option.bind_eq_some_iff.1 h0;have hca := aC3 hcs;have h1 := hca.2 0 hpos;rw [bBf aB] at h1;simp only [Nat.zero_mul, Addr.add, if_true] at h1;unfold World.cell? at h1;split at h1
   ·split at h1
    ·cases h1
    ·rename_i hs; simpa using hs
   ·cases h1
  by_cases hne : elems = []
  ·subst hne;refine ⟨[], _, rfl, ?_, .inr ⟨_, _, rfl, trivial⟩⟩;simp only [RepP, bCv];exact ⟨some a, cap, by simp [<- hel], Nat.zero_le _, .inl aA⟩
  ·have hs := hspot hne
   obtain ⟨xs, hl, hr, hG⟩ := tC (W := W) (enc := enc) (P := P) (sp := sp) (held := held) (n := m) (e := e) (sz := sz) f G hfl (fun cs y hy => ih m aB cs y hy) elems a.block a.off fun i y hy => by
    have hlt : i < len := by rw [<- hel]; exact (bBg.1 hy).1
    have := he i hlt;rw [hy] at this;rw [<- this]
    congr 2
    simp only [Addr.add];split
    ·rename_i h0; rw [h0, <- hs]; rfl
    ·rfl
   refine ⟨xs, _, rfl, ?_, .inr ⟨_, _, rfl, hG⟩⟩;simp only [RepP, bC9];refine ⟨some a, cap, by rw [hl, hel], by omega, .inr ⟨a.block, a.off, by rw [<- hs], hr⟩⟩

end

end Go.AI

namespace Go.Proofs.YtfajdeofhioakaaGreat

open Go Go.AI

open Rows (uptoBulk uptoBulkAll)

section

variable {H : Type} {enc : TypeId × Value -> H} {W : World} {sp : Nat -> Bool} {held : Bool}
theorem aSq : Tryz.prog.cellsOf 3 = 1 := aC
theorem uM : Tryz.prog.cellsOf 25 = 5 := aC
theorem aFn : Tryz.prog.cellsOf 77 = 2 := aC
theorem aC2 : Tryz.prog.cellsOf 146 = 2 := aC
theorem aWj {n : Int} (h : (Lit.int .i64 n).wf = true) : -9223372036854775808 <= n /\ n <= 9223372036854775807 := by
 simpa [Lit.wf, IntKind.min, IntKind.max, IntKind.signed, IntKind.bits] using h
theorem tD {n : Nat} {cs : List Value} {x : DataW H × List MemPlace} (h : DataW.trod enc Tryz.prog W 0 sp held n 3 cs = some x) : ∃ i : Int, cs = [.int .i64 i] /\ RepP (gC W) W (iP i) (.int .i64 i) /\ -9223372036854775808 <= i /\ i <= 9223372036854775807 := by
 obtain ⟨i, rfl, _, hw⟩ := DataW.trod_int Tryz.underlying3 h;exact ⟨i, rfl, by simp [RepP, isPrim], aWj hw⟩
def GVar (v : Int × Int) (_ : DataW H) : Prop := -9223372036854775808 <= v.1
theorem aKl {n : Nat} {cs : List Value} {x : DataW H × List MemPlace} (h : DataW.trod enc Tryz.prog W 0 sp held n 146 cs = some x) :
  ∃ v : Int × Int, RepL (gC W) W (([iP v.1, iP v.2] : List PV).map .p) cs /\ GVar v x.1 := by
 obtain ⟨xs, m, rfl, rfl, hl, hlen, hf⟩ := DataW.trod_struct Tryz.underlying146 h;rw [aC2] at hl;obtain ⟨c0, c1, rfl⟩ : ∃ a b, cs = [a, b] := by match cs, hl with | [a, b], _ => exact ⟨a, b, rfl⟩
 obtain ⟨x0, x1, rfl⟩ : ∃ a b, xs = [a, b] := by match xs, hlen with | [a, b], _ => exact ⟨a, b, rfl⟩
 have h0 := hf 0 _ rfl;have h1 := hf 1 _ rfl;simp only [bCe, bCc] at h0 h1;obtain ⟨i, e0, r0, b0, _⟩ := tD h0;obtain ⟨j, e1, r1, _, _⟩ := tD h1
 injection e0 with e0; injection e1 with e1; subst e0; subst e1
 refine ⟨(i, j), ?_, b0⟩;simp only [bBx, bCv, RepL, Rep];exact ⟨_, _, rfl, r0, _, _, rfl, r1, rfl⟩
theorem rU {α β : Type} {G : α -> β -> Prop} : ∀ {xs : List α} {ds : List β}, GL G xs ds -> xs.length = ds.length
 | [], [], _ => rfl
 | _ :: _, _ :: _, h => by simp only [bBm, rU h.2]
 | [], _ :: _, h => h.elim
 | _ :: _, [], h => h.elim
theorem wE {α β : Type} {G : α -> β -> Prop} : ∀ {xs : List α} {ds : List β}, GL G xs ds -> ∀ x ∈ xs, ∃ d ∈ ds, G x d
 | [], [], _, x, hx => by cases hx
 | a :: l, b :: r, h, x, hx => by
  rcases bC1.1 hx with rfl | hx
  ·exact ⟨b, List.mem_cons_self, h.1⟩
  ·obtain ⟨d, hd, hg⟩ := wE h.2 x hx;exact ⟨d, bDb _ hd, hg⟩
 | [], _ :: _, h, _, _ => h.elim
 | _ :: _, [], h, _, _ => h.elim
theorem aV9 (d : DataW H) : 1 <= uptoBulk d := by
 cases d with
 | lit l => cases l <;> simp [uptoBulk]
 | nil => simp [uptoBulk]
 | ptr d => simp [uptoBulk]
 | slice elems spare => simp [uptoBulk]
 | agg parts => simp [uptoBulk]
 | iface t d => simp [uptoBulk]
 | map entries => simp [uptoBulk]
 | held h => simp [uptoBulk]
theorem aHd {d : DataW H} {l : List (DataW H)} (h : d ∈ l) : uptoBulk d <= uptoBulkAll l := by
 induction l with
 | nil => cases h
 | cons x r ih =>
  simp only [uptoBulkAll]
  cases bC1.1 h with
  | inl e => subst e; omega
  | inr e => have := ih e; omega
theorem iJ (l : List (DataW H)) : l.length <= uptoBulkAll l := by
 induction l with
 | nil => simp [uptoBulkAll]
 | cons x r ih => have := aV9 x; simp only [uptoBulkAll, bBm]; omega
def GLv (l : Lv) (d : DataW H) : Prop := l.vars.length <= uptoBulk d /\ ∀ v ∈ l.vars, -9223372036854775808 <= v.1
theorem aPa {n : Nat} {cs : List Value} {x : DataW H × List MemPlace} (h : DataW.trod enc Tryz.prog W 0 sp held n 77 cs = some x) :
  ∃ l : Lv, RepL (gC W) W (l.cells.map .p) cs /\ GLv l x.1 := by
 obtain ⟨xs, m, rfl, rfl, hl, hlen, hf⟩ := DataW.trod_struct Tryz.underlying77 h;rw [aFn] at hl;obtain ⟨c0, c1, rfl⟩ : ∃ a b, cs = [a, b] := by match cs, hl with | [a, b], _ => exact ⟨a, b, rfl⟩
 obtain ⟨x0, x1, rfl⟩ : ∃ a b, xs = [a, b] := by match xs, hlen with | [a, b], _ => exact ⟨a, b, rfl⟩
 have h0 := hf 0 _ rfl;have h1 := hf 1 _ rfl;simp only [bCe, bCc] at h0 h1;obtain ⟨i, e0, r0, b0, _⟩ := tD h0;obtain ⟨vs, v, e1, r1, hG⟩ := dP (α := Int × Int) Tryz.underlying75 aC2 aD (fun v => [iP v.1, iP v.2]) GVar (fun _ => rfl) (fun m _ cs y hy => aKl hy) h1
 injection e0 with e0; injection e1 with e1; subst e0; subst e1
 refine ⟨⟨i, vs⟩, ?_, ?_⟩
 ·simp only [Lv.cells, bBx, bCv, RepL, Rep];exact ⟨_, _, rfl, r0, _, _, rfl, r1, rfl⟩
 ·simp only [GLv, bBx, uptoBulk, uptoBulkAll];rcases hG with ⟨rfl, _⟩ | ⟨elems, rest, he, hG⟩
  ·simp
  ·rw [he];simp only [uptoBulk];have := iJ elems;have := rU hG;refine ⟨by omega, fun v hv => ?_⟩;obtain ⟨_, _, hg⟩ := wE hG v hv;exact hg
def GTm (t : Tm) (d : DataW H) : Prop := uptoBulk d <= 1048576 -> t.size <= uptoBulk d /\ t.fit /\ t.lvs
theorem aLz : ∀ {ts : List Tm} {ds : List (DataW H)}, GL GTm ts ds -> uptoBulkAll ds <= 1048576 -> Tm.sizes ts <= uptoBulkAll ds /\ Tm.fits ts /\ Tm.lvss ts
 | [], [], _, _ => by simp [Tm.sizes, Tm.fits, Tm.lvss]
 | t :: ts, d :: ds, h, hb => by
  simp only [uptoBulkAll] at hb;have h1 := h.1 aB;have h2 := aLz h.2 aB;simp only [Tm.sizes, Tm.fits, Tm.lvss, uptoBulkAll];exact ⟨by omega, ⟨h1.2.1, h2.2.1⟩, h1.2.2, h2.2.2⟩
 | [], _ :: _, h, _ => h.elim
 | _ :: _, [], h, _ => h.elim
theorem vH (N : Nat) : ∀ (n : Nat) (cs : List Value) (x : DataW H × List MemPlace), n <= N -> DataW.trod enc Tryz.prog W 0 sp held n 25 cs = some x ->
  ∃ t : Tm, RepL (gC W) W (t.cells.map .p) cs /\ GTm t x.1 := by
 induction N with
 | zero => intro n cs x hn h; obtain rfl : n = 0 := aB
           simp [DataW.trod] at h
 | succ N ih =>
 intro n cs x hn h;obtain ⟨xs, m, rfl, rfl, hl, hlen, hf⟩ := DataW.trod_struct Tryz.underlying25 h;rw [uM] at hl;obtain ⟨c0, c1, c2, c3, c4, rfl⟩ : ∃ a b c d e, cs = [a, b, c, d, e] := by match cs, hl with | [a, b, c, d, e], _ => exact ⟨a, b, c, d, e, rfl⟩
 obtain ⟨x0, x1, x2, x3, x4, rfl⟩ : ∃ a b c d e, xs = [a, b, c, d, e] := by match xs, hlen with | [a, b, c, d, e], _ => exact ⟨a, b, c, d, e, rfl⟩
 have h0 := hf 0 _ rfl;have h1 := hf 1 _ rfl;have h2 := hf 2 _ rfl;have h3 := hf 3 _ rfl;have h4 := hf 4 _ rfl;simp only [bCe, bCc] at h0 h1 h2 h3 h4;obtain ⟨k, e0, r0, _, _⟩ := tD h0;obtain ⟨i, e1, r1, b1, b1'⟩ := tD h1;obtain ⟨s, e2, _, _⟩ := DataW.trod_string Tryz.underlying9 h2;obtain ⟨ls, v3, e3, r3, hG3⟩ := dP (α := Lv) Tryz.underlying22 aFn aD Lv.cells GLv (fun _ => rfl) (fun m _ cs y hy => aPa hy) h3;obtain ⟨ks, v4, e4, r4, hG4⟩ := dP (α := Tm) Tryz.underlying23 uM aD Tm.cells GTm (fun t => by cases t; rfl) (fun m' hm cs y hy => ih m' cs y aB hy) h4
 injection e0 with e0; injection e1 with e1; injection e2 with e2; injection e3 with e3; injection e4 with e4
 subst e0; subst e1; subst e2; subst e3; subst e4;refine ⟨.mk k i s.data.toList ls ks, ?_, ?_⟩
 ·simp only [cells_mk, bBx, bCv, RepL, Rep, bR, fR];exact ⟨_, _, rfl, r0, _, _, rfl, r1, _, _, rfl, by simp [RepP, isPrim], _, _, rfl, r3, _, _, rfl, r4, rfl⟩
 ·intro hb;simp only [bBx, bCv, uptoBulk, uptoBulkAll] at hb ⊢
  have hk : Tm.sizes ks <= uptoBulk x4.1 /\ Tm.fits ks /\ Tm.lvss ks := by
   rcases hG4 with ⟨rfl, _⟩ | ⟨elems, rest, he, hG⟩
   ·simp [Tm.sizes, Tm.fits, Tm.lvss]
   ·rw [he] at hb ⊢;simp only [uptoBulk] at hb ⊢;have := aLz hG aB;exact ⟨by omega, this.2⟩
  have hlv : ls.length <= 1048576 /\ ∀ l ∈ ls, l.vars.length <= 1048576 /\ ∀ v ∈ l.vars, -9223372036854775808 <= v.1 := by
   rcases hG3 with ⟨rfl, _⟩ | ⟨elems, rest, he, hG⟩
   ·simp
   ·rw [he] at hb;simp only [uptoBulk] at hb;have := iJ elems;have := rU hG;refine ⟨by omega, fun l hl => ?_⟩;obtain ⟨d, hd, hg⟩ := wE hG l hl;have := aHd hd;exact ⟨by have := hg.1; omega, hg.2⟩
  simp only [Tm.size, Tm.fit, Tm.lvs];exact ⟨by omega, ⟨hlv.1, hlv.2, b1, b1', hk.2.1⟩, hlv.1, fun l hl => (hlv.2 l hl).1, hk.2.2⟩

end


open Go Go.AI

open Go.ChangeShapes Go.WideShapes Go.ChangeAt Go.RowKit
theorem kids : Kids Tryz.prog (· < Tryz.prog.types.size) := kids_rows aC aC
theorem full : ∀ t e, t < Tryz.prog.types.size -> Tryz.prog.underlying t = some (.slice e) -> 0 < Tryz.prog.cellsOf e := slices_full_of Tryz.prog aC

section

variable {H : Type} {enc : TypeId × Value -> H} {W W' : World}
theorem aPg (h : ∀ b, b < W.heap.size -> W'.heap[b]? = W.heap[b]?) (p : MemPlace) (hp : p.block < W.heap.size) : W.sameAt W' p := by
 cases p with
 | cell b off => simp only [World.sameAt, World.cell?]; rw [h b hp]
 | map b => exact h b hp
theorem lT {sp : Nat -> Bool} (hs : ∀ b, b < W.heap.size -> W'.heap[b]? = W.heap[b]?) : ∀ {ts : List TypeId} {vs : List Value} {ds : List (DataW H)} {ps : List MemPlace},
  DataW.TrodAll enc Tryz.prog W 0 sp true ts vs ds ps -> DataW.TrodAll enc Tryz.prog W' 0 sp true ts vs ds ps
 | [], [], [], _, h => h
 | _ :: _, _ :: _, _ :: _, _, ⟨p, q, ⟨n, h1⟩, h2, e⟩ => ⟨p, q, ⟨n, DataW.trod_carry n _ _ _ h1 fun x hx => aPg hs x (DataW.trod_lt n _ _ _ h1 x hx)⟩, lT hs h2, e⟩
theorem kept (kp : Kp W W') (hs : ∀ b, b < W.heap.size -> W'.heap[b]? = W.heap[b]?) (may : MemPlace -> Prop) : W.keptBut W' may := by
 refine ⟨kp.1, kp.2, fun i hi => ?_⟩;rw [hs i hi]
 cases W.heap[i]? with
 | none => trivial
 | some o => cases o <;> first | exact ⟨rfl, rfl, rfl, fun _ _ => rfl⟩ | exact .inr ⟨rfl, rfl⟩ | rfl
theorem aGx {f : FuncId} {fn : Func} {s : ChangeSpec} {args : Array Value} {ds gs : List (DataW H)} {before : List MemPlace} {avs : List AV}
  (hvars : s.vars = []) (hres : fn.resultTypes = #[4]) (hspec : s.fn H ds = { results := [.lit (.bool true)], args := ds })
  (hT : ∀ t ∈ fn.params.toList, t < Tryz.prog.types.size)
  (hW : DataW.Whole enc Tryz.prog fn.params.toList s.vars false W args.toList ds gs before)
  (hrep : RepL (gC W) W avs args.toList) (hc : ACalls Tryz.prog f avs [] fun o h' => o = .ret (bA true) /\ h' = []) :
  Calls Tryz.prog f args W fun e W' => ∃ v, e = .returned v /\ s.post enc Tryz.prog fn false true false false W args v W' := by
 have hW' := hW;obtain ⟨p, q, hA, hV, rfl, hfz, hnd⟩ := hW;rw [hvars] at hV;obtain ⟨rfl, rfl⟩ := trodVars_none hV;have hcall := hc (gC W) W args.toList (aI0 W) (aB7 W 0) hrep;rw [show List.toArray args.toList = args from Array.toArray_toList] at hcall;refine hcall.mono fun e W1 ⟨out, h', E', ⟨ho, hh⟩, hr, hf, hre, hfr⟩ => ?_
 subst ho;simp only [RepO] at hre;obtain ⟨v, rfl, hv⟩ := hre;simp only [Rep, RepP] at hv;obtain ⟨rfl, _⟩ := hv;have hs : ∀ b, b < W.heap.size -> W1.heap[b]? = W.heap[b]? := fun b hb => hfr.same b hb (aV8 W b)
 have e2 : s.fn H (ds ++ []) = { results := [.lit (.bool true)], args := ds } := by rw [bBl]; exact hspec
 refine ⟨_, rfl, ds, [], p ++ [], [], p, [], hW', ?_, ?_, ?_, kept hfr.kp hs _, fun h => by cases h⟩
 ·rw [e2, hres];exact trodAll_cons_mk (shut_bool Tryz.underlying4 _) trodAll_mk0
 ·rw [e2];exact lT hs (DataW.TrodAll.respare kids full hT hA fun x hx => by simpa using hW'.lt x (by simpa using hx))
 ·rw [e2, hvars]
  rfl

end
theorem aSo {H : Type} {enc : TypeId × Value -> H} {W : World} {v : Value} {d : DataW H} {p : List MemPlace} {base : Nat}
  (hv : Value.okWide Tryz.prog W .any base 25 v) (h : DataW.Trod enc Tryz.prog W 0 (fun _ => true) true 25 v d p) : ∃ t : Tm, Rep (gC W) W t.av v /\ GTm t d := by
 obtain ⟨cs, rfl, hcs⟩ := okWide_struct Tryz.underlying25 hv;obtain ⟨n, hn⟩ := h;obtain ⟨t, ht, hG⟩ := vH n n _ _ (bBh _) hn;exact y5z
theorem aJb {H : Type} {enc : TypeId × Value -> H} {W : World} {v : Value} {d : DataW H} {p : List MemPlace} {base : Nat}
  (hv : Value.okWide Tryz.prog W .any base 37 v) (h : DataW.Trod enc Tryz.prog W 0 (fun _ => true) true 37 v d p) : ∃ xs : List Int, Rep (gC W) W (.p (.sl 1 (xs.map fun x => [iP x]))) v /\ (∀ x ∈ xs, -9223372036854775808 <= x /\ x <= 9223372036854775807) /\ xs.length <= Rows.uptoBulk d := by
 obtain ⟨a, len, cap, rfl⟩ := okWide_slice Tryz.underlying37 hv;obtain ⟨n, hn⟩ := h
 obtain ⟨xs, v', e, r, hG⟩ := dP (α := Int) Tryz.underlying37 aSq aD (fun x => [iP x]) (fun x (_ : DataW H) => -9223372036854775808 <= x /\ x <= 9223372036854775807) (fun _ => rfl)
  (fun m' _ cs y hy => by
   obtain ⟨i, rfl, hr, hb⟩ := tD hy;refine ⟨i, ?_, hb⟩;simp only [bBx, bCv, RepL, Rep];exact ⟨_, _, rfl, hr, rfl⟩) hn
 simp [Value.cells] at e;subst e;refine ⟨xs, by simp only [Rep]; exact r, ?_⟩;rcases hG with ⟨rfl, hd⟩ | ⟨elems, rest, he, hG⟩
 ·simp
 ·simp only at he;subst he;refine ⟨fun x hx => ?_, ?_⟩
  ·obtain ⟨_, _, hg⟩ := wE hG x hx;exact hg
  ·have := iJ elems;have := rU hG;simp only [Rows.uptoBulk];omega

end Go.Proofs.YtfajdeofhioakaaGreat
