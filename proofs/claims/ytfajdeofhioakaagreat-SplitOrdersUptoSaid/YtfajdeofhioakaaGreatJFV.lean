import Derived.Test.YtfajdeofhioakaaGreatJA0
import Derived.MapKept
import Derived.Test.YtfajdeofhioakaaGreatJFG
import Derived.Test.YtfajdeofhioakaaGreatProg
import Derived.Shelf.Lays
import Derived.KernelRfl
import Derived.Shelf.Sort.Plain
import Derived.Shelf.Slices.In.SortNone

namespace Go.AI

open Go Go.MapKept

section

variable {P : Program} {rd : Option Nat} {nb : Nat} {k : List It} {T : List AV} {h : Heap} {D : List AD} {Q : AX -> List AV -> Heap -> List AD -> Prop} {all : Array Oper} {o : Oper} {rest : List Oper}
theorem jL {all : Array Oper} {K : List Oper -> List AV -> Heap -> Prop} {b : List Oper} (J : ∀ l T h, K l T h -> Run P rd nb (.ops all (l ++ b) :: k) T h D Q) :
  ∀ (l : List Oper) (T : List AV) (h : Heap), rD P all K l T h -> Run P rd nb (.ops all (l ++ b) :: k) T h D Q
 | [], T, h, r => J _ _ _ r
 | o :: l, T, h, r => by
  simp only [rD] at r;split at r
  ·rename_i hg;have hw : awanted all T o = some true := by simp only [awanted, hg]
   split at r
   ·rename_i x h' ho;exact Run.op hw ho (jL J l _ _ r)
   ·exact J _ _ _ r
  ·rename_i g want hg;split at r
   ·rename_i hd;have hw : awanted all T o = some false := by simp only [awanted, hg, hd]
    exact Run.off hw (jL J l _ _ r)
   ·rename_i d hd;split at r
    ·rename_i hT;have hw : awanted all T o = some false := by simp only [awanted, hg, hd, hT]
     exact Run.off hw (jL J l _ _ r)
    ·rename_i b' hT;have hw := iC hg hd hT;have hs := vQ hT
     by_cases e : b' = want
     ·subst e;have r1 := r.1 rfl;rw [show T.set d (tv b') = T from hs] at r1;split at r1
      ·rename_i x h' ho;exact Run.op (by rw [hw]; simp) ho (jL J l _ _ r1)
      ·exact J _ _ _ r1
     ·have e' : b' = !want := aA1 e;have r2 := r.2 e';rw [<- e', show T.set d (tv b') = T from hs] at r2;exact Run.off (by rw [hw]; simp [e]) (jL J l _ _ r2)
    ·exact J _ _ _ r
theorem Run.opsPreJ (n : Nat) {l : List Oper} (keep : List Nat) (slot : Nat) (b : Bool)
  (r : ∀ K : List Oper -> List AV -> Heap -> Prop, (∀ T', WeakL T' (setMany (keepT keep T) [(slot, tv b)]) -> K [] T' h) -> rD P all K (l.take n) T h)
  (next : Run P rd nb (.ops all (l.drop n) :: k) (setMany (keepT keep T) [(slot, tv b)]) h D Q) : Run P rd nb (.ops all l :: k) T h D Q := by
 have := jL (P := P) (rd := rd) (nb := nb) (all := all) (k := k) (D := D) (Q := Q) (b := l.drop n) (K := fun l' T' h' => Run P rd nb (.ops all (l' ++ l.drop n) :: k) T' h' D Q) (fun _ _ _ h => h) (l.take n) T h (r _ fun _ hw => Run.weak hw next)
 rwa [bCp] at this
theorem Run.regPreJ {id : Nat} (n : Nat) {l : List Oper} (keep : List Nat) (slot : Nat) (b : Bool)
  (r : ∀ K : List Oper -> List AV -> Heap -> Prop, (∀ T', WeakL T' (setMany (keepT keep T) [(slot, tv b)]) -> K [] T' h) -> rD P l.toArray K (l.take n) T h)
  (next : Run P rd nb (.ops l.toArray (l.drop n) :: k) (setMany (keepT keep T) [(slot, tv b)]) h D Q) : Run P rd nb (.code (.region id l.toArray false) :: k) T h D Q :=
 Run.region (Run.opsPreJ n keep slot b r next)
theorem Run.opU {R : Heap -> Prop} (hw : awanted all T o = some true) (hnd : ∀ c, o.op ≠ .defer c)
  (ho : ∀ E w a, St E w a T h D -> ∃ h' E' w', R h' /\ (execOp a.eval o).run P w = .ok .skip w' /\ Rel E' (Heap.at h') w' /\ Fresh E' h'.length /\ Fr E (Heap.at h) w E' (Heap.at h') w')
  (r : ∀ h', R h' -> Run P rd nb (.ops all rest :: k) (tput T o.dst (.tup [])) h' D Q) : Run P rd nb (.ops all (o :: rest) :: k) T h D Q := by
 intro E w a s;obtain ⟨h', E', w', hR, hrun, hr, hf, hfr⟩ := ho E w a s;have s' : St E' w' (a.put o.dst undef) (tput T o.dst (.tup [])) h' D := (s.move hfr hr hf).put (by simp only [Rep, RepL]; exact ⟨[], rfl, rfl⟩) o.dst;have := r h' hR E' w' _ s';exact y2v
theorem Run.makeMap {t : TypeId} (ho : o.op = .makeMap t none) (hw : awanted all T o = some true)
  (r : Run P rd nb (.ops all rest :: k) (tput T o.dst (.mp h.length)) (h ++ [some (.aux (.map []))]) D Q) : Run P rd nb (.ops all (o :: rest) :: k) T h D Q := by
 refine Run.opR (R := fun x h' => x = .mp h.length /\ h' = h ++ [some (.aux (.map []))]) hw (fun c hc => by rw [hc] at ho; cases ho) ?_ (by rintro x h' ⟨rfl, rfl⟩; exact r);intro E w a s;obtain ⟨g1, g2, g3⟩ := Rel.allocO s.rel s.fresh (o := .aux (.map [])) (ob := .map #[] 0) rfl (fun _ _ _ e => by cases e) (fun _ => ⟨#[], 0, cB _, rfl, by simp [Stamped]⟩);refine ⟨_, _, _, _, .map (some w.heap.size), ⟨rfl, rfl⟩, ?_, g1, by simpa using g3, ?_, g2⟩
 ·simp only [execOp, ho]
  rfl
 ·exact y55
theorem aCh {es : List MapEntry} {kvs : List (Value × Value)} (he : es.map (fun e => (e.key, e.val)) = kvs) : es.map (·.key) = kvs.map Prod.fst /\ ∀ e ∈ es, (e.key, e.val) ∈ kvs := by
 subst he;exact ⟨by simp [Function.comp_def], fun e h => bCb.2 ⟨e, h, rfl⟩⟩
def uB (P : Program) (t : TypeId) (z : Value) : Prop := ∃ i, P.info? t = some i /\ i.zero = some z
theorem aEr {P : Program} {t : TypeId} {z : Value} (h : uB P t z) (w : World) : (zeroValue t).run P w = .ok z w := by
 obtain ⟨i, hi, hz⟩ := h;simp [zeroValue, typeInfo, hi, hz]
def zeroB (P : Program) (t : TypeId) : Bool := match P.info? t with
 | some i => match i.zero with
  | some (.bool false) => true
  | _ => false
 | none => false
theorem aD7 {P : Program} {t : TypeId} (h : zeroB P t = true) : uB P t (.bool false) := by
 unfold zeroB at h;exact y62
def aPt (P : Program) (t : TypeId) : Bool := match P.info? t with
 | some i => match i.zero with
  | some (.int .i64 0) => true
  | _ => false
 | none => false
theorem aLv {P : Program} {t : TypeId} (h : aPt P t = true) : uB P t (.int .i64 0) := by
 unfold aPt at h;exact y62
def oO (kvs : List (Value × Value)) (key z : Value) (v : Value) (b : Bool) : Prop := (b = true /\ (∀ v', (key, v') ∈ kvs -> v' = v) /\ key ∈ kvs.map Prod.fst) \/ (b = false /\ key ∉ kvs.map Prod.fst /\ v = z)
theorem tP {P : Program} {t kt et : TypeId} {d : TypeDesc} {g : Nat} {kvs : List (Value × Value)} {key z v : Value} {b : Bool} {w : World} {es : Array MapEntry} {c : Nat} (ok : Bool)
  (ht : P.underlying t = some (.map kt et)) (hd : P.underlying kt = some d) (hz : uB P et z) (hh : w.heap[g]? = some (.map es c)) (he : es.toList.map (fun e => (e.key, e.val)) = kvs)
  (hks : ∀ x ∈ kvs, IsKey d x.1) (hkey : IsKey d key) (hf : oO kvs key z v b) : (Instr.lookup t (.map (some g)) key ok).run P w = .ok (if ok then .tuple #[v, .bool b] else v) w := by
 obtain ⟨e1, e2⟩ := aCh he;have hes : ∀ x ∈ es.toList, IsKey d x.key := fun x hx => hks _ (e2 x hx)
 have hf' : (Instr.findNow d key es.toList 0 = some none /\ b = false /\ v = z) \/ ∃ j, Instr.findNow d key es.toList 0 = some (some (j, v)) /\ b = true := by
  rcases findNow_spec hkey es.toList 0 hes with ⟨h1, h2⟩ | ⟨j, e, h1, h2, h3⟩
  ·rcases hf with ⟨hb, _, hm⟩ | ⟨hb, hm, hv⟩
   ·obtain ⟨x, hx, hxk⟩ := bCb.1 (e1 ▸ hm);exact absurd hxk (h2 x hx)
   ·exact .inl ⟨h1, hb, hv⟩
  ·have hmem := bBu h2;rcases hf with ⟨hb, hv, _⟩ | ⟨hb, hm, _⟩
   ·have := hv e.val (h3 ▸ e2 e hmem);exact .inr ⟨0 + j, by rw [h1, this], hb⟩
   ·exact absurd (e1 ▸ bCb.2 ⟨e, hmem, h3⟩) hm
 simp only [Instr.lookup, Sem.run_bind, run_underlying ht, Result.andThen, MapKept.run_getObj_map hh, run_checkKey hd hkey, Sem.run_pure];rcases hf' with ⟨h1, rfl, rfl⟩ | ⟨j, h1, rfl⟩
 ·simp [run_findKey hd h1, Result.andThen, aEr hz]
 ·simp [run_findKey hd h1]
theorem Run.lookup {t kt et : TypeId} {d : TypeDesc} {m ix : Operand} {id : Nat} {kvs : List (Value × Value)} {key z : Value} (v : Value) (b : Bool) (ho : o.op = .lookup t m ix false) (hw : awanted all T o = some true)
  (ht : P.underlying t = some (.map kt et)) (hd : P.underlying kt = some d) (hz : uB P et z)
  (hm : aev T m = .mp id) (hid : h.at id = some (.aux (.map kvs))) (hks : ∀ x ∈ kvs, IsKey d x.1) (hk : aev T ix = .p (.prim key)) (hkey : IsKey d key) (hf : oO kvs key z v b) (hp : isPrim v = true)
  (r : Run P rd nb (.ops all rest :: k) (tput T o.dst (.p (.prim v))) h D Q) : Run P rd nb (.ops all (o :: rest) :: k) T h D Q := by
 refine Run.opR (R := fun x h' => x = .p (.prim v) /\ h' = h) hw (fun c hc => by rw [hc] at ho; cases ho) ?_ (by rintro x h' ⟨rfl, rfl⟩; exact r);intro E w a s;have hmr := aev_rep s m;rw [hm] at hmr;simp only [Rep] at hmr;obtain ⟨g, hg, hmv⟩ := hmr;have hkr := aev_rep s ix;rw [hk] at hkr;simp only [Rep, RepP] at hkr;obtain ⟨g', hg', ho'⟩ := s.rel.objsO id _ hid rfl;rw [hg] at hg'; cases hg';obtain ⟨es, c, hh, he, hst⟩ := ho';refine ⟨_, _, E, w, v, ⟨rfl, rfl⟩, ?_, s.rel, s.fresh, by simp only [Rep, RepP, true_and]; exact hp, Fr.refl _ _ _⟩;have hrun := tP (P := P) false ht hd hz hh he hks hkey hf;simp only [execOp, ho];rw [hmv, hkr.1];simp [hrun]
theorem Run.mapUpdate {t kt et : TypeId} {d : TypeDesc} {m ix x : Operand} {id : Nat} {kvs : List (Value × Value)} {key v : Value} (ho : o.op = .mapUpdate t m ix x) (hw : awanted all T o = some true)
  (ht : P.underlying t = some (.map kt et)) (hd : P.underlying kt = some d)
  (hm : aev T m = .mp id) (hid : h.at id = some (.aux (.map kvs))) (hks : ∀ x ∈ kvs, IsKey d x.1) (hk : aev T ix = .p (.prim key)) (hkey : IsKey d key) (hb0 : key ∉ kvs.map Prod.fst) (hx : aev T x = .p (.prim v))
  (r : Run P rd nb (.ops all rest :: k) (tput T o.dst (.tup [])) (h.set id (some (.aux (.map (kvs ++ [(key, v)]))))) D Q) : Run P rd nb (.ops all (o :: rest) :: k) T h D Q := by
 refine Run.opU (R := fun h' => h' = h.set id (some (.aux (.map (kvs ++ [(key, v)]))))) hw (fun c hc => by rw [hc] at ho; cases ho) ?_ (by rintro h' rfl; exact r);intro E w a s;have hmr := aev_rep s m;rw [hm] at hmr;simp only [Rep] at hmr;obtain ⟨g, hg, hmv⟩ := hmr;have hkr := aev_rep s ix;rw [hk] at hkr;simp only [Rep, RepP] at hkr;have hxr := aev_rep s x;rw [hx] at hxr;simp only [Rep, RepP] at hxr;obtain ⟨g', hg', ho'⟩ := s.rel.objsO id _ hid rfl;rw [hg] at hg'; cases hg';obtain ⟨es, c, hh, he, hst⟩ := ho';obtain ⟨e1, e2⟩ := aCh he;have hes : ∀ x ∈ es.toList, IsKey d x.key := fun x hx => hks _ (e2 x hx)
 obtain ⟨q1, q2⟩ := MapKept.heap_set (o' := .map (es.push { key, val := v, born := c }) (c + 1)) hh
 have hrun : (Instr.mapUpdate t (.map (some g)) key v).run P w = .ok () { w with heap := w.heap.setIfInBounds g (.map (es.push { key, val := v, born := c }) (c + 1)) } := by
  have hf : Instr.findNow d key es.toList 0 = some none := by
   rcases findNow_spec hkey es.toList 0 hes with ⟨h1, h2⟩ | ⟨j, e, h1, h2, h3⟩
   ·exact h1
   ·exact absurd (e1 ▸ bCb.2 ⟨e, bBu h2, h3⟩) hb0
  simp only [Instr.mapUpdate, Sem.run_bind, run_underlying ht, Result.andThen, MapKept.run_getObj_map hh, run_checkKey hd hkey, run_findKey hd hf, MapKept.run_setObj_map _ hh]
 have hst' : Stamped (es.push { key, val := v, born := c }) (c + 1) := by
  obtain ⟨s1, s2, s3⟩ := hst;refine ⟨fun x hx => ?_, ?_, ?_⟩
  ·simp only [Array.toList_push, bC8, List.mem_singleton] at hx;rcases hx with hx | rfl
   ·have := s1 x hx; omega
   ·exact Nat.lt_succ_self c
  ·simp only [Array.toList_push, bCi, bBx, bCv];refine List.nodup_append.2 ⟨s2, by simp, fun a ha b hb => ?_⟩;obtain ⟨x, hx, rfl⟩ := bCb.1 ha;have := s1 x hx;simp only [List.mem_singleton] at hb;omega
  ·simp only [Array.toList_push, bCi, bBx, bCv];refine List.nodup_append.2 ⟨s3, by simp, fun a ha b hb => ?_⟩;simp only [List.mem_singleton] at hb;subst hb;rintro rfl;exact hb0 (e1 ▸ ha)
 obtain ⟨g1, g2⟩ := s.rel.writeO (w' := { w with heap := w.heap.setIfInBounds g (.map (es.push { key, val := v, born := c }) (c + 1)) }) hid rfl (o' := .aux (.map (kvs ++ [(key, v)]))) rfl hg
  (fun _ => ⟨_, _, q1, by simp [he], hst'⟩) q2 aA rfl rfl
 refine ⟨_, E, _, rfl, ?_, g1, by simpa using s.fresh, g2⟩;simp only [execOp, ho];rw [hmv, hkr.1, hxr.1];simp [hrun]

end

end Go.AI

namespace Go.Proofs.YtfajdeofhioakaaGreat
open Go.AI

open Go.Shelf Go.Proofs
def aAr : Go.Shelf.Ren := ⟨fun | 189 => 85 | 125 => 136 | 257 => 135 | 128 => 187 | 129 => 188 | 294 => 178 | 295 => 179 | 296 => 180 | 297 => 181 | 298 => 182 | 299 => 183 | 216 => 184 | 300 => 185 | 301 => 186 | 328 => 217 | 329 => 218 | 330 => 219 | 331 => 220 | 332 => 221 | 215 => 222 | 343 => 254 | n => n, fun | 28 => 37 | 3 => 3 | 46 => 204 | 0 => 0 | 51 => 263 | 53 => 265 | 4 => 4 | 183 => 255 | 182 => 254 | 131 => 260 | 5 => 5 | 9 => 9 | 218 => 305 | 222 => 309 | 228 => 343 | 229 => 110 | n => n, fun | n => n⟩
theorem aP2 : Go.Proofs.Lays.n189 Tryz.prog aAr := {
 mixed := aC
 f125 := Tryz.func136.trans (congrArg some aC)
 f128 := Tryz.func187.trans (congrArg some aC)
 f129 := Tryz.func188.trans (congrArg some aC)
 f189 := Tryz.func85.trans (congrArg some aC)
 f215 := Tryz.func222.trans (congrArg some aC)
 f216 := Tryz.func184.trans (congrArg some aC)
 f257 := Tryz.func135.trans (congrArg some aC)
 f294 := Tryz.func178.trans (congrArg some aC)
 f295 := Tryz.func179.trans (congrArg some aC)
 f296 := Tryz.func180.trans (congrArg some aC)
 f297 := Tryz.func181.trans (congrArg some aC)
 f298 := Tryz.func182.trans (congrArg some aC)
 f299 := Tryz.func183.trans (congrArg some aC)
 f300 := Tryz.func185.trans (congrArg some aC)
 f301 := Tryz.func186.trans (congrArg some aC)
 f328 := Tryz.func217.trans (congrArg some aC)
 f329 := Tryz.func218.trans (congrArg some aC)
 f330 := Tryz.func219.trans (congrArg some aC)
 f331 := Tryz.func220.trans (congrArg some aC)
 f332 := Tryz.func221.trans (congrArg some aC)
 f343 := Tryz.func254.trans (congrArg some aC)
 t0 := Tryz.underlying0
 a0 := Tryz.isAgg0
 z0 := Tryz.sizeOf0
 v0 := Tryz.zeroValue0
 t3 := Tryz.underlying3
 a3 := Tryz.isAgg3
 z3 := Tryz.sizeOf3
 v3 := Tryz.zeroValue3
 t4 := Tryz.underlying4
 a4 := Tryz.isAgg4
 z4 := Tryz.sizeOf4
 v4 := Tryz.zeroValue4
 t5 := Tryz.underlying5
 a5 := Tryz.isAgg5
 z5 := Tryz.sizeOf5
 v5 := Tryz.zeroValue5
 t9 := Tryz.underlying9
 a9 := Tryz.isAgg9
 z9 := Tryz.sizeOf9
 v9 := Tryz.zeroValue9
 t28 := Tryz.underlying37
 a28 := Tryz.isAgg37
 z28 := Tryz.sizeOf37
 v28 := Tryz.zeroValue37
 t46 := Tryz.underlying204
 a46 := Tryz.isAgg204
 z46 := Tryz.sizeOf204
 v46 := Tryz.zeroValue204
 t51 := Tryz.underlying263
 a51 := Tryz.isAgg263
 z51 := Tryz.sizeOf263
 v51 := Tryz.zeroValue263
 t53 := Tryz.underlying265
 a53 := Tryz.isAgg265
 z53 := Tryz.sizeOf265
 v53 := Tryz.zeroValue265
 t131 := Tryz.underlying260
 a131 := Tryz.isAgg260
 z131 := Tryz.sizeOf260
 v131 := Tryz.zeroValue260
 t182 := Tryz.underlying254
 a182 := Tryz.isAgg254
 z182 := Tryz.sizeOf254
 v182 := Tryz.zeroValue254
 t183 := Tryz.underlying255
 a183 := Tryz.isAgg255
 z183 := Tryz.sizeOf255
 v183 := Tryz.zeroValue255
 t218 := Tryz.underlying305
 a218 := Tryz.isAgg305
 z218 := Tryz.sizeOf305
 v218 := Tryz.zeroValue305
 t222 := Tryz.underlying309
 a222 := Tryz.isAgg309
 z222 := Tryz.sizeOf309
 v222 := Tryz.zeroValue309
 t228 := Tryz.underlying343
 a228 := Tryz.isAgg343
 z228 := Tryz.sizeOf343
 v228 := Tryz.zeroValue343
 t229 := Tryz.underlying110
 a229 := Tryz.isAgg110
 z229 := Tryz.sizeOf110
 v229 := Tryz.zeroValue110 }

end Go.Proofs.YtfajdeofhioakaaGreat

namespace Go.AI

open Go Go.Shelf Go.Sort Go.Proofs
def aGl (l : List Int) : List (List PV) := l.map fun z => [.prim (.int .i64 z)]
theorem eX (l : List Int) : (aGl l).length = l.length := by simp [aGl]
theorem xJ (l : List Int) : (aGl l).flatten.map AV.p = l.map fun z => .p (.prim (.int .i64 z)) := by
 induction l with
 | nil => rfl
 | cons z l ih => simp only [aGl, bBx, bCu, bBj, bBo] at ih ⊢; rw [ih]
theorem lR {E w} : ∀ {l : List Int} {vs : List Value}, RepL E w (l.map fun z => .p (.prim (.int .i64 z))) vs ↔ vs = l.map (Value.int .i64)
 | [], vs => by simp [RepL]
 | z :: l, vs => by
  simp only [bBx, RepL, Rep, RepP];constructor
  ·rintro ⟨v, us, rfl, ⟨rfl, _⟩, h⟩;rw [(lR (l := l)).1 h]
  ·rintro rfl;exact ⟨_, _, rfl, ⟨rfl, rfl⟩, (lR (l := l)).2 rfl⟩
theorem Rel.more {E : Env} {h : Nat -> Option AO} {w : World} (r : Rel E h w) (os : Array Obj) : Rel E h (Sort.grow w os) /\ Fr E h w E h (Sort.grow w os) := by
 have old : ∀ b, b < w.heap.size -> (Sort.grow w os).heap[b]? = w.heap[b]? := fun b hb => heap_grow_old w os hb
 have hx : Ext E w E (Sort.grow w os) := ⟨fun _ _ h => h, fun b off hb => bI (old b (r.lt b off hb)) off, fun _ _ h => h, fun _ L h => ⟨L, h, bBh _, fun _ => rfl⟩⟩;refine ⟨⟨fun id o hc hn => ?_, fun id o n sz m cs hc hk => ?_, r.inj, r.sepO, r.sepT, fun b off hb => Nat.lt_of_lt_of_le (r.lt b off hb) aA⟩, ⟨fun b hb _ => old b hb, hx, fun _ _ h => .inl h, by simp, fun _ h => .inl h, rfl, rfl⟩⟩
 ·obtain ⟨b, hg, ho⟩ := r.objsO id o hc hn;exact ⟨b, hg, ho.move hx (old b ho.lt)⟩
 ·obtain ⟨blk, cap, ht, h1, h2, h3⟩ := r.toks id o n sz m cs hc hk;refine ⟨blk, cap, ht, h1, h2, fun b hb => ?_⟩;obtain ⟨vs, hr, hl, hp⟩ := h3 b hb;exact ⟨vs, hr.same (old b hr.lt), hl, hp.ext hx⟩
theorem lO (d : List Int) (c : Array Value) (hl : d.length <= c.size) : (putCells (Value.int .i64) 0 d.toArray c).toList = d.map (Value.int .i64) ++ c.toList.drop d.length := by
 apply bD3;intro j;rw [bEd];simp only [putCells, Array.getElem?_mapIdx, List.size_toArray, bCg, Nat.zero_le, true_and, Nat.sub_zero]
 by_cases hj : j < d.length
 ·rw [bBt (by simpa using hj)];simp [hj, show j < c.size by omega]
 ·rw [bCs (by simp; omega), List.getElem?_drop];simp only [hj, if_false, bC9, bEd, show d.length + (j - d.length) = j by omega]
  cases c[j]? <;> rfl


open Go

section

variable {P : Program} {rd : Option Nat} {nb : Nat} {k : List It} {T : List AV} {h : Heap} {D : List AD} {Q : AX -> List AV -> Heap -> List AD -> Prop} {all : Array Oper} {o : Oper} {rest : List Oper}
theorem Run.vecAt (id off sz : Nat) {cs : List AV} (hid : h.at id = some (.cells cs)) (hs : cs[off]? = some (.p (.prim (.slice none 0 0)))) (r : Run P rd nb k T (h.set id (some (.cells (cs.set off (.vec h.length 0)))) ++ [some (.vec sz [])]) D Q) : Run P rd nb k T h D Q := by
 intro E w a s;have hlt := bF hid;obtain ⟨t1, t2, t3⟩ := s.rel.newTk s.fresh (tk := .vec sz []) (sz := sz) rfl;have s' := s.move t2 t1 (by simpa using t3);have hid' : Heap.at (h ++ [some (.vec sz [])]) id = some (.cells cs) := by rw [cC, if_neg aB]; exact hid
 obtain ⟨b, vs, hg, hrow, hreps⟩ := s'.rel.objs id cs hid'
 have hx : Rep { E with t := fun id => if id = h.length then some ⟨none, 0, 0⟩ else E.t id } w (.vec h.length 0) (.slice none 0 0) := by
  exact y5r
 have hoff : off < cs.length := (bBg.1 hs).1;have hl := hreps.length
 have hv : vs[off]? = some (.slice none 0 0) := by
  exact y3n
 have hsame : vs.set off (.slice none 0 0) = vs := by
  exact y51
 have hset := hreps.set hx off;rw [hsame] at hset;obtain ⟨w1, w2⟩ := s'.rel.write hid' hg hrow (fun _ _ => rfl) rfl rfl rfl hset;have e : List.set (h ++ [some (AO.vec sz [])]) id (some (.cells (cs.set off (.vec h.length 0)))) = h.set id (some (.cells (cs.set off (.vec h.length 0)))) ++ [some (.vec sz [])] := bCa _ _ hlt;exact y4u
theorem Rel.forget {E : Env} {h : Heap} {w : World} (r : Rel E h.at w) {id : Nat} : Rel E (Heap.at (h.set id none)) w /\ Fr E h.at w E (Heap.at (h.set id none)) w := by
 have hat : ∀ id' o, Heap.at (h.set id none) id' = some o -> h.at id' = some o := by
  intro id' o e;unfold Heap.at at e ⊢
  by_cases e' : id = id'
  ·subst e';rw [List.getElem?_set_self'] at e
   cases hh : h[id]? <;> simp [hh] at e
  ·rwa [bC5 e'] at e
 have hO : ∀ id' b', eQ E (Heap.at (h.set id none)) id' b' -> eQ E h.at id' b' := by
  intro id' b' ho;rcases ho with ⟨c, h1, h3, h2⟩ | ⟨c, x, c', m, h1, hk, h2⟩
  ·exact .inl ⟨c, hat _ _ h1, h3, h2⟩
  ·exact .inr ⟨c, x, c', m, hat _ _ h1, hk, h2⟩
 exact ⟨⟨fun id' c hc hm => r.objsO id' c (hat _ _ hc) hm, fun id' c n sz k cs hc hk => r.toks id' c n sz k cs (hat _ _ hc) hk, fun i i' b' h1 h2 => r.inj i i' b' (hO _ _ h1) (hO _ _ h2), fun id' c b' off hc hm => r.sepO id' c b' off (hat _ _ hc) hm,
  fun id' c n sz k cs b' c' m off hc => r.sepT id' c n sz k cs b' c' m off (hat _ _ hc), r.lt⟩,
  ⟨fun _ _ _ => rfl, Ext.refl _ _, fun _ _ h => .inl h, bBh _, fun b' ⟨i, ho⟩ => .inl ⟨i, hO _ _ ho⟩, Kp.refl w⟩⟩
theorem aC8 {E w} {es ys : List (List PV)} {vs us : List Value} (h1 : RepL E w (es.flatten.map .p) vs) (h2 : RepL E w (ys.flatten.map .p) us) : RepL E w ((es ++ ys).flatten.map .p) (vs ++ us) := by
 rw [bDu, bCi]; exact h1.append h2
theorem lW {E : Env} {id b c n : Nat} {R : Nat -> Nat -> Prop} {o : Option AO} (hf : Fresh E h.length) (hlt : id < h.length) :
  Fresh { E with ro := R, t := fun j => if j = id then some ⟨some b, c, n⟩ else E.t j } (h.set id o).length := by
 intro j hj;exact y5b
theorem Run.appendV {s x : Operand} {t e : TypeId} {es ys : List (List PV)} {id sz by_ : Nat} {z : List Value} (ho : o.op = .call ⟨.builtin .append, #[s, x], #[t, t]⟩) (hw : awanted all T o = some true) (he : elT P t = some e) (hsz : szT P e = some sz) (hby : byT P e = some by_) (hz : bM P e = some z)
  (hs : aev T s = .vec id es.length) (hid : h.at id = some (.vec sz es)) (hes : ∀ e ∈ es, e.length = sz) (hx : wD (aev T x) = some ys) (hx2 : iV sz (aev T x) = true) (hpos : 0 < ys.length)
  (hb : (es.length + ys.length) * by_ <= 140737488355328) (hb2 : es.length + ys.length <= 9223372036854775807)
  (r : Run P rd nb (.ops all rest :: k) (tput T o.dst (.vec id (es.length + ys.length))) (h.set id (some (.vec sz (es ++ ys)))) D Q) : Run P rd nb (.ops all (o :: rest) :: k) T h D Q := by
 refine Run.opR (R := fun x h' => x = .vec id (es.length + ys.length) /\ h' = h.set id (some (.vec sz (es ++ ys)))) hw (fun c hc => by rw [hc] at ho; cases ho) ?_ (by rintro x h' ⟨rfl, rfl⟩; exact r);intro E w a st;have hlt := bF hid;have hsr := aev_rep st s;rw [hs] at hsr;simp only [Rep] at hsr;obtain ⟨L, hL, _, ad0, cap0, hsv, hcur⟩ := hsr;obtain ⟨blk, cap, ht, k1, k2, k3⟩ := st.rel.toks id _ _ _ _ _ hid rfl;rw [hL] at ht; cases ht;obtain ⟨ha0, hc0⟩ := hcur rfl;simp only at hc0;rw [ha0, hc0] at hsv;have hX := mU hx hx2 (aev_rep st x);simp only [RepP] at hX;obtain ⟨ad, cx, hxv, _, hX⟩ := hX;have hne : ys ≠ [] := by intro h0; rw [h0] at hpos; simp at hpos
 obtain ⟨b, off, rfl, hr⟩ := hX.resolve_left hne;have hu := iW he;obtain ⟨i, zv, hi, hzv, hzc, hzl, _⟩ := aS hz;have hisz : i.size = sz := by unfold szT at hsz; rw [hi] at hsz; simpa using hsz
 have hiby : i.bytes = by_ := by unfold byT at hby; rw [hi] at hby; simpa using hby
 have hyl := hr.length;obtain ⟨news, n1, n2, n3⟩ := hr.values;have hlY : (ys.flatten.map AV.p).length = ys.length * sz := by rw [bC9, aQ hyl]
 have hlE : (es.flatten.map AV.p).length = es.length * sz := by rw [bC9, aQ hes]
 have hadd : (es.length + ys.length) * sz = es.length * sz + ys.length * sz := bDn _ _ _;have hlA : ((es ++ ys).flatten.map AV.p).length = (es.length + ys.length) * sz := by rw [bDu, bCi, bBp, hlE, hlY, hadd]
 have hk' : (AO.vec sz (es ++ ys)).tk = some (es.length + ys.length, sz, 0, (es ++ ys).flatten.map .p) := by simp [AO.tk]
 cases blk with
 | none =>
  have hc0 := k2 rfl;have he0 : es = [] := bDg aB;subst he0;subst hc0;have hrun := run_append_nil (P := P) w t o.type e i zv hu hi hzv ⟨b, off, none⟩ ys.length cx news (by rw [n1, hisz]) (fun j v hj => by rw [addr_add]; exact n2 j v hj) hpos (by simp at hb2; omega) (by rw [hiby]; simp at hb; omega)
  have hzs : ((Builtin.zeroCells zv.cells (grownCap w ys.length 0 e - ys.length)).toList).length = (grownCap w ys.length 0 e - ys.length) * sz := by
   exact y4g
  have hle := bZ w ys.length 0 e
  have hq : List.toArray (news ++ (Builtin.zeroCells zv.cells (grownCap w ys.length 0 e - ys.length)).toList) = news.toArray ++ Builtin.zeroCells zv.cells (grownCap w ys.length 0 e - ys.length) := by
   exact y69
  rw [<- hq] at hrun
  obtain ⟨g1, g2⟩ := st.rel.growG (w' := w.drew.alloc (.cells (List.toArray (news ++ (Builtin.zeroCells zv.cells (grownCap w ys.length 0 e - ys.length)).toList)) e (0, 0))) (b := w.heap.size) (c' := grownCap w ys.length 0 e) (vs := news ++ (Builtin.zeroCells zv.cells (grownCap w ys.length 0 e - ys.length)).toList)
   (o' := .vec sz ([] ++ ys)) (m := ys.length) hid rfl hk' (bBh _) (.inl hpos) (.inr (bBh _)) ⟨e, cB (w := w.drew) _⟩
   (by rw [bBp, n1, hzs, <- bDn]; congr 1; omega) (by simpa using hle) (fun b' _ hb' => alloc_old (w := w.drew) _ hb') (fun off ho => by have := st.rel.lt _ _ ho; omega) (by rw [bJ]; show w.heap.size <= w.heap.size + 1; omega) ⟨rfl, rfl⟩
   (fun E' hx' _ => by
    refine y16 ?_;exact n3.ext hx')
  refine ⟨_, _, _, _, .slice (some ⟨w.heap.size, 0, none⟩) ys.length (grownCap w ys.length 0 e), ⟨rfl, rfl⟩, ?_, g1, lW st.fresh hlt, ?_, g2⟩
  ·exact y4a
  ·exact y3r
 | some g =>
  obtain ⟨cur, hrow, hcl, hcr⟩ := k3 g rfl;have hnro : ∀ off, ¬ E.ro g off := fun off => st.rel.sepT id _ _ _ _ _ g _ _ off hid rfl hL aB
  have hlec : es.length * sz <= cap * sz := bD4 _ k1;rw [hlE] at hcr
  by_cases hroom : es.length + ys.length <= cap
  ·have hmulle : (es.length + ys.length) * sz <= cap * sz := bD4 _ hroom
   obtain ⟨w', hrun, hrow', hsame, hsize, hos, hout⟩ := gE (P := P) (ty := o.type) hu hi hrow (a := ⟨b, off, none⟩) (m := ys.length) (c := cx) (news := news) (n := es.length) (cap := cap) (by rw [n1, hisz]) (fun j v hj => by rw [addr_add]; exact n2 j v hj)
    (RepL.one_p n3) hroom (by rw [hisz]; omega)
   rw [hisz] at hrow'
   obtain ⟨g1, g2⟩ := st.rel.growG (w' := w') (b := g) (c' := cap) (vs := patch cur (es.length * sz) news) (o' := .vec sz (es ++ ys)) (m := ys.length) hid rfl hk' (bBh _) (.inl hpos) (.inl ⟨_, hL, rfl⟩) hrow'
    (by rw [cH]; exact hcl) hroom (fun b' hne _ => hsame b' hne) (fun off ho => absurd ho (hnro off)) aB ⟨hos, hout⟩
    (fun E' hx' _ => by
     rw [hlA]
     have e1 : patch cur (es.length * sz) news = cur.take (es.length * sz) ++ patch (cur.drop (es.length * sz)) 0 news := by
      exact y3y
     have e2 : patch (cur.drop (es.length * sz)) 0 news = news ++ (cur.drop (es.length * sz)).drop (ys.length * sz) := by
      have hh := jK news ((cur.drop (es.length * sz)).take (ys.length * sz)) ((cur.drop (es.length * sz)).drop (ys.length * sz)) (by rw [bC7, bCl]; omega)
      rwa [bCp] at hh
     refine ym ?_;exact aC8 (hcr.ext hx') (n3.ext hx'))
   refine ⟨_, _, _, w', .slice (some ⟨g, 0, none⟩) (es.length + ys.length) cap, ⟨rfl, rfl⟩, ?_, g1, lW st.fresh hlt, ?_, g2⟩
   ·exact y4a
   ·exact y5e
  ·have hol : (cur.take (es.length * sz)).length = es.length * sz := by rw [bC7]; omega
   have holds : ∀ j v, (cur.take (es.length * sz))[j]? = some v -> w.cell? ((⟨g, 0, none⟩ : Addr).add j) = some v := by
    intro j v hj;rw [addr_add, bCg, hrow.cell];exact y4h
   have hrun := run_append_grow (P := P) w t o.type e i zv hu hi hzv ⟨g, 0, none⟩ es.length cap (cur.take (es.length * sz)) (by rw [hol, hisz]) holds ⟨b, off, none⟩ ys.length cx news (by rw [n1, hisz])
    (fun j v hj => by rw [addr_add]; exact n2 j v hj) aB aB (growslice_fits aB (by rw [hiby]; exact hb))
   have hzs : ((Builtin.zeroCells zv.cells (grownCap w (es.length + ys.length) cap e - (es.length + ys.length))).toList).length = (grownCap w (es.length + ys.length) cap e - (es.length + ys.length)) * sz := by
    exact y4g
   have hle := bZ w (es.length + ys.length) cap e
   have hq : List.toArray (cur.take (es.length * sz) ++ news ++ (Builtin.zeroCells zv.cells (grownCap w (es.length + ys.length) cap e - (es.length + ys.length))).toList) =
     (cur.take (es.length * sz)).toArray ++ news.toArray ++ Builtin.zeroCells zv.cells (grownCap w (es.length + ys.length) cap e - (es.length + ys.length)) := by
    exact y69
   rw [<- hq] at hrun
   obtain ⟨g1, g2⟩ := st.rel.growG (w' := w.drew.alloc (.cells (List.toArray (cur.take (es.length * sz) ++ news ++ (Builtin.zeroCells zv.cells (grownCap w (es.length + ys.length) cap e - (es.length + ys.length))).toList)) e (0, 0))) (b := w.heap.size) (c' := grownCap w (es.length + ys.length) cap e)
    (o' := .vec sz (es ++ ys)) (m := ys.length) hid rfl hk' (bBh _) (.inl hpos) (.inr (bBh _)) ⟨e, cB (w := w.drew) _⟩
    (by rw [bBp, bBp, hol, n1, hzs, <- hadd, <- bDn]; congr 1; omega) hle (fun b' _ hb' => alloc_old (w := w.drew) _ hb') (fun off ho => by have := st.rel.lt _ _ ho; omega) (by rw [bJ]; show w.heap.size <= w.heap.size + 1; omega) ⟨rfl, rfl⟩
    (fun E' hx' _ => by
     have hl1 : (cur.take (es.length * sz) ++ news).length = (es.length + ys.length) * sz := by rw [bBp, hol]; omega
     have hh := aC8 (hcr.ext hx') (n3.ext hx');generalize cur.take (es.length * sz) ++ news = q at hh hl1;rw [hlA, <- hl1, bCh (bBh _), bBr (bBh _)];exact hh)
   refine ⟨_, _, _, _, .slice (some ⟨w.heap.size, 0, none⟩) (es.length + ys.length) (grownCap w (es.length + ys.length) cap e), ⟨rfl, rfl⟩, ?_, g1, lW st.fresh hlt, ?_, g2⟩
   ·exact y4a
   ·exact y49
theorem Run.freezeV (slot : Nat) {id n sz : Nat} {es : List (List PV)} (hs : tget T slot = .vec id n) (hat : h.at id = some (.vec sz es)) (hes : ∀ e ∈ es, e.length = sz) (hn : es.length = n)
  (r : Run P rd nb k (T.set slot (.p (.sl sz es))) (h.set id none) D Q) : Run P rd nb k T h D Q := by
 intro E w a s;have hv := s.tmps.get slot;rw [<- tget_eq, hs] at hv;simp only [Rep] at hv;obtain ⟨L, hL, _, ad, cap0, hv, hcur⟩ := hv;obtain ⟨blk, cap, ht, k1, k2, k3⟩ := s.rel.toks id _ _ _ _ _ hat rfl;rw [hL] at ht; cases ht;subst hn;obtain ⟨ha0, hc0⟩ := hcur rfl;simp only at hc0;rw [ha0, hc0] at hv
 have hset : ∀ {E' : Env} {x : AV}, RepL E' w T a.tmps.toList -> Rep E' w x (a.tmps.toList.getD slot undef) -> RepL E' w (T.set slot x) a.tmps.toList := by
  intro E' x hT hx;have hset := hT.set hx slot
  have hsame : (a.tmps.toList).set slot (a.tmps.toList.getD slot undef) = a.tmps.toList := by
   apply bD3;intro j;refine y13 ?_;split
   ·rename_i e; subst e;rcases bD2 slot a.tmps.size with l | l
    ·simp [l]
    ·have l' : ¬ slot < a.tmps.size := aB;simp [l']
   ·rfl
  rwa [hsame] at hset
 cases blk with
 | none =>
  have hc0 := k2 rfl;have he0 : es = [] := bDg aB;subst he0;obtain ⟨f1, f2⟩ := s.rel.forget (id := id);have s' := s.move f2 f1 (fun i hi => s.fresh i (by simpa using hi))
  have hx : Rep E w (.p (.sl sz [])) (.slice none 0 cap) := by
   simp only [Rep, RepP];exact ⟨_, cap, rfl, k1, .inl trivial⟩
  exact y4x
 | some b =>
  obtain ⟨vals, hrow, hcl, hcr⟩ := k3 b rfl;obtain ⟨f1, f2⟩ := s.rel.freezeG (b := b) hat (.inr ⟨_, _, _, _, hat, rfl, hL⟩);have s' := s.move f2 f1 (fun i hi => s.fresh i (by simpa using hi));have hel : (es.flatten.map AV.p).length = es.length * sz := by rw [bC9, aQ hes]
  have hx : Rep { E with ro := fun b' off => E.ro b' off \/ b' = b } w (.p (.sl sz es)) (.slice (some ⟨b, 0, none⟩) es.length cap) := by
   simp only [Rep, RepP];refine ⟨_, cap, rfl, k1, .inr ⟨b, 0, rfl, ?_⟩⟩;rw [hel] at hcr;refine RepEs.of_row (vs := vals.take (es.length * sz)) hes (fun j v hj => ⟨.inr rfl, ?_⟩) (hcr.ext f2.ext);rw [hrow.cell, bCg];exact y4h
  exact y4x

end

section

open Go.Shelf Go.Sort Go.Proofs
theorem aLa {P : Program} {ρ : Ren} (Ly : Lays.n189 P ρ) {h : Heap} {id n : Nat} {zs : List Int} (hid : h.at id = some (.vec 1 (aGl zs))) (hn : n = zs.length) (hsz : zs.length < 4611686018427387904) :
  ACalls P (ρ.f 189) [.vec id n] h fun out h' => out = .ret (.tup []) /\ h' = h.set id (some (.vec 1 (aGl (zs.mergeSort fun x y => decide (x <= y))))) := by
 intro E w vs hrel hfresh hargs;subst hn;simp only [RepL, Rep] at hargs;obtain ⟨v, us, rfl, ⟨L, hL, _, ad0, cap0, rfl, hcur⟩, rfl⟩ := hargs;obtain ⟨blk, cap, ht, k1, k2, k3⟩ := hrel.toks id _ _ _ _ _ hid rfl;rw [hL] at ht; cases ht;obtain ⟨ha0, hc0⟩ := hcur (by simp [eX]);simp only at hc0;rw [eX] at k1;have hlt := bF hid;have hms : (zs.mergeSort fun x y => decide (x <= y)).length = zs.length := aA
 cases blk with
 | none =>
  have hcz := k2 rfl;have hz : zs = [] := bDg aB;subst hz;refine Calls.mono (Any.slices_Sort_int_none Ly _ _ w) ?_;rintro e w' ⟨rfl, rfl⟩
  have hset : h.set id (some (.vec 1 (aGl (([] : List Int).mergeSort fun x y => decide (x <= y))))) = h := by
   have e1 : ([] : List Int).mergeSort (fun x y => decide (x <= y)) = [] := aA;rw [e1];apply bD3;intro j;refine y13 ?_;split
   ·rename_i e; subst e;unfold Heap.at at hid;rw [bBf hlt] at hid ⊢;simp only [bBw] at hid;simp [hid]
   ·rfl
  exact ⟨_, _, E, ⟨rfl, rfl⟩, by rw [hset]; exact hrel, by rw [hset]; exact hfresh, ⟨_, rfl, by simp [Rep, RepL]⟩, by rw [hset]; exact Fr.refl _ _ _⟩
 | some b =>
  obtain ⟨cur, hrow, hcl, hcr⟩ := k3 b rfl;rw [Nat.mul_one] at hcl;have hnro : ∀ off, ¬ E.ro b off := fun off => hrel.sepT id _ _ _ _ _ b _ _ off hid rfl hL aB
  rw [xJ, bC9, lR] at hcr;obtain ⟨T, hheap⟩ := hrow;have hcu : cur = zs.map (Value.int .i64) ++ cur.drop zs.length := by rw [<- hcr, bCp]
  have hH : Holds (Value.int .i64) w b 0 zs.toArray := by
   intro j hj;have hj' : j < zs.length := by simpa using hj
   refine ⟨?_, by simp [World.frozen?, hheap]⟩;rw [World.cell?, hheap, hcu];simp [hj', bBt]
  rw [ha0];refine Calls.mono (Any.slices_Sort_int Ly b 0 cap0 zs w hH (dO hheap) hsz) ?_;rintro e w' ⟨rfl, n, os, rfl⟩;obtain ⟨r1, f1⟩ := hrel.of_heap (w' := Sort.ahead w n) rfl rfl rfl;have hheap1 : (Sort.ahead w n).heap[b]? = some (.cells (List.toArray cur) T (0, 0)) := hheap
  obtain ⟨r2, f2⟩ := r1.growG (w' := putRow (Value.int .i64) (Sort.ahead w n) b 0 (zs.mergeSort fun x y => decide (x <= y)).toArray) (b := b) (c' := cap) (m := 0) (k := 0) (k' := 0)
   (vs := (putCells (Value.int .i64) 0 (zs.mergeSort fun x y => decide (x <= y)).toArray (List.toArray cur)).toList)
   (o' := .vec 1 (aGl (zs.mergeSort fun x y => decide (x <= y)))) (cs' := (aGl (zs.mergeSort fun x y => decide (x <= y))).flatten.map .p) hid rfl (by simp [AO.tk, eX]) (bBh _) (.inr hL) (.inl ⟨_, hL, rfl⟩)
   ⟨T, by simp only [putRow, mapBlock, Array.getElem?_modify, hheap1, if_true, bCm, onCells, Array.toArray_toList]⟩
   (by rw [lO _ _ (by simp; omega)]; simp; omega) (by rw [eX]; omega)
   (fun b' hne _ => by simp [putRow, mapBlock, Array.getElem?_modify, Ne.symm hne]) (fun off ho => absurd ho (hnro off)) (by simp [putRow, mapBlock]) ⟨rfl, rfl⟩
   (fun E' _ _ => by
    rw [lO _ _ (by simp; omega), xJ, lR, bC9, bCh aA, bBr aA])
  obtain ⟨r3, f3⟩ := r2.more os;exact ⟨_, _, _, ⟨rfl, rfl⟩, r3, lW hfresh hlt, ⟨_, rfl, by simp [Rep, RepL]⟩, (f1.trans f2).trans f3⟩

end

end Go.AI
