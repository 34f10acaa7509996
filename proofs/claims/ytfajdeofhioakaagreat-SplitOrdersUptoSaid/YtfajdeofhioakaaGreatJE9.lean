import Derived.Test.YtfajdeofhioakaaGreatJA0
import Derived.Test.YtfajdeofhioakaaGreatJC
import Derived.Test.YtfajdeofhioakaaGreatJD
set_option maxRecDepth 8000
set_option maxHeartbeats 8000000

namespace Go.AI

open Go
theorem Run.joinH {P : Program} {rd : Option Nat} {nb : Nat} {k : List It} {T : List AV} {h : Heap} {D : List AD} {Q : AX -> List AV -> Heap -> List AD -> Prop} {c : Code} (keep : List Nat) (sets : List (Nat × AV)) (h2 : Heap) (r : (∀ T', WeakL T' (setMany (keepT keep T) sets) -> Run P rd nb k T' h2 D Q) -> Run P rd nb (.code c :: k) T h D Q)
  (next : Run P rd nb k (setMany (keepT keep T) sets) h2 D Q) : Run P rd nb (.code c :: k) T h D Q := r fun _ hw => Run.weak hw next

end Go.AI

namespace Go.Proofs.YtfajdeofhioakaaGreat

open Go Go.AI
def eD (dp : Int) (len : Nat) (t : Tm) (b : Int) : Int :=
 if 0 <= IntKind.i64.wrap (IntKind.i64.wrap (t.index - b) - dp) /\ IntKind.i64.wrap (IntKind.i64.wrap (t.index - b) - dp) < len then IntKind.i64.wrap (IntKind.i64.wrap (t.index - b) - dp) else -1
theorem zD (h : Heap) (hh : WF h) (t : Tm) (b dp : Int) (vs : List Tm) (p q : Nat) (hp : h[p]? = some (some (.cells [iA dp]))) (hq : h[q]? = some (some (.cells [.p (.sl 5 (aP vs))]))) :
  AC 232 [t.av, iA b, .ptr p 0, .ptr q 0] h (iA (eD dp vs.length t b)) := by
 obtain ⟨p1, _⟩ := idf hp;obtain ⟨q1, _⟩ := idf hq;obtain ⟨k, i, n, ls, ks⟩ := t;obtain ⟨z, hz⟩ : ∃ z, IntKind.i64.wrap (IntKind.i64.wrap (i - b) - dp) = z := ⟨_, rfl⟩;refine ACalls.of_run Tryz.func232 rfl ?_;simp only [Tryz.ntmps232, bBm, bBn, Tm.av, cells_mk, List.map];refine wB p1 ?_;rw [hz];refine nv ?_;refine Run.regJ [0, 7] 21 (decide (0 <= z) && decide (z < vs.length)) (fun K J => ?_) ?_
 ·simp [q1];exact y1f
 refine y5 ?_;simp;refine Run.condB rfl (fun h1 => ?_) (fun h1 => ?_)
 ·refine zA ?_;refine Fin.ret' aA rfl hh rfl rfl rfl (Weak.refl _) rfl ⟨?_, rfl⟩;simp only [eD, Tm.index, hz];rw [if_pos (by simpa using h1)]; rfl
 ·refine zA ?_;refine Fin.ret' aA rfl hh rfl rfl rfl (Weak.refl _) rfl ⟨?_, rfl⟩;simp only [eD, Tm.index, hz];rw [if_neg (by simpa using h1)]; rfl
theorem aMw (h : Heap) (hh : WF h) (p : Nat) (s n : Int) (hp : h[p]? = some (some (.cells [iA s]))) :
  ACalls Tryz.prog 235 [.ptr p 0, iA n] h fun o h' => o = (if 4096 < IntKind.i64.wrap (s + n) then .panic (.p (errP 5)) else .ret (.tup [])) /\ h' = h.set p (some (.cells [iA (IntKind.i64.wrap (s + n))])) := by
 obtain ⟨p1, p2, p3, p4, p5, p6⟩ := idf hp;refine zE Tryz.func235 Tryz.ntmps235 ?_;refine uC hp ?_;generalize IntKind.i64.wrap (s + n) = z;refine uC p3 ?_
 by_cases hz : 4096 < z
 ·refine nV hz ?_;refine Run.call (args := [iA 5]) rfl rfl aA rfl (stop_any _ (hh.set aA) 5) ?_ ?_
  ·rintro v h' ⟨hv, _⟩; cases hv
  ·rintro v h' ⟨hv, rfl⟩;simp only [AOut.panic.injEq] at hv;subst hv;exact Fin.pan aA (hh.set aA) (bBl _).symm ⟨by simp [hz], rfl⟩
 ·refine aD8 hz ?_;refine Run.nil ?_;exact Fin.ret' aA aA (hh.set aA) (bBl _).symm rfl rfl (Weak.refl _) rfl ⟨by simp [hz], rfl⟩
def aFq (dp : Int) (zsx : List Int) (t : Tm) (b : Int) : Int := if t.kind = 0 /\ 0 <= eD dp zsx.length t b then (zsx[(eD dp zsx.length t b).toNat]?).getD 0 else 1
def fN (dp : Int) (zsx : List Int) (s : Int) (t : Tm) (b : Int) : VO :=
 if 4096 < IntKind.i64.wrap (s + aFq dp zsx t b) then .bad 5 (IntKind.i64.wrap (s + aFq dp zsx t b)) else if t.kind = 0 then .done zT (IntKind.i64.wrap (s + aFq dp zsx t b)) else .go zT (IntKind.i64.wrap (s + aFq dp zsx t b))
theorem zC (dp : Int) (len : Nat) (t : Tm) (b : Int) (h : 0 <= eD dp len t b) : (eD dp len t b).toNat < len := by
 unfold eD at h ⊢;split
 ·rename_i hc; omega
 ·rename_i hc; rw [if_neg hc] at h; omega
theorem aNa (dp : Int) (vs : List Tm) (zsx : List Int) (hzl : zsx.length = vs.length) (B : Int -> Heap) (n pv pc p9 pz pn p5 p4 : Nat) (hlen : ∀ s, (B s).length = n) (hwf : ∀ s, WF (B s))
  (hpv : ∀ s, (B s)[pv]? = some (some (.cells [.fn (.func 232) [] [.ptr p5 0, .ptr p4 0]]))) (hpc : ∀ s, (B s)[pc]? = some (some (.cells [.ptr pn 0]))) (hp9 : ∀ s, (B s)[p9]? = some (some (.cells [.sm pz 0 vs.length vs.length 1])))
  (hpz : ∀ s, (B s)[pz]? = some (some (.cells (zsx.map fun z => iA z)))) (hpn : ∀ s, (B s)[pn]? = some (some (.cells [iA s]))) (hp5 : ∀ s, (B s)[p5]? = some (some (.cells [iA dp]))) (hp4 : ∀ s, (B s)[p4]? = some (some (.cells [.p (.sl 5 (aP vs))])))
  (hB : ∀ s s', (B s).set pn (some (.cells [iA s'])) = B s') (s : Int) (t : Tm) (b : Int) (l : List (Option AO)) (hw : WF (B s ++ l)) :
  ACalls Tryz.prog 234 ([t.av, iA b] ++ [.ptr pv 0, .ptr pc 0, .ptr p9 0]) (B s ++ l) (VPost B l (fN dp zsx s t b)) := by
 have lt : ∀ {q : Nat} {o : Option AO}, (∀ s, (B s)[q]? = some o) -> q < n := fun hq => by have := (bBg.1 (hq 0)).1; rwa [hlen] at this
 have up : ∀ {q : Nat} {o : Option AO}, (∀ s, (B s)[q]? = some o) -> ∀ s (l : List (Option AO)), (B s ++ l)[q]? = some o := fun hq s l => by rw [bBt (by rw [hlen]; exact lt hq)]; exact hq s
 have cv := up hpv;have cc := up hpc;have c9 := up hp9;have cz := up hpz;have ltn : pn < n := by have := (bBg.1 (hpn 0)).1; rwa [hlen] at this
 have cn : ∀ s (l : List (Option AO)), (B s ++ l)[pn]? = some (some (.cells [iA s])) := fun s l => by rw [bBt (by rw [hlen]; exact ltn)]; exact hpn s
 have hB2 : ∀ s s' (l : List (Option AO)), (B s ++ l).set pn (some (.cells [iA s'])) = B s' ++ l := fun s s' l => by rw [bCa _ _ (by rw [hlen]; exact ltn), hB]
 have gl : ∀ s (l' : List (Option AO)) (k : Nat), (B s ++ (l ++ l'))[n + (l.length + k)]? = l'[k]? := fun s l' k => by rw [dC (hlen s), kY]
 have gl0 : ∀ s (l' : List (Option AO)), (B s ++ (l ++ l'))[n + l.length]? = l'[0]? := fun s l' => gl s l' 0
 have sl : ∀ s (l' : List (Option AO)) (k : Nat) (o : Option AO), (B s ++ (l ++ l')).set (n + (l.length + k)) o = B s ++ (l ++ l'.set k o) := fun s l' k o => by rw [dG (hlen s), lS]
 have hl0 : l.all (AO.under (n + l.length)) = true := by
  exact y5y
 have hl1 : ∀ k, l.all (AO.under (n + (l.length + k))) = true := fun k => by
  exact y6i
 have hwB : ∀ s', WF (B s' ++ l) := fun s' => (hwf s').app (by rw [hlen]; exact hl0)
 obtain ⟨k, i, nm, ls, ks⟩ := t;obtain ⟨L, hL⟩ : ∃ L : List (Option AO), L = [some (.cells [iA k, iA i, .p (sP nm), .p (.sl 2 (bR ls)), .p (.sl 5 (aP ks))]), some (.cells zTm)] := ⟨_, rfl⟩;have hwL : ∀ s', WF (B s' ++ (l ++ L)) := fun s' => (hwf s').app (by rw [hlen, bDt, bBs, hL]; exact ⟨by simpa using hl1 2, by simp⟩)
 have hval := zD (B s ++ (l ++ L)) (hwL s) (.mk k i nm ls ks) b dp vs p5 p4 (up hp5 s _) (up hp4 s _);have hadd := fun z => aMw (B s ++ (l ++ L)) (hwL s) pn s z (cn s _)
 obtain ⟨v, hv⟩ : ∃ v, eD dp vs.length (.mk k i nm ls ks) b = v := ⟨_, rfl⟩;have hvlt := zC dp vs.length (.mk k i nm ls ks) b;rw [hv] at hval hvlt;have hcn : aFq dp zsx (.mk k i nm ls ks) b = if k = 0 /\ 0 <= v then (zsx[v.toNat]?).getD 0 else 1 := by simp only [aFq, Tm.kind, hzl, hv]
 rw [hL] at hval hadd;simp only [bBj, bBo];refine ACalls.of_run Tryz.func234 rfl ?_;simp only [Tryz.ntmps234, bBm, bBn, Tm.av, cells_mk, List.map];refine uC hlen ?_;refine zr2 cv gl0 ?_;refine Run.call rfl rfl aA rfl hval ?_ ?_
 rotate_left
 ·rintro v h' ⟨hv, _⟩; cases hv
 rintro v0 h' ⟨hv0, rfl⟩;simp only [AOut.ret.injEq] at hv0;subst hv0;refine zo ?_;refine Run.regJ [1, 2, 3, 4, 5, 7, 9] 20 (k == 0 && decide (0 <= v)) (fun K J => ?_) ?_
 ·simp [gl0];exact y1f
 refine y5 ?_;simp;obtain ⟨cz0, hcz0⟩ : ∃ z, aFq dp zsx (.mk k i nm ls ks) b = z := ⟨_, rfl⟩;rw [hcz0] at hcn;obtain ⟨w2, hw2⟩ : ∃ z, IntKind.i64.wrap (s + cz0) = z := ⟨_, rfl⟩;have hvis : fN dp zsx s (.mk k i nm ls ks) b = if 4096 < w2 then .bad 5 w2 else if k = 0 then .done zT w2 else .go zT w2 := by simp only [fN, hcz0, hw2, Tm.kind]
 rw [hvis];have hadd2 := hadd cz0;rw [hw2] at hadd2;simp only [hB2] at hadd2;clear hadd hvis hval
 have hcase : (k = 0 /\ 0 <= v /\ zsx[v.toNat]? = some cz0 /\ v.toNat < vs.length) \/ ((k == 0 && decide (0 <= v)) = false /\ cz0 = 1) := by
  by_cases hc : k = 0 /\ 0 <= v
  ·left;rw [if_pos hc] at hcn;have hlt := hvlt hc.2;refine ⟨hc.1, hc.2, ?_, hlt⟩;rw [bBf aB] at hcn ⊢;simp only [bBw] at hcn;rw [hcn]
  ·right;rw [if_neg hc] at hcn;exact ⟨by simpa using hc, hcn⟩
 by_cases hbad : 4096 < w2
 ·rw [if_pos hbad];simp only [if_pos hbad] at hadd2;rcases hcase with ⟨hk, hv0, hzv, hlt⟩ | ⟨hk, rfl⟩
  ·have hk2 : (k == 0 && decide (0 <= v)) = true := by simp [hk, hv0]
   have hn : ¬ v < 0 := aB;have hlt2 : v < (vs.length : Int) := aB;refine ct (by simp only [aev, tget]; rw [hk2]) (nv ?_);refine Run.drawPanic [0, 0, 0, 0, 0, 0] [0, 0, 0, 0, 0, 0] [0, 0, 0, 6, 14, 31] [0, 1, 2, 3, 4] 5 aC aC ?_;refine zd6 cc c9 cz hn hlt2 hzv ?_;refine ⟨_, _, _, _, _, _, rfl, rfl, rfl, by simp, rfl, hadd2, ?_⟩;intro T' hT;exact y6g
  ·refine cf (by simp only [aev, tget]; rw [hk]) ?_;refine uC cc ?_;refine Run.call rfl rfl aA rfl hadd2 ?_ ?_
   ·rintro v h' ⟨hv, _⟩; cases hv
   ·rintro v h' ⟨hv, rfl⟩;simp only [AOut.panic.injEq] at hv;subst hv;exact y6g
 ·rw [if_neg hbad];simp only [if_neg hbad] at hadd2;refine Run.joinH [1, 2, 3, 4, 5, 7] [] (B w2 ++ (l ++ [some (.cells [iA k, iA i, .p (sP nm), .p (.sl 2 (bR ls)), .p (.sl 5 (aP ks))]), some (.cells zTm)])) (fun hJ => ?_) ?_
  ·rcases hcase with ⟨hk, hv0, hzv, hlt⟩ | ⟨hk, rfl⟩
   ·have hk2 : (k == 0 && decide (0 <= v)) = true := by simp [hk, hv0]
    have hn : ¬ v < 0 := aB;have hlt2 : v < (vs.length : Int) := aB;refine ct (by simp only [aev, tget]; rw [hk2]) (nv ?_);refine Run.draw [0, 0, 0, 0, 0, 0] [0, 0, 0, 0, 0, 0] [0, 0, 0, 6, 14, 31] [0, 1, 2, 3, 4, 5] aC aC ?_;refine zd6 cc c9 cz hn hlt2 hzv ?_;refine DR.call rfl rfl rfl aA rfl hadd2 ?_;refine zd ?_;refine hJ _ ?_;exact zS
   ·refine cf (by simp only [aev, tget]; rw [hk]) ?_;refine zn ?_;refine zq1 cc ?_
    repeat (first | refine Run.skip ?_ | refine Run.opsNil ?_ | refine Run.inBlock ?_)
    refine Run.call rfl rfl aA rfl hadd2 ?_ ?_
    rotate_left
    ·rintro v h' ⟨hv, _⟩; cases hv
    rintro v0 h' ⟨hv0, rfl⟩;simp only [AOut.ret.injEq] at hv0;subst hv0;refine Run.ops fun K J => ?_
    simp;refine zi ?_; clear J;exact y2m
  simp only [setMany, keepT, keepT.go, List.contains_cons];refine zs ?_;refine zn ?_;refine Run.draw [0, 0, 0, 0, 0, 1] [0, 0, 0, 0, 0, 0] [0, 0, 2, 6, 1, 31] [0, 4, 1, 2, 3, 5] aC aC ?_;refine zdv3 gl gl0 ?_;change Run _ _ _ _ _ _ _ _;refine znx ?_
  by_cases hk : k = 0
  ·rw [if_pos hk];refine yl ?_;simp [VPost, hk]
  ·rw [if_neg hk];refine yl ?_;simp [VPost, hk]


open Go Go.AI
theorem aLk {n : Int} (h1 : -18446744073709551616 <= n) (h2 : n < -9223372036854775808) : IntKind.i64.wrap n = n + 18446744073709551616 := by
 simp only [IntKind.wrap, IntKind.bits, IntKind.signed];simp;omega
theorem qX {dp : Int} {len : Nat} {t : Tm} {b : Int} (h0 : 0 <= dp) (h1 : dp <= 9223372036854775807) (h2 : -2199023255552 <= t.index - b) (h3 : t.index - b <= 2199023255552) (h4 : len <= 1048576) :
  eD dp len t b = if 0 <= t.index - b - dp /\ t.index - b - dp < len then t.index - b - dp else -1 := by
 unfold eD;rw [wrap_id (n := t.index - b) aB aB]
 by_cases hc : -9223372036854775808 <= t.index - b - dp
 ·rw [wrap_id hc aB]
 ·rw [aLk aB aB, if_neg aB, if_neg aB]
def cV (dp : Int) (vs : List Tm) (s : Int) (t : Tm) (b : Int) : BO Tm :=
 if 0 <= eD dp vs.length t b then
  match vs[(eD dp vs.length t b).toNat]? with
  | some x => match nK (dp + b) 0 x with
   | .ok t' _ => .ok t' s
   | .bad e _ => .bad e s
  | none => .ok t s
 else if t.index - b < dp then .ok t.bare s
 else if 65535 < t.index - vs.length then .bad 24 s else .ok (vr (t.index - vs.length)) s
theorem aF4 (h : Heap) (hh : WF h) (dp : Int) (vs : List Tm) (hdp0 : 0 <= dp) (hdp1 : dp <= 9223372036854775807) (hvl : vs.length <= 1048576) (hvd : ∀ v ∈ vs, Dom 65536 v 0) (p8 p4 p5 : Nat) (h8 : h[p8]? = some (some (.cells [.fn (.func 232) [] [.ptr p5 0, .ptr p4 0]])))
  (h4 : h[p4]? = some (some (.cells [.p (.sl 5 (aP vs))]))) (h5 : h[p5]? = some (some (.cells [iA dp]))) (t : Tm) (b s : Int) (hd : Dom 65536 t b) (hb : b <= 2097152) (hk : t.kind = 0) :
  ACalls Tryz.prog 236 ([t.av, iA b] ++ [.ptr p8 0, .ptr p4 0, .ptr p5 0]) h (RPost (fun _ => h) [] (cV dp vs s t b)) := by
 obtain ⟨e8, _⟩ := idf h8;obtain ⟨e4, _⟩ := idf h4;obtain ⟨e5, _⟩ := idf h5;obtain ⟨i1, i2, i3⟩ := hd.var hk;have hd2 := hd.2.1;have hvz := qX (len := vs.length) (t := t) (b := b) hdp0 hdp1 aB aB hvl;have hval := zD (h ++ [some (.cells (t.cells.map .p)), some (.cells zTm)]) (hh.app aA) t b dp vs p5 p4 (e5 _) (e4 _);have hvlt := zC dp vs.length t b;obtain ⟨v, hv⟩ : ∃ v, eD dp vs.length t b = v := ⟨_, rfl⟩
 have hrep : cV dp vs s t b = if 0 <= v then
  match vs[v.toNat]? with
  | some x => match nK (dp + b) 0 x with
   | .ok t' _ => .ok t' s
   | .bad e _ => .bad e s
  | none => .ok t s
 else if t.index - b < dp then .ok t.bare s
 else if 65535 < t.index - vs.length then .bad 24 s else .ok (vr (t.index - vs.length)) s := by rw [<- hv]; rfl
 rw [hrep];rw [hv] at hval hvz hvlt;clear hrep hd;generalize t.index = i at *;subst i3;simp only [vr, bBj, bBo];refine ACalls.of_run Tryz.func236 rfl ?_;simp only [Tryz.ntmps236, bBm, bBn, Tm.av, cells_mk, List.map];refine wB e8 ?_;refine Run.call (args := [(vr i).av, iA b, .ptr p5 0, .ptr p4 0]) rfl rfl (by simp [vr]) rfl hval ?_ ?_
 rotate_left
 ·rintro v h' ⟨hv, _⟩; cases hv
 rintro v0 h' ⟨hv0, rfl⟩;simp only [AOut.ret.injEq] at hv0;subst hv0;refine zor ?_
 by_cases hv0 : 0 <= v
 ·have hlt := hvlt hv0;have hg : vs[v.toNat]? = some vs[v.toNat] := bBf hlt;have hxd := hvd _ (bBi hlt);generalize vs[v.toNat] = x at hg hxd;have hn : ¬ v < 0 := aB
  have hdpb : dp + b <= 1099511627776 := by
   split at hvz
   ·omega
   ·omega
  have hsh := aBc (h ++ [some (.cells ((vr i).cells.map .p)), some (.cells zTm)]) (hh.app aA) x (dp + b) 0 aB hdpb aB aB hxd;have hw : IntKind.i64.wrap (dp + b) = dp + b := wrap_id aB aB;rw [if_pos hv0, hg];simp only
  cases hbo : nK (dp + b) 0 x with
  | ok t' s' =>
   rw [hbo] at hsh;have hsh2 := hsh.mono (R' := fun o h' => o = .ret t'.av /\ h' = _) (fun _ _ hp => hp);refine znt1 hv0 ?_;refine Run.draw [0, 0, 0, 0, 0, 0, 0, 0, 1] [0, 0, 0, 0, 0, 0, 0, 0, 1] [0, 0, 3, 7, 0, 0, 48, 127, 255] [0, 1, 2, 3, 4, 5, 6, 7, 8] aC aC ?_;refine zd5 e4 e5 hg hn hw ?_;refine DR.call (args := [x.av, iA (dp + b), iA 0]) rfl rfl rfl aA rfl hsh2 ?_;obtain ⟨k', i', n', ls', ks'⟩ := t';refine zdv6 ?_;change Run _ _ _ _ _ _ _ _;refine znx ?_;refine yq ?_;simp [RPost]
  | bad e s' =>
   rw [hbo] at hsh;have hsh2 := hsh.mono (R' := fun o h' => o = .panic (.p (errP e)) /\ h' = _) (fun _ _ hp => hp);refine znt1 hv0 ?_;refine Run.drawPanic [0, 0, 0, 0, 0, 0, 0, 0, 1] [0, 0, 0, 0, 0, 0, 0, 0, 0] [0, 0, 3, 7, 0, 0, 48, 127, 255] [0, 1, 2, 3, 4, 5, 6] 7 aC aC ?_;refine zd5 e4 e5 hg hn hw ?_;refine ⟨_, _, _, [x.av, iA (dp + b), iA 0], _, _, rfl, rfl, rfl, by simp, rfl, hsh2, ?_⟩;intro T' hT;exact Fin.pan (h0 := h) rfl hh rfl (by simp [RPost])
 ·rw [if_neg hv0];have hw : IntKind.i64.wrap (i - b) = i - b := wrap_id aB aB;have hw2 : IntKind.i64.wrap (i - vs.length) = i - vs.length := wrap_id aB aB;refine aD8 hv0 ?_;refine zrv8 e5 hw ?_
  by_cases c1 : i - b < dp
  ·rw [if_pos c1];refine nV c1 ?_;refine Run.call (args := [(vr i).av]) rfl rfl (by simp [vr]) rfl (lN _ (hh.app aA) (vr i) ⟨by simp [vr, Tm.levels], by simp [vr, Tm.levels]⟩) ?_ ?_
   rotate_left
   ·rintro v h' ⟨hv, _⟩; cases hv
   rintro v0 h' ⟨hv0, rfl⟩;simp only [AOut.ret.injEq] at hv0;subst hv0;refine yu ?_;simp [RPost, vr, Tm.bare]
  ·rw [if_neg c1];refine aD8 c1 ?_;refine zr2 e4 hw2 ?_;refine Run.call (args := [iA (i - vs.length)]) rfl rfl aA rfl (pQ _ (hh.app aA) (i - vs.length)) ?_ ?_
   ·rintro v0 h' ⟨hv0, rfl⟩
    by_cases c4 : 65535 < i - vs.length
    ·rw [if_pos c4] at hv0; cases hv0
    ·rw [if_neg c4] at hv0 ⊢;simp only [AOut.ret.injEq] at hv0;subst hv0;generalize i - vs.length = z;simp only [vr, Tm.av, cells_mk, List.map];refine zox ?_;refine yq ?_;simp [RPost]
   ·rintro v0 h' ⟨hv0, rfl⟩
    by_cases c4 : 65535 < i - vs.length
    ·rw [if_pos c4] at hv0 ⊢;simp only [AOut.panic.injEq] at hv0;subst hv0;exact Fin.pan rfl hh rfl (by simp [RPost])
    ·rw [if_neg c4] at hv0; cases hv0

end Go.Proofs.YtfajdeofhioakaaGreat
