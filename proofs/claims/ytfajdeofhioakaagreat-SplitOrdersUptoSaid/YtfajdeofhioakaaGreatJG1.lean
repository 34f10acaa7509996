import Derived.Test.YtfajdeofhioakaaGreatJA0
import Derived.Test.YtfajdeofhioakaaGreatJE9
import Derived.Test.YtfajdeofhioakaaGreatJE6
import Derived.Test.YtfajdeofhioakaaGreatJE7
import Derived.Test.YtfajdeofhioakaaGreatJD
import Derived.Test.YtfajdeofhioakaaGreatJE1
set_option maxRecDepth 8000
set_option maxHeartbeats 8000000

namespace Go.Proofs.YtfajdeofhioakaaGreat

open Go Go.AI
theorem nL (h : Heap) (hh : WF h) (p q : Nat) {a b c d e0 : AV} {c0 : AV} (hp : h[p]? = some (some (.cells [a, b, c, d, e0]))) (hq : h[q]? = some (some (.cells [c0]))) (hpq : p ≠ q) (e : Int) :
  ADef Tryz.prog 231 [.ptr p 0, .ptr q 0] (some (.p (errP e))) h ((h.set p (some (.cells zTm))).set q (some (.cells [iA e]))) := by
 obtain ⟨p1, p2, p3, p4, p5, p6⟩ := idf hp;have hq2 : (h.set p (some (.cells zTm)))[q]? = some (some (.cells [c0])) := by rw [bC5 hpq]; exact hq
 refine ADef.of_run Tryz.func231 rfl rfl rfl fun K J => ?_
 simp only [Tryz.ntmps231, bBm, bBn];exact y23
theorem qR (h : Heap) (hh : WF h) (p q : Nat) : ADef Tryz.prog 231 [.ptr p 0, .ptr q 0] none h h := by
 refine ADef.of_run Tryz.func231 rfl rfl rfl fun K J => ?_
 simp only [Tryz.ntmps231, bBm, bBn];exact y32
def DomU (t : Tm) (d : Int) : Prop := Dom 65536 t d /\ d + t.size <= 2097152
theorem DomU.one : ∀ k i n ls ks d, DomU (.mk k i n ls ks) d -> ks.length <= 1048576 /\ 0 <= d /\ d <= 1099511627776 := fun k i n ls ks d h => Dom.one k i n ls ks d h.1
theorem DomU.two : ∀ k i n ls ks d, DomU (.mk k i n ls ks) d -> ∀ (j : Nat) (hj : j < ks.length), DomU ks[j] (d + aJ k j) := fun k i n ls ks d h j hj => by
 refine ⟨Dom.two k i n ls ks d h.1 j hj, ?_⟩;have h1 := h.2;have h2 := dD hj;have h3 := aU k j;simp only [Tm.size] at h1;omega
def dU (t : Tm) (vs : List Tm) (dp : Int) : Tm × Int :=
 if dp < 0 then (zT, 2) else
 match bld (fN dp (vs.map fun v => (v.size : Int))) 0 t 0 with
 | .bad e _ => (zT, e)
 | .ok _ _ => match bld (bX (cV dp vs)) 0 t 0 with
  | .bad e _ => (zT, e)
  | .ok t' _ => if 200 < (t'.depth : Int) then (zT, 7) else (t', 0)
def eE (zs : List Int) (m : Nat) : List AV := (zs.map fun z => iA z) ++ List.replicate m (iA 0)
theorem aF9 (zs : List Int) (m : Nat) : (eE zs m).length = zs.length + m := by simp [eE]
theorem aFa (zs : List Int) (m : Nat) (z : Int) : (eE zs (m + 1)).set zs.length (iA z) = eE (zs ++ [z]) m := by
 unfold eE;rw [bCz _ _ aA];simp [bCn]
theorem jA (n : Nat) (zs : List Int) (m : Nat) : AV.underL n (eE zs m) = true := by
 have : eE zs m = (zs.map (fun z => iP z) ++ List.replicate m (iP 0)).map AV.p := by simp [eE]
 rw [this]; exact underL_p _ _
theorem aIi (h : Heap) (hh : WF h) (t : Tm) (vs : List Tm) (dp : Int) (hd : DomU t 0) (hdp1 : dp <= 9223372036854775807) (hvl : vs.length <= 1048576) (hvd : ∀ v ∈ vs, Dom 65536 v 0) (hvs : ∀ v ∈ vs, v.size <= 1099511627776)
  (hout : 0 <= dp -> ∀ t' s' u s2, bld (fN dp (vs.map fun v => (v.size : Int))) 0 t 0 = .ok u s2 -> bld (bX (cV dp vs)) 0 t 0 = .ok t' s' -> t'.size <= 1099511627776) :
  AC 208 [t.av, .p (.sl 5 (aP vs)), iA dp] h (.tup [(dU t vs dp).1.av, iA (dU t vs dp).2]) := by
 obtain ⟨tc, htc⟩ : ∃ tc : List AV, tc = t.cells.map .p := ⟨_, rfl⟩
 by_cases hdp0 : dp < 0
 ·have hr : dU t vs dp = (zT, 2) := by simp [dU, hdp0]
  rw [hr];obtain ⟨k, i, nm, ls, ks⟩ := t;refine ACalls.of_runD Tryz.func208 rfl ?_;simp only [Tryz.ntmps208, bBm, bBn, Tm.av, cells_mk, List.map];refine aDd hdp0 ?_;simp only [aIx];exact y4p
 have hout := hout aB
 have hr : dU t vs dp = match bld (fN dp (vs.map fun v => (v.size : Int))) 0 t 0 with
  | .bad e _ => (zT, e)
  | .ok _ _ => match bld (bX (cV dp vs)) 0 t 0 with
   | .bad e _ => (zT, e)
   | .ok t' _ => if 200 < (t'.depth : Int) then (zT, 7) else (t', 0) := by simp only [dU, hdp0, if_false]
 -- the blocks
 obtain ⟨zs, hzs⟩ : ∃ zs : List Int, zs = vs.map fun v => (v.size : Int) := ⟨_, rfl⟩
 rw [<- hzs] at hr hout;have hzl : zs.length = vs.length := by rw [hzs]; simp
 obtain ⟨B, hB⟩ : ∃ B : Int -> Heap, B = fun s => h ++ [some (.cells tc), some (.cells [.p (.sl 5 (aP vs))]), some (.cells [iA dp]), some (.cells zTm), some (.cells [iA 0]), some (.cells [.fn (.func 232) [] [.ptr (h.length + 2) 0, .ptr (h.length + 1) 0]]),
  some (.cells (zs.map fun z => iA z)), some (.cells [.sm (h.length + 6) 0 vs.length vs.length 1]), some (.cells [iA s]), some (.cells [.ptr (h.length + 8) 0])] := ⟨_, rfl⟩
 have hlen : ∀ s, (B s).length = h.length + 10 := fun s => by rw [hB]; simp
 have hzu : ∀ n, AV.underL n (zs.map fun z => iA z) = true := fun n => by have := jA n zs 0; simpa [eE] using this
 have htu : ∀ n, AV.underL n tc = true := fun n => by rw [htc]; exact underL_p _ _
 have hwf : ∀ s, WF (B s) := fun s => by rw [hB]; exact hh.app (by simp [hzu, htu])
 have hcnt := kR (fN dp zs) 234 rfl [.ptr (h.length + 5) 0, .ptr (h.length + 9) 0, .ptr (h.length + 7) 0] DomU DomU.one DomU.two t.size t 0 0 B (h.length + 10) (bBh _) hd hlen hwf aA
  (fun s t d l _ hw => aNa dp vs zs hzl B (h.length + 10) (h.length + 5) (h.length + 9) (h.length + 7) (h.length + 6) (h.length + 8) (h.length + 2) (h.length + 1) hlen hwf
   (fun s => by rw [hB]; simp) (fun s => by rw [hB]; simp) (fun s => by rw [hB]; simp) (fun s => by rw [hB]; simp) (fun s => by rw [hB]; simp) (fun s => by rw [hB]; simp) (fun s => by rw [hB]; simp) (fun s s' => by rw [hB]; simp) s t d l hw)
 generalize hc0 : bld (fN dp zs) 0 t 0 = cr at hcnt hr hout
 -- the second building
 have hbld : ∀ s, ACalls Tryz.prog 104 [.agg [.fn (.func 145) [] [.ptr (h.length + 10) 0]], t.av, iA 0] (B s ++ [some (.cells [.fn (.func 236) [] [.ptr (h.length + 5) 0, .ptr (h.length + 1) 0, .ptr (h.length + 2) 0]])])
   (kM (fun _ => B s ++ [some (.cells [.fn (.func 236) [] [.ptr (h.length + 5) 0, .ptr (h.length + 1) 0, .ptr (h.length + 2) 0]])]) (bld (bX (cV dp vs)) 0 t 0)) := by
  intro s;obtain ⟨H, hH⟩ : ∃ H, H = B s ++ [some (.cells [.fn (.func 236) [] [.ptr (h.length + 5) 0, .ptr (h.length + 1) 0, .ptr (h.length + 2) 0]])] := ⟨_, rfl⟩;rw [<- hH];have hHl : H.length = h.length + 11 := by rw [hH, bBp, hlen]; rfl
  have hHw : WF H := by rw [hH]; exact (hwf s).app (by rw [hlen]; simp)
  have g8 : H[h.length + 5]? = some (some (.cells [.fn (.func 232) [] [.ptr (h.length + 2) 0, .ptr (h.length + 1) 0]])) := by rw [hH, hB]; simp
  have g4 : H[h.length + 1]? = some (some (.cells [.p (.sl 5 (aP vs))])) := by rw [hH, hB]; simp
  have g5 : H[h.length + 2]? = some (some (.cells [iA dp])) := by rw [hH, hB]; simp
  have g10 : H[h.length + 10]? = some (some (.cells [.fn (.func 236) [] [.ptr (h.length + 5) 0, .ptr (h.length + 1) 0, .ptr (h.length + 2) 0]])) := by rw [hH, hB]; simp
  exact kR (bX (cV dp vs)) 145 rfl [.ptr (h.length + 10) 0] DomU DomU.one DomU.two t.size t 0 0 (fun _ => H) (h.length + 11) (bBh _) hd (fun _ => hHl) (fun _ => hHw) aA
   (fun s t d l hd hw => aBm (cV dp vs) 236 rfl [.ptr (h.length + 5) 0, .ptr (h.length + 1) 0, .ptr (h.length + 2) 0] (fun _ => H) (h.length + 11) (h.length + 10) (fun _ => hHl) (fun _ => hHw) aA (fun _ => g10) s t d l hd.1.lv
    (fun l hk hw => (aF4 (H ++ l) hw dp vs aB hdp1 hvl hvd (h.length + 5) (h.length + 1) (h.length + 2) ((idf g8).1 l) ((idf g4).1 l) ((idf g5).1 l) t d s hd.1 (by have := hd.2; omega) hk).mono fun _ _ hp => RPost.of_const (B := fun _ => H) (s := s) (fun _ => rfl) hp) hw)
 generalize hb0 : bld (bX (cV dp vs)) 0 t 0 = br at hbld hr hout;have hvar := fun s => gU (B s) (hwf s) 236 [.ptr (h.length + 5) 0, .ptr (h.length + 1) 0, .ptr (h.length + 2) 0] (by rw [hlen]; simp)
 simp only [hlen] at hvar;have hkeep : ∀ (o : AOut), True := fun _ => trivial
 generalize dU t vs dp = r at hr ⊢;obtain ⟨k, i, nm, ls, ks⟩ := t;simp only [cells_mk, List.map] at htc;subst htc;refine ACalls.of_runD Tryz.func208 rfl ?_;simp only [Tryz.ntmps208, bBm, bBn, Tm.av, cells_mk, List.map] at hcnt hbld ⊢;refine znrr ?_;refine zf1 hdp0 ?_;refine zr ?_;refine Run.defer (i := 231) (first := []) (cap := [.ptr (h.length + 3) 0, .ptr (h.length + 4) 0]) rfl rfl rfl aA ?_;refine zor ?_;have hm1 : vs.length * 8 <= 140737488355328 := aB;have hm2 : vs.length <= 1099511627776 := aB;refine zn ?_;refine zr2 hm1 hm2 ?_;rw [show List.replicate vs.length (iA 0) = eE [] vs.length from by simp [eE]];refine znr ?_
 refine Run.loopS [3, 4, 5, 6, 7, 8, 9, 21, 22] (fun j : Nat => j <= vs.length) (fun j => vs.length - j) (fun j => [(23, iA j)])
  (fun j => h ++ [some (.cells [iA k, iA i, .p (sP nm), .p (.sl 2 (bR ls)), .p (.sl 5 (aP ks))]), some (.cells [.p (.sl 5 (aP vs))]), some (.cells [iA dp]), some (.cells zTm), some (.cells [iA 0]), some (.cells [.fn (.func 232) [] [.ptr (h.length + 2) 0, .ptr (h.length + 1) 0]]),
   some (.cells (eE (zs.take j) (vs.length - j))), some (.cells [.sm (h.length + 6) 0 vs.length vs.length 1])]) 0 aA ?_ aA ?_
 ·exact zS
 intro j hj IH;refine eU ?_
 by_cases hjl : j < vs.length
 ·have hg : vs[j]? = some vs[j] := bBf hjl;have hvj := hvs _ (bBi hjl)
  have htk : zs.take (j + 1) = zs.take j ++ [(vs[j].size : Int)] := by
   rw [hzs, bD1, bDo, hg]; rfl
  generalize vs[j] = u at hg hvj htk;have hlz : (zs.take j).length = j := by rw [bC7, hzl]; omega
  have hj1 : j + 1 <= (eE (zs.take j) (vs.length - j)).length := by rw [aF9, hlz]; omega
  have hput : (eE (zs.take j) (vs.length - j)).set j (iA u.size) = eE (zs.take (j + 1)) (vs.length - (j + 1)) := by
   have := aFa (zs.take j) (vs.length - (j + 1)) u.size;rw [hlz, show vs.length - (j + 1) + 1 = vs.length - j by omega] at this;rw [this, htk]
  have hts := fun (g : Heap) (hg : WF g) => aIf g hg u hvj
  refine lZ hjl hg ?_;refine Run.draw [0, 0, 0, 0, 1, 1] [0, 0, 0, 0, 0, 1] [0, 0, 0, 4, 15, 31] [2, 3, 0, 1, 4, 5] aC aC ?_;refine zd ?_;refine DR.call (args := [u.av]) rfl rfl rfl aA rfl (hts _ (hh.app (by simp [jA]))) ?_;refine zd3 hjl hj1 hput ?_;refine y8 ?_;refine znr ?_;refine Run.keep [3, 4, 5, 6, 7, 8, 9, 21, 22, 23] ?_;simp;refine Run.cutAt 8 hh rfl aB aA aA (by simp [jA]) (by simp [dJ]) ?_;refine IH (j + 1) _ _ aB aB ?_ aA;exact zS
 have hje : j = vs.length := aB;subst hje
 have hze : eE (zs.take vs.length) (vs.length - vs.length) = zs.map fun z => iA z := by
  rw [<- hzl, bC6, Nat.sub_self]; simp [eE]
 refine znfen ?_;rw [hze];refine znrr ?_;simp only [hB] at hcnt hbld hvar;have hcall := hcnt
 cases cr with
 | bad e s1 =>
  simp only at hr;subst hr;refine Run.call (args := [.agg [.fn (.func 234) [] [.ptr (h.length + 5) 0, .ptr (h.length + 9) 0, .ptr (h.length + 7) 0]], (Tm.mk k i nm ls ks).av, iA 0]) rfl rfl aA rfl hcall ?_ ?_
  ·intro v h' hR; simp [kM] at hR
  ·intro v h' hR;simp only [kM, AOut.panic.injEq] at hR;obtain ⟨rfl, rfl⟩ := hR;simp only [aIx];refine ⟨by simp, rfl, _, nL _ (hh.app (by simp [hzu])) (h.length + 3) (h.length + 4) (by simp; exact ⟨rfl, rfl, rfl, rfl, rfl⟩) aE aB e, ?_⟩;simp;exact y4r
 | ok u s1 =>
 refine Run.call (args := [.agg [.fn (.func 234) [] [.ptr (h.length + 5) 0, .ptr (h.length + 9) 0, .ptr (h.length + 7) 0]], (Tm.mk k i nm ls ks).av, iA 0]) rfl rfl aA rfl hcall ?_ ?_
 rotate_left
 ·intro v h' hR; simp [kM] at hR
 intro v h' hR;simp only [kM, AOut.ret.injEq] at hR;obtain ⟨rfl, rfl⟩ := hR;obtain ⟨uk, ui, un, uls, uks⟩ := u;have hvar := hvar s1;have hbld := hbld s1;simp only [bC3, bBj, bBo] at hbld
 cases br with
 | bad e s2 =>
  simp only at hr;subst hr;have hb2 := hbld.mono (R' := fun o h' => o = .panic (.p (errP e)) /\ h' = _) (fun _ _ hp => hp);refine zo ?_;refine y17 ?_;refine ye ?_;refine ⟨_, _, _, [.agg [.fn (.func 145) [] [.ptr (h.length + 10) 0]], (Tm.mk k i nm ls ks).av, iA 0], _, _, rfl, rfl, rfl, by simp, rfl, hb2, ?_⟩;intro T' hT;have hT6 := hT 6 aA;have hT7 := hT 7 aA;simp at hT6 hT7;simp only [aIx];refine ⟨by simp, rfl, _, nL _ (hh.app (by simp [hzu])) (h.length + 3) (h.length + 4) (by simp; exact ⟨rfl, rfl, rfl, rfl, rfl⟩) aE aB e, ?_⟩;simp;refine Fin.ret' (h0 := h) (xs := [.agg zTm, iA e]) aA rfl hh rfl (by simp [hT6, hT7]) rfl (Weak.tup (WeakL.cons Weak.zT (WeakL.refl _))) aA ⟨rfl, rfl⟩
 | ok t2 s2 =>
  simp only at hr;have hts := hout t2 s2 _ s1 rfl rfl;have hb2 := hbld.mono (R' := fun o h' => o = .ret t2.av /\ h' = _) (fun _ _ hp => hp);have hdep := fun (g : Heap) (hg : WF g) => aF2 t2.size t2 g (bBh _) hts hg
  generalize t2.depth = dep at hr hdep;obtain ⟨k2, i2, nm2, ls2, ks2⟩ := t2;refine zo ?_;refine y1a ?_;refine ye ?_;refine DR.call (args := [.agg [.fn (.func 145) [] [.ptr (h.length + 10) 0]], (Tm.mk k i nm ls ks).av, iA 0]) rfl rfl rfl aA rfl hb2 ?_;refine zd ?_;refine y8 ?_;refine znr ?_;refine rl (args := [(Tm.mk k2 i2 nm2 ls2 ks2).av]) rfl rfl aA rfl (hdep _ (hh.app (by simp [hzu]))) ?_;refine zo ?_
  by_cases hdd : 200 < (dep : Int)
  ·rw [if_pos hdd] at hr;subst hr;refine znt1rx hdd ?_;simp only [aIx];refine ⟨by simp, rfl, _, qR _ (hh.app (by simp [hzu])) (h.length + 3) (h.length + 4), ?_⟩;exact y4q
  ·rw [if_neg hdd] at hr;subst hr;refine znf1r hdd ?_;refine zx ?_;simp only [aIx];refine ⟨by simp, rfl, _, qR _ (hh.app (by simp [hzu])) (h.length + 3) (h.length + 4), ?_⟩;exact y1p


open Go Go.AI

mutual
theorem tB : ∀ (t : Tm) (m : Int), t.ok m -> t.lvs
 | .mk k i n ls ks, m, h => by
  simp only [Tm.ok, Tm.okN] at h;simp only [Tm.lvs];exact ⟨by omega, h.1.2.2.1, aH9 ks m k 0 h.2⟩
theorem aH9 : ∀ (l : List Tm) (m k : Int) (idx : Nat), Tm.oks m k idx l -> Tm.lvss l
 | [], _, _, _, _ => trivial
 | t :: ts, m, k, idx, h => by
  simp only [Tm.oks] at h;exact ⟨tB t _ h.1, aH9 ts m k (idx + 1) h.2⟩
end


open Go Go.AI
theorem aId (h : Heap) (hh : WF h) (t : Tm) (vs : List Tm) (r : Tm × Int) (hc : ∀ g : Heap, WF g -> AC 208 [t.av, .p (.sl 5 (aP vs)), iA 0] g (.tup [r.1.av, iA r.2])) :
  AC 172 [t.av, .p (.sl 5 (aP vs))] h (.tup [r.1.av, iA r.2]) := by
 obtain ⟨t2, e⟩ := r;obtain ⟨k, i, nm, ls, ks⟩ := t;obtain ⟨k2, i2, nm2, ls2, ks2⟩ := t2;refine ACalls.of_run Tryz.func172 rfl ?_;simp only [Tryz.ntmps172, bBm, bBn, Tm.av, cells_mk, List.map];refine znrr ?_;refine rl (args := [(Tm.mk k i nm ls ks).av, .p (.sl 5 (aP vs)), iA 0]) rfl rfl aA rfl (hc _ (hh.app aA)) ?_;refine zox ?_;exact y1p


open Go Go.AI

mutual
def nd1 (m : Int) : Tm -> Int
 | .mk _ _ _ _ ks => 1 + nd m 0 ks
def nd (most n : Int) : List Tm -> Int
 | [] => n
 | t :: ts => if most < n then n else nd most (n + nd1 (most - n) t) ts
end


open Go Go.AI
def eM (vars params metas levels : Int) (t : Tm) : Int :=
 if chk (if vars < 0 then 0 else vars) params metas levels 0 t ≠ 0 then chk (if vars < 0 then 0 else vars) params metas levels 0 t
 else if 4096 < (t.size : Int) then 5 else if 200 < (t.depth : Int) then 7 else 0
theorem wR (h : Heap) (hh : WF h) (t : Tm) (vars params metas levels : Int) (hsz : t.size <= 1099511627776) (hf : t.fit) :
  AC 37 [t.av, iA vars, iA params, iA metas, iA levels] h (iA (eM vars params metas levels t)) := by
 have hh1 : WF (h ++ [some (.cells (t.cells.map .p))]) := hh.app aA;have hc := aN9 (if vars < 0 then 0 else vars) params metas levels t.size t 0 _ (bBh _) hf aB aB hh1;have hs := oK t.size t _ (bBh _) hsz hh1;have hd := oZ t.size t _ (bBh _) hsz hh1;have hz : ∃ z, eM vars params metas levels t = z := ⟨_, rfl⟩;obtain ⟨z, hz⟩ := hz;rw [hz];unfold eM at hz;generalize chk (if vars < 0 then 0 else vars) params metas levels 0 t = e at hc hz;generalize t.size = sz at hs hz;generalize t.depth = dp at hd hz;obtain ⟨k, i, n, ls, ks⟩ := t;refine ACalls.of_run Tryz.func37 rfl ?_;simp only [Tryz.ntmps37, bBm, bBn, Tm.av, cells_mk, List.map];refine znrr ?_;refine rl rfl rfl aA rfl hc ?_;refine zor ?_
 by_cases h1 : e = 0
 ·rw [if_neg (by simp [h1])] at hz;refine znf1r h1 ?_;refine rl rfl rfl aA rfl hs ?_;refine zo ?_
  by_cases h2 : 4096 < (sz : Int)
  ·rw [if_pos h2] at hz;refine znt1 h2 ?_;exact y2n
  rw [if_neg h2] at hz;refine znf1r h2 ?_;refine rl rfl rfl aA rfl hd ?_;refine zo ?_
  by_cases h3 : 200 < (dp : Int)
  ·rw [if_pos h3] at hz;refine znt1 h3 ?_;exact y2n
  rw [if_neg h3] at hz;refine aD8 h3 ?_;exact y2n
 ·rw [if_pos h1] at hz;refine znt1 h1 ?_;exact y2n

end Go.Proofs.YtfajdeofhioakaaGreat

namespace Go.AI

open Go

def WeakP (x y : PV) : Prop := ∀ E w v, RepP E w x v -> RepP E w y v
def WeakPL (xs ys : List PV) : Prop := xs.length = ys.length /\ ∀ E w b off, RepAt E w b off xs -> RepAt E w b off ys
def WeakPs (es es' : List (List PV)) : Prop := es.length = es'.length /\ ∀ E w b sz off, RepEs E w b sz off es -> RepEs E w b sz off es'
theorem WeakP.refl (x : PV) : WeakP x x := fun _ _ _ h => h
theorem WeakP.nil (sz : Nat) : WeakP (.prim (.slice none 0 0)) (.sl sz []) := fun E w v h => Weak.nil sz E w v h
theorem WeakPL.nil : WeakPL [] [] := ⟨rfl, fun _ _ _ _ h => h⟩
theorem WeakPL.refl (x : List PV) : WeakPL x x := ⟨rfl, fun _ _ _ _ h => h⟩
theorem WeakPL.cons {x y : PV} {xs ys : List PV} (h : WeakP x y) (hs : WeakPL xs ys) : WeakPL (x :: xs) (y :: ys) := ⟨by simp [hs.1], fun E w b off r => by
 simp only [RepAt] at r ⊢;obtain ⟨v, r1, r2, r3, r4⟩ := r;exact ⟨v, r1, r2, h E w v r3, hs.2 E w b _ r4⟩⟩
theorem WeakPs.nil : WeakPs [] [] := ⟨rfl, fun _ _ _ _ _ h => h⟩
theorem WeakPs.cons {x y : List PV} {xs ys : List (List PV)} (h : WeakPL x y) (hs : WeakPs xs ys) : WeakPs (x :: xs) (y :: ys) := ⟨by simp [hs.1], fun E w b sz off r => by
 simp only [RepEs] at r ⊢;obtain ⟨r1, r2, r3⟩ := r;exact ⟨by rw [<- h.1]; exact r1, h.2 E w b _ r2, hs.2 E w b sz _ r3⟩⟩
theorem WeakP.sl {sz : Nat} {es es' : List (List PV)} (h : WeakPs es es') : WeakP (.sl sz es) (.sl sz es') := fun E w v r => by
 simp only [RepP] at r ⊢;obtain ⟨a, cap, rfl, h1, h2⟩ := r;refine ⟨a, cap, by rw [h.1], by rw [<- h.1]; exact h1, ?_⟩;rcases h2 with rfl | ⟨b, off, rfl, h3⟩
 ·left; have := h.1; cases es' with
  | nil => rfl
  | cons _ _ => simp at this
 ·exact .inr ⟨b, off, rfl, h.2 _ _ _ _ _ h3⟩
theorem WeakP.av {x y : PV} (h : WeakP x y) : Weak (.p x) (.p y) := fun E w v r => by simp only [Rep] at r ⊢; exact h E w v r
theorem ACalls.weak {P : Program} {f : FuncId} {args args' : List AV} {h : Heap} {R : AOut -> Heap -> Prop} (hw : WeakL args args') (c : ACalls P f args' h R) : ACalls P f args h R :=
 fun E w vs h1 h2 h3 => c E w vs h1 h2 (hw E w vs h3)

end Go.AI

namespace Go.Proofs.YtfajdeofhioakaaGreat

open Go Go.AI
def natB : List UInt8 := [78, 97, 116]
def natT : Tm := .mk 3 0 natB [] []
def aJ9 (a b : Tm) : Tm := .mk 4 0 [] [] [a, b]
def lamT (a b : Tm) : Tm := .mk 5 0 [] [] [a, b]
def fnT (a b : Tm) : Tm := lamT natT (aJ9 a b)


open Go Go.AI
theorem aBa (l : Lv) : fL l l = true := by
 simp only [fL, bne_self_eq_false, Bool.or_self, bDs, Bool.true_and];rw [fT];intro j hj;simp [varsAt, hj, sameVar]
theorem yR (l : List Lv) : sameLvs l l = true := by
 simp only [sameLvs, bne_self_eq_false, bDs, Bool.true_and];rw [fT];intro j hj;simp [rK, hj, aBa]
theorem vO (t : Tm) : cF t t = true := by simp [cF, yR]

mutual
theorem jM : ∀ t : Tm, sameT t t = true
 | .mk k i n ls ks => by simp only [sameT, vO, Bool.true_and]; exact qC ks
theorem qC : ∀ l : List Tm, fD l l = true
 | [] => by simp only [fD]
 | t :: ts => by simp only [fD, jM t, qC ts, Bool.and_self]
end

theorem aAg {e : Int} {l : List Int} (h : bT (e :: l) = 0) : e = 0 /\ bT l = 0 := by
 simp only [bT] at h;split at h
 ·exact ⟨by assumption, h⟩
 ·exact absurd h (by assumption)

mutual
theorem aFp (v p m l : Int) : ∀ (t : Tm) (d : Int), t.lvs -> chk v p m l d t = 0 -> t.ok (v + d)
 | .mk k i n ls ks, d, hl, h => by
  simp only [chk] at h;simp only [Tm.lvs] at hl
  by_cases h1 : kE (.mk k i n ls ks) = false
  ·rw [if_pos h1] at h; exact absurd h aD
  rw [if_neg h1] at h
  by_cases h2 : uW d v p m l k i n ls = 0
  ·rw [if_neg (by simp [h2])] at h;have hk := aFo v p m l ks k d 0 hl.2.2 h;simp only [Tm.ok, Tm.okN]
   have h8 : ¬ 8 < ls.length := by
    intro h8;unfold uW at h2;split at h2
    ·exact absurd h2 aD
    ·exact absurd h2 aD
   have h0 : k = 0 -> ¬ (i < 0 \/ v <= i - d) := by
    intro hk0 hc;unfold uW at h2;rw [if_neg aB, if_neg h8] at h2;split at h2
    ·contradiction
    ·rw [if_pos ⟨hk0, hc⟩] at h2; exact absurd h2 aD
   simp only [kE, uT] at h1;have hkz : xS k <= 3 := by unfold xS; split; omega; split; omega; split <;> omega
   simp only [Bool.not_eq_false, bBs, bCk, bD7, bne_eq_false_iff_eq, bD9] at h1;obtain ⟨⟨⟨⟨_, hks⟩, _⟩, hn⟩, hls⟩ := h1;refine ⟨⟨fun hk0 => ?_, by omega, hl.2.1, by omega⟩, hk⟩;subst hk0;have h0 := h0 rfl;simp [xS] at hks;simp at hn hls;exact ⟨by omega, by omega, hn, hls, hks⟩
  ·rw [if_pos h2] at h; exact absurd h h2
theorem aFo (v p m l : Int) : ∀ (ks : List Tm) (k d : Int) (idx : Nat), Tm.lvss ks -> bT (uN v p m l k d idx ks) = 0 -> Tm.oks (v + d) k idx ks
 | [], _, _, _, _, _ => trivial
 | t :: ts, k, d, idx, hl, h => by
  simp only [Tm.lvss] at hl;simp only [uN] at h;have h := aAg h;simp only [Tm.oks];have := aFp v p m l t (d + aJ k idx) hl.1 h.1;rw [show v + d + aJ k idx = v + (d + aJ k idx) by omega];exact ⟨this, aFo v p m l ts k d (idx + 1) hl.2 h.2⟩
end


mutual
theorem wN (by_ fr f0 : Int) (hf : f0 = if 65536 < fr then 65536 else fr) : ∀ (t : Tm) (s d : Int), t.ok (65536 + d) ->
  bld (bX (cU by_ fr)) s t d = if bG by_ f0 d t = true then .bad 24 s else .ok (dH by_ f0 d t) s
 | .mk k i n ls ks, s, d, h => by
  simp only [Tm.ok, Tm.okN] at h;simp only [bld, bG, dH]
  by_cases hk : k = 0
  ·obtain ⟨h1, h2, rfl, rfl, rfl⟩ := h.1.1 hk;subst hk;simp only [bX, cU, Tm.kind, Tm.index, if_true]
   by_cases c1 : i - d < fr
   ·have c1' : i < f0 + d := by rw [hf]; split <;> omega
    simp [c1, c1', Tm.bare]
   ·have c0 : f0 = fr := by rw [hf, if_neg aB]
    subst c0;have c1' : ¬ i < f0 + d := aB;simp only [c1, if_false]
    by_cases c2 : by_ < 0 /\ i - d < f0 - by_
    ·have c2' : i + by_ < f0 + d := aB;simp [c2, c1', c2']
    ·have c2' : ¬ i + by_ < f0 + d := aB;simp only [c2, if_false]
     by_cases c3 : 65535 < i + by_
     ·simp [c1', c2', c3]
     ·simp [c1', c2', c3]
  ·simp only [bX, Tm.kind, hk, if_false, Tm.bare];have e := rZ by_ fr f0 hf ks s k d 0 h.2;simp only [e];split
   ·rename_i heq;split at heq
    ·rename_i hb; rw [if_pos hb]; injection heq with h1 h2; subst h1; subst h2; rfl
    ·cases heq
   ·rename_i heq;split at heq
    ·cases heq
    ·rename_i hb; rw [if_neg hb]; injection heq with h1 h2; subst h1; subst h2; rfl
theorem rZ (by_ fr f0 : Int) (hf : f0 = if 65536 < fr then 65536 else fr) : ∀ (ks : List Tm) (s k d : Int) (idx : Nat), Tm.oks (65536 + d) k idx ks ->
  jE (bX (cU by_ fr)) s k d idx ks = if aZ by_ f0 d k idx ks = true then .bad 24 s else .ok (dA by_ f0 d k idx ks) s
 | [], s, k, d, idx, h => by simp [jE, aZ, dA]
 | t :: ts, s, k, d, idx, h => by
  simp only [Tm.oks] at h;simp only [jE, aZ, dA];rw [wN by_ fr f0 hf t s (d + aJ k idx) (by rw [<- Int.add_assoc]; exact h.1)]
  by_cases hb : bG by_ f0 (d + aJ k idx) t = true
  ·simp only [hb, if_true, bEc]
  ·rw [if_neg hb];simp only;rw [rZ by_ fr f0 hf ts s k d (idx + 1) h.2];rw [Bool.not_eq_true] at hb
   by_cases hb2 : aZ by_ f0 d k (idx + 1) ts = true
   ·simp only [hb, hb2, if_true, Bool.or_true]
   ·rw [Bool.not_eq_true] at hb2;simp only [hb, hb2, Bool.or_false, bBy, if_false]
end

end Go.Proofs.YtfajdeofhioakaaGreat
