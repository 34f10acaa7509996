import Derived.Test.YtfajdeofhioakaaGreatJA0
import Derived.Test.YtfajdeofhioakaaGreatJFQ
import Derived.Test.YtfajdeofhioakaaGreatJEVy

namespace Go.AI.EV

open Go Go.AI

mutual
def mB : AV -> Bool
 | .p _ => true
 | .agg cs => mI cs
 | .tup cs => mI cs
 | .fn f xs ys => (match f with | .func _ => true | _ => false) && mI xs && mI ys
 | .ifc _ x => mB x
 | _ => false
def mI : List AV -> Bool
 | [] => true
 | x :: l => mB x && mI l
end

mutual
theorem aGo (ks : Ks) : ∀ {x : AV}, mB x = true -> io ks x = x
 | .p x, _ => by simp
 | .agg cs, h => by simp only [mB] at h; simp only [io]; rw [nB ks h]
 | .tup cs, h => by simp only [mB] at h; simp only [io]; rw [nB ks h]
 | .fn f xs ys, h => by
  simp only [mB, bBs] at h;obtain ⟨⟨h1, h2⟩, h3⟩ := h;simp only [io];rw [nB ks h2, nB ks h3]
  cases f <;> simp only [iof] <;> cases h1
 | .ifc t x, h => by simp only [mB] at h; simp only [io]; rw [aGo ks h]
 | .ptr _ _, h => by simp [mB] at h
 | .sm _ _ _ _ _, h => by simp [mB] at h
 | .own _ _ _, h => by simp [mB] at h
 | .mp _, h => by simp [mB] at h
 | .vec _ _, h => by simp [mB] at h
 | .junk, h => by simp [mB] at h
theorem nB (ks : Ks) : ∀ {l : List AV}, mI l = true -> ioL ks l = l
 | [], _ => by simp only [ioL]
 | x :: l, h => by
  simp only [mI, bBs] at h;simp only [ioL];rw [aGo ks h.1, nB ks h.2]
end

mutual
theorem aHt {E E' : Env} {w : World} (hr : ∀ b off, E.ro b off -> E'.ro b off) : ∀ {x : AV} {v : Value}, mB x = true -> Rep E w x v -> Rep E' w x v
 | .p x, v, _, r => by simp only [Rep] at r ⊢; exact r.roMono hr
 | .agg cs, v, h, r => by
  simp only [mB] at h; simp only [Rep] at r ⊢;obtain ⟨vs, e, r⟩ := r;exact ⟨vs, e, mR hr h r⟩
 | .tup cs, v, h, r => by
  simp only [mB] at h; simp only [Rep] at r ⊢;obtain ⟨vs, e, r⟩ := r;exact ⟨vs, e, mR hr h r⟩
 | .fn f xs ys, v, h, r => by
  simp only [mB, bBs] at h;obtain ⟨⟨h1, h2⟩, h3⟩ := h;simp only [Rep] at r ⊢;obtain ⟨vs, us, e, r1, r2⟩ := r;exact ⟨vs, us, e, mR hr h2 r1, mR hr h3 r2⟩
 | .ifc t x, v, h, r => by
  simp only [mB] at h; simp only [Rep] at r ⊢;obtain ⟨u, e, r⟩ := r;exact ⟨u, e, aHt hr h r⟩
 | .ptr _ _, _, h, _ => by simp [mB] at h
 | .sm _ _ _ _ _, _, h, _ => by simp [mB] at h
 | .own _ _ _, _, h, _ => by simp [mB] at h
 | .mp _, _, h, _ => by simp [mB] at h
 | .vec _ _, _, h, _ => by simp [mB] at h
 | .junk, _, h, _ => by simp [mB] at h
theorem mR {E E' : Env} {w : World} (hr : ∀ b off, E.ro b off -> E'.ro b off) : ∀ {l : List AV} {vs : List Value}, mI l = true -> RepL E w l vs -> RepL E' w l vs
 | [], vs, _, r => by simpa only [RepL] using r
 | x :: l, vs, h, r => by
  simp only [mI, bBs] at h;simp only [RepL] at r ⊢;obtain ⟨v, us, e, r1, r2⟩ := r;exact ⟨v, us, e, aHt hr h.1 r1, mR hr h.2 r2⟩
end
theorem ACalls.alone {P : Program} {f : FuncId} {args : List AV} {h : Heap} {v : AV} (ha : mI args = true) (hv : mB v = true) (hc : ACalls P f args [] fun o h' => o = .ret v /\ h' = []) : ACalls P f args h fun o h' => o = .ret v /\ h' = h := by
 intro E w vs hrel hfr hrep
 have no : ∀ (ro : Nat -> Nat -> Prop) b, ¬ InG { ro := ro, g := fun _ => none, t := fun _ => none } (Heap.at []) b := by
  rintro ro b ⟨id, h⟩;rcases h with ⟨o, h1, _⟩ | ⟨o, x, c, m, h1, _⟩ <;> simp [Heap.at] at h1
 have rel0 : Rel { ro := E.ro, g := fun _ => none, t := fun _ => none } (Heap.at []) w :=
  ⟨fun id o h => by simp [Heap.at] at h, fun id o n sz m cs h => by simp [Heap.at] at h, fun id id' b h _ => absurd ⟨id, h⟩ (no _ b), fun id o b off h => by simp [Heap.at] at h, fun id o n sz m cs b c k off h => by simp [Heap.at] at h, hrel.lt⟩
 refine (hc _ w vs rel0 (fun _ _ => ⟨rfl, rfl⟩) (mR (E := E) (E' := { ro := E.ro, g := fun _ => none, t := fun _ => none }) (fun _ _ h => h) ha hrep)).mono fun e w1 ⟨out, h', E', ⟨ho, hh⟩, hr, hf, hre, hfr'⟩ => ?_
 subst ho; subst hh;simp only [RepO] at hre;obtain ⟨u, rfl, hu⟩ := hre;obtain ⟨r1, f1⟩ := hrel.later (fun b hb => hfr'.same b hb (no _ b)) hfr'.size hfr'.kp;have hx : Ext E w1 { E with ro := E'.ro } w1 := ⟨hfr'.ext.ro, fun _ _ _ => rfl, fun _ _ h => h, fun _ L h => ⟨L, h, bBh _, fun _ => rfl⟩⟩;have hnew : ∀ b off, E'.ro b off -> E.ro b off \/ w.heap.size <= b := fun b off ho => (hfr'.roNew b off ho).elim .inl fun h => h.elim (fun h => absurd h (no _ b)) .inr
 refine ⟨.ret v, h, { E with ro := E'.ro }, ⟨rfl, rfl⟩, ?_, fun id hid => hfr id hid, ⟨u, rfl, aHt (E := E') (E' := { E with ro := E'.ro }) (fun _ _ h => h) hv hu⟩, ?_⟩
 ·refine ⟨fun id o h1 h2 => ?_, fun id o n sz m cs h1 h2 => ?_, fun id id' b h1 h2 => r1.inj id id' b h1 h2, fun id o b off h1 h2 g ho => ?_, fun id o n sz m cs b c k off h1 h2 g hm ho => ?_, hr.lt⟩
  ·obtain ⟨b, g, hb⟩ := r1.objsO id o h1 h2;exact ⟨b, g, hb.move hx rfl⟩
  ·obtain ⟨blk, cap, g1, g2, g3, g4⟩ := r1.toks id o n sz m cs h1 h2;refine ⟨blk, cap, g1, g2, g3, fun b hb => ?_⟩;obtain ⟨vs, k1, k2, k3⟩ := g4 b hb;exact ⟨vs, k1, k2, k3.ext hx⟩
  ·rcases hnew b off ho with q | q
   ·exact r1.sepO id o b off h1 h2 g q
   ·obtain ⟨b', g', hb⟩ := hrel.objsO id o h1 h2;have e : b' = b := bD0 (g'.symm.trans g);have := hb.lt;omega
  ·rcases hnew b off ho with q | q
   ·exact r1.sepT id o n sz m cs b c k off h1 h2 g hm q
   ·obtain ⟨blk, cap, g1, g2, g3, g4⟩ := hrel.toks id o n sz m cs h1 h2;have e : (⟨blk, cap, n⟩ : Loc) = ⟨some b, c, k⟩ := bD0 (g1.symm.trans g);have e1 : blk = some b := congrArg Loc.blk e;obtain ⟨vs, k1, _⟩ := g4 b e1;have := k1.lt;omega
 ·exact ⟨f1.same, ⟨hfr'.ext.ro, f1.ext.cells, fun _ _ h => h, fun _ L h => ⟨L, h, bBh _, fun _ => rfl⟩⟩, fun b off ho => (hnew b off ho).imp id .inr, f1.size, f1.inG, f1.kp⟩
theorem ACalls.given {P : Program} {f : FuncId} {args : List AV} {ks : Ks} {H : HX} {R : AOut -> Heap -> Prop} (hH : 0 < H.length) (hc : ACalls P f ((paL H (H.length - 1) args).map (io ks)) (iH ks (H.take (H.length - 1) ++ [.dead])) R) : ACalls P f (args.map (io ks)) (iH ks H) R := by
 intro E w vs hrel hfr hrep;have hm : H.length - 1 <= (iH ks H).length := by rw [bD]; omega
 obtain ⟨r1, f1⟩ := lP hrel (H.length - 1) hm
 have e : iH ks (H.take (H.length - 1) ++ [.dead]) = aAh (iH ks H) (H.length - 1) := by
  unfold aAh;have e1 : (iH ks H).length - (H.length - 1) = 1 := by rw [bD]; omega
  rw [e1];simp [iH, List.map_take, iO]
 rw [e] at hc;have hrep' := mP (m := H.length - 1) hrel args vs (by rw [eN]; exact hrep);rw [eN] at hrep';refine (hc _ w vs r1 (fun id hid => hfr id (by rw [uU _ _ hm] at hid; exact hid)) hrep').mono fun e w1 ⟨out, h', E', hR, hr, hf, hre, hfr'⟩ => ⟨out, h', E', hR, hr, hf, hre, f1.trans hfr'⟩
abbrev KT := TB (List (List AV × AV))
def aK9 : List (List AV × AV) -> List AV -> Option AV
 | [], _ => none
 | e :: l, args => if zN e.1 args = true then some e.2 else aK9 l args

noncomputable def aP4 (M : KT) (f : FuncId) (args : List AV) : Option AV := match M.get f with
 | some l => aK9 l args
 | none => none
def aY (P : Program) (f : FuncId) (args : List AV) (v : AV) : Prop := (aL P f = true /\ mI args = true /\ mB v = true) /\ ACalls P f args [] fun o h' => o = .ret v /\ h' = []
def aFb (P : Program) (M : KT) : Prop := M.All fun f l => ∀ e ∈ l, aY P f e.1 e.2
theorem xY : ∀ {l : List (List AV × AV)} {args : List AV} {v : AV}, aK9 l args = some v -> (args, v) ∈ l
 | [], _, _, h => by cases h
 | e :: l, args, v, h => by
  simp only [aK9] at h;split at h
  ·rename_i hc;have := fO hc;subst this;simp only [bBk] at h;subst h;exact List.mem_cons_self
  ·exact bDb _ (xY h)
theorem aKa {P : Program} {M : KT} (hM : aFb P M) {f : FuncId} {args : List AV} {v : AV} (h : aP4 M f args = some v) : aY P f args v := by
 unfold aP4 at h;split at h
 ·rename_i l hl;exact TB.get_all hM hl _ (xY h)
 ·cases h

noncomputable def aLi (M : KT) (bd0 : List AV -> Option (AOut × HX × Nat)) (bd : List AV -> HX -> Nat -> Option (AOut × HX × Nat)) (keep : Bool) (f : FuncId) (args : List AV) (H : HX) (j : Nat) : Option (AOut × HX × Nat) :=
 if (!keep && mI args) = true then
  match aP4 M f args with
  | some v => some (.ret v, H, j)
  | none => match bd0 args with
   | some (.ret v, [], 0) => if mB v = true then some (.ret v, H, j) else bd args H j
   | _ => bd args H j
 else bd args H j
def bB5 (n : Nat) : AV -> Bool
 | .sm id _ _ _ _ => Nat.beq (id + 1) n
 | _ => false

noncomputable def aPm (M : KT) (fz : FuncId -> Bool) (bd0 : List AV -> Option (AOut × HX × Nat)) (bd : List AV -> HX -> Nat -> Option (AOut × HX × Nat)) (keep : Bool) (f : FuncId) (args : List AV) (H : HX) (j : Nat) : Option (AOut × HX × Nat) :=
 if (fz f && Nat.blt 0 H.length && args.any (bB5 H.length)) = true then aLi M bd0 bd keep f (paL H (H.length - 1) args) (H.take (H.length - 1) ++ [.dead]) j
 else aLi M bd0 bd keep f args H j
theorem aCo {P : Program} {G : Kn} {f : FuncId} {args : List AV} {v : AV} (h : aY P f args v) (H : HX) (j : Nat) : aL P f = true /\ j <= j /\ ∀ ks, G j ks -> ACalls P f (args.map (io ks)) (iH ks H) (nN ks j (.ret v) H j) := by
 obtain ⟨⟨h1, h2, h3⟩, h4⟩ := h;refine ⟨h1, bBh _, fun ks _ => ?_⟩;have e : args.map (io ks) = args := by rw [<- eN]; exact nB ks h2
 rw [e];refine (ACalls.alone (h := iH ks H) h2 h3 h4).mono ?_;rintro o g ⟨rfl, rfl⟩;exact ⟨ks, fun _ _ => rfl, fun _ => rfl, by simp only [ioR]; rw [aGo ks h3], rfl⟩
theorem aD5 {P : Program} {G : Kn} {M : KT} (hM : aFb P M) {bd0 : List AV -> Option (AOut × HX × Nat)} {bd : List AV -> HX -> Nat -> Option (AOut × HX × Nat)} {keep : Bool} {f : FuncId}
  (h0 : ∀ args out H' j', bd0 args = some (out, H', j') -> aL P f = true /\ 0 <= j' /\ ∀ ks, Gl [] 0 ks -> ACalls P f (args.map (io ks)) (iH ks []) (nN ks 0 out H' j'))
  (hb : ∀ args H j out H' j', bd args H j = some (out, H', j') -> aL P f = true /\ j <= j' /\ ∀ ks, G j ks -> ACalls P f (args.map (io ks)) (iH ks H) (nN ks j out H' j'))
  {args : List AV} {H : HX} {j : Nat} {out : AOut} {H' : HX} {j' : Nat} (h : aLi M bd0 bd keep f args H j = some (out, H', j')) : aL P f = true /\ j <= j' /\ ∀ ks, G j ks -> ACalls P f (args.map (io ks)) (iH ks H) (nN ks j out H' j') := by
 unfold aLi at h;split at h
 ·rename_i hc;simp only [bBs] at hc;split at h
  ·rename_i v hv;simp only [bBk, bBz] at h;obtain ⟨rfl, rfl, rfl⟩ := h;exact aCo (aKa hM hv) H j
  ·split at h
   ·rename_i v hv;split at h
    ·rename_i hpv;simp only [bBk, bBz] at h;obtain ⟨rfl, rfl, rfl⟩ := h;obtain ⟨c1, _, c3⟩ := h0 _ _ _ _ hv;refine aCo ⟨⟨c1, hc.2, hpv⟩, ?_⟩ H j;have := c3 (fun _ => (0, ⟨[], #[], .skip, .skip⟩)) (fun _ he => by cases he);have e : args.map (io fun _ => (0, ⟨[], #[], .skip, .skip⟩)) = args := by rw [<- eN]; exact nB _ hc.2
     rw [e] at this;refine this.mono ?_;rintro o g ⟨ks', _, _, rfl, rfl⟩;exact ⟨by simp only [ioR]; rw [aGo ks' hpv], rfl⟩
    ·exact hb _ _ _ _ _ _ h
   ·exact hb _ _ _ _ _ _ h
 ·exact hb _ _ _ _ _ _ h
theorem aLj {P : Program} {G : Kn} {M : KT} (hM : aFb P M) {fz : FuncId -> Bool} {bd0 : List AV -> Option (AOut × HX × Nat)} {bd : List AV -> HX -> Nat -> Option (AOut × HX × Nat)} {keep : Bool} {f : FuncId}
  (h0 : ∀ args out H' j', bd0 args = some (out, H', j') -> aL P f = true /\ 0 <= j' /\ ∀ ks, Gl [] 0 ks -> ACalls P f (args.map (io ks)) (iH ks []) (nN ks 0 out H' j'))
  (hb : ∀ args H j out H' j', bd args H j = some (out, H', j') -> aL P f = true /\ j <= j' /\ ∀ ks, G j ks -> ACalls P f (args.map (io ks)) (iH ks H) (nN ks j out H' j'))
  {args : List AV} {H : HX} {j : Nat} {out : AOut} {H' : HX} {j' : Nat} (h : aPm M fz bd0 bd keep f args H j = some (out, H', j')) : aL P f = true /\ j <= j' /\ ∀ ks, G j ks -> ACalls P f (args.map (io ks)) (iH ks H) (nN ks j out H' j') := by
 unfold aPm at h;split at h
 ·rename_i hc;simp only [bBs] at hc;obtain ⟨c1, c2, c3⟩ := aD5 hM h0 hb h;exact ⟨c1, c2, fun ks hg => ACalls.given (Nat.le_of_ble_eq_true hc.1.2) (c3 ks hg)⟩
 ·exact aD5 hM h0 hb h

noncomputable def evN (S : Seat) (P : Program) (M : KT) (fz : FuncId -> Bool) (pr : aX) : Nat -> (Bool -> LT -> aX) × (LT -> cA)
 | 0 => (fun _ _ _ _ _ _ => none, fun _ _ _ _ _ => none)
 | n + 1 => (fun keep lt f args H j => match pr f args H j with
  | some r => some r
  | none => aPm M fz
   (fun args => aB3 0 (sU S P (fun b lt' g => (evN S P M fz pr n).1 (b && S.keep f g) lt' g) ((evN S P M fz pr n).2 []) false [] f args [] 0))
   (fun args H j => aB3 j (sU S P (fun b lt' g => (evN S P M fz pr n).1 (b && S.keep f g) lt' g) ((evN S P M fz pr n).2 lt) keep lt f args H j)) keep f args H j,
  fun lt => aYf S P (fun f b lt' g => (evN S P M fz pr n).1 (b && S.keep f g) lt' g) ((evN S P M fz pr n).2 lt) lt)
theorem aM5 {S : Seat} {P : Program} (hS : SeatOk P S) {M : KT} (hM : aFb P M) (fz : FuncId -> Bool) {pr : aX} (hpr : ∀ G : Kn, eL P G pr) : ∀ n, (∀ keep lt, aDe S lt -> eL P (Gl lt) ((evN S P M fz pr n).1 keep lt)) /\ ∀ lt, aDe S lt -> hY P (Gl lt) ((evN S P M fz pr n).2 lt)
 | 0 => ⟨fun keep lt _ f args H j out H' j' h => by simp [evN] at h, fun lt _ i args H j out H' j' h => by simp [evN] at h⟩
 | n + 1 => by
  obtain ⟨ih1, ih2⟩ := aM5 hS hM fz hpr n;have hc : ∀ f b lt, aDe S lt -> eL P (Gl lt) ((fun f b lt' g => (evN S P M fz pr n).1 (b && S.keep f g) lt' g) f b lt) := fun f b lt hl g args H j out H' j' h => ih1 (b && S.keep f g) lt hl g args H j out H' j' h
  have hnil : aDe S [] := fun _ he => by cases he
  refine ⟨fun keep lt hlt f args H j out H' j' h => ?_, fun lt hlt => ?_⟩
  ·simp only [evN] at h;split at h
   ·rename_i r hr;simp only [bBk] at h;subst h;exact hpr (Gl lt) f args H j out H' j' hr
   refine aLj (G := Gl lt) hM (fun args out H' j' h => ?_) (fun args H j out H' j' h => ?_) h
   ·exact aM4 (cf := fun b lt' g => (evN S P M fz pr n).1 (b && S.keep f g) lt' g) hS hnil (fun b lt hl => hc f b lt hl) (ih2 [] hnil) f args [] 0 out H' j' (xV h)
   ·exact aM4 (cf := fun b lt' g => (evN S P M fz pr n).1 (b && S.keep f g) lt' g) hS hlt (fun b lt hl => hc f b lt hl) (ih2 lt hlt) f args H j out H' j' (xV h)
  ·exact aOp (cfk := fun f b lt' g => (evN S P M fz pr n).1 (b && S.keep f g) lt' g) hS hlt (fun f b lt hl => hc f b lt hl) (ih2 lt hlt)
def aWb (x : Option (AOut × HX × Nat)) (v : AV) : Bool := match x with
 | some (.ret v', H', _) => eqA v' v && (match H' with | [] => true | _ => false)
 | _ => false
theorem aK {S : Seat} {P : Program} (hS : SeatOk P S) {M : KT} (hM : aFb P M) (fz : FuncId -> Bool) {pr : aX} (hpr : ∀ G : Kn, eL P G pr) (n : Nat) {f : FuncId} {args : List AV} {v : AV} (h : (mI args && mB v && aWb ((evN S P M fz pr n).1 false [] f args [] 0) v) = true) : aY P f args v := by
 simp only [bBs] at h;obtain ⟨⟨h1, h2⟩, h⟩ := h;unfold aWb at h;split at h
 ·rename_i v' H' _ hr;simp only [bBs] at h;have e := wX h.1;subst e;split at h
  ·obtain ⟨c1, _, c3⟩ := (aM5 hS hM fz hpr n).1 false [] (fun _ he => by cases he) _ _ _ _ _ _ _ hr;refine ⟨⟨c1, h1, h2⟩, ?_⟩;have := c3 (fun _ => (0, ⟨[], #[], .skip, .skip⟩)) (fun _ he => by cases he);have e : args.map (io fun _ => (0, ⟨[], #[], .skip, .skip⟩)) = args := by rw [<- eN]; exact nB _ h1
   rw [e] at this;refine this.mono ?_;rintro o g ⟨ks', _, _, rfl, rfl⟩;exact ⟨by simp only [ioR]; rw [aGo ks' h2], rfl⟩
  ·simp at h
 ·cases h
def noPr : aX := fun _ _ _ _ => none
theorem aG {P : Program} (G : Kn) : eL P G noPr := fun f args H j out H' j' h => by cases h

end Go.AI.EV
