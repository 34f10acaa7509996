import Derived.Test.YtcfcolkbeelegaaGreatVFU
import Derived.Test.YtcfcolkbeelegaaGreatVFS
set_option maxRecDepth 8000
set_option maxHeartbeats 16000000

namespace Go.Proofs.YtcfcolkbeelegaaGreat

open Go Go.AI
abbrev prow (l : List Pt) (m : Nat) : Option AO := some (.cells (buf 3 (ptPs l) m))
theorem prow_len (l : List Pt) (m : Nat) : (buf 3 (ptPs l) m).length = (l.length + m) * 3 := by rw [buf_len (ptPs_len3 l)]; simp
theorem prow_set {l : List Pt} {m k : Nat} (t : Pt) (hk : k < l.length) : patch (buf 3 (ptPs l) m) (k * 3) (t.cells.map .p) = buf 3 (ptPs (l.set k t)) m := by
 rw [buf_set (ptPs_len3 l) (by simpa using hk) (by simp)]; simp [ptPs_eq, List.map_set]
theorem prow_get {l : List Pt} {m k : Nat} {p : Pt} (h : l[k]? = some p) : ((buf 3 (ptPs l) m).drop (k * 3)).take 3 = p.cells.map .p := by
 have hk : k < l.length := (List.getElem?_eq_some_iff.1 h).1
 have hg : l[k] = p := (List.getElem?_eq_some_iff.1 h).2
 rw [buf_get (ptPs_len3 l) (by simpa using hk)]; simp [ptPs_eq, hg]
theorem prow_cell {l : List Pt} {m k : Nat} {kk : Int} {n : List UInt8} {qs : List Pt} (h : l[k]? = some (.mk kk n qs)) (c : Nat) (hc : c < 3) : (buf 3 (ptPs l) m)[k * 3 + c]? = [iA kk, .p (sP n), .p (.sl 3 (ptPs qs))][c]? := by
 have := congrArg (fun x => x[c]?) (prow_get (m := m) h)
 simp only [pcells_mk, List.map] at this
 rw [List.getElem?_take_of_lt hc, List.getElem?_drop] at this
 exact this
theorem prow_args {l : List Pt} {m k : Nat} {kk : Int} {n : List UInt8} {qs : List Pt} (ws : List Pt) (h : l[k]? = some (.mk kk n qs)) : (buf 3 (ptPs l) m).set (k * 3 + 2) (.p (.sl 3 (ptPs ws))) = buf 3 (ptPs (l.set k (.mk kk n ws))) m := by
 have hk : k < l.length := (List.getElem?_eq_some_iff.1 h).1
 rw [← prow_set (m := m) (.mk kk n ws) hk]
 simp only [pcells_mk, List.map, patch]
 have c0 := prow_cell (m := m) h 0 (by omega)
 have c1 := prow_cell (m := m) h 1 (by omega)
 simp at c0 c1
 generalize buf 3 (ptPs l) m = b at c0 c1
 have e0 : b.set (k * 3) (iA kk) = b := by
  apply List.ext_getElem?
  intro j
  rw [List.getElem?_set]
  split
  ·rename_i e; subst e
   rw [c0]; simp [(List.getElem?_eq_some_iff.1 c0).1]
  ·rfl
 have e1 : b.set (k * 3 + 1) (.p (sP n)) = b := by
  apply List.ext_getElem?
  intro j
  rw [List.getElem?_set]
  split
  ·rename_i e; subst e
   rw [c1]; simp [(List.getElem?_eq_some_iff.1 c1).1]
  ·rfl
 rw [e0, e1]
def CloneRp (h : Heap) (ts : List Pt) (o : AOut) (h' : Heap) : Prop :=
 (ts = [] ∧ o = .ret (.p (.sl 3 [])) ∧ h' = h) ∨ ∃ (G : Heap) (cap : Nat), WF (h ++ G) ∧ ts.length ≤ cap ∧ o = .ret (.sm (h.length + G.length) 0 ts.length cap 3) ∧ h' = h ++ (G ++ [prow ts (cap - ts.length)])
theorem pclone_any (h : Heap) (hh : WF h) (ts : List Pt) (hl : ts.length ≤ 1048576) : ACalls Tryz.prog 179 [.p (.sl 3 (ptPs ts))] h (CloneRp h ts) := by
 refine ACalls.of_run Tryz.func179 rfl ?_
 simp only [Tryz.ntmps179, List.length_cons, List.length_nil]
 refine nv ?_
 refine Run.reg fun K J => ?_
 simp
 refine J _ _ _ (nv ?_); clear J
 refine Run.regPre 1 fun K J => ?_
 simp only [List.take_succ_cons, List.take_zero]
 simp
 refine J _ _ _ ?_; clear J
 simp only [List.nil_append, List.drop_succ_cons, List.drop_zero]
 refine Run.nilEq (sz := 3) (es := ptPs ts) rfl Tryz.underlying50 rfl (by simp) fun b hb => ?_
 refine Run.ops fun K J => ?_
 simp
 refine J _ _ _ (nv ?_); clear J
 cases b with
 | true =>
  have h0 : ts = [] := by
   have := hb rfl
   rw [ptPs_eq] at this
   simpa using this
  subst h0
  refine ct (by simp) (nv ?_)
  refine Run.reg fun K J => ?_
  simp
  refine J _ _ _ (nv ?_); clear J
  refine Run.ret ?_
  exact Fin.ret' (h0 := h) (xs := [.p (.prim (.slice none 0 0))]) (by simp) rfl hh (List.append_nil _).symm (by simp) rfl (Weak.nil 3) rfl (.inl ⟨rfl, rfl, rfl⟩)
 | false =>
  refine cf (by simp) (nv ?_)
  cases ts with
  | nil =>
   refine Run.regPre 2 fun K J => ?_
   simp only [List.take_succ_cons, List.take_zero]
   simp [ptPs]
   refine J _ _ _ ?_; clear J
   simp only [List.nil_append, List.drop_succ_cons, List.drop_zero]
   refine Run.appendZ (sz := 3) (sz' := 3) (es := []) (e := 74) rfl rfl rfl rfl (by simp) (by simp) ?_
   refine Run.ops fun K J => ?_
   simp
   refine J _ _ _ (nv ?_); clear J
   refine Run.ret ?_
   exact Fin.ret' (h0 := h) (by simp) rfl hh (by simp; rfl) (by simp; rfl) rfl (Weak.refl _) rfl (.inl ⟨rfl, rfl, rfl⟩)
  | cons t0 ts0 =>
   generalize ht : t0 :: ts0 = ts at *
   have hpos : 0 < ts.length := by rw [← ht]; simp
   clear ht t0 ts0
   refine Run.regPre 0 fun K J => ?_
   simp only [List.take_zero]
   simp
   refine J _ _ _ ?_; clear J
   simp only [List.nil_append, List.drop_zero]
   refine Run.build0 (sz := 3) (e := 74) rfl rfl rfl rfl ?_
   refine Run.opsPre 1 fun K J => ?_
   simp only [List.take_succ_cons, List.take_zero]
   simp
   refine J _ _ _ ?_; clear J
   simp only [List.nil_append, List.drop_succ_cons, List.drop_zero]
   refine Run.appendS (id := h.length) (es := []) (ys := ptPs ts) (cap := 0) (sz := 3) (by_ := 48) (e := 74) rfl rfl rfl rfl rfl rfl (by simp) (by simp [buf]) (by simp) (by simp) (by simp) (by simp) (by simpa using hpos) (by simp; omega) (by simp; omega) ?_ ?_
   ·intro hc; simp only [List.length_nil, ptPs_length] at hc; omega
   ·intro c' hc'
    refine Run.ops fun K J => ?_
    simp
    refine J _ _ _ (nv ?_); clear J
    refine Run.ret ?_
    refine Fin.retM (h0 := h ++ ([some (.cells (buf 3 [] 0))] ++ [prow ts (c' - ts.length)])) (l := []) (by simp) (by simp) (hh.app (by simp [buf_under])) (by simp) (by simp; rfl) rfl (Weak.refl _) (by simp) (.inr ⟨[some (.cells (buf 3 [] 0))], c', hh.app (by simp [buf_under]), by simpa using hc', rfl, rfl⟩)
def putPs : List Int → List Pt → Pt → List Pt
 | [], l, _ => l
 | [i], l, x => l.set i.toNat x
 | i :: j :: w, l, x => match l[i.toNat]? with
  | some (.mk k n qs) => l.set i.toNat (.mk k n (putPs (j :: w) qs x))
  | none => l
def PathOK : List Int → List Pt → Prop
 | [], _ => False
 | [i], l => l.length ≤ 1048576 ∧ 0 ≤ i ∧ i.toNat < l.length
 | i :: j :: w, l => l.length ≤ 1048576 ∧ 0 ≤ i ∧ ∃ k n qs, l[i.toNat]? = some (.mk k n qs) ∧ PathOK (j :: w) qs
theorem prefined1_any (x : Pt) (a b : Nat) : ∀ (w : List Int) (l : List Pt), PathOK w l → ∀ h, WF h → h[a]? = some (some (.cells (x.cells.map .p))) → h[b]? = some (some (.cells [.fn (.func 178) [] [.ptr a 0, .ptr b 0]])) →
  ACalls Tryz.prog 178 [.p (.sl 3 (ptPs l)), .p (.sl 1 (ints w)), .ptr a 0, .ptr b 0] h fun o h' => o = .ret (.p (.sl 3 (ptPs (putPs w l x)))) ∧ h' = h := by
 intro w
 induction w with
 | nil => intro l hp; exact hp.elim
 | cons i w ih =>
 intro l hp h hh ha hb
 obtain ⟨a1, _⟩ := idf ha
 obtain ⟨b1, _⟩ := idf hb
 have hll : l.length ≤ 1048576 := by cases w <;> exact hp.1
 have hi0 : 0 ≤ i := by cases w <;> exact hp.2.1
 have hil : i.toNat < l.length := by
  cases w with
  | nil => exact hp.2.2
  | cons j w => obtain ⟨k, n, qs, hg, _⟩ := hp.2.2; exact (List.getElem?_eq_some_iff.1 hg).1
 obtain ⟨ii, rfl⟩ : ∃ ii : Nat, i = ii := ⟨i.toNat, by omega⟩
 simp only [Int.toNat_natCast] at hil
 have c1 := fun (g : Heap) (hw : WF g) => pclone_any g hw l hll
 refine ACalls.of_run Tryz.func178 rfl ?_
 simp only [Tryz.ntmps178, List.length_cons, List.length_nil]
 refine nv ?_
 refine Run.reg fun K J => ?_
 simp
 refine J _ _ _ (nv ?_); clear J
 refine Run.reg fun K J => ?_
 simp
 refine J _ _ _ ?_; clear J
 refine Run.call rfl rfl (by simp) rfl (c1 _ hh) ?_ ?_
 rotate_left
 ·rintro v h' (⟨_, hv, _⟩ | ⟨_, _, _, _, hv, _⟩) <;> cases hv
 rintro v h' (⟨h0, _, _⟩ | ⟨G, cap, hG, hcap, hv, rfl⟩)
 ·subst h0; simp at hil
 simp only [AOut.ret.injEq] at hv
 subst hv
 rw [show h ++ (G ++ [prow l (cap - l.length)]) = (h ++ G) ++ [prow l (cap - l.length)] by simp, ← List.length_append]
 have a2 : ∀ m, ((h ++ G) ++ m)[a]? = some (some (.cells (x.cells.map .p))) := fun m => by rw [List.append_assoc]; exact a1 _
 have b2 : ∀ m, ((h ++ G) ++ m)[b]? = some (some (.cells [.fn (.func 178) [] [.ptr a 0, .ptr b 0]])) := fun m => by rw [List.append_assoc]; exact b1 _
 have hGl : h.length ≤ (h ++ G).length := by simp
 have hend : ∀ m, h ++ G ++ m = h ++ (G ++ m) := fun m => by simp
 generalize h ++ G = H at hG a2 b2 hGl hend
 have l1 : ii * 3 + 3 ≤ (buf 3 (ptPs l) (cap - l.length)).length := by rw [prow_len]; omega
 obtain ⟨es, hes⟩ : ∃ es, ints ((ii : Int) :: w) = es := ⟨_, rfl⟩
 have he0 : es[0]? = some [iP ii] := by rw [← hes]; rfl
 have hel : es.length = w.length + 1 := by rw [← hes]; simp [ints]
 have het : es.tail = ints w := by rw [← hes]; rfl
 rw [hes]
 clear hes
 refine Run.ops fun K J => ?_
 simp
 refine J _ _ _ (nv ?_); clear J
 refine Run.reg fun K J => ?_
 simp [he0]
 refine J _ _ _ (nv ?_); clear J
 refine Run.reg fun K J => ?_
 simp
 refine J _ _ _ (nv ?_); clear J
 cases w with
 | nil =>
  have hput := prow_set (m := cap - l.length) x hil
  refine ct (by simp [hel]) ?_
  refine Run.reg fun K J => ?_
  simp [a2, hil, l1, hput]
  refine J _ _ _ (nv ?_); clear J
  refine Run.keep [7] ?_
  simp
  refine Run.freezeS 7 (id := H.length) (n := l.length) (cap := cap) (sz := 3) (m := cap - l.length) (es := ptPs (l.set ii x)) (by simp) (by simp) (ptPs_len3 _) (by simp) hcap ?_
  simp
  refine Run.reg fun K J => ?_
  simp
  refine J _ _ _ (nv ?_); clear J
  refine Run.ret ?_
  refine Fin.ret' (h0 := h) (by simp) rfl hh (hend _) (by simp; rfl) rfl (Weak.refl _) (by simp) ⟨by simp [putPs], rfl⟩
 | cons j w =>
  obtain ⟨_, _, k, n, qs, hg, hp2⟩ := hp
  simp only [Int.toNat_natCast] at hg
  have c2 := fun (g : Heap) (hw : WF g) (h1 : g[a]? = _) (h2 : g[b]? = _) => ih qs hp2 g hw h1 h2
  have hg2 := prow_cell (m := cap - l.length) hg 2 (by omega)
  simp at hg2
  obtain ⟨ws, hws⟩ : ∃ ws, putPs (j :: w) qs x = ws := ⟨_, rfl⟩
  rw [hws] at c2
  have hput := prow_args (m := cap - l.length) ws hg
  have hres : putPs ((ii : Int) :: j :: w) l x = l.set ii (.mk k n ws) := by simp [putPs, hg, hws]
  rw [hres]
  simp only [List.length_cons] at hel
  have hel1 : (1 : Int) ≤ (es.length : Int) := by omega
  refine cf (by simp; omega) ?_
  refine Run.draw [0, 0, 0, 0, 0, 0, 0, 0, 0, 0, 0, 1, 1, 1] [0, 0, 0, 0, 0, 0, 0, 0, 0, 0, 0, 0, 0, 1] [0, 0, 0, 0, 0, 24, 56, 120, 0, 256, 1020, 2047, 4095, 8191] [2, 3, 4, 5, 6, 7, 8, 9, 10, 0, 1, 11, 12, 13] (by kernel_rfl) (by kernel_rfl) ?_
  refine DR.go fun K J => ?_
  simp [hil, b2, hg2, hel1, het]
  refine J _ _ _ _ ?_; clear J
  refine DR.call (args := [.p (.sl 3 (ptPs qs)), .p (.sl 1 (ints (j :: w))), .ptr a 0, .ptr b 0]) rfl rfl (by simp) rfl rfl (c2 _ (hG.app (by simp [buf_under])) (a2 _) (b2 _)) ?_
  refine DR.go fun K J => ?_
  simp [hil, l1, hput]
  refine J _ _ _ _ ?_; clear J
  change Run _ _ _ _ _ _ _ _
  refine nv ?_
  refine Run.keep [7] ?_
  simp
  refine Run.freezeS 7 (id := H.length) (n := l.length) (cap := cap) (sz := 3) (m := cap - l.length) (es := ptPs (l.set ii (.mk k n ws))) (by simp) (by simp) (ptPs_len3 _) (by simp) hcap ?_
  simp
  refine Run.reg fun K J => ?_
  simp
  refine J _ _ _ (nv ?_); clear J
  refine Run.ret ?_
  exact Fin.ret' (h0 := h) (by simp) rfl hh (hend _) (by simp; rfl) rfl (Weak.refl _) (by simp) ⟨rfl, rfl⟩
theorem prefined_any (x : Pt) (w : List Int) (l : List Pt) (hp : PathOK w l) (h : Heap) (hh : WF h) : ACalls Tryz.prog 131 [.p (.sl 3 (ptPs l)), .p (.sl 1 (ints w)), x.av] h fun o h' => o = .ret (.p (.sl 3 (ptPs (putPs w l x)))) ∧ h' = h := by
 have c1 := fun (a b : Nat) (g : Heap) (hw : WF g) (h1 : g[a]? = _) (h2 : g[b]? = _) => prefined1_any x a b w l hp g hw h1 h2
 obtain ⟨k, n, qs⟩ := x
 simp only [Pt.av, pcells_mk, List.map] at c1 ⊢
 refine ACalls.of_run Tryz.func131 rfl ?_
 simp only [Tryz.ntmps131, List.length_cons, List.length_nil]
 refine nv ?_
 refine Run.reg fun K J => ?_
 simp
 refine J _ _ _ (nv ?_); clear J
 refine Run.reg fun K J => ?_
 simp
 refine J _ _ _ (nv ?_); clear J
 refine Run.reg fun K J => ?_
 simp
 refine J _ _ _ (nv ?_); clear J
 refine Run.reg fun K J => ?_
 simp
 refine J _ _ _ ?_; clear J
 refine rl rfl (by first | rfl | simp) (by simp) rfl (c1 h.length (h.length + 1) _ (hh.app (by simp)) (by simp) (by simp)) ?_
 refine Run.ops fun K J => ?_
 simp
 refine J _ _ _ (nv ?_); clear J
 refine Run.ret ?_
 exact Fin.ret' (h0 := h) (by simp) rfl hh rfl (by simp; rfl) rfl (Weak.refl _) (by simp) ⟨rfl, rfl⟩


open Go Go.AI
def varPt : Pt := .mk 0 [] []

mutual
def ctP : Pt → Nat
 | .mk k _ qs => (if k = 1 then 1 else 0) + ctPs qs
def ctPs : List Pt → Nat
 | [] => 0
 | p :: ps => ctP p + ctPs ps
end

mutual
def openP : Pt → Pt → Nat
 | .mk k n qs, v => if k = 1 then (if v.kind = 1 then (if v.name = n then openPs qs v.args else 0) else 1 + ctPs qs) else 0
def openPs : List Pt → List Pt → Nat
 | [], _ => 0
 | _ :: _, [] => 0
 | p :: ps, v :: vs => openP p v + openPs ps vs
end
theorem openP_var : ∀ (p v : Pt), v.kind ≠ 1 → openP p v ≤ ctP p
 | .mk k n qs, v, h => by
  simp only [openP, ctP]
  by_cases c : k = 1
  ·rw [if_pos c, if_neg h, if_pos c]; omega
  ·rw [if_neg c]; omega
theorem openPs_vars : ∀ (l : List Pt) (m : Nat), openPs l (List.replicate m varPt) ≤ ctPs l
 | [], m => by simp [openPs]
 | p :: l, 0 => by simp [openPs]
 | p :: l, m + 1 => by
  simp only [List.replicate_succ, openPs, ctPs]
  have := openP_var p varPt (by simp [varPt])
  have := openPs_vars l m
  omega
def newPt (n : List UInt8) (m : Nat) : Pt := .mk 1 n (List.replicate m varPt)
theorem open_new (p v : Pt) (hv : v.kind ≠ 1) (n : List UInt8) (m : Nat) : openP p (newPt n m) ≤ openP p v ∧ (p.kind = 1 → openP p (newPt n m) < openP p v) := by
 obtain ⟨k, nm, qs⟩ := p
 obtain ⟨vk, vn, vq⟩ := v
 have hv2 := openPs_vars qs m
 simp only [Pt.kind] at hv
 simp only [openP, newPt, Pt.kind, Pt.name, Pt.args, if_true]
 by_cases c : k = 1
 ·by_cases e : n = nm
  ·simp only [c, hv, e, if_true, if_false]
   exact ⟨by omega, fun _ => by omega⟩
  ·simp only [c, hv, e, if_true, if_false]
   exact ⟨by omega, fun _ => by omega⟩
 ·simp only [c, if_false]
  exact ⟨Nat.le_refl _, fun h => h.elim⟩
theorem openPs_set : ∀ (l vs : List Pt) (i : Nat) (v v' : Pt), vs[i]? = some v → (∀ p, openP p v' ≤ openP p v) → openPs l (vs.set i v') ≤ openPs l vs
 | [], _, _, _, _, _, _ => by simp [openPs]
 | _ :: _, [], _, _, _, h, _ => by simp at h
 | p :: l, x :: vs, 0, v, v', h, hle => by
  simp at h; subst h
  simp only [List.set_cons_zero, openPs]
  have := hle p
  omega
 | p :: l, x :: vs, i + 1, v, v', h, hle => by
  simp only [List.set_cons_succ, openPs]
  have := openPs_set l vs i v v' (by simpa using h) hle
  omega
theorem openPs_set_lt : ∀ (l vs : List Pt) (i : Nat) (p v v' : Pt), l[i]? = some p → vs[i]? = some v → openP p v' < openP p v → openPs l (vs.set i v') < openPs l vs
 | [], _, _, _, _, _, h, _, _ => by simp at h
 | _ :: _, [], _, _, _, _, _, h, _ => by simp at h
 | q :: l, x :: vs, 0, p, v, v', h1, h, hlt => by
  simp at h1 h; subst h1 h
  simp only [List.set_cons_zero, openPs]
  omega
 | q :: l, x :: vs, i + 1, p, v, v', h1, h, hlt => by
  simp only [List.set_cons_succ, openPs]
  have := openPs_set_lt l vs i p v v' (by simpa using h1) (by simpa using h) hlt
  omega
def PathV : List Int → List Pt → Prop
 | [], _ => False
 | [i], vs => 0 ≤ i ∧ ∃ v, vs[i.toNat]? = some v ∧ v.kind ≠ 1
 | i :: j :: w, vs => 0 ≤ i ∧ ∃ n qs, vs[i.toNat]? = some (.mk 1 n qs) ∧ PathV (j :: w) qs
def PathC (nm : List UInt8) : List Int → List Pt → List Pt → Prop
 | [], _, _ => False
 | [i], l, vs => 0 ≤ i ∧ ∃ qs v, l[i.toNat]? = some (.mk 1 nm qs) ∧ vs[i.toNat]? = some v ∧ v.kind ≠ 1
 | i :: j :: w, l, vs => 0 ≤ i ∧ ∃ n qs ws, l[i.toNat]? = some (.mk 1 n qs) ∧ vs[i.toNat]? = some (.mk 1 n ws) ∧ PathC nm (j :: w) qs ws
theorem PathC.v {nm : List UInt8} : ∀ {w : List Int} {l vs : List Pt}, PathC nm w l vs → PathV w vs
 | [], _, _, h => h.elim
 | [i], l, vs, h => ⟨h.1, by obtain ⟨qs, v, _, h2, h3⟩ := h.2; exact ⟨v, h2, h3⟩⟩
 | i :: j :: w, l, vs, h => ⟨h.1, by obtain ⟨n, qs, ws, _, h2, h3⟩ := h.2; exact ⟨n, ws, h2, h3.v⟩⟩

mutual
theorem cmpP_at : ∀ (i : Nat) (p v : Pt) (w : List Int) (nm : List UInt8), cmpP i p v = ⟨2, w, nm⟩ → ∃ w', w = (i : Int) :: w' ∧ PathC nm (0 :: w') [p] [v]
 | i, .mk k n qs, v, w, nm, h => by
  rw [cmpP] at h
  by_cases hk : k = 1
  ·rw [if_pos hk] at h
   subst hk
   by_cases hv : v.kind = 1
   ·rw [if_pos hv] at h
    by_cases hn : v.name = n
    ·rw [if_pos hn] at h
     simp only [Vx.mk.injEq] at h
     obtain ⟨h1, h2, h3⟩ := h
     obtain ⟨a, w', he, h4, h5⟩ := cmpPs_atF 0 qs v.args (cmpPs 0 qs v.args).w (cmpPs 0 qs v.args).n (by cases hc : cmpPs 0 qs v.args; rw [hc] at h1; simp at h1; simp [h1])
     refine ⟨a :: w', by rw [← h2, he], by omega, n, qs, v.args, by simp, ?_, ?_⟩
     ·obtain ⟨kv, nv, av⟩ := v
      simp at hv hn
      subst hv hn
      simp
     ·rw [h3] at h5
      simpa using h5
    ·rw [if_neg hn] at h
     simp at h
   ·rw [if_neg hv] at h
    simp only [Vx.mk.injEq] at h
    obtain ⟨_, h2, h3⟩ := h
    refine ⟨[], h2.symm, by omega, qs, v, by simp [h3], by simp, hv⟩
  ·rw [if_neg hk] at h
   simp at h
theorem cmpPs_atF : ∀ (i0 : Nat) (l vs : List Pt) (w : List Int) (nm : List UInt8), cmpPs i0 l vs = ⟨2, w, nm⟩ → ∃ (i : Int) (w' : List Int), w = i :: w' ∧ (i0 : Int) ≤ i ∧ PathC nm ((i - i0) :: w') l vs
 | i0, [], vs, w, nm, h => by simp [cmpPs] at h
 | i0, p :: ps, [], w, nm, h => by simp [cmpPs] at h
 | i0, p :: ps, v :: vs, w, nm, h => by
  rw [cmpPs] at h
  by_cases c : (cmpP i0 p v).v = 0
  ·rw [if_pos c] at h
   obtain ⟨i, w', h1, h2, h3⟩ := cmpPs_atF (i0 + 1) ps vs w nm h
   refine ⟨i, w', h1, by omega, ?_⟩
   obtain ⟨m, hm⟩ : ∃ m : Nat, i - ((i0 + 1 : Nat) : Int) = m := ⟨(i - ((i0 + 1 : Nat) : Int)).toNat, by omega⟩
   have hm2 : i - (i0 : Int) = ((m + 1 : Nat) : Int) := by omega
   rw [hm] at h3
   rw [hm2]
   cases w' with
   | nil =>
    obtain ⟨_, qs, x, a, b, c⟩ := h3
    exact ⟨by omega, qs, x, by simpa using a, by simpa using b, c⟩
   | cons j w' =>
    obtain ⟨_, n, qs, ws, a, b, c⟩ := h3
    exact ⟨by omega, n, qs, ws, by simpa using a, by simpa using b, c⟩
  ·rw [if_neg c] at h
   obtain ⟨w', h1, h2⟩ := cmpP_at i0 p v w nm h
   refine ⟨i0, w', h1, by omega, ?_⟩
   rw [show (i0 : Int) - i0 = 0 by omega]
   cases w' with
   | nil =>
    obtain ⟨_, qs, x, a, b, c⟩ := h2
    exact ⟨by omega, qs, x, by simpa using a, by simpa using b, c⟩
   | cons j w' =>
    obtain ⟨_, n, qs, ws, a, b, c⟩ := h2
    exact ⟨by omega, n, qs, ws, by simpa using a, by simpa using b, c⟩
end
theorem put_le (n : List UInt8) (m : Nat) : ∀ (w : List Int) (vs : List Pt), PathV w vs → ∀ l, openPs l (putPs w vs (newPt n m)) ≤ openPs l vs
 | [], vs, h, l => h.elim
 | [i], vs, h, l => by
  obtain ⟨h0, v, hv, hk⟩ := h
  exact openPs_set l vs i.toNat v _ hv fun p => (open_new p v hk n m).1
 | i :: j :: w, vs, h, l => by
  obtain ⟨h0, nm, qs, hv, hp⟩ := h
  have ih := put_le n m (j :: w) qs hp
  simp only [putPs, hv]
  refine openPs_set l vs i.toNat _ _ hv fun p => ?_
  obtain ⟨k, n', ps⟩ := p
  simp only [openP, Pt.kind, Pt.name, Pt.args, if_true]
  by_cases c : k = 1
  ·rw [if_pos c, if_pos c]
   by_cases e : nm = n'
   ·simp only [e, if_true]; exact ih ps
   ·simp only [e, if_false]; exact Nat.le_refl _
  ·rw [if_neg c, if_neg c]; exact Nat.le_refl _
theorem put_lt (n : List UInt8) (m : Nat) (nm : List UInt8) : ∀ (w : List Int) (l vs : List Pt), PathC nm w l vs → openPs l (putPs w vs (newPt n m)) < openPs l vs
 | [], l, vs, h => h.elim
 | [i], l, vs, h => by
  obtain ⟨h0, qs, v, h1, hv, hk⟩ := h
  exact openPs_set_lt l vs i.toNat _ v _ h1 hv ((open_new _ v hk n m).2 rfl)
 | i :: j :: w, l, vs, h => by
  obtain ⟨h0, nn, qs, ws, h1, hv, hp⟩ := h
  have ih := put_lt n m nm (j :: w) qs ws hp
  simp only [putPs, hv]
  refine openPs_set_lt l vs i.toNat _ _ _ h1 hv ?_
  simp only [openP, Pt.kind, Pt.name, Pt.args, if_true]
  exact ih
def openC : List Cl → List Pt → Nat
 | [], _ => 0
 | c :: cs, vs => openPs c.ps vs + openC cs vs
theorem openC_le (n : List UInt8) (m : Nat) {w : List Int} {vs : List Pt} (h : PathV w vs) : ∀ cs : List Cl, openC cs (putPs w vs (newPt n m)) ≤ openC cs vs
 | [] => Nat.le_refl _
 | c :: cs => by
  have := put_le n m w vs h c.ps
  have := openC_le n m h cs
  simp only [openC]; omega
theorem openC_lt (n : List UInt8) (m : Nat) {nm : List UInt8} {w : List Int} {vs : List Pt} : ∀ {cs : List Cl} {c : Cl}, c ∈ cs → PathC nm w c.ps vs → openC cs (putPs w vs (newPt n m)) < openC cs vs
 | [], c, h, _ => by cases h
 | x :: cs, c, h, hp => by
  simp only [openC]
  rcases List.mem_cons.1 h with rfl | h
  ·have := put_lt n m nm w c.ps vs hp
   have := openC_le n m hp.v cs
   omega
  ·have := put_le n m w vs hp.v x.ps
   have := openC_lt n m h hp
   omega
theorem put_chk {env : List Dc} {x : Pt} (hx : chkP env x = 0) : ∀ (w : List Int) (vs : List Pt), PathV w vs → chkPs env vs = 0 → chkPs env (putPs w vs x) = 0 ∧ (putPs w vs x).length = vs.length
 | [], vs, h, _ => h.elim
 | [i], vs, h, hc => by
  refine ⟨chkPs_of fun p hp => ?_, by simp [putPs]⟩
  simp only [putPs] at hp
  rcases List.mem_or_eq_of_mem_set hp with hp | rfl
  ·exact chkPs_mem hc p hp
  ·exact hx
 | i :: j :: w, vs, h, hc => by
  obtain ⟨h0, n, qs, hv, hp⟩ := h
  have hq := chkPs_mem hc _ (List.mem_of_getElem? hv)
  obtain ⟨a, b, c⟩ := chkP_ctor hq
  have ih := put_chk hx (j :: w) qs hp c
  simp only [putPs, hv]
  refine ⟨chkPs_of fun p hp => ?_, by simp⟩
  rcases List.mem_or_eq_of_mem_set hp with hp | rfl
  ·exact chkPs_mem hc p hp
  ·have e : ∀ qs : List Pt, chkP env (.mk 1 n qs) = if (fieldsZ env n).2.2 = false then 9 else if (qs.length : Int) = (fieldsZ env n).2.1 then chkPs env qs else 6 := fun qs => by
    rw [chkP, if_neg (by omega), if_pos rfl]
   rw [e, if_neg (by rw [a]; simp), if_pos (by rw [ih.2]; exact b)]
   exact ih.1
theorem PathV.ok {env : List Dc} (hfl : ∀ n, (fieldsZ env n).2.1 ≤ 1048576) : ∀ {w : List Int} {vs : List Pt}, PathV w vs → vs.length ≤ 1048576 → chkPs env vs = 0 → PathOK w vs
 | [], _, h, _, _ => h.elim
 | [i], vs, h, hl, _ => ⟨hl, h.1, by obtain ⟨v, hv, _⟩ := h.2; exact (List.getElem?_eq_some_iff.1 hv).1⟩
 | i :: j :: w, vs, h, hl, hc => by
  obtain ⟨h0, n, qs, hv, hp⟩ := h
  obtain ⟨a, b, c⟩ := chkP_ctor (chkPs_mem hc _ (List.mem_of_getElem? hv))
  have := hfl n
  exact ⟨hl, h0, 1, n, qs, hv, hp.ok hfl (by omega) c⟩
theorem firstE_zero {l : List Int} (h : firstE l = 0) : ∀ e ∈ l, e = 0 := by
 induction l with
 | nil => intro e he; cases he
 | cons x l ih =>
  simp only [firstE] at h
  by_cases c : x = 0
  ·rw [if_pos c] at h
   intro e he
   rcases List.mem_cons.1 he with rfl | he
   ·exact c
   ·exact ih h e he
  ·rw [if_neg c] at h; exact absurd h c
theorem names_new {env : List Dc} {d : Dc} (h : dnZ env d = 0) : ∀ (j : Nat) (s : List UInt8), (namesZ d)[j]? = some s → findZ s env 0 = none ∧ s ∉ (namesZ d).take j := by
 intro j s hs
 have hj := (List.getElem?_eq_some_iff.1 hs).1
 have := firstE_zero h (dnE env (namesZ d) j) (List.mem_map.2 ⟨j, List.mem_range.2 hj, rfl⟩)
 unfold dnE at this
 rw [hs] at this
 simp only at this
 split at this
 ·exact absurd this (by decide)
 ·split at this
  ·exact absurd this (by decide)
  ·rename_i hc
   rw [not_or] at hc
   exact ⟨by simpa using hc.1, hc.2⟩
theorem findZ_none {s : List UInt8} : ∀ {env : List Dc} {i : Nat}, findZ s env i = none → ∀ d ∈ env, s ∉ namesZ d
 | [], _, _, d, hd => by cases hd
 | x :: env, i, h, d, hd => by
  simp only [findZ] at h
  split at h
  ·cases h
  ·rename_i hx
   rcases List.mem_cons.1 hd with rfl | hd
   ·exact hx
   ·exact findZ_none h d hd
theorem dnZ_of {env : List Dc} (h : EnvOk env) {j : Nat} {d : Dc} (hg : env[j]? = some d) : dnZ (env.take j) d = 0 := by
 have h0 := h j d hg
 unfold declZ at h0
 split at h0
 ·simp at h0
 split at h0
 ·simp at h0
 split at h0
 ·rename_i hc; exact absurd h0 hc
 split at h0
 ·rename_i hc; exact absurd h0 hc
 rename_i hc
 simpa using hc
theorem ctEn_at (d : Dc) (a : Int) {s : List UInt8} : ∀ (l : List Ct) (i j : Nat) (c : Ct), l[j]? = some c → c.nm = s → (∀ x ∈ l.take j, x.nm ≠ s) → ctEn d a s l i = some ⟨4, a, ((i + j : Nat) : Int), d.ps, c.ty⟩
 | [], _, _, _, h, _, _ => by simp at h
 | x :: l, i, 0, c, h, hn, _ => by
  simp at h; subst h
  simp only [ctEn, if_pos hn]; simp
 | x :: l, i, j + 1, c, h, hn, hne => by
  simp only [ctEn]
  rw [if_neg (hne x (by simp)), ctEn_at d a l (i + 1) j c (by simpa using h) hn (fun y hy => hne y (by simp [hy]))]
  simp; omega
theorem ctor_found {env : List Dc} (hf : EnvFine env) {i : Nat} {d : Dc} (hg : env[i]? = some d) (hk : d.k = 3) {j : Nat} {c : Ct} (hc : d.cs[j]? = some c) : famZ env c.nm = (d, (j : Int), true) := by
 have hdn := dnZ_of hf.2 hg
 have hj := (List.getElem?_eq_some_iff.1 hc).1
 have hnz : namesZ d = d.nm :: (d.cs.map Ct.nm ++ [d.nm ++ recB]) := by
  unfold namesZ; rw [if_neg (by omega), if_pos hk]
 have hat : (namesZ d)[j + 1]? = some c.nm := by
  rw [hnz]
  simp only [List.getElem?_cons_succ]
  rw [List.getElem?_append_left (by simpa using hj), List.getElem?_map, hc]; rfl
 obtain ⟨h1, h2⟩ := names_new hdn (j + 1) c.nm hat
 have hz : findZ c.nm env 0 = some (entZ d i c.nm) := findZ_hit (fun x hx => findZ_none h1 x hx) hg (List.mem_of_getElem? hat)
 rw [hnz, List.take_succ_cons] at h2
 simp only [List.mem_cons, not_or] at h2
 have h3 : ∀ x ∈ d.cs.take j, x.nm ≠ c.nm := by
  intro x hx e
  refine h2.2 ?_
  rw [List.take_append_of_le_length (by simp; omega), ← List.map_take]
  exact List.mem_map.2 ⟨x, hx, e⟩
 have he : entZ d i c.nm = ⟨4, i, j, d.ps, c.ty⟩ := by
  unfold entZ
  rw [if_neg (by omega), if_pos hk, if_neg h2.1, ctEn_at d i d.cs 0 j c hc rfl h3]
  simp
 unfold famZ
 rw [hz, he]
 simp [hg]
theorem fields_found {env : List Dc} (hf : EnvFine env) {n : List UInt8} (hn : (fieldsZ env n).2.2 = true) {j : Nat} {c : Ct} (hc : (fieldsZ env n).1.cs[j]? = some c) : fieldsZ env c.nm = ((fieldsZ env n).1, fldZ (fieldsZ env n).1 j, true) := by
 have hz : (famZ env n).2.2 = true ∧ 0 ≤ (famZ env n).2.1 := by
  unfold fieldsZ at hn
  by_cases h : (famZ env n).2.2 = true ∧ 0 ≤ (famZ env n).2.1
  ·exact h
  ·rw [if_neg h] at hn; cases hn
 have hd : (fieldsZ env n).1 = (famZ env n).1 := by unfold fieldsZ; rw [if_pos hz]
 rw [hd] at hc ⊢
 rcases famZ_cases hf n with e | ⟨d, a, e, hm, hk, _, _⟩
 ·rw [e] at hz; cases hz.1
 ·rw [e] at hc ⊢
  simp only at hc ⊢
  obtain ⟨i, hi⟩ := List.getElem?_of_mem hm
  have := ctor_found hf hi hk hc
  unfold fieldsZ
  rw [this]
  simp


open Go Go.AI
def allCs (rec : List Pt → Bool) (d : Dc) (w : List Int) (v : List Pt) (j : Nat) : Bool := match d.cs[j]? with
 | some c => rec (putPs w v (newPt c.nm (fldZ d j).toNat))
 | none => true
def covC (rec : List Pt → Bool) (env : List Dc) (v : List Pt) : List Cl → Bool
 | [] => false
 | c :: cs => if (cmpPs 0 c.ps v).v = 0 then true else if (cmpPs 0 c.ps v).v = 1 then covC rec env v cs
  else allTo (allCs rec (fieldsZ env (cmpPs 0 c.ps v).n).1 (cmpPs 0 c.ps v).w v) (fieldsZ env (cmpPs 0 c.ps v).n).1.cs.length
def covF (env : List Dc) (cls : List Cl) : Nat → List Pt → Bool
 | 0, _ => false
 | n + 1, v => covC (covF env cls n) env v cls
theorem covC_skip (rec : List Pt → Bool) (env : List Dc) (v : List Pt) : ∀ (cs : List Cl) (j : Nat), (∀ c ∈ cs.take j, (cmpPs 0 c.ps v).v = 1) → covC rec env v cs = covC rec env v (cs.drop j)
 | cs, 0, _ => by simp
 | [], j + 1, _ => by simp
 | c :: cs, j + 1, h => by
  have h1 := h c (by simp)
  simp only [covC, List.drop_succ_cons]
  rw [if_neg (by omega), if_pos h1]
  exact covC_skip rec env v cs j fun x hx => h x (by simp [hx])
theorem cmpP_v : ∀ (i : Nat) (p v : Pt), (cmpP i p v).v = 0 ∨ (cmpP i p v).v = 1 ∨ (cmpP i p v).v = 2 := by
 have key : ∀ (N : Nat) (p : Pt), p.size ≤ N → ∀ i v, (cmpP i p v).v = 0 ∨ (cmpP i p v).v = 1 ∨ (cmpP i p v).v = 2 := by
  intro N
  induction N with
  | zero => intro p hp; have := p.size_pos; omega
  | succ N ih =>
   have lst : ∀ (l : List Pt), Pt.sizes l ≤ N → ∀ i vs, (cmpPs i l vs).v = 0 ∨ (cmpPs i l vs).v = 1 ∨ (cmpPs i l vs).v = 2 := by
    intro l
    induction l with
    | nil => intro _ i vs; simp [cmpPs]
    | cons p l ihl =>
     intro hl i vs
     simp only [Pt.sizes] at hl
     cases vs with
     | nil => simp [cmpPs]
     | cons v vs =>
      simp only [cmpPs]
      split
      ·exact ihl (by omega) _ _
      ·exact ih p (by omega) _ _
   intro p hp i v
   obtain ⟨k, n, qs⟩ := p
   simp only [Pt.size] at hp
   simp only [cmpP]
   split
   ·split
    ·split
     ·exact lst qs (by omega) 0 v.args
     ·simp
    ·simp
   ·simp
 exact fun i p v => key p.size p (Nat.le_refl _) i v
theorem cmpPs_v (i : Nat) : ∀ (l vs : List Pt), (cmpPs i l vs).v = 0 ∨ (cmpPs i l vs).v = 1 ∨ (cmpPs i l vs).v = 2 := by
 intro l
 induction l generalizing i with
 | nil => intro vs; simp [cmpPs]
 | cons p l ih =>
  intro vs
  cases vs with
  | nil => simp [cmpPs]
  | cons v vs =>
   simp only [cmpPs]
   split
   ·exact ih _ _
   ·exact cmpP_v _ _ _
theorem PathC.name {env : List Dc} {nm : List UInt8} : ∀ {w : List Int} {l vs : List Pt}, PathC nm w l vs → chkPs env l = 0 → (fieldsZ env nm).2.2 = true
 | [], _, _, h, _ => h.elim
 | [i], l, vs, h, hc => by
  obtain ⟨_, qs, v, h1, _, _⟩ := h
  exact (chkP_ctor (chkPs_mem hc _ (List.mem_of_getElem? h1))).1
 | i :: j :: w, l, vs, h, hc => by
  obtain ⟨_, n, qs, ws, h1, _, hp⟩ := h
  exact hp.name (chkP_ctor (chkPs_mem hc _ (List.mem_of_getElem? h1))).2.2
theorem new_chk {env : List Dc} {n : List UInt8} (h : (fieldsZ env n).2.2 = true) (h0 : 0 ≤ (fieldsZ env n).2.1) : chkP env (newPt n (fieldsZ env n).2.1.toNat) = 0 := by
 unfold newPt
 rw [chkP, if_neg (by omega), if_pos rfl, if_neg (by rw [h]; simp), if_pos (by simp; omega)]
 exact chkPs_of fun p hp => by rw [(List.mem_replicate.1 hp).2]; simp [varPt, chkP]
theorem fldZ_nn (d : Dc) (j : Nat) : 0 ≤ fldZ d j := by
 unfold fldZ
 split
 ·unfold fldC; split <;> omega
 ·omega

structure CovOk (env : List Dc) (cls : List Cl) (v : List Pt) : Prop where
 cl : cls.length ≤ 1048576
 cs : ∀ c ∈ cls, chkPs env c.ps = 0 ∧ Pt.sizes c.ps ≤ 1048576 ∧ c.ps.length = v.length
 vl : v.length ≤ 1048576
 vc : chkPs env v = 0
theorem CovOk.put {env : List Dc} {cls : List Cl} {v : List Pt} (h : CovOk env cls v) (hf : EnvFine env) {c : Cl} (hc : c ∈ cls) {nm : List UInt8} {w : List Int} (hp : PathC nm w c.ps v) {j : Nat} {x : Ct} (hx : (fieldsZ env nm).1.cs[j]? = some x) :
  CovOk env cls (putPs w v (newPt x.nm (fldZ (fieldsZ env nm).1 j).toNat)) ∧ openC cls (putPs w v (newPt x.nm (fldZ (fieldsZ env nm).1 j).toNat)) < openC cls v := by
 have hn := hp.name (env := env) (h.cs c hc).1
 have hff := fields_found hf hn hx
 have hnew := new_chk (env := env) (n := x.nm) (by rw [hff]) (by rw [hff]; exact fldZ_nn _ _)
 rw [hff] at hnew
 obtain ⟨h1, h2⟩ := put_chk hnew w v hp.v h.vc
 exact ⟨⟨h.cl, fun c hc => by rw [h2]; exact h.cs c hc, by rw [h2]; exact h.vl, h1⟩, openC_lt _ _ hc hp⟩
theorem cmp_two {l vs : List Pt} (h : (cmpPs 0 l vs).v = 2) : PathC (cmpPs 0 l vs).n (cmpPs 0 l vs).w l vs := by
 obtain ⟨i, w, h1, h2, h3⟩ := cmpPs_atF 0 l vs (cmpPs 0 l vs).w (cmpPs 0 l vs).n (by cases hc : cmpPs 0 l vs; rw [hc] at h; simp at h; simp [h])
 rw [h1]
 simpa using h3

end Go.Proofs.YtcfcolkbeelegaaGreat
