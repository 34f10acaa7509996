/-
  Patterns: put of the reference.
-/
import Derived.Test.YtcfcolkbeelegaaGreatMLB

namespace Go.Proofs.YtcfcolkbeelegaaGreat

open Go Go.AI
abbrev prow (l : List Pt) (m : Nat) : Option AO := some (.cells (buf 3 (ptPs l) m))
theorem prow_len (l : List Pt) (m : Nat) : (buf 3 (ptPs l) m).length = (l.length + m) * 3 := by rw [buf_len (ptPs_len3 l)]; simp
theorem prow_set {l : List Pt} {m k : Nat} (t : Pt) (hk : k < l.length) : patch (buf 3 (ptPs l) m) (k * 3) (t.cells.map .p) = buf 3 (ptPs (l.set k t)) m := by
 rw [buf_set (ptPs_len3 l) (by simpa using hk) (by simp)]; simp [ptPs_eq, List.map_set]
theorem prow_get {l : List Pt} {m k : Nat} {p : Pt} (h : l[k]? = some p) : ((buf 3 (ptPs l) m).drop (k * 3)).take 3 = p.cells.map .p := by
 have hk : k < l.length := (List.getElem?_eq_some_iff.1 h).1
 have hg : l[k] = p := (List.getElem?_eq_some_iff.1 h).2
 rw [buf_get (ptPs_len3 l) (by simpa using hk)]; simp [ptPs_eq, hg]
theorem prow_cell {l : List Pt} {m k : Nat} {kk : Int} {n : List UInt8} {qs : List Pt} (h : l[k]? = some (.mk kk n qs)) (c : Nat) (hc : c < 3) : (buf 3 (ptPs l) m)[k * 3 + c]? = [iA kk, .p (sP n), .p (.sl 3 (ptPs qs))][c]? := by
 have := congrArg (fun x => x[c]?) (prow_get (m := m) h)
 simp only [pcells_mk, List.map] at this
 rw [List.getElem?_take_of_lt hc, List.getElem?_drop] at this
 exact this
theorem prow_args {l : List Pt} {m k : Nat} {kk : Int} {n : List UInt8} {qs : List Pt} (ws : List Pt) (h : l[k]? = some (.mk kk n qs)) : (buf 3 (ptPs l) m).set (k * 3 + 2) (.p (.sl 3 (ptPs ws))) = buf 3 (ptPs (l.set k (.mk kk n ws))) m := by
 have hk : k < l.length := (List.getElem?_eq_some_iff.1 h).1
 rw [← prow_set (m := m) (.mk kk n ws) hk]
 simp only [pcells_mk, List.map, patch]
 have c0 := prow_cell (m := m) h 0 (by omega)
 have c1 := prow_cell (m := m) h 1 (by omega)
 simp at c0 c1
 generalize buf 3 (ptPs l) m = b at c0 c1
 have e0 : b.set (k * 3) (iA kk) = b := by
  apply List.ext_getElem?
  intro j
  rw [List.getElem?_set]
  split
  ·rename_i e; subst e
   rw [c0]; simp [(List.getElem?_eq_some_iff.1 c0).1]
  ·rfl
 have e1 : b.set (k * 3 + 1) (.p (sP n)) = b := by
  apply List.ext_getElem?
  intro j
  rw [List.getElem?_set]
  split
  ·rename_i e; subst e
   rw [c1]; simp [(List.getElem?_eq_some_iff.1 c1).1]
  ·rfl
 rw [e0, e1]
def CloneRp (h : Heap) (ts : List Pt) (o : AOut) (h' : Heap) : Prop :=
 (ts = [] ∧ o = .ret (.p (.sl 3 [])) ∧ h' = h) ∨ ∃ (G : Heap) (cap : Nat), WF (h ++ G) ∧ ts.length ≤ cap ∧ o = .ret (.sm (h.length + G.length) 0 ts.length cap 3) ∧ h' = h ++ (G ++ [prow ts (cap - ts.length)])
set_option maxRecDepth 8000 in
set_option maxHeartbeats 4000000 in
theorem pclone_any (h : Heap) (hh : WF h) (ts : List Pt) (hl : ts.length ≤ 1048576) : ACalls Tryz.prog 179 [.p (.sl 3 (ptPs ts))] h (CloneRp h ts) := by
 refine ACalls.of_run Tryz.func179 rfl ?_
 simp only [Tryz.ntmps179, List.length_cons, List.length_nil]
 refine nv ?_
 refine Run.reg fun K hK => ?_
 simp
 try (simp (disch := omega) only [wrap_id])
 refine hK _ _ _ (nv ?_); clear hK K
 refine Run.regPre 1 fun K hK => ?_
 simp only [List.take_succ_cons, List.take_zero]
 simp
 try (simp (disch := omega) only [wrap_id])
 refine hK _ _ _ ?_; clear hK K
 simp only [List.nil_append, List.drop_succ_cons, List.drop_zero]
 refine Run.nilEq (sz := 3) (es := ptPs ts) rfl Tryz.underlying50 rfl (by simp) fun b hb => ?_
 refine Run.ops fun K hK => ?_
 simp
 try (simp (disch := omega) only [wrap_id])
 refine hK _ _ _ (nv ?_); clear hK K
 cases b with
 | true =>
  have h0 : ts = [] := by
   have := hb rfl
   rw [ptPs_eq] at this
   simpa using this
  subst h0
  refine nv ?_
  refine ct (by simp) (nv ?_)
  refine Run.reg fun K hK => ?_
  simp
  try (simp (disch := omega) only [wrap_id])
  refine hK _ _ _ (nv ?_); clear hK K
  refine Run.ret ?_
  exact Fin.ret' (h0 := h) (xs := [.p (.prim (.slice none 0 0))]) (by simp) rfl hh (List.append_nil _).symm (by simp) rfl (Weak.nil 3) rfl (.inl ⟨rfl, rfl, rfl⟩)
 | false =>
  refine nv ?_
  refine cf (by simp) (nv ?_)
  cases ts with
  | nil =>
   refine nv ?_
   refine Run.regPre 2 fun K hK => ?_
   simp only [List.take_succ_cons, List.take_zero]
   simp [ptPs]
   try (simp (disch := omega) only [wrap_id])
   refine hK _ _ _ ?_; clear hK K
   simp only [List.nil_append, List.drop_succ_cons, List.drop_zero]
   refine Run.appendZ (sz := 3) (sz' := 3) (es := []) (e := 74) rfl rfl rfl rfl (by simp) (by simp) ?_
   refine Run.ops fun K hK => ?_
   simp
   try (simp (disch := omega) only [wrap_id])
   refine hK _ _ _ (nv ?_); clear hK K
   refine Run.ret ?_
   exact Fin.ret' (h0 := h) (by simp) rfl hh (by simp; rfl) (by simp; rfl) rfl (Weak.refl _) rfl (.inl ⟨rfl, rfl, rfl⟩)
  | cons t0 ts0 =>
   generalize ht : t0 :: ts0 = ts at *
   have hpos : 0 < ts.length := by rw [← ht]; simp
   clear ht t0 ts0
   refine nv ?_
   refine Run.regPre 0 fun K hK => ?_
   simp only [List.take_zero]
   simp
   try (simp (disch := omega) only [wrap_id])
   refine hK _ _ _ ?_; clear hK K
   simp only [List.nil_append, List.drop_zero]
   refine Run.build0 (sz := 3) (e := 74) rfl rfl rfl rfl ?_
   refine Run.opsPre 1 fun K hK => ?_
   simp only [List.take_succ_cons, List.take_zero]
   simp
   try (simp (disch := omega) only [wrap_id])
   refine hK _ _ _ ?_; clear hK K
   simp only [List.nil_append, List.drop_succ_cons, List.drop_zero]
   refine Run.appendS (id := h.length) (es := []) (ys := ptPs ts) (cap := 0) (sz := 3) (by_ := 48) (e := 74) rfl rfl rfl rfl rfl rfl (by simp) (by simp [buf]) (by simp) (by simp) (by simp) (by simp) (by simpa using hpos) (by simp; omega) (by simp; omega) ?_ ?_
   ·intro hc; simp only [List.length_nil, ptPs_length] at hc; omega
   ·intro c' hc'
    refine Run.ops fun K hK => ?_
    simp
    try (simp (disch := omega) only [wrap_id])
    refine hK _ _ _ (nv ?_); clear hK K
    refine Run.ret ?_
    refine Fin.retM (h0 := h ++ ([some (.cells (buf 3 [] 0))] ++ [prow ts (c' - ts.length)])) (l := []) (by simp) (by simp) (hh.app (by simp [buf_under])) (by simp) (by simp; rfl) rfl (Weak.refl _) (by simp) (.inr ⟨[some (.cells (buf 3 [] 0))], c', hh.app (by simp [buf_under]), by simpa using hc', rfl, rfl⟩)
def putPs : List Int → List Pt → Pt → List Pt
 | [], l, _ => l
 | [i], l, x => l.set i.toNat x
 | i :: j :: w, l, x => match l[i.toNat]? with
  | some (.mk k n qs) => l.set i.toNat (.mk k n (putPs (j :: w) qs x))
  | none => l
def PathOK : List Int → List Pt → Prop
 | [], _ => False
 | [i], l => l.length ≤ 1048576 ∧ 0 ≤ i ∧ i.toNat < l.length
 | i :: j :: w, l => l.length ≤ 1048576 ∧ 0 ≤ i ∧ ∃ k n qs, l[i.toNat]? = some (.mk k n qs) ∧ PathOK (j :: w) qs
set_option maxRecDepth 8000 in
set_option maxHeartbeats 16000000 in
theorem prefined1_any (x : Pt) (a b : Nat) : ∀ (w : List Int) (l : List Pt), PathOK w l → ∀ h, WF h → h[a]? = some (some (.cells (x.cells.map .p))) → h[b]? = some (some (.cells [.fn (.func 178) [] [.ptr a 0, .ptr b 0]])) →
  ACalls Tryz.prog 178 [.p (.sl 3 (ptPs l)), .p (.sl 1 (ints w)), .ptr a 0, .ptr b 0] h fun o h' => o = .ret (.p (.sl 3 (ptPs (putPs w l x)))) ∧ h' = h := by
 intro w
 induction w with
 | nil => intro l hp; exact hp.elim
 | cons i w ih =>
 intro l hp h hh ha hb
 obtain ⟨a1, _⟩ := idf ha
 obtain ⟨b1, _⟩ := idf hb
 have hll : l.length ≤ 1048576 := by cases w <;> exact hp.1
 have hi0 : 0 ≤ i := by cases w <;> exact hp.2.1
 have hil : i.toNat < l.length := by
  cases w with
  | nil => exact hp.2.2
  | cons j w => obtain ⟨k, n, qs, hg, _⟩ := hp.2.2; exact (List.getElem?_eq_some_iff.1 hg).1
 obtain ⟨ii, rfl⟩ : ∃ ii : Nat, i = ii := ⟨i.toNat, by omega⟩
 simp only [Int.toNat_natCast] at hil
 have c1 := fun (g : Heap) (hw : WF g) => pclone_any g hw l hll
 refine ACalls.of_run Tryz.func178 rfl ?_
 simp only [Tryz.ntmps178, List.length_cons, List.length_nil]
 refine nv ?_
 refine Run.reg fun K hK => ?_
 simp
 try (simp (disch := omega) only [wrap_id])
 refine hK _ _ _ (nv ?_); clear hK K
 refine Run.reg fun K hK => ?_
 simp
 try (simp (disch := omega) only [wrap_id])
 refine hK _ _ _ (nv ?_); clear hK K
 refine Run.call rfl rfl (by simp) rfl (c1 _ hh) ?_ ?_
 rotate_left
 ·rintro v h' (⟨_, hv, _⟩ | ⟨_, _, _, _, hv, _⟩) <;> cases hv
 rintro v h' (⟨h0, _, _⟩ | ⟨G, cap, hG, hcap, hv, rfl⟩)
 ·subst h0; simp at hil
 simp only [AOut.ret.injEq] at hv
 subst hv
 rw [show h ++ (G ++ [prow l (cap - l.length)]) = (h ++ G) ++ [prow l (cap - l.length)] by simp, ← List.length_append]
 have a2 : ∀ m, ((h ++ G) ++ m)[a]? = some (some (.cells (x.cells.map .p))) := fun m => by rw [List.append_assoc]; exact a1 _
 have b2 : ∀ m, ((h ++ G) ++ m)[b]? = some (some (.cells [.fn (.func 178) [] [.ptr a 0, .ptr b 0]])) := fun m => by rw [List.append_assoc]; exact b1 _
 have hGl : h.length ≤ (h ++ G).length := by simp
 have hend : ∀ m, h ++ G ++ m = h ++ (G ++ m) := fun m => by simp
 generalize h ++ G = H at hG a2 b2 hGl hend
 have l1 : ii * 3 + 3 ≤ (buf 3 (ptPs l) (cap - l.length)).length := by rw [prow_len]; omega
 obtain ⟨es, hes⟩ : ∃ es, ints ((ii : Int) :: w) = es := ⟨_, rfl⟩
 have he0 : es[0]? = some [iP ii] := by rw [← hes]; rfl
 have hel : es.length = w.length + 1 := by rw [← hes]; simp [ints]
 have het : es.tail = ints w := by rw [← hes]; rfl
 rw [hes]
 clear hes
 refine Run.ops fun K hK => ?_
 simp
 try (simp (disch := omega) only [wrap_id])
 refine hK _ _ _ (nv ?_); clear hK K
 refine Run.reg fun K hK => ?_
 simp [he0]
 try (simp (disch := omega) only [wrap_id])
 refine hK _ _ _ (nv ?_); clear hK K
 refine Run.reg fun K hK => ?_
 simp
 try (simp (disch := omega) only [wrap_id])
 refine hK _ _ _ (nv ?_); clear hK K
 cases w with
 | nil =>
  have hput := prow_set (m := cap - l.length) x hil
  refine nv ?_
  refine ct (by simp [hel]) (nv ?_)
  refine Run.reg fun K hK => ?_
  simp [a2, hil, l1, hput]
  try (simp (disch := omega) only [wrap_id])
  refine hK _ _ _ (nv ?_); clear hK K
  refine Run.keep [7] ?_
  simp
  refine Run.freezeS 7 (id := H.length) (n := l.length) (cap := cap) (sz := 3) (m := cap - l.length) (es := ptPs (l.set ii x)) (by simp) (by simp) (ptPs_len3 _) (by simp) hcap ?_
  simp
  refine nv ?_
  refine Run.reg fun K hK => ?_
  simp
  try (simp (disch := omega) only [wrap_id])
  refine hK _ _ _ (nv ?_); clear hK K
  refine Run.ret ?_
  refine Fin.ret' (h0 := h) (by simp) rfl hh (hend _) (by simp; rfl) rfl (Weak.refl _) (by simp) ⟨by simp [putPs], rfl⟩
 | cons j w =>
  obtain ⟨_, _, k, n, qs, hg, hp2⟩ := hp
  simp only [Int.toNat_natCast] at hg
  have c2 := fun (g : Heap) (hw : WF g) (h1 : g[a]? = _) (h2 : g[b]? = _) => ih qs hp2 g hw h1 h2
  have hg2 := prow_cell (m := cap - l.length) hg 2 (by omega)
  simp at hg2
  obtain ⟨ws, hws⟩ : ∃ ws, putPs (j :: w) qs x = ws := ⟨_, rfl⟩
  rw [hws] at c2
  have hput := prow_args (m := cap - l.length) ws hg
  have hres : putPs ((ii : Int) :: j :: w) l x = l.set ii (.mk k n ws) := by simp [putPs, hg, hws]
  rw [hres]
  simp only [List.length_cons] at hel
  have hel1 : (1 : Int) ≤ (es.length : Int) := by omega
  refine cf (by simp; omega) (nv ?_)
  refine Run.draw [0, 0, 0, 0, 0, 0, 0, 0, 0, 0, 0, 1, 1, 1] [0, 0, 0, 0, 0, 0, 0, 0, 0, 0, 0, 0, 0, 1] [0, 0, 0, 0, 0, 24, 56, 120, 0, 256, 1020, 2047, 4095, 8191] [2, 3, 4, 5, 6, 7, 8, 9, 10, 0, 1, 11, 12, 13] (by kernel_rfl) (by kernel_rfl) ?_
  refine DR.go fun K hK => ?_
  simp [hil, b2, hg2, hel1, het]
  try (simp (disch := omega) only [wrap_id])
  refine hK _ _ _ _ ?_; clear hK K
  refine DR.call (args := [.p (.sl 3 (ptPs qs)), .p (.sl 1 (ints (j :: w))), .ptr a 0, .ptr b 0]) rfl rfl (by simp) rfl rfl (c2 _ (hG.app (by simp [buf_under])) (a2 _) (b2 _)) ?_
  refine DR.go fun K hK => ?_
  simp [hil, l1, hput]
  try (simp (disch := omega) only [wrap_id])
  refine hK _ _ _ _ ?_; clear hK K
  change Run _ _ _ _ _ _ _ _
  refine nv ?_
  refine Run.keep [7] ?_
  simp
  refine Run.freezeS 7 (id := H.length) (n := l.length) (cap := cap) (sz := 3) (m := cap - l.length) (es := ptPs (l.set ii (.mk k n ws))) (by simp) (by simp) (ptPs_len3 _) (by simp) hcap ?_
  simp
  refine nv ?_
  refine Run.reg fun K hK => ?_
  simp
  try (simp (disch := omega) only [wrap_id])
  refine hK _ _ _ (nv ?_); clear hK K
  refine Run.ret ?_
  exact Fin.ret' (h0 := h) (by simp) rfl hh (hend _) (by simp; rfl) rfl (Weak.refl _) (by simp) ⟨rfl, rfl⟩
set_option maxRecDepth 8000 in
theorem prefined_any (x : Pt) (w : List Int) (l : List Pt) (hp : PathOK w l) (h : Heap) (hh : WF h) : ACalls Tryz.prog 131 [.p (.sl 3 (ptPs l)), .p (.sl 1 (ints w)), x.av] h fun o h' => o = .ret (.p (.sl 3 (ptPs (putPs w l x)))) ∧ h' = h := by
 have c1 := fun (a b : Nat) (g : Heap) (hw : WF g) (h1 : g[a]? = _) (h2 : g[b]? = _) => prefined1_any x a b w l hp g hw h1 h2
 obtain ⟨k, n, qs⟩ := x
 simp only [Pt.av, pcells_mk, List.map] at c1 ⊢
 refine ACalls.of_run Tryz.func131 rfl ?_
 simp only [Tryz.ntmps131, List.length_cons, List.length_nil]
 refine nv ?_
 refine Run.reg fun K hK => ?_
 simp
 try (simp (disch := omega) only [wrap_id])
 refine hK _ _ _ (nv ?_); clear hK K
 refine Run.reg fun K hK => ?_
 simp
 try (simp (disch := omega) only [wrap_id])
 refine hK _ _ _ (nv ?_); clear hK K
 refine Run.reg fun K hK => ?_
 simp
 try (simp (disch := omega) only [wrap_id])
 refine hK _ _ _ (nv ?_); clear hK K
 refine Run.reg fun K hK => ?_
 simp
 try (simp (disch := omega) only [wrap_id])
 refine hK _ _ _ (nv ?_); clear hK K
 refine rc rfl (by first | rfl | simp) (by simp) rfl (c1 h.length (h.length + 1) _ (hh.app (by simp)) (by simp) (by simp)) ?_
 refine Run.ops fun K hK => ?_
 simp
 try (simp (disch := omega) only [wrap_id])
 refine hK _ _ _ (nv ?_); clear hK K
 refine Run.ret ?_
 exact Fin.ret' (h0 := h) (by simp) rfl hh rfl (by simp; rfl) rfl (Weak.refl _) (by simp) ⟨rfl, rfl⟩

end Go.Proofs.YtcfcolkbeelegaaGreat

namespace Go.Proofs.YtcfcolkbeelegaaGreat

open Go Go.AI
set_option maxRecDepth 8000 in
set_option maxHeartbeats 16000000 in
theorem rput_any (x : Pt) : ∀ (w : List Int) (l : List Pt), PathOK w l → ∀ h, WF h →
  ACalls Tryz.prog 134 [.p (.sl 3 (ptPs l)), .p (.sl 1 (ints w)), x.av] h fun o h' => o = .ret (.p (.sl 3 (ptPs (putPs w l x)))) ∧ h' = h := by
 intro w
 induction w with
 | nil => intro l hp; exact hp.elim
 | cons i w ih =>
 intro l hp h hh
 have hll : l.length ≤ 1048576 := by cases w <;> exact hp.1
 have hi0 : 0 ≤ i := by cases w <;> exact hp.2.1
 have hil : i.toNat < l.length := by
  cases w with
  | nil => exact hp.2.2
  | cons j w => obtain ⟨k, n, qs, hg, _⟩ := hp.2.2; exact (List.getElem?_eq_some_iff.1 hg).1
 obtain ⟨ii, rfl⟩ : ∃ ii : Nat, i = ii := ⟨i.toNat, by omega⟩
 simp only [Int.toNat_natCast] at hil
 obtain ⟨es, hes⟩ : ∃ es, ints ((ii : Int) :: w) = es := ⟨_, rfl⟩
 have he0 : es[0]? = some [iP ii] := by rw [← hes]; rfl
 have hel : es.length = w.length + 1 := by rw [← hes]; simp [ints]
 have het : es.tail = ints w := by rw [← hes]; rfl
 rw [hes]
 clear hes
 have hpos : 0 < (ptPs l).length := by simp; omega
 have hpb : (ptPs l).length * 48 ≤ 140737488355328 := by simp; omega
 have hpb2 : (ptPs l).length ≤ 9223372036854775807 := by simp; omega
 obtain ⟨xk, xn, xq⟩ := x
 simp only [Pt.av, pcells_mk, List.map] at ih ⊢
 refine ACalls.of_run Tryz.func134 rfl ?_
 simp only [Tryz.ntmps134, List.length_cons, List.length_nil]
 refine nv ?_
 refine Run.reg fun K hK => ?_
 simp
 try (simp (disch := omega) only [wrap_id])
 refine hK _ _ _ (nv ?_); clear hK K
 refine Run.reg fun K hK => ?_
 simp
 try (simp (disch := omega) only [wrap_id])
 refine hK _ _ _ (nv ?_); clear hK K
 refine Run.regPre 2 fun K hK => ?_
 simp only [List.take_succ_cons, List.take_zero]
 simp
 try (simp (disch := omega) only [wrap_id])
 refine hK _ _ _ ?_; clear hK K
 simp only [List.nil_append, List.drop_succ_cons, List.drop_zero]
 refine Run.appendN (ys := ptPs l) (sz := 3) (by_ := 48) (e := 74) rfl rfl rfl rfl rfl rfl (by simp) (by simp) (by simp) hpos hpb hpb2 fun cap hcap => ?_
 simp
 rw [ptPs_length] at hcap
 have l1 : ii * 3 + 3 ≤ (buf 3 (ptPs l) (cap - l.length)).length := by rw [prow_len]; omega
 refine Run.ops fun K hK => ?_
 simp
 try (simp (disch := omega) only [wrap_id])
 refine hK _ _ _ (nv ?_); clear hK K
 refine Run.reg fun K hK => ?_
 simp
 try (simp (disch := omega) only [wrap_id])
 refine hK _ _ _ (nv ?_); clear hK K
 cases w with
 | nil =>
  have hput : (((buf 3 (ptPs l) (cap - l.length)).set (ii * 3) (AV.p (iP xk))).set (ii * 3 + 1) (AV.p (sP xn))).set (ii * 3 + 1 + 1) (AV.p (.sl 3 (ptPs xq))) = buf 3 (ptPs (l.set ii (.mk xk xn xq))) (cap - l.length) := prow_set (m := cap - l.length) (.mk xk xn xq) hil
  refine nv ?_
  refine ct (by simp [hel]) (nv ?_)
  refine Run.draw [0, 0, 0, 0, 0, 0, 0] [0, 0, 0, 0, 0, 0, 0] [0, 0, 2, 6, 0, 31, 63] [0, 1, 2, 3, 4, 5, 6] (by kernel_rfl) (by kernel_rfl) ?_
  refine DR.go fun K hK => ?_
  simp [he0, hil, l1, hput]
  try (simp (disch := omega) only [wrap_id])
  refine hK _ _ _ _ ?_; clear hK K
  change Run _ _ _ _ _ _ _ _
  refine nv ?_
  refine Run.keep [7] ?_
  simp
  refine Run.freezeS 7 (id := h.length + 1) (n := l.length) (cap := cap) (sz := 3) (m := cap - l.length) (es := ptPs (l.set ii (.mk xk xn xq))) (by simp) (by simp) (ptPs_len3 _) (by simp) hcap ?_
  simp
  refine nv ?_
  refine Run.reg fun K hK => ?_
  simp
  try (simp (disch := omega) only [wrap_id])
  refine hK _ _ _ (nv ?_); clear hK K
  refine Run.ret ?_
  refine Fin.ret' (h0 := h) (by simp) rfl hh rfl (by simp; rfl) rfl (Weak.refl _) (by simp) ⟨by simp [putPs], rfl⟩
 | cons j w =>
  obtain ⟨_, _, k, n, qs, hg, hp2⟩ := hp
  simp only [Int.toNat_natCast] at hg
  have c2 := fun (g : Heap) (hw : WF g) => ih qs hp2 g hw
  have hget := prow_get (m := cap - l.length) hg
  simp only [pcells_mk, List.map] at hget
  obtain ⟨ws, hws⟩ : ∃ ws, putPs (j :: w) qs (.mk xk xn xq) = ws := ⟨_, rfl⟩
  rw [hws] at c2
  have hput : (((buf 3 (ptPs l) (cap - l.length)).set (ii * 3) (AV.p (iP k))).set (ii * 3 + 1) (AV.p (sP n))).set (ii * 3 + 1 + 1) (AV.p (.sl 3 (ptPs ws))) = buf 3 (ptPs (l.set ii (.mk k n ws))) (cap - l.length) := prow_set (m := cap - l.length) (.mk k n ws) hil
  have hres : putPs ((ii : Int) :: j :: w) l (.mk xk xn xq) = l.set ii (.mk k n ws) := by simp [putPs, hg, hws]
  rw [hres]
  simp only [List.length_cons] at hel
  have hel1 : (1 : Int) ≤ (es.length : Int) := by omega
  refine cf (by simp; omega) (nv ?_)
  refine Run.reg fun K hK => ?_
  simp [he0, hil, l1, hget]
  try (simp (disch := omega) only [wrap_id])
  refine hK _ _ _ (nv ?_); clear hK K
  refine Run.draw [0, 0, 0, 0, 0, 0, 1, 1] [0, 0, 0, 0, 0, 0, 0, 1] [0, 1, 0, 4, 0, 31, 63, 127] [0, 1, 2, 3, 4, 5, 6, 7] (by kernel_rfl) (by kernel_rfl) ?_
  refine DR.go fun K hK => ?_
  simp [hel1, het]
  try (simp (disch := omega) only [wrap_id])
  refine hK _ _ _ _ ?_; clear hK K
  refine DR.call (args := [.p (.sl 3 (ptPs qs)), .p (.sl 1 (ints (j :: w))), .agg [iA xk, .p (sP xn), .p (.sl 3 (ptPs xq))]]) rfl rfl (by simp) rfl rfl (c2 _ (hh.app (by simp [buf_under]))) ?_
  refine DR.go fun K hK => ?_
  simp
  try (simp (disch := omega) only [wrap_id])
  refine hK _ _ _ _ ?_; clear hK K
  change Run _ _ _ _ _ _ _ _
  refine nv ?_
  refine Run.draw [0, 0, 0, 0, 0, 0, 0] [0, 0, 0, 0, 0, 0, 0] [0, 0, 2, 6, 0, 31, 63] [0, 1, 2, 3, 4, 5, 6] (by kernel_rfl) (by kernel_rfl) ?_
  refine DR.go fun K hK => ?_
  simp [he0, hil, l1, hput]
  try (simp (disch := omega) only [wrap_id])
  refine hK _ _ _ _ ?_; clear hK K
  change Run _ _ _ _ _ _ _ _
  refine nv ?_
  refine Run.keep [7] ?_
  simp
  refine Run.freezeS 7 (id := h.length + 1) (n := l.length) (cap := cap) (sz := 3) (m := cap - l.length) (es := ptPs (l.set ii (.mk k n ws))) (by simp) (by simp) (ptPs_len3 _) (by simp) hcap ?_
  simp
  refine nv ?_
  refine Run.reg fun K hK => ?_
  simp
  try (simp (disch := omega) only [wrap_id])
  refine hK _ _ _ (nv ?_); clear hK K
  refine Run.ret ?_
  exact Fin.ret' (h0 := h) (by simp) rfl hh rfl (by simp; rfl) rfl (Weak.refl _) (by simp) ⟨rfl, rfl⟩

end Go.Proofs.YtcfcolkbeelegaaGreat
