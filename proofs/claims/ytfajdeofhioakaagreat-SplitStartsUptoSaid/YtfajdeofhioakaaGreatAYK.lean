import Derived.Test.YtfajdeofhioakaaGreatAYE
import Derived.Test.YtfajdeofhioakaaGreatAP1

namespace Go.Proofs.YtfajdeofhioakaaGreat

open Go Go.AI
theorem awake9_any (h : Heap) : ACalls Tryz.prog 9 [] h fun o h' => o = .ret (bA true) ∧ h' = h := EV.ACalls.alone rfl rfl kq.pu110.2

mutual
theorem bad_no (d : Int) (hd : 0 ≤ d) : ∀ (t : Tm) (m dp : Int), t.ok m → m + t.size + d ≤ 65536 → shiftBad d 0 dp t = false
 | .mk k i n ls ks, m, dp, h, hm => by
  simp only [Tm.ok, Tm.okN] at h
  simp only [Tm.size] at hm
  simp only [shiftBad]
  by_cases hk : k = 0
  ·rw [if_pos hk]
   have := h.1.1 hk
   simp
   omega
  ·rw [if_neg hk]
   exact bads_no d hd ks m k 0 dp h.2 (by omega)
theorem bads_no (d : Int) (hd : 0 ≤ d) : ∀ (l : List Tm) (m k : Int) (idx : Nat) (dp : Int), Tm.oks m k idx l → m + 1 + Tm.sizes l + d ≤ 65536 → shiftBads d 0 dp k idx l = false
 | [], _, _, _, _, _, _ => by simp only [shiftBads]
 | t :: ts, m, k, idx, dp, h, hm => by
  simp only [Tm.oks] at h
  simp only [Tm.sizes] at hm
  have hb := belowZ_01 k idx
  simp only [shiftBads]
  rw [bad_no d hd t _ _ h.1 (by omega), bads_no d hd ts m k (idx + 1) dp h.2 (by omega)]
  rfl
end
theorem isB_okM {t a b : Tm} {m : Int} (h : isB 6 t = some (a, b)) (ho : t.ok m) : a.ok (m + 1) ∧ b.ok (m + 1) ∧ a.size + b.size + 1 ≤ t.size := by
 obtain ⟨k', i, n, ls, ks⟩ := t
 match ks, h with
 | [x, y], h =>
  simp only [isB] at h
  split at h
  ·injection h with h; injection h with h1 h2
   subst h1; subst h2
   simp only [Tm.ok, Tm.oks] at ho
   have b1 := belowZ_01 k' (0 : Nat)
   have b2 := belowZ_01 k' (0 + 1 : Nat)
   simp only [Tm.size, Tm.sizes]
   exact ⟨ok_mono _ _ _ ho.2.1 (by omega), ok_mono _ _ _ ho.2.2.1 (by omega), by omega⟩
  ·cases h
theorem openA_okM (B : Int) : ∀ (n : Nat) (acc : List Tm) (t : Tm) (m : Int), (∀ u ∈ acc, u.ok B) → t.ok m → m + t.size ≤ B → (∀ u ∈ (openA n acc t).1, u.ok B)
 | 0, acc, t, m, ha, _, _ => ha
 | n + 1, acc, t, m, ha, ho, hB => by
  simp only [openA]
  cases hb : isB 6 t with
  | none => simp
  | some p =>
   obtain ⟨a, b⟩ := p
   have h := isB_okM hb ho
   refine openA_okM B n (acc ++ [a]) b (m + 1) (fun u hu => ?_) h.2.1 (by omega)
   rcases List.mem_append.1 hu with hu | hu
   ·exact ha u hu
   ·simp at hu; subst hu; exact ok_mono _ _ _ h.1 (by omega)
theorem openA_len : ∀ (n : Nat) (acc : List Tm) (t : Tm), (openA n acc t).2.2 = 0 → (openA n acc t).1.length = acc.length + n
 | 0, acc, t, _ => rfl
 | n + 1, acc, t, h => by
  simp only [openA] at h ⊢
  cases hb : isB 6 t with
  | none => rw [hb] at h; simp at h
  | some p =>
   obtain ⟨a, b⟩ := p
   rw [hb] at h
   simp only at h ⊢
   rw [openA_len n _ _ h]
   simp; omega
theorem resOpen_len (t : Tm) (n : Int) (h : (resOpen t n).2.2 = 0) : ((resOpen t n).1.length : Int) = n := by
 unfold resOpen at h ⊢
 by_cases hn : n < 0
 ·rw [if_pos hn] at h; simp at h
 ·rw [if_neg hn] at h ⊢
  rw [openA_len _ _ _ h]
  simp; omega
theorem starts_same (t : Tm) (n : Int) (ho : t.ok 0) (hs : t.size ≤ 120) : ((resOpen t n).2.2 = 0 → ShOk n (resOpen t n).1) ∧ srP t n = stP t n ∧ (stP t n).1.fine := by
 have k1 := resOpen_ok t n (ok_lvs _ _ ho)
 have k2 : ∀ u ∈ (resOpen t n).1, u.ok 240 := by
  unfold resOpen
  by_cases hn : n < 0
  ·rw [if_pos hn]; simp
  ·rw [if_neg hn]; exact openA_okM 240 _ _ _ 0 (by simp) ho (by omega)
 have k3 := resOpen_len t n
 have hlen : (resOpen t n).1.length ≤ 120 := by omega
 refine ⟨fun he j u hu => ?_, ?_, ?_⟩
 ·have hmem := List.mem_of_getElem? hu
  have hj := (List.getElem?_eq_some_iff.1 hu).1
  have hn := k3 he
  have hu2 := k1.1 u hmem
  have hok := ok_mono _ _ 65536 (k2 u hmem) (by omega)
  refine ⟨⟨by simpa using hok, by omega, by omega⟩, ?_⟩
  rw [res_shift _ _ _ hok]
  unfold resRefShift
  rw [if_neg (by omega), if_neg (by simpa using bad_no (n - j) (by omega) u 240 0 (k2 u hmem) (by omega))]
 ·unfold srP stP
  split
  ·rfl
  ·have : shR n (resOpen t n).1 = shL n (resOpen t n).1 := by
    refine List.ext_getElem? fun j => ?_
    rw [shR_get, shL_get]
    cases hq : (resOpen t n).1[j]? with
    | none => rfl
    | some u =>
     have hok := ok_mono _ _ 65536 (k2 u (List.mem_of_getElem? hq)) (by omega)
     simp only [Option.map_some, res_shift _ _ _ hok]
   rw [this]
 ·unfold stP
  split
  ·exact ⟨by simp, by simp, by simpa using ⟨lvs_zT.1, by have := lvs_zT.2; omega⟩, by simp⟩
  ·rename_i he
   have hn := k3 (by simpa using he)
   refine ⟨⟨by simp only [shL_length]; omega, fun u hu => ?_⟩, ⟨by simp; omega, fun u hu => ?_⟩, ⟨k1.2.1, by have := k1.2.2.1; simp only; omega⟩, by simp; omega⟩
   ·simp only at hu
    obtain ⟨j, hj⟩ := List.getElem?_of_mem hu
    rw [shL_get] at hj
    cases hq : (resOpen t n).1[j]? with
    | none => rw [hq] at hj; cases hj
    | some v =>
     rw [hq] at hj
     simp only [Option.map_some, Option.some.injEq] at hj
     have hm := List.mem_of_getElem? hq
     have hok := ok_mono _ _ 65536 (k2 v hm) (by omega)
     rw [res_shift _ _ _ hok] at hj
     have h2 := resRefShift_ok (n - j) 0 v hok
     rw [hj] at h2
     have := (k1.1 v hm).2
     exact ⟨ok_lvs _ _ h2.1, by omega⟩
   ·simp only at hu
    rw [List.eq_of_mem_replicate hu]
    exact ⟨lvs_zT.1, by have := lvs_zT.2; omega⟩
set_option maxRecDepth 8000 in
set_option maxHeartbeats 8000000 in
theorem splitStarts_any (h : Heap) (hh : WF h) (t : Tm) (n : Int) (hsz : t.size ≤ 1048576) (hlv : t.lvs) (hf : t.fit) (hn2 : n ≤ 9223372036854775807) :
  ACalls Tryz.prog 3 [t.av, iA n] h fun o h' => o = .ret (bA true) ∧ h' = h := by
 have hfew := fun (g : Heap) (hg : WF g) => few5_any g hg t 0 (by omega) hf
 have hall : few5 0 t = true → ∃ (p : Pb) (e : Int), (∀ g, WF g → ACalls Tryz.prog 10 [t.av, iA n] g fun o h' => o = .ret (.tup [p.av, iA e]) ∧ h' = g) ∧
   (∀ g, WF g → ACalls Tryz.prog 11 [t.av, iA n] g fun o h' => o = .ret (.tup [p.av, iA e]) ∧ h' = g) ∧ (∀ g, WF g → ACalls Tryz.prog 12 [p.av, p.av] g fun o h' => o = .ret (bA true) ∧ h' = g) := by
  intro hb
  have q := few5_ok (by omega) hlv hb
  have s := starts_same t n q.1 q.2.1
  have k1 := resOpen_ok t n hlv
  have k3 := resOpen_len t n
  refine ⟨(stP t n).1, (stP t n).2, fun g hg => start10_any g hg t n hsz hn2 (by omega) k3 s.1, fun g hg => ?_, fun g hg => samePb_any _ s.2.2 g hg⟩
  have := rstart11_any g hg t n hsz hn2 (by omega) k3 (fun u hu => ⟨by have := (k1.1 u hu).2; omega, ?_⟩)
  ·rw [s.2.1] at this; exact this
  ·have ho : u.ok 240 := by
    unfold resOpen at hu
    by_cases hn : n < 0
    ·rw [if_pos hn] at hu; simp at hu
    ·rw [if_neg hn] at hu; exact openA_okM 240 _ _ _ 0 (by simp) q.1 (by omega) u hu
   exact ok_idx _ _ ho (by have := (k1.1 u hu).2; omega)
 obtain ⟨i0, i1, i2, i3, i4⟩ := t
 cases hb : few5 0 (Tm.mk i0 i1 i2 i3 i4) with
 | false =>
  rw [hb] at hfew
  refine ACalls.of_run Tryz.func3 rfl ?_
  simp only [Tryz.ntmps3, List.length_cons, List.length_nil, Tm.av, cells_mk, List.map]
  refine nv ?_
  refine Run.reg fun K J => ?_
  simp
  try (simp (disch := omega) only [wrap_id])
  refine J _ _ _ (nv ?_); clear J
  refine Run.reg fun K J => ?_
  simp
  try (simp (disch := omega) only [wrap_id])
  refine J _ _ _ (nv ?_); clear J
  refine rl (args := [(Tm.mk i0 i1 i2 i3 i4).av, iA 0]) rfl (by first | rfl | simp) (by simp) rfl (hfew _ (hh.app (by simp))) ?_
  refine Run.ops fun K J => ?_
  simp
  try (simp (disch := omega) only [wrap_id])
  refine J _ _ _ (nv ?_); clear J
  refine ct (by simp) (nv ?_)
  refine Run.reg fun K J => ?_
  simp
  try (simp (disch := omega) only [wrap_id])
  refine J _ _ _ (nv ?_); clear J
  refine Run.call (args := []) rfl (by first | rfl | simp) (by simp) rfl (awake9_any _) ?_ ?_
  rotate_left
  ·rintro v h' ⟨hv, _⟩; cases hv
  rintro v h' ⟨hv, rfl⟩
  simp only [AOut.ret.injEq] at hv
  subst hv
  refine Run.ops fun K J => ?_
  simp
  try (simp (disch := omega) only [wrap_id])
  refine J _ _ _ (nv ?_); clear J
  refine Run.ret ?_
  refine Fin.ret' (h0 := h) (by simp) rfl hh rfl (by simp; rfl) rfl (Weak.refl _) (by simp) ⟨rfl, rfl⟩
 | true =>
  obtain ⟨p, e, c1, c2, c3⟩ := hall hb
  obtain ⟨ty, kn, va, ⟨d0, d1, d2, d3, d4⟩⟩ := p
  simp only [Pb.av, Pb.cells, cells_mk, List.map] at c1 c2 c3
  rw [hb] at hfew
  refine ACalls.of_run Tryz.func3 rfl ?_
  simp only [Tryz.ntmps3, List.length_cons, List.length_nil, Tm.av, cells_mk, List.map]
  refine nv ?_
  refine Run.reg fun K J => ?_
  simp
  try (simp (disch := omega) only [wrap_id])
  refine J _ _ _ (nv ?_); clear J
  refine Run.reg fun K J => ?_
  simp
  try (simp (disch := omega) only [wrap_id])
  refine J _ _ _ (nv ?_); clear J
  refine rl (args := [(Tm.mk i0 i1 i2 i3 i4).av, iA 0]) rfl (by first | rfl | simp) (by simp) rfl (hfew _ (hh.app (by simp))) ?_
  refine Run.ops fun K J => ?_
  simp
  try (simp (disch := omega) only [wrap_id])
  refine J _ _ _ (nv ?_); clear J
  refine cf (by simp) (nv ?_)
  refine Run.reg fun K J => ?_
  simp
  try (simp (disch := omega) only [wrap_id])
  refine J _ _ _ (nv ?_); clear J
  refine rl (args := [(Tm.mk i0 i1 i2 i3 i4).av, iA n]) rfl (by first | rfl | simp) (by simp) rfl (c1 _ (hh.app (by simp))) ?_
  refine Run.ops fun K J => ?_
  simp
  try (simp (disch := omega) only [wrap_id])
  refine J _ _ _ (nv ?_); clear J
  refine Run.reg fun K J => ?_
  simp
  try (simp (disch := omega) only [wrap_id])
  refine J _ _ _ (nv ?_); clear J
  refine rl (args := [(Tm.mk i0 i1 i2 i3 i4).av, iA n]) rfl (by first | rfl | simp) (by simp) rfl (c2 _ (hh.app (by simp))) ?_
  refine Run.ops fun K J => ?_
  simp
  try (simp (disch := omega) only [wrap_id])
  refine J _ _ _ (nv ?_); clear J
  refine Run.reg fun K J => ?_
  simp
  try (simp (disch := omega) only [wrap_id])
  refine J _ _ _ (nv ?_); clear J
  refine Run.call (args := []) rfl (by first | rfl | simp) (by simp) rfl (awake9_any _) ?_ ?_
  rotate_left
  ·rintro v h' ⟨hv, _⟩; cases hv
  rintro v h' ⟨hv, rfl⟩
  simp only [AOut.ret.injEq] at hv
  subst hv
  refine Run.ops fun K J => ?_
  simp
  try (simp (disch := omega) only [wrap_id])
  refine J _ _ _ (nv ?_); clear J
  refine rl rfl (by first | rfl | simp) (by simp) rfl (c3 _ (hh.app (by simp))) ?_
  refine Run.ops fun K J => ?_
  simp
  try (simp (disch := omega) only [wrap_id])
  refine J _ _ _ (nv ?_); clear J
  refine Run.ret ?_
  refine Fin.ret' (h0 := h) (by simp) rfl hh rfl (by simp; rfl) rfl (Weak.refl _) (by simp) ⟨rfl, rfl⟩

end Go.Proofs.YtfajdeofhioakaaGreat
