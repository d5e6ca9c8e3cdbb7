/- Without of the reference 09: contract. -/
import Derived.Test.YtiodeeliidhbgaaNdU
import Derived.Test.YtiodeeliidhbgaaGr
namespace Go.Proofs.Ytiodeeliidhbgaa
open Go Go.RowKit
set_option linter.unusedSimpArgs false
set_option linter.unnecessarySimpa false
set_option linter.unusedVariables false

set_option maxRecDepth 100000 in
set_option maxHeartbeats 4000000 in
theorem rwithout_rows (n : Nd) (v : Value) (key : List UInt8) (w : World) (h : NdV w v n) (hk : n.keys.length ≤ 1000000) (hv : n.vals.length ≤ 1000000) :
    Calls Try.prog 30 #[v, .string (bstr key)] w fun e w' => ∃ u, e = .returned u ∧ NdV w' u (withoutN n key) ∧ Below w.heap.size w w' ∧ (mayB n = true → ∃ q A c C d, u = .agg #[.bool (withoutN n key).leaf, .slice A q c, .slice C q d] ∧ w'.ownsRow w.heap.size 9 1 (.slice A q c) q (secV (withoutN n key).keys) ∧ w'.ownsRow w.heap.size 9 1 (.slice C q d) q (secV (withoutN n key).vals)) := by
  rw [← rwithout_eq]
  obtain ⟨vk, vv, rfl, h1, h2⟩ := h
  obtain ⟨A, c, rfl⟩ := h1.form
  obtain ⟨C, d, rfl⟩ := h2.form
  obtain ⟨leaf, ks, vs⟩ := n
  simp only at h1 h2 hk hv ⊢
  have n00 : NdV w (.agg #[.bool leaf, .slice A ks.length c, .slice C vs.length d]) ⟨leaf, ks, vs⟩ := ⟨_, _, rfl, h1, h2⟩
  have n0 := n00
  have bel : Below w.heap.size w w := Below.refl _ _
  have HS1 := Lib.hid h1
  have HS2 := Lib.hid h2
  clear h1 h2
  obtain ⟨i0, hi0, hz0, hz1, hz2⟩ := info_parts str_info
  obtain ⟨R, hR⟩ : ∃ R, rwithoutN ⟨leaf, ks, vs⟩ key = R := ⟨_, rfl⟩
  rw [hR]
  cases hm : mayB ⟨leaf, ks, vs⟩
  · have HR : Hid (R = ⟨leaf, ks, vs⟩) := Lib.hid (by rw [← hR]; unfold rwithoutN; rw [hm]; rfl)
    have HM := Lib.hid hm
    clear hm hR
    go_enter Try.func30, Try.ntmps30
    go_wp2_with fail
    obtain ⟨w1, hw1⟩ : ∃ x, w.alloc (.cells #[.bool leaf, .slice A ks.length c, .slice C vs.length d] 24) = x := ⟨_, rfl⟩
    obtain ⟨ib0, hib0⟩ : ∃ i, w.heap.size = i := ⟨_, rfl⟩
    have b0 : Blk w1 ib0 24 #[.bool leaf, .slice A ks.length c, .slice C vs.length d] := by rw [← hw1, ← hib0]; exact Blk.new _ _ _
    have k1 : Below w.heap.size w w1 := by rw [← hw1]; exact (Below.refl _ _).alloc (Nat.le_refl _) _
    have zb0 : w1.heap.size = ib0 + 1 := by rw [← hw1, ← hib0]; simp
    rw [hw1, hib0]
    have ob0 : w.heap.size ≤ ib0 := by rw [← hib0]; exact bel.size
    have n0 := n0.below k1
    have bel := hthen bel k1
    clear k1
    clear hw1 hib0
    have b0c0 := b0.cell 0
    have b0c1 := b0.cell 1
    have b0c2 := b0.cell 2
    simp at b0c0 b0c1 b0c2
    have b0lt := b0.lt
    try (go_wp2_with fail)
    clear b0c0 b0c1 b0c2 b0lt
    obtain ⟨w2, hw2⟩ : ∃ x, w1.alloc (.cells #[.bool false, .slice none 0 0, .slice none 0 0] 24) = x := ⟨_, rfl⟩
    obtain ⟨ir0, hir0⟩ : ∃ i, w1.heap.size = i := ⟨_, rfl⟩
    have r0 : Blk w2 ir0 24 #[.bool false, .slice none 0 0, .slice none 0 0] := by rw [← hw2, ← hir0]; exact Blk.new _ _ _
    have k2 : Below w1.heap.size w1 w2 := by rw [← hw2]; exact (Below.refl _ _).alloc (Nat.le_refl _) _
    have zr0 : w2.heap.size = ir0 + 1 := by rw [← hw2, ← hir0]; simp
    rw [hw2, ← zb0, hir0]
    have or0 : w.heap.size ≤ ir0 := by rw [← hir0]; exact bel.size
    have nb0r0 : ib0 ≠ ir0 := by have := b0.lt; omega
    have b0 := b0.below k2 b0.lt
    have n0 := n0.below k2
    have bel := hthen bel k2
    clear k2
    clear hw2 hir0
    have b0c0 := b0.cell 0
    have b0c1 := b0.cell 1
    have b0c2 := b0.cell 2
    simp at b0c0 b0c1 b0c2
    have b0lt := b0.lt
    have r0c0 := r0.cell 0
    have r0c1 := r0.cell 1
    have r0c2 := r0.cell 2
    simp at r0c0 r0c1 r0c2
    have r0lt := r0.lt
    try (go_wp2_with fail)
    refine (rmay_to HM.out _ _ n0 hk hv).mono ?_
    rintro e w3 ⟨rfl, k3⟩
    clear b0c0 b0c1 b0c2 b0lt r0c0 r0c1 r0c2 r0lt
    have b0 := b0.below k3 b0.lt
    have r0 := r0.below k3 r0.lt
    have n0 := n0.below k3
    have bel := hthen bel k3
    clear k3
    have b0c0 := b0.cell 0
    have b0c1 := b0.cell 1
    have b0c2 := b0.cell 2
    simp at b0c0 b0c1 b0c2
    have b0lt := b0.lt
    have r0c0 := r0.cell 0
    have r0c1 := r0.cell 1
    have r0c2 := r0.cell 2
    simp at r0c0 r0c1 r0c2
    have r0lt := r0.lt
    have rf0 := r0.frozen 0
    have rf1 := r0.frozen 1
    have rf2 := r0.frozen 2
    go_wp2
    have xx := r0.put3 (.bool leaf) (.slice A ks.length c) (.slice C vs.length d)
    have xx0 := xx.cell 0
    have xx1 := xx.cell 1
    have xx2 := xx.cell 2
    simp at xx0 xx1 xx2
    refine bodyPost_ret (v := .agg #[.bool leaf, .slice A ks.length c, .slice C vs.length d]) ?h1 rfl ?h2
    case h1 => simp [results, Try.results30, go_sem, xx0, xx1, xx2]
    case h2 => rw [HR.out]; obtain ⟨e1, e2⟩ := n00.at3 bel or0 (.bool leaf) (.slice A ks.length c) (.slice C vs.length d); exact ⟨_, rfl, e1, e2, fun h => by cases h⟩
  · obtain ⟨hs1, hs2⟩ := may_small hm
    simp only at hs1 hs2
    have hR2 : R = ⟨leaf, rwo key ks ks ks.length, rwo key ks vs ks.length⟩ := by rw [← hR]; unfold rwithoutN; rw [hm]; rfl
    have HR := Lib.hid hR2
    have HL := Lib.hid hs2
    have HM := Lib.hid hm
    clear hm hR hR2 hs2
    go_enter Try.func30, Try.ntmps30
    go_wp2_with fail
    obtain ⟨w1, hw1⟩ : ∃ x, w.alloc (.cells #[.bool leaf, .slice A ks.length c, .slice C vs.length d] 24) = x := ⟨_, rfl⟩
    obtain ⟨ib0, hib0⟩ : ∃ i, w.heap.size = i := ⟨_, rfl⟩
    have b0 : Blk w1 ib0 24 #[.bool leaf, .slice A ks.length c, .slice C vs.length d] := by rw [← hw1, ← hib0]; exact Blk.new _ _ _
    have k1 : Below w.heap.size w w1 := by rw [← hw1]; exact (Below.refl _ _).alloc (Nat.le_refl _) _
    have zb0 : w1.heap.size = ib0 + 1 := by rw [← hw1, ← hib0]; simp
    rw [hw1, hib0]
    have ob0 : w.heap.size ≤ ib0 := by rw [← hib0]; exact bel.size
    have n0 := n0.below k1
    have bel := hthen bel k1
    clear k1
    clear hw1 hib0
    have b0c0 := b0.cell 0
    have b0c1 := b0.cell 1
    have b0c2 := b0.cell 2
    simp at b0c0 b0c1 b0c2
    have b0lt := b0.lt
    try (go_wp2_with fail)
    clear b0c0 b0c1 b0c2 b0lt
    obtain ⟨w2, hw2⟩ : ∃ x, w1.alloc (.cells #[.bool false, .slice none 0 0, .slice none 0 0] 24) = x := ⟨_, rfl⟩
    obtain ⟨ir0, hir0⟩ : ∃ i, w1.heap.size = i := ⟨_, rfl⟩
    have r0 : Blk w2 ir0 24 #[.bool false, .slice none 0 0, .slice none 0 0] := by rw [← hw2, ← hir0]; exact Blk.new _ _ _
    have k2 : Below w1.heap.size w1 w2 := by rw [← hw2]; exact (Below.refl _ _).alloc (Nat.le_refl _) _
    have zr0 : w2.heap.size = ir0 + 1 := by rw [← hw2, ← hir0]; simp
    rw [hw2, ← zb0, hir0]
    have or0 : w.heap.size ≤ ir0 := by rw [← hir0]; exact bel.size
    have nb0r0 : ib0 ≠ ir0 := by have := b0.lt; omega
    have b0 := b0.below k2 b0.lt
    have n0 := n0.below k2
    have bel := hthen bel k2
    clear k2
    clear hw2 hir0
    have b0c0 := b0.cell 0
    have b0c1 := b0.cell 1
    have b0c2 := b0.cell 2
    simp at b0c0 b0c1 b0c2
    have b0lt := b0.lt
    have r0c0 := r0.cell 0
    have r0c1 := r0.cell 1
    have r0c2 := r0.cell 2
    simp at r0c0 r0c1 r0c2
    have r0lt := r0.lt
    try (go_wp2_with fail)
    refine (rmay_to HM.out _ _ n0 hk hv).mono ?_
    rintro e w3 ⟨rfl, k3⟩
    clear b0c0 b0c1 b0c2 b0lt r0c0 r0c1 r0c2 r0lt
    have b0 := b0.below k3 b0.lt
    have r0 := r0.below k3 r0.lt
    have n0 := n0.below k3
    have bel := hthen bel k3
    clear k3
    have b0c0 := b0.cell 0
    have b0c1 := b0.cell 1
    have b0c2 := b0.cell 2
    simp at b0c0 b0c1 b0c2
    have b0lt := b0.lt
    have r0c0 := r0.cell 0
    have r0c1 := r0.cell 1
    have r0c2 := r0.cell 2
    simp at r0c0 r0c1 r0c2
    have r0lt := r0.lt
    go_wp2_with fail
    clear b0c0 b0c1 b0c2 b0lt r0c0 r0c1 r0c2 r0lt
    obtain ⟨w4, hw4⟩ : ∃ x, w3.alloc (.cells #[.bool leaf, .slice none 0 0, .slice none 0 0] 24) = x := ⟨_, rfl⟩
    obtain ⟨ib1, hib1⟩ : ∃ i, w3.heap.size = i := ⟨_, rfl⟩
    have b1 : Blk w4 ib1 24 #[.bool leaf, .slice none 0 0, .slice none 0 0] := by rw [← hw4, ← hib1]; exact Blk.new _ _ _
    have k4 : Below w3.heap.size w3 w4 := by rw [← hw4]; exact (Below.refl _ _).alloc (Nat.le_refl _) _
    have zb1 : w4.heap.size = ib1 + 1 := by rw [← hw4, ← hib1]; simp
    rw [hw4, hib1]
    have ob1 : w.heap.size ≤ ib1 := by rw [← hib1]; exact bel.size
    have nb0b1 : ib0 ≠ ib1 := by have := b0.lt; omega
    have nr0b1 : ir0 ≠ ib1 := by have := r0.lt; omega
    have b0 := b0.below k4 b0.lt
    have r0 := r0.below k4 r0.lt
    have n0 := n0.below k4
    have bel := hthen bel k4
    clear k4
    clear hw4 hib1
    have b0c0 := b0.cell 0
    have b0c1 := b0.cell 1
    have b0c2 := b0.cell 2
    simp at b0c0 b0c1 b0c2
    have b0lt := b0.lt
    have r0c0 := r0.cell 0
    have r0c1 := r0.cell 1
    have r0c2 := r0.cell 2
    simp at r0c0 r0c1 r0c2
    have r0lt := r0.lt
    have b1c0 := b1.cell 0
    have b1c1 := b1.cell 1
    have b1c2 := b1.cell 2
    simp at b1c0 b1c1 b1c2
    have b1lt := b1.lt
    try (go_wp2_with fail)
    clear b0c0 b0c1 b0c2 b0lt r0c0 r0c1 r0c2 r0lt b1c0 b1c1 b1c2 b1lt
    have st : GrSt 24 w ib1 leaf [] [] 0 0 (.slice none 0 0) (.slice none 0 0) w4 := GrSt.new bel b1 ob1
    clear bel b1 n0
    go_loopw [6] (fun i wr => ∃ (k m : Nat) (uk uv : Value), k ≤ ks.length ∧ m ≤ k ∧ i = .int .i64 k ∧ GrSt 24 w ib1 leaf (rwo key ks ks k) (rwo key ks vs k) m m uk uv wr ∧ Blk wr ib0 24 #[.bool leaf, .slice A ks.length c, .slice C vs.length d] ∧ Blk wr ir0 24 #[.bool false, .slice none 0 0, .slice none 0 0]) (fun i _ => ks.length - (intOf i).toNat)
    case atStart => exact ⟨0, 0, _, _, Nat.zero_le _, Nat.le_refl _, rfl, st, b0, r0⟩
    case round =>
      clear st b0 r0
      obtain ⟨k, m, uk, uv, hkn, hmk, rfl, st, b0, r0⟩ := hrel
      obtain ⟨A1, cA, C1, d1, rfl, rfl⟩ := st.form
      by_cases hlt : k < ks.length
      · have q1 : decide ((k : Int) < ks.length) = true := decide_eq_true (by omega)
        have T0 : (0 : Int) ≤ k := by omega
        have T1 : (k : Int) < ks.length := by omega
        have T2 : (k : Int) < vs.length := by rw [HL.out]; omega
        obtain ⟨ad, rfl, c1⟩ := HS1.out.cell (Below.refl _ _) hlt
        obtain ⟨bd, rfl, c2⟩ := HS2.out.cell (Below.refl _ _) (show k < vs.length by rw [HL.out]; exact hlt)
        have hn1 : rwo key ks ks (k + 1) = if ks.getD k [] = key then rwo key ks ks k else rwo key ks ks k ++ [ks.getD k []] := rfl
        have hn2 : rwo key ks vs (k + 1) = if ks.getD k [] = key then rwo key ks vs k else rwo key ks vs k ++ [vs.getD k []] := rfl
        obtain ⟨X, hX⟩ : ∃ y, ks.getD k [] = y := ⟨_, rfl⟩
        obtain ⟨Y, hY⟩ : ∃ y, vs.getD k [] = y := ⟨_, rfl⟩
        rw [hX] at c1 hn1 hn2
        rw [hY] at c2 hn2
        have cc1 := (st.bel.cell (acell_lt c1)).trans c1
        clear hX hY
        have b0c0 := b0.cell 0
        have b0c1 := b0.cell 1
        have b0c2 := b0.cell 2
        simp at b0c0 b0c1 b0c2
        have b0lt := b0.lt
        have r0c0 := r0.cell 0
        have r0c1 := r0.cell 1
        have r0c2 := r0.cell 2
        simp at r0c0 r0c1 r0c2
        have r0lt := r0.lt
        by_cases hq : X = key
        · have qx : (X == key) = true := by simp [hq]
          rw [if_pos hq] at hn1 hn2
          have HN1 := Lib.hid hn1
          have HN2 := Lib.hid hn2
          clear hq hn1 hn2
          go_wp2
          go_roundw
          case rel => exact ⟨k + 1, m, _, _, by omega, by omega, by go_num, by rw [HN1.out, HN2.out]; exact st, b0, r0⟩
          case measure => simp [intOf]; omega
        · have qx : (X == key) = false := beq_eq_false_iff_ne.2 hq
          rw [if_neg hq] at hn1 hn2
          have HN1 := Lib.hid hn1
          have HN2 := Lib.hid hn2
          have F1 := Lib.hid (show m + 1 ≤ maxLen by unfold maxLen; omega)
          have F2 := Lib.hid (show (m + 1) * 16 ≤ 140737488355328 by omega)
          clear hq hn1 hn2
          have o0 := st.b.cell 0
          have o1 := st.b.cell 1
          have o2 := st.b.cell 2
          simp at o0 o1 o2
          clear b0c0 b0c1 b0c2 b0lt r0c0 r0c1 r0c2 r0lt
          have b0c0 := b0.cell 0
          have b0c1 := b0.cell 1
          have b0c2 := b0.cell 2
          simp at b0c0 b0c1 b0c2
          have b0lt := b0.lt
          have r0c0 := r0.cell 0
          have r0c1 := r0.cell 1
          have r0c2 := r0.cell 2
          simp at r0c0 r0c1 r0c2
          have r0lt := r0.lt
          go_wp2_with fail
          clear b0c0 b0c1 b0c2 b0lt r0c0 r0c1 r0c2 r0lt
          clear o0 o1 o2
          clear cc1
          have st := st.drew
          have b0 := b0.drew
          have r0 := r0.drew
          refine wp_region_noPanic ?_
          refine wp_region_x (S := (fun w' => w'.cell? ⟨ib1, 1, none⟩ = some (.slice A1 m cA) ∧ w'.cell? ⟨ib0, 0, none⟩ = some (.bool leaf) ∧ w'.cell? ⟨ib0, 1, none⟩ = some (.slice (some ad) ks.length c) ∧ w'.cell? ⟨ib0, 2, none⟩ = some (.slice (some bd) vs.length d) ∧ w'.cell? (ad.add k) = some (.string (bstr X)))) 10 (by kernel_rfl) ?hS0 (fun hHeld => ?_)
          case hS0 => (have q0 := st.b.cell 1; have q1 := b0.cell 0; have q2 := b0.cell 1; have q3 := b0.cell 2; simp at q0 q1 q2 q3; exact ⟨q0, q1, q2, q3, ((st.bel).cell (acell_lt c1)).trans c1⟩)
          generalize hZ : wr.drew = Z0 at *
          clear hZ
          refine wpAnyX_free (i := 0) (v := ?_) rfl (by kernel_rfl) (by kernel_rfl) (by kernel_rfl) (by kernel_rfl) (fun _ _ _ h => h) (Or.inl ⟨by kernel_rfl, ?_⟩) (.inr hHeld) ?_
          rotate_left
          · (intro w _; go_simp; try with_reducible rfl)
          try simp only [Act.put, List.getElem_toArray, List.getElem_cons_succ, List.getElem_cons_zero, List.setIfInBounds_toArray, List.set_cons_zero, List.set_cons_succ]
          refine wpAnyX_take (i := 1) (v := ?_) rfl (by kernel_rfl) (by kernel_rfl) (by kernel_rfl) (by kernel_rfl) (by kernel_rfl) (fun _ _ _ h => h) (Or.inl ⟨by kernel_rfl, ?_⟩) hHeld ?_
          rotate_left
          · (intro w hSw; (try dsimp only at hSw); go_simp; try with_reducible rfl)
          try simp only [Act.put, List.getElem_toArray, List.getElem_cons_succ, List.getElem_cons_zero, List.setIfInBounds_toArray, List.set_cons_zero, List.set_cons_succ]
          refine wpAnyX_free (i := 2) (v := ?_) rfl (by kernel_rfl) (by kernel_rfl) (by kernel_rfl) (by kernel_rfl) (fun _ _ _ h => h) (Or.inl ⟨by kernel_rfl, ?_⟩) (.inr hHeld) ?_
          rotate_left
          · (intro w _; go_simp; try with_reducible rfl)
          try simp only [Act.put, List.getElem_toArray, List.getElem_cons_succ, List.getElem_cons_zero, List.setIfInBounds_toArray, List.set_cons_zero, List.set_cons_succ]
          refine wpAnyX_take (i := 3) (v := ?_) rfl (by kernel_rfl) (by kernel_rfl) (by kernel_rfl) (by kernel_rfl) (by kernel_rfl) (fun _ _ _ h => h) (Or.inl ⟨by kernel_rfl, ?_⟩) hHeld ?_
          rotate_left
          · (intro w hSw; (try dsimp only at hSw); go_simp; try with_reducible rfl)
          try simp only [Act.put, List.getElem_toArray, List.getElem_cons_succ, List.getElem_cons_zero, List.setIfInBounds_toArray, List.set_cons_zero, List.set_cons_succ]
          refine wpAnyX_free (i := 4) (v := ?_) rfl (by kernel_rfl) (by kernel_rfl) (by kernel_rfl) (by kernel_rfl) (fun _ _ _ h => h) (Or.inl ⟨by kernel_rfl, ?_⟩) (.inr hHeld) ?_
          rotate_left
          · (intro w _; go_simp; try with_reducible rfl)
          try simp only [Act.put, List.getElem_toArray, List.getElem_cons_succ, List.getElem_cons_zero, List.setIfInBounds_toArray, List.set_cons_zero, List.set_cons_succ]
          refine wpAnyX_free (i := 5) (v := ?_) rfl (by kernel_rfl) (by kernel_rfl) (by kernel_rfl) (by kernel_rfl) (fun _ _ _ h => h) (Or.inl ⟨by kernel_rfl, ?_⟩) (.inr hHeld) ?_
          rotate_left
          · (intro w _; go_simp; try with_reducible rfl)
          try simp only [Act.put, List.getElem_toArray, List.getElem_cons_succ, List.getElem_cons_zero, List.setIfInBounds_toArray, List.set_cons_zero, List.set_cons_succ]
          refine wpAnyX_take (i := 6) (v := ?_) rfl (by kernel_rfl) (by kernel_rfl) (by kernel_rfl) (by kernel_rfl) (by kernel_rfl) (fun _ _ _ h => h) (Or.inl ⟨by kernel_rfl, ?_⟩) hHeld ?_
          rotate_left
          · (intro w hSw; (try dsimp only at hSw); go_simp; try with_reducible rfl)
          try simp only [Act.put, List.getElem_toArray, List.getElem_cons_succ, List.getElem_cons_zero, List.setIfInBounds_toArray, List.set_cons_zero, List.set_cons_succ]
          refine wpAnyX_ready (rs := [7]) (by kernel_rfl) (by simp) ?_
          refine (AllReadyX.cons rfl (fun K hK => ?_) AllReadyX.nil)
          try rw [if_pos (by kernel_rfl)]
          go_simp
          obtain ⟨u1, hu1⟩ : ∃ x, Z0.alloc (.cells #[.string (bstr X)] 9) = x := ⟨_, rfl⟩
          obtain ⟨gB, hgB⟩ : ∃ b, Z0.heap.size = b := ⟨_, rfl⟩
          have nb : Blk u1 gB 9 #[.string (bstr X)] := by rw [← hu1, ← hgB]; exact Blk.new _ _ _
          have kB : Below Z0.heap.size Z0 u1 := by rw [← hu1]; exact (Below.refl _ _).alloc (Nat.le_refl _) _
          have st := st.below kB
          have b0 := b0.below kB b0.lt
          have r0 := r0.below kB r0.lt
          rw [hu1, hgB]
          clear hu1 hgB kB
          try dsimp only
          refine hK.out _ _ (by have q0 := st.b.cell 1; have q1 := b0.cell 0; have q2 := b0.cell 1; have q3 := b0.cell 2; simp at q0 q1 q2 q3; exact ⟨q0, q1, q2, q3, ((st.bel).cell (acell_lt c1)).trans c1⟩) (fun hHeld => ?_)
          clear hK K
          try simp only [Act.put, List.getElem_toArray, List.getElem_cons_succ, List.getElem_cons_zero, List.setIfInBounds_toArray, List.set_cons_zero, List.set_cons_succ]
          refine wpAnyX_ready (rs := [8]) (by kernel_rfl) (by simp) ?_
          refine (AllReadyX.cons rfl (fun K hK => ?_) AllReadyX.nil)
          refine step_append_lies _ (by rfl) _ _ 22 (by rfl) w.heap.size 9 i0 (.string ⟨#[]⟩) 1 16 Try.underlying22 hi0 hz0 hz1 hz2 rfl (by decide) (.slice A1 m cA) m _ rfl st.o1 ⟨gB, 0, none⟩ 1 1 [.string (bstr X)] rfl rfl (World.news_of_block nb) (fun u hu => by simp at hu; subst hu; rfl) (by decide) F1.out F2.out st.bel.size _ rfl ?_
          intro gn1 cap1 u3 hown hgr hat _
          obtain ⟨bn, oth, belN, stn, othN⟩ := st.app1 (by decide) hown hgr hat
          clear hown hgr hat nb
          have b0N := othN _ _ _ b0 (by decide) nb0b1
          have b0 := oth _ _ _ b0 (by decide) nb0b1
          have r0N := othN _ _ _ r0 (by decide) nr0b1
          have r0 := oth _ _ _ r0 (by decide) nr0b1
          clear oth othN
          try dsimp only
          refine hK.out _ _ (by have q0 := bn.cell 1; have q1 := b0.cell 0; have q2 := b0.cell 1; have q3 := b0.cell 2; simp at q0 q1 q2 q3; exact ⟨q0, q1, q2, q3, ((belN).cell (acell_lt c1)).trans c1⟩) (fun hHeld => ?_)
          clear hK K
          try simp only [Act.put, List.getElem_toArray, List.getElem_cons_succ, List.getElem_cons_zero, List.setIfInBounds_toArray, List.set_cons_zero, List.set_cons_succ]
          refine wpAnyX_free (i := 9) (v := ?_) rfl (by kernel_rfl) (by kernel_rfl) (by kernel_rfl) (by kernel_rfl) (fun _ _ _ h => h) (Or.inl ⟨by kernel_rfl, ?_⟩) (.inr hHeld) ?_
          rotate_left
          · (intro w _; go_simp; try with_reducible rfl)
          try simp only [Act.put, List.getElem_toArray, List.getElem_cons_succ, List.getElem_cons_zero, List.setIfInBounds_toArray, List.set_cons_zero, List.set_cons_succ]
          have zz := bn.frozen 1
          have zc := bn.cell 1
          simp at zc
          refine wpAnyX_ready (rs := [10]) (by kernel_rfl) (by simp) ?_
          refine (AllReadyX.late rfl (by kernel_rfl) (fun K hK => ?_) AllReadyX.nil)
          try rw [if_pos (by kernel_rfl)]
          go_simp
          try dsimp only
          refine hK.out _ _ ?_
          clear hK K
          try simp only [Act.put, List.getElem_toArray, List.getElem_cons_succ, List.getElem_cons_zero, List.setIfInBounds_toArray, List.set_cons_zero, List.set_cons_succ]
          refine wpAnyX_done (by kernel_rfl) ?_ _
          refine NoPanic.normal ?_
          obtain ⟨u4, hu4⟩ : ∃ x, u3.setCell ⟨ib1, 1, none⟩ (.slice (some ⟨gn1, 0, none⟩) (m + 1) cap1) = x := ⟨_, rfl⟩
          rw [hu4] at stn b0N r0N ⊢
          clear hu4 bn st zz zc belN
          have st := stn
          have b0 := b0N
          have r0 := r0N
          clear stn b0N r0N
          have o0 := st.b.cell 0
          have o1 := st.b.cell 1
          have o2 := st.b.cell 2
          simp at o0 o1 o2
          have b0c0 := b0.cell 0
          have b0c1 := b0.cell 1
          have b0c2 := b0.cell 2
          simp at b0c0 b0c1 b0c2
          have b0lt := b0.lt
          have r0c0 := r0.cell 0
          have r0c1 := r0.cell 1
          have r0c2 := r0.cell 2
          simp at r0c0 r0c1 r0c2
          have r0lt := r0.lt
          go_wp2_with fail
          clear b0c0 b0c1 b0c2 b0lt r0c0 r0c1 r0c2 r0lt
          clear o0 o1 o2
          have st := st.drew
          have b0 := b0.drew
          have r0 := r0.drew
          refine wp_region_noPanic ?_
          refine wp_region_x (S := (fun w' => w'.cell? ⟨ib1, 2, none⟩ = some (.slice C1 m d1) ∧ w'.cell? ⟨ib0, 0, none⟩ = some (.bool leaf) ∧ w'.cell? ⟨ib0, 1, none⟩ = some (.slice (some ad) ks.length c) ∧ w'.cell? ⟨ib0, 2, none⟩ = some (.slice (some bd) vs.length d) ∧ w'.cell? (bd.add k) = some (.string (bstr Y)))) 10 (by kernel_rfl) ?hS0 (fun hHeld => ?_)
          case hS0 => (have q0 := st.b.cell 2; have q1 := b0.cell 0; have q2 := b0.cell 1; have q3 := b0.cell 2; simp at q0 q1 q2 q3; exact ⟨q0, q1, q2, q3, ((st.bel).cell (acell_lt c2)).trans c2⟩)
          generalize hZ : u4.drew = Z0 at *
          clear hZ
          refine wpAnyX_free (i := 0) (v := ?_) rfl (by kernel_rfl) (by kernel_rfl) (by kernel_rfl) (by kernel_rfl) (fun _ _ _ h => h) (Or.inl ⟨by kernel_rfl, ?_⟩) (.inr hHeld) ?_
          rotate_left
          · (intro w _; go_simp; try with_reducible rfl)
          try simp only [Act.put, List.getElem_toArray, List.getElem_cons_succ, List.getElem_cons_zero, List.setIfInBounds_toArray, List.set_cons_zero, List.set_cons_succ]
          refine wpAnyX_take (i := 1) (v := ?_) rfl (by kernel_rfl) (by kernel_rfl) (by kernel_rfl) (by kernel_rfl) (by kernel_rfl) (fun _ _ _ h => h) (Or.inl ⟨by kernel_rfl, ?_⟩) hHeld ?_
          rotate_left
          · (intro w hSw; (try dsimp only at hSw); go_simp; try with_reducible rfl)
          try simp only [Act.put, List.getElem_toArray, List.getElem_cons_succ, List.getElem_cons_zero, List.setIfInBounds_toArray, List.set_cons_zero, List.set_cons_succ]
          refine wpAnyX_free (i := 2) (v := ?_) rfl (by kernel_rfl) (by kernel_rfl) (by kernel_rfl) (by kernel_rfl) (fun _ _ _ h => h) (Or.inl ⟨by kernel_rfl, ?_⟩) (.inr hHeld) ?_
          rotate_left
          · (intro w _; go_simp; try with_reducible rfl)
          try simp only [Act.put, List.getElem_toArray, List.getElem_cons_succ, List.getElem_cons_zero, List.setIfInBounds_toArray, List.set_cons_zero, List.set_cons_succ]
          refine wpAnyX_take (i := 3) (v := ?_) rfl (by kernel_rfl) (by kernel_rfl) (by kernel_rfl) (by kernel_rfl) (by kernel_rfl) (fun _ _ _ h => h) (Or.inl ⟨by kernel_rfl, ?_⟩) hHeld ?_
          rotate_left
          · (intro w hSw; (try dsimp only at hSw); go_simp; try with_reducible rfl)
          try simp only [Act.put, List.getElem_toArray, List.getElem_cons_succ, List.getElem_cons_zero, List.setIfInBounds_toArray, List.set_cons_zero, List.set_cons_succ]
          refine wpAnyX_free (i := 4) (v := ?_) rfl (by kernel_rfl) (by kernel_rfl) (by kernel_rfl) (by kernel_rfl) (fun _ _ _ h => h) (Or.inl ⟨by kernel_rfl, ?_⟩) (.inr hHeld) ?_
          rotate_left
          · (intro w _; go_simp; try with_reducible rfl)
          try simp only [Act.put, List.getElem_toArray, List.getElem_cons_succ, List.getElem_cons_zero, List.setIfInBounds_toArray, List.set_cons_zero, List.set_cons_succ]
          refine wpAnyX_free (i := 5) (v := ?_) rfl (by kernel_rfl) (by kernel_rfl) (by kernel_rfl) (by kernel_rfl) (fun _ _ _ h => h) (Or.inl ⟨by kernel_rfl, ?_⟩) (.inr hHeld) ?_
          rotate_left
          · (intro w _; go_simp; try with_reducible rfl)
          try simp only [Act.put, List.getElem_toArray, List.getElem_cons_succ, List.getElem_cons_zero, List.setIfInBounds_toArray, List.set_cons_zero, List.set_cons_succ]
          refine wpAnyX_take (i := 6) (v := ?_) rfl (by kernel_rfl) (by kernel_rfl) (by kernel_rfl) (by kernel_rfl) (by kernel_rfl) (fun _ _ _ h => h) (Or.inl ⟨by kernel_rfl, ?_⟩) hHeld ?_
          rotate_left
          · (intro w hSw; (try dsimp only at hSw); go_simp; try with_reducible rfl)
          try simp only [Act.put, List.getElem_toArray, List.getElem_cons_succ, List.getElem_cons_zero, List.setIfInBounds_toArray, List.set_cons_zero, List.set_cons_succ]
          refine wpAnyX_ready (rs := [7]) (by kernel_rfl) (by simp) ?_
          refine (AllReadyX.cons rfl (fun K hK => ?_) AllReadyX.nil)
          try rw [if_pos (by kernel_rfl)]
          go_simp
          obtain ⟨u1, hu1⟩ : ∃ x, Z0.alloc (.cells #[.string (bstr Y)] 9) = x := ⟨_, rfl⟩
          obtain ⟨gB, hgB⟩ : ∃ b, Z0.heap.size = b := ⟨_, rfl⟩
          have nb : Blk u1 gB 9 #[.string (bstr Y)] := by rw [← hu1, ← hgB]; exact Blk.new _ _ _
          have kB : Below Z0.heap.size Z0 u1 := by rw [← hu1]; exact (Below.refl _ _).alloc (Nat.le_refl _) _
          have st := st.below kB
          have b0 := b0.below kB b0.lt
          have r0 := r0.below kB r0.lt
          rw [hu1, hgB]
          clear hu1 hgB kB
          try dsimp only
          refine hK.out _ _ (by have q0 := st.b.cell 2; have q1 := b0.cell 0; have q2 := b0.cell 1; have q3 := b0.cell 2; simp at q0 q1 q2 q3; exact ⟨q0, q1, q2, q3, ((st.bel).cell (acell_lt c2)).trans c2⟩) (fun hHeld => ?_)
          clear hK K
          try simp only [Act.put, List.getElem_toArray, List.getElem_cons_succ, List.getElem_cons_zero, List.setIfInBounds_toArray, List.set_cons_zero, List.set_cons_succ]
          refine wpAnyX_ready (rs := [8]) (by kernel_rfl) (by simp) ?_
          refine (AllReadyX.cons rfl (fun K hK => ?_) AllReadyX.nil)
          refine step_append_lies _ (by rfl) _ _ 22 (by rfl) w.heap.size 9 i0 (.string ⟨#[]⟩) 1 16 Try.underlying22 hi0 hz0 hz1 hz2 rfl (by decide) (.slice C1 m d1) m _ rfl st.o2 ⟨gB, 0, none⟩ 1 1 [.string (bstr Y)] rfl rfl (World.news_of_block nb) (fun u hu => by simp at hu; subst hu; rfl) (by decide) F1.out F2.out st.bel.size _ rfl ?_
          intro gn2 cap2 u3 hown hgr hat _
          obtain ⟨bn, oth, belN, stn, othN⟩ := st.app2 (by decide) hown hgr hat
          clear hown hgr hat nb
          have b0N := othN _ _ _ b0 (by decide) nb0b1
          have b0 := oth _ _ _ b0 (by decide) nb0b1
          have r0N := othN _ _ _ r0 (by decide) nr0b1
          have r0 := oth _ _ _ r0 (by decide) nr0b1
          clear oth othN
          try dsimp only
          refine hK.out _ _ (by have q0 := bn.cell 2; have q1 := b0.cell 0; have q2 := b0.cell 1; have q3 := b0.cell 2; simp at q0 q1 q2 q3; exact ⟨q0, q1, q2, q3, ((belN).cell (acell_lt c2)).trans c2⟩) (fun hHeld => ?_)
          clear hK K
          try simp only [Act.put, List.getElem_toArray, List.getElem_cons_succ, List.getElem_cons_zero, List.setIfInBounds_toArray, List.set_cons_zero, List.set_cons_succ]
          refine wpAnyX_free (i := 9) (v := ?_) rfl (by kernel_rfl) (by kernel_rfl) (by kernel_rfl) (by kernel_rfl) (fun _ _ _ h => h) (Or.inl ⟨by kernel_rfl, ?_⟩) (.inr hHeld) ?_
          rotate_left
          · (intro w _; go_simp; try with_reducible rfl)
          try simp only [Act.put, List.getElem_toArray, List.getElem_cons_succ, List.getElem_cons_zero, List.setIfInBounds_toArray, List.set_cons_zero, List.set_cons_succ]
          have zz := bn.frozen 2
          have zc := bn.cell 2
          simp at zc
          refine wpAnyX_ready (rs := [10]) (by kernel_rfl) (by simp) ?_
          refine (AllReadyX.late rfl (by kernel_rfl) (fun K hK => ?_) AllReadyX.nil)
          try rw [if_pos (by kernel_rfl)]
          go_simp
          try dsimp only
          refine hK.out _ _ ?_
          clear hK K
          try simp only [Act.put, List.getElem_toArray, List.getElem_cons_succ, List.getElem_cons_zero, List.setIfInBounds_toArray, List.set_cons_zero, List.set_cons_succ]
          refine wpAnyX_done (by kernel_rfl) ?_ _
          refine NoPanic.normal ?_
          obtain ⟨u4, hu4⟩ : ∃ x, u3.setCell ⟨ib1, 2, none⟩ (.slice (some ⟨gn2, 0, none⟩) (m + 1) cap2) = x := ⟨_, rfl⟩
          rw [hu4] at stn b0N r0N ⊢
          clear hu4 bn st zz zc belN
          have st := stn
          have b0 := b0N
          have r0 := r0N
          clear stn b0N r0N
          go_wp2
          go_roundw
          case rel => exact ⟨k + 1, m + 1, _, _, by omega, by omega, by go_num, by rw [HN1.out, HN2.out]; exact st, b0, r0⟩
          case measure => simp [intOf]; omega

      · obtain rfl : k = ks.length := by omega
        have q1 : decide ((ks.length : Int) < ks.length) = false := by simp
        have b0c0 := b0.cell 0
        have b0c1 := b0.cell 1
        have b0c2 := b0.cell 2
        simp at b0c0 b0c1 b0c2
        have b0lt := b0.lt
        have r0c0 := r0.cell 0
        have r0c1 := r0.cell 1
        have r0c2 := r0.cell 2
        simp at r0c0 r0c1 r0c2
        have r0lt := r0.lt
        have o0 := st.b.cell 0
        have o1 := st.b.cell 1
        have o2 := st.b.cell 2
        simp at o0 o1 o2
        have rf0 := r0.frozen 0
        have rf1 := r0.frozen 1
        have rf2 := r0.frozen 2
        go_wp2
        have xx := r0.put3 (.bool leaf) (.slice A1 m cA) (.slice C1 m d1)
        have xx0 := xx.cell 0
        have xx1 := xx.cell 1
        have xx2 := xx.cell 2
        simp at xx0 xx1 xx2
        refine bodyPost_ret (v := .agg #[.bool leaf, .slice A1 m cA, .slice C1 m d1]) ?h1 rfl ?h2
        case h1 => simp [results, Try.results30, go_sem, xx0, xx1, xx2]
        case h2 => obtain ⟨e1, e2, e3, e4⟩ := st.ret r0 (by decide) or0 (.bool leaf) (.slice A1 m cA) (.slice C1 m d1); rw [HR.out]; exact ⟨_, rfl, e1, e2, fun _ => ⟨_, _, _, _, _, rfl, e3, e4⟩⟩
theorem rwithout_any (n : Nd) (v : Value) (key : List UInt8) (w : World) (h : NdV w v n) (hk : n.keys.length ≤ 1000000) (hv : n.vals.length ≤ 1000000) :
    Calls Try.prog 30 #[v, .string (bstr key)] w fun e w' => ∃ u, e = .returned u ∧ NdV w' u (withoutN n key) ∧ Below w.heap.size w w' :=
  (rwithout_rows n v key w h hk hv).mono fun e w' ⟨u, h1, h2, h3, _⟩ => ⟨u, h1, h2, h3⟩
theorem rwithout_own {n M : Nd} {key : List UInt8} (hm : mayB n = true) (hM : withoutN n key = M) (v : Value) (w : World) (h : NdV w v n) (hk : n.keys.length ≤ 1000000) (hv : n.vals.length ≤ 1000000) :
    Calls Try.prog 30 #[v, .string (bstr key)] w fun e w' => ∃ q A c C d, e = .returned (.agg #[.bool M.leaf, .slice A q c, .slice C q d]) ∧ w'.ownsRow w.heap.size 9 1 (.slice A q c) q (secV M.keys) ∧ w'.ownsRow w.heap.size 9 1 (.slice C q d) q (secV M.vals) ∧ Below w.heap.size w w' := by
  subst hM
  refine (rwithout_rows n v key w h hk hv).mono ?_
  rintro e w' ⟨u, rfl, h2, h3, h4⟩
  obtain ⟨q, A, c, C, d, rfl, h5, h6⟩ := h4 hm
  exact ⟨q, A, c, C, d, rfl, h5, h6, h3⟩
end Go.Proofs.Ytiodeeliidhbgaa
