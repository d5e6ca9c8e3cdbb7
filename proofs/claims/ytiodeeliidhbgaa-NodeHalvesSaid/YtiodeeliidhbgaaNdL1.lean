/- The walk of NodeTells and of NodeDecodes. -/
import Derived.Test.YtiodeeliidhbgaaNdJ
import Derived.Test.YtiodeeliidhbgaaNdY
namespace Go.Proofs.Ytiodeeliidhbgaa
open Go Go.RowKit
set_option linter.unusedSimpArgs false
set_option linter.unnecessarySimpa false
set_option linter.unusedVariables false

theorem dec_small {s : List UInt8} {n : Nd} {e : Int} (h : decD s = (n, e)) : n.keys.length ≤ 1000000 ∧ n.vals.length ≤ 1000000 := by
  have hm := many_le s
  have hl := decS_len ((Rd.bytes ⟨s, 0⟩ 1).2.number 1).2 (manyD s).toNat
  have h1 : (nodeD s).keys.length ≤ 1000000 := by show (bodyD s).ks.length ≤ _; unfold bodyD; rw [hl.1]; omega
  have h2 : (nodeD s).vals.length ≤ 1000000 := by show (bodyD s).vs.length ≤ _; unfold bodyD; rw [hl.2.1]; omega
  unfold decD at h
  split at h
  · cases h; exact ⟨Nat.zero_le _, Nat.zero_le _⟩
  · split at h
    · cases h; exact ⟨Nat.zero_le _, Nat.zero_le _⟩
    · cases h; exact ⟨h1, h2⟩

set_option maxRecDepth 100000 in
set_option maxHeartbeats 8000000 in
theorem nodeTells_walk (w : World) (a0 : D_permafrostref09_Node) (v0_1 v0_2 : Value) (h0_0 : SlAt w.heap.size w IsStr 1 [v0_1] a0.keys) (h0_1 : SlAt w.heap.size w IsStr 1 [v0_2] a0.vals) (a1 : List UInt8) (h1 : a1.length ≤ 140737488351232) :
    Calls Try.prog 3 #[.agg #[.bool a0.leaf, v0_1, v0_2], .string (bstr a1)] w fun e w' => e = .returned (.bool true) ∧ Below w.heap.size w w' := by
  obtain ⟨leaf, ks, vs⟩ := a0
  simp only at h0_0 h0_1 ⊢
  obtain ⟨s1, l1⟩ := ss_arg h0_0
  obtain ⟨s2, l2⟩ := ss_arg h0_1
  obtain ⟨A, c, rfl⟩ := s1.form
  obtain ⟨C, d, rfl⟩ := s2.form
  clear h0_0 h0_1
  have n0 : NdV w (.agg #[.bool leaf, .slice A ks.length c, .slice C vs.length d]) ⟨leaf, ks, vs⟩ := ⟨_, _, rfl, s1, s2⟩
  have bel : Below w.heap.size w w := Below.refl _ _
  clear s1 s2
  have szk : (bstr a1).size = a1.length := by simp [bstr, ByteArray.size]
  cases hs : smallB ⟨leaf, ks, vs⟩
  · have HS := Lib.hid hs
    clear hs
    go_enter Try.func3, Try.ntmps3
    go_wp2_with fail
    obtain ⟨w1, hw1⟩ : ∃ x, w.alloc (.cells #[.bool leaf, .slice A ks.length c, .slice C vs.length d] 24) = x := ⟨_, rfl⟩
    obtain ⟨ib0, hib0⟩ : ∃ i, w.heap.size = i := ⟨_, rfl⟩
    have b0 : Blk w1 ib0 24 #[.bool leaf, .slice A ks.length c, .slice C vs.length d] := by rw [← hw1, ← hib0]; exact Blk.new _ _ _
    have k1 : Below w.heap.size w w1 := by rw [← hw1]; exact (Below.refl _ _).alloc (Nat.le_refl _) _
    have zb0 : w1.heap.size = ib0 + 1 := by rw [← hw1, ← hib0]; simp
    rw [hw1, hib0]
    have n0 := n0.below k1
    have bel := hthen bel k1
    clear k1
    clear hw1 hib0
    have b0c0 := b0.cell 0
    have b0c1 := b0.cell 1
    have b0c2 := b0.cell 2
    simp at b0c0 b0c1 b0c2
    have b0lt := b0.lt
    try (go_wp2_with fail)
    refine (small_to HS.out _ _ n0 l1 l2).mono ?_
    rintro e w2 ⟨rfl, k2⟩
    clear b0c0 b0c1 b0c2 b0lt
    have b0 := b0.below k2 b0.lt
    have n0 := n0.below k2
    have bel := hthen bel k2
    clear k2
    have b0c0 := b0.cell 0
    have b0c1 := b0.cell 1
    have b0c2 := b0.cell 2
    simp at b0c0 b0c1 b0c2
    have b0lt := b0.lt
    go_wp2_with fail
    refine (live_ok _).mono ?_
    rintro e w3 ⟨rfl, k3⟩
    clear b0c0 b0c1 b0c2 b0lt
    have b0 := b0.below k3 b0.lt
    have n0 := n0.below k3
    have bel := hthen bel k3
    clear k3
    go_wp2
    go_ret
    exact ⟨rfl, bel⟩
  · obtain ⟨m1, m2⟩ := small_len hs
    simp only at m1 m2
    have HS := Lib.hid hs
    clear hs
    have M1 : ks.length ≤ 1000000 := by omega
    have M2 : vs.length ≤ 1000000 := by omega
    by_cases hl : 400 < a1.length
    · have q0 : decide ((a1.length : Int) > 400) = true := decide_eq_true (by omega)
      go_enter Try.func3, Try.ntmps3
      go_wp2_with fail
      obtain ⟨w1, hw1⟩ : ∃ x, w.alloc (.cells #[.bool leaf, .slice A ks.length c, .slice C vs.length d] 24) = x := ⟨_, rfl⟩
      obtain ⟨ib0, hib0⟩ : ∃ i, w.heap.size = i := ⟨_, rfl⟩
      have b0 : Blk w1 ib0 24 #[.bool leaf, .slice A ks.length c, .slice C vs.length d] := by rw [← hw1, ← hib0]; exact Blk.new _ _ _
      have k1 : Below w.heap.size w w1 := by rw [← hw1]; exact (Below.refl _ _).alloc (Nat.le_refl _) _
      have zb0 : w1.heap.size = ib0 + 1 := by rw [← hw1, ← hib0]; simp
      rw [hw1, hib0]
      have n0 := n0.below k1
      have bel := hthen bel k1
      clear k1
      clear hw1 hib0
      have b0c0 := b0.cell 0
      have b0c1 := b0.cell 1
      have b0c2 := b0.cell 2
      simp at b0c0 b0c1 b0c2
      have b0lt := b0.lt
      try (go_wp2_with fail)
      refine (small_to HS.out _ _ n0 l1 l2).mono ?_
      rintro e w2 ⟨rfl, k2⟩
      clear b0c0 b0c1 b0c2 b0lt
      have b0 := b0.below k2 b0.lt
      have n0 := n0.below k2
      have bel := hthen bel k2
      clear k2
      have b0c0 := b0.cell 0
      have b0c1 := b0.cell 1
      have b0c2 := b0.cell 2
      simp at b0c0 b0c1 b0c2
      have b0lt := b0.lt
      go_wp2_with fail
      refine (live_ok _).mono ?_
      rintro e w3 ⟨rfl, k3⟩
      clear b0c0 b0c1 b0c2 b0lt
      have b0 := b0.below k3 b0.lt
      have n0 := n0.below k3
      have bel := hthen bel k3
      clear k3
      go_wp2
      go_ret
      exact ⟨rfl, bel⟩
    · have q0 : decide ((a1.length : Int) > 400) = false := decide_eq_false (by omega)
      obtain ⟨TT, hT⟩ : ∃ TT, nencL ⟨leaf, ks, vs⟩ = TT := ⟨_, rfl⟩
      obtain ⟨E, hE⟩ : ∃ E, checkN ⟨leaf, ks, vs⟩ = E := ⟨_, rfl⟩
      obtain ⟨⟨p, b⟩, hF⟩ : ∃ p, findN ⟨leaf, ks, vs⟩ a1 = p := ⟨_, rfl⟩
      obtain ⟨Z, hZ⟩ : ∃ Z, sizeN ⟨leaf, ks, vs⟩ = Z := ⟨_, rfl⟩
      have HT := Lib.hid hT
      have HE := Lib.hid hE
      have HF := Lib.hid hF
      have HZ := Lib.hid hZ
      have qT : (TT == TT) = true := by simp
      have qE : (E == E) = true := by simp
      have qb : (b == b) = true := by simp
      clear hT hE hF hZ
      go_enter Try.func3, Try.ntmps3
      go_wp2_with fail
      obtain ⟨w1, hw1⟩ : ∃ x, w.alloc (.cells #[.bool leaf, .slice A ks.length c, .slice C vs.length d] 24) = x := ⟨_, rfl⟩
      obtain ⟨ib0, hib0⟩ : ∃ i, w.heap.size = i := ⟨_, rfl⟩
      have b0 : Blk w1 ib0 24 #[.bool leaf, .slice A ks.length c, .slice C vs.length d] := by rw [← hw1, ← hib0]; exact Blk.new _ _ _
      have k1 : Below w.heap.size w w1 := by rw [← hw1]; exact (Below.refl _ _).alloc (Nat.le_refl _) _
      have zb0 : w1.heap.size = ib0 + 1 := by rw [← hw1, ← hib0]; simp
      rw [hw1, hib0]
      have n0 := n0.below k1
      have bel := hthen bel k1
      clear k1
      clear hw1 hib0
      have b0c0 := b0.cell 0
      have b0c1 := b0.cell 1
      have b0c2 := b0.cell 2
      simp at b0c0 b0c1 b0c2
      have b0lt := b0.lt
      try (go_wp2_with fail)
      refine (small_to HS.out _ _ n0 l1 l2).mono ?_
      rintro e w2 ⟨rfl, k2⟩
      clear b0c0 b0c1 b0c2 b0lt
      have b0 := b0.below k2 b0.lt
      have n0 := n0.below k2
      have bel := hthen bel k2
      clear k2
      have b0c0 := b0.cell 0
      have b0c1 := b0.cell 1
      have b0c2 := b0.cell 2
      simp at b0c0 b0c1 b0c2
      have b0lt := b0.lt
      go_wp2_with fail
      refine (own_any _ ⟨leaf, ks, vs⟩ _ n0).mono ?_
      rintro e w3 ⟨rfl, k3⟩
      clear b0c0 b0c1 b0c2 b0lt
      have b0 := b0.below k3 b0.lt
      have n0 := n0.below k3
      have bel := hthen bel k3
      clear k3
      have b0c0 := b0.cell 0
      have b0c1 := b0.cell 1
      have b0c2 := b0.cell 2
      simp at b0c0 b0c1 b0c2
      have b0lt := b0.lt
      go_wp2_with fail
      refine (enc_to HT.out HE.out _ _ n0 M1 M2).mono ?_
      rintro e w4 ⟨rfl, k4⟩
      clear b0c0 b0c1 b0c2 b0lt
      have b0 := b0.below k4 b0.lt
      have n0 := n0.below k4
      have bel := hthen bel k4
      clear k4
      have b0c0 := b0.cell 0
      have b0c1 := b0.cell 1
      have b0c2 := b0.cell 2
      simp at b0c0 b0c1 b0c2
      have b0lt := b0.lt
      go_wp2_with fail
      refine (renc_to HT.out HE.out _ _ n0 M1 M2).mono ?_
      rintro e w5 ⟨rfl, k5⟩
      clear b0c0 b0c1 b0c2 b0lt
      have b0 := b0.below k5 b0.lt
      have n0 := n0.below k5
      have bel := hthen bel k5
      clear k5
      have b0c0 := b0.cell 0
      have b0c1 := b0.cell 1
      have b0c2 := b0.cell 2
      simp at b0c0 b0c1 b0c2
      have b0lt := b0.lt
      go_wp2_with fail
      refine (own_any _ ⟨leaf, ks, vs⟩ _ n0).mono ?_
      rintro e w6 ⟨rfl, k6⟩
      clear b0c0 b0c1 b0c2 b0lt
      have b0 := b0.below k6 b0.lt
      have n0 := n0.below k6
      have bel := hthen bel k6
      clear k6
      have b0c0 := b0.cell 0
      have b0c1 := b0.cell 1
      have b0c2 := b0.cell 2
      simp at b0c0 b0c1 b0c2
      have b0lt := b0.lt
      go_wp2_with fail
      refine (find_to HF.out _ _ n0 M1 M2).mono ?_
      rintro e w7 ⟨rfl, k7⟩
      clear b0c0 b0c1 b0c2 b0lt
      have b0 := b0.below k7 b0.lt
      have n0 := n0.below k7
      have bel := hthen bel k7
      clear k7
      have b0c0 := b0.cell 0
      have b0c1 := b0.cell 1
      have b0c2 := b0.cell 2
      simp at b0c0 b0c1 b0c2
      have b0lt := b0.lt
      go_wp2_with fail
      refine (rfind_to HF.out _ _ n0 M1 M2).mono ?_
      rintro e w8 ⟨rfl, k8⟩
      clear b0c0 b0c1 b0c2 b0lt
      have b0 := b0.below k8 b0.lt
      have n0 := n0.below k8
      have bel := hthen bel k8
      clear k8
      have b0c0 := b0.cell 0
      have b0c1 := b0.cell 1
      have b0c2 := b0.cell 2
      simp at b0c0 b0c1 b0c2
      have b0lt := b0.lt
      go_wp2_with fail
      clear b0c0 b0c1 b0c2 b0lt
      have n0 := n0.below (Below.refl _ _).drew
      have bel := bel.drew
      have b0 := b0.drew
      refine wp_region_noPanic ?_
      refine wp_region_held_drew (S := (fun w' => w'.cell? ⟨ib0, 0, none⟩ = some (.bool leaf) ∧ w'.cell? ⟨ib0, 1, none⟩ = some (.slice A ks.length c) ∧ w'.cell? ⟨ib0, 2, none⟩ = some (.slice C vs.length d))) (by kernel_rfl) ?hS0 (fun hHeld => ?_)
      case hS0 => (have q0 := b0.cell 0; have q1 := b0.cell 1; have q2 := b0.cell 2; simp at q0 q1 q2; exact ⟨q0, q1, q2⟩)
      generalize hZ : w8.drew = wd9 at *
      clear hZ
      refine wpAnyH_take (i := 0) (oi := ⟨some 46, _, _, _, _, _⟩) (v := ?_) rfl (by kernel_rfl) (by kernel_rfl) (by kernel_rfl) (fun _ _ _ h => h) (Or.inl ⟨by kernel_rfl, ?_⟩) hHeld ?_
      rotate_left
      · (intro w hSw; (try dsimp only at hSw); go_simp; try with_reducible rfl)
      try simp only [Act.put, List.getElem_toArray, List.getElem_cons_succ, List.getElem_cons_zero, List.setIfInBounds_toArray, List.set_cons_zero, List.set_cons_succ]
      refine wpAnyH_take (i := 1) (oi := ⟨some 47, _, _, _, _, _⟩) (v := ?_) rfl (by kernel_rfl) (by kernel_rfl) (by kernel_rfl) (fun _ _ _ h => h) (Or.inl ⟨by kernel_rfl, ?_⟩) hHeld ?_
      rotate_left
      · (intro w hSw; (try dsimp only at hSw); go_simp; try with_reducible rfl)
      try simp only [Act.put, List.getElem_toArray, List.getElem_cons_succ, List.getElem_cons_zero, List.setIfInBounds_toArray, List.set_cons_zero, List.set_cons_succ]
      refine wpAnyH_take (i := 2) (oi := ⟨some 48, _, _, _, _, _⟩) (v := ?_) rfl (by kernel_rfl) (by kernel_rfl) (by kernel_rfl) (fun _ _ _ h => h) (Or.inl ⟨by kernel_rfl, ?_⟩) hHeld ?_
      rotate_left
      · (intro w hSw; (try dsimp only at hSw); go_simp; try with_reducible rfl)
      try simp only [Act.put, List.getElem_toArray, List.getElem_cons_succ, List.getElem_cons_zero, List.setIfInBounds_toArray, List.set_cons_zero, List.set_cons_succ]
      refine wpAnyH_take (i := 3) (oi := ⟨some 49, _, _, _, _, _⟩) (v := ?_) rfl (by kernel_rfl) (by kernel_rfl) (by kernel_rfl) (fun _ _ _ h => h) (Or.inl ⟨by kernel_rfl, ?_⟩) hHeld ?_
      rotate_left
      · (intro w hSw; (try dsimp only at hSw); go_simp; try with_reducible rfl)
      try simp only [Act.put, List.getElem_toArray, List.getElem_cons_succ, List.getElem_cons_zero, List.setIfInBounds_toArray, List.set_cons_zero, List.set_cons_succ]
      refine wpAnyH_take (i := 4) (oi := ⟨some 50, _, _, _, _, _⟩) (v := ?_) rfl (by kernel_rfl) (by kernel_rfl) (by kernel_rfl) (fun _ _ _ h => h) (Or.inl ⟨by kernel_rfl, ?_⟩) hHeld ?_
      rotate_left
      · (intro w hSw; (try dsimp only at hSw); go_simp; try with_reducible rfl)
      try simp only [Act.put, List.getElem_toArray, List.getElem_cons_succ, List.getElem_cons_zero, List.setIfInBounds_toArray, List.set_cons_zero, List.set_cons_succ]
      refine wpAnyH_take (i := 5) (oi := ⟨some 51, _, _, _, _, _⟩) (v := ?_) rfl (by kernel_rfl) (by kernel_rfl) (by kernel_rfl) (fun _ _ _ h => h) (Or.inl ⟨by kernel_rfl, ?_⟩) hHeld ?_
      rotate_left
      · (intro w hSw; (try dsimp only at hSw); go_simp; try with_reducible rfl)
      try simp only [Act.put, List.getElem_toArray, List.getElem_cons_succ, List.getElem_cons_zero, List.setIfInBounds_toArray, List.set_cons_zero, List.set_cons_succ]
      refine wpAnyH_take (i := 6) (oi := ⟨some 52, _, _, _, _, _⟩) (v := ?_) rfl (by kernel_rfl) (by kernel_rfl) (by kernel_rfl) (fun _ _ _ h => h) (Or.inl ⟨by kernel_rfl, ?_⟩) hHeld ?_
      rotate_left
      · (intro w hSw; (try dsimp only at hSw); go_simp; try with_reducible rfl)
      try simp only [Act.put, List.getElem_toArray, List.getElem_cons_succ, List.getElem_cons_zero, List.setIfInBounds_toArray, List.set_cons_zero, List.set_cons_succ]
      refine wpAnyH_take (i := 7) (oi := ⟨some 53, _, _, _, _, _⟩) (v := ?_) rfl (by kernel_rfl) (by kernel_rfl) (by kernel_rfl) (fun _ _ _ h => h) (Or.inl ⟨by kernel_rfl, ?_⟩) hHeld ?_
      rotate_left
      · (intro w hSw; (try dsimp only at hSw); go_simp; try with_reducible rfl)
      try simp only [Act.put, List.getElem_toArray, List.getElem_cons_succ, List.getElem_cons_zero, List.setIfInBounds_toArray, List.set_cons_zero, List.set_cons_succ]
      refine wpAnyH_take (i := 8) (oi := ⟨some 54, _, _, _, _, _⟩) (v := ?_) rfl (by kernel_rfl) (by kernel_rfl) (by kernel_rfl) (fun _ _ _ h => h) (Or.inl ⟨by kernel_rfl, ?_⟩) hHeld ?_
      rotate_left
      · (intro w hSw; (try dsimp only at hSw); go_simp; try with_reducible rfl)
      try simp only [Act.put, List.getElem_toArray, List.getElem_cons_succ, List.getElem_cons_zero, List.setIfInBounds_toArray, List.set_cons_zero, List.set_cons_succ]
      refine wpAnyH_take (i := 9) (oi := ⟨some 55, _, _, _, _, _⟩) (v := ?_) rfl (by kernel_rfl) (by kernel_rfl) (by kernel_rfl) (fun _ _ _ h => h) (Or.inl ⟨by kernel_rfl, ?_⟩) hHeld ?_
      rotate_left
      · (intro w hSw; (try dsimp only at hSw); go_simp; try with_reducible rfl)
      try simp only [Act.put, List.getElem_toArray, List.getElem_cons_succ, List.getElem_cons_zero, List.setIfInBounds_toArray, List.set_cons_zero, List.set_cons_succ]
      refine wpAnyH_take (i := 10) (oi := ⟨some 56, _, _, _, _, _⟩) (v := ?_) rfl (by kernel_rfl) (by kernel_rfl) (by kernel_rfl) (fun _ _ _ h => h) (Or.inl ⟨by kernel_rfl, ?_⟩) hHeld ?_
      rotate_left
      · (intro w hSw; (try dsimp only at hSw); go_simp; try with_reducible rfl)
      try simp only [Act.put, List.getElem_toArray, List.getElem_cons_succ, List.getElem_cons_zero, List.setIfInBounds_toArray, List.set_cons_zero, List.set_cons_succ]
      refine wpAnyH_take (i := 11) (oi := ⟨some 57, _, _, _, _, _⟩) (v := ?_) rfl (by kernel_rfl) (by kernel_rfl) (by kernel_rfl) (fun _ _ _ h => h) (Or.inl ⟨by kernel_rfl, ?_⟩) hHeld ?_
      rotate_left
      · (intro w hSw; (try dsimp only at hSw); go_simp; try with_reducible rfl)
      try simp only [Act.put, List.getElem_toArray, List.getElem_cons_succ, List.getElem_cons_zero, List.setIfInBounds_toArray, List.set_cons_zero, List.set_cons_succ]
      refine wpAnyH_take (i := 12) (oi := ⟨some 58, _, _, _, _, _⟩) (v := ?_) rfl (by kernel_rfl) (by kernel_rfl) (by kernel_rfl) (fun _ _ _ h => h) (Or.inl ⟨by kernel_rfl, ?_⟩) hHeld ?_
      rotate_left
      · (intro w hSw; (try dsimp only at hSw); go_simp; try with_reducible rfl)
      try simp only [Act.put, List.getElem_toArray, List.getElem_cons_succ, List.getElem_cons_zero, List.setIfInBounds_toArray, List.set_cons_zero, List.set_cons_succ]
      refine wpAnyH_take (i := 13) (oi := ⟨some 59, _, _, _, _, _⟩) (v := ?_) rfl (by kernel_rfl) (by kernel_rfl) (by kernel_rfl) (fun _ _ _ h => h) (Or.inl ⟨by kernel_rfl, ?_⟩) hHeld ?_
      rotate_left
      · (intro w hSw; (try dsimp only at hSw); go_simp; try with_reducible rfl)
      try simp only [Act.put, List.getElem_toArray, List.getElem_cons_succ, List.getElem_cons_zero, List.setIfInBounds_toArray, List.set_cons_zero, List.set_cons_succ]
      refine wpAnyH_take (i := 14) (oi := ⟨some 60, _, _, _, _, _⟩) (v := ?_) rfl (by kernel_rfl) (by kernel_rfl) (by kernel_rfl) (fun _ _ _ h => h) (Or.inl ⟨by kernel_rfl, ?_⟩) hHeld ?_
      rotate_left
      · (intro w hSw; (try dsimp only at hSw); go_simp; try with_reducible rfl)
      try simp only [Act.put, List.getElem_toArray, List.getElem_cons_succ, List.getElem_cons_zero, List.setIfInBounds_toArray, List.set_cons_zero, List.set_cons_succ]
      refine wpAnyH_take (i := 15) (oi := ⟨some 61, _, _, _, _, _⟩) (v := ?_) rfl (by kernel_rfl) (by kernel_rfl) (by kernel_rfl) (fun _ _ _ h => h) (Or.inl ⟨by kernel_rfl, ?_⟩) hHeld ?_
      rotate_left
      · (intro w hSw; (try dsimp only at hSw); go_simp; try with_reducible rfl)
      try simp only [Act.put, List.getElem_toArray, List.getElem_cons_succ, List.getElem_cons_zero, List.setIfInBounds_toArray, List.set_cons_zero, List.set_cons_succ]
      refine wpAnyH_take (i := 16) (oi := ⟨some 62, _, _, _, _, _⟩) (v := ?_) rfl (by kernel_rfl) (by kernel_rfl) (by kernel_rfl) (fun _ _ _ h => h) (Or.inl ⟨by kernel_rfl, ?_⟩) hHeld ?_
      rotate_left
      · (intro w hSw; (try dsimp only at hSw); go_simp; try with_reducible rfl)
      try simp only [Act.put, List.getElem_toArray, List.getElem_cons_succ, List.getElem_cons_zero, List.setIfInBounds_toArray, List.set_cons_zero, List.set_cons_succ]
      refine wpAnyH_take (i := 17) (oi := ⟨some 63, _, _, _, _, _⟩) (v := ?_) rfl (by kernel_rfl) (by kernel_rfl) (by kernel_rfl) (fun _ _ _ h => h) (Or.inl ⟨by kernel_rfl, ?_⟩) hHeld ?_
      rotate_left
      · (intro w hSw; (try dsimp only at hSw); go_simp; try with_reducible rfl)
      try simp only [Act.put, List.getElem_toArray, List.getElem_cons_succ, List.getElem_cons_zero, List.setIfInBounds_toArray, List.set_cons_zero, List.set_cons_succ]
      refine wpAnyH_take (i := 18) (oi := ⟨some 64, _, _, _, _, _⟩) (v := ?_) rfl (by kernel_rfl) (by kernel_rfl) (by kernel_rfl) (fun _ _ _ h => h) (Or.inl ⟨by kernel_rfl, ?_⟩) hHeld ?_
      rotate_left
      · (intro w hSw; (try dsimp only at hSw); go_simp; try with_reducible rfl)
      try simp only [Act.put, List.getElem_toArray, List.getElem_cons_succ, List.getElem_cons_zero, List.setIfInBounds_toArray, List.set_cons_zero, List.set_cons_succ]
      refine wpAnyH_take (i := 19) (oi := ⟨some 65, _, _, _, _, _⟩) (v := ?_) rfl (by kernel_rfl) (by kernel_rfl) (by kernel_rfl) (fun _ _ _ h => h) (Or.inl ⟨by kernel_rfl, ?_⟩) hHeld ?_
      rotate_left
      · (intro w hSw; (try dsimp only at hSw); go_simp; try with_reducible rfl)
      try simp only [Act.put, List.getElem_toArray, List.getElem_cons_succ, List.getElem_cons_zero, List.setIfInBounds_toArray, List.set_cons_zero, List.set_cons_succ]
      refine wpAnyH_take (i := 22) (oi := ⟨some 68, _, _, _, _, _⟩) (v := ?_) rfl (by kernel_rfl) (by kernel_rfl) (by kernel_rfl) (fun _ _ _ h => h) (Or.inl ⟨by kernel_rfl, ?_⟩) hHeld ?_
      rotate_left
      · (intro w hSw; (try dsimp only at hSw); go_simp; try with_reducible rfl)
      try simp only [Act.put, List.getElem_toArray, List.getElem_cons_succ, List.getElem_cons_zero, List.setIfInBounds_toArray, List.set_cons_zero, List.set_cons_succ]
      refine wpAnyH_ready (rs := [20]) (by kernel_rfl) (by simp) ?_
      refine (AllReadyH.cons rfl (fun K hK => ?_) AllReadyH.nil)
      try rw [if_pos (by kernel_rfl)]
      go_simp
      go_at_call 13
      refine (own_any _ ⟨leaf, ks, vs⟩ _ n0).mono ?_
      rintro e w10 ⟨rfl, k10⟩
      have b0 := b0.below k10 b0.lt
      have n0 := n0.below k10
      have bel := hthen bel k10
      clear k10
      try dsimp only
      refine hK.out _ _ (by have q0 := b0.cell 0; have q1 := b0.cell 1; have q2 := b0.cell 2; simp at q0 q1 q2; exact ⟨q0, q1, q2⟩) (fun hHeld => ?_)
      clear hK K
      try simp only [Act.put, List.getElem_toArray, List.getElem_cons_succ, List.getElem_cons_zero, List.setIfInBounds_toArray, List.set_cons_zero, List.set_cons_succ]
      refine wpAnyH_ready (rs := [21]) (by kernel_rfl) (by simp) ?_
      refine (AllReadyH.cons rfl (fun K hK => ?_) AllReadyH.nil)
      try rw [if_pos (by kernel_rfl)]
      go_simp
      go_at_call 17
      refine (check_to HE.out _ _ n0 M1 M2).mono ?_
      rintro e w11 ⟨rfl, k11⟩
      have b0 := b0.below k11 b0.lt
      have n0 := n0.below k11
      have bel := hthen bel k11
      clear k11
      try dsimp only
      refine hK.out _ _ (by have q0 := b0.cell 0; have q1 := b0.cell 1; have q2 := b0.cell 2; simp at q0 q1 q2; exact ⟨q0, q1, q2⟩) (fun hHeld => ?_)
      clear hK K
      try simp only [Act.put, List.getElem_toArray, List.getElem_cons_succ, List.getElem_cons_zero, List.setIfInBounds_toArray, List.set_cons_zero, List.set_cons_succ]
      refine wpAnyH_ready (rs := [23]) (by kernel_rfl) (by simp) ?_
      refine (AllReadyH.cons rfl (fun K hK => ?_) AllReadyH.nil)
      try rw [if_pos (by kernel_rfl)]
      go_simp
      go_at_call 18
      refine (rcheck_to HE.out _ _ n0 M1 M2).mono ?_
      rintro e w12 ⟨rfl, k12⟩
      have b0 := b0.below k12 b0.lt
      have n0 := n0.below k12
      have bel := hthen bel k12
      clear k12
      try dsimp only
      refine hK.out _ _ (by have q0 := b0.cell 0; have q1 := b0.cell 1; have q2 := b0.cell 2; simp at q0 q1 q2; exact ⟨q0, q1, q2⟩) (fun hHeld => ?_)
      clear hK K
      try simp only [Act.put, List.getElem_toArray, List.getElem_cons_succ, List.getElem_cons_zero, List.setIfInBounds_toArray, List.set_cons_zero, List.set_cons_succ]
      refine wpAnyH_take (i := 24) (oi := ⟨some 70, _, _, _, _, _⟩) (v := ?_) rfl (by kernel_rfl) (by kernel_rfl) (by kernel_rfl) (fun _ _ _ h => h) (Or.inl ⟨by kernel_rfl, ?_⟩) hHeld ?_
      rotate_left
      · (intro w hSw; (try dsimp only at hSw); go_simp; try with_reducible rfl)
      try simp only [Act.put, List.getElem_toArray, List.getElem_cons_succ, List.getElem_cons_zero, List.setIfInBounds_toArray, List.set_cons_zero, List.set_cons_succ]
      refine wpAnyH_take (i := 25) (oi := ⟨some 71, _, _, _, _, _⟩) (v := ?_) rfl (by kernel_rfl) (by kernel_rfl) (by kernel_rfl) (fun _ _ _ h => h) (Or.inl ⟨by kernel_rfl, ?_⟩) hHeld ?_
      rotate_left
      · (intro w hSw; (try dsimp only at hSw); go_simp; try with_reducible rfl)
      try simp only [Act.put, List.getElem_toArray, List.getElem_cons_succ, List.getElem_cons_zero, List.setIfInBounds_toArray, List.set_cons_zero, List.set_cons_succ]
      refine wpAnyH_take (i := 26) (oi := ⟨some 72, _, _, _, _, _⟩) (v := ?_) rfl (by kernel_rfl) (by kernel_rfl) (by kernel_rfl) (fun _ _ _ h => h) (Or.inl ⟨by kernel_rfl, ?_⟩) hHeld ?_
      rotate_left
      · (intro w hSw; (try dsimp only at hSw); go_simp; try with_reducible rfl)
      try simp only [Act.put, List.getElem_toArray, List.getElem_cons_succ, List.getElem_cons_zero, List.setIfInBounds_toArray, List.set_cons_zero, List.set_cons_succ]
      refine wpAnyH_take (i := 27) (oi := ⟨some 73, _, _, _, _, _⟩) (v := ?_) rfl (by kernel_rfl) (by kernel_rfl) (by kernel_rfl) (fun _ _ _ h => h) (Or.inl ⟨by kernel_rfl, ?_⟩) hHeld ?_
      rotate_left
      · (intro w hSw; (try dsimp only at hSw); go_simp; try with_reducible rfl)
      try simp only [Act.put, List.getElem_toArray, List.getElem_cons_succ, List.getElem_cons_zero, List.setIfInBounds_toArray, List.set_cons_zero, List.set_cons_succ]
      refine wpAnyH_take (i := 30) (oi := ⟨some 76, _, _, _, _, _⟩) (v := ?_) rfl (by kernel_rfl) (by kernel_rfl) (by kernel_rfl) (fun _ _ _ h => h) (Or.inl ⟨by kernel_rfl, ?_⟩) hHeld ?_
      rotate_left
      · (intro w hSw; (try dsimp only at hSw); go_simp; try with_reducible rfl)
      try simp only [Act.put, List.getElem_toArray, List.getElem_cons_succ, List.getElem_cons_zero, List.setIfInBounds_toArray, List.set_cons_zero, List.set_cons_succ]
      refine wpAnyH_ready (rs := [28]) (by kernel_rfl) (by simp) ?_
      refine (AllReadyH.cons rfl (fun K hK => ?_) AllReadyH.nil)
      try rw [if_pos (by kernel_rfl)]
      go_simp
      go_at_call 13
      refine (own_any _ ⟨leaf, ks, vs⟩ _ n0).mono ?_
      rintro e w13 ⟨rfl, k13⟩
      have b0 := b0.below k13 b0.lt
      have n0 := n0.below k13
      have bel := hthen bel k13
      clear k13
      try dsimp only
      refine hK.out _ _ (by have q0 := b0.cell 0; have q1 := b0.cell 1; have q2 := b0.cell 2; simp at q0 q1 q2; exact ⟨q0, q1, q2⟩) (fun hHeld => ?_)
      clear hK K
      try simp only [Act.put, List.getElem_toArray, List.getElem_cons_succ, List.getElem_cons_zero, List.setIfInBounds_toArray, List.set_cons_zero, List.set_cons_succ]
      refine wpAnyH_ready (rs := [29]) (by kernel_rfl) (by simp) ?_
      refine (AllReadyH.cons rfl (fun K hK => ?_) AllReadyH.nil)
      try rw [if_pos (by kernel_rfl)]
      go_simp
      go_at_call 19
      refine (size_to HZ.out _ _ n0 M1 M2).mono ?_
      rintro e w14 ⟨rfl, k14⟩
      have b0 := b0.below k14 b0.lt
      have n0 := n0.below k14
      have bel := hthen bel k14
      clear k14
      try dsimp only
      refine hK.out _ _ (by have q0 := b0.cell 0; have q1 := b0.cell 1; have q2 := b0.cell 2; simp at q0 q1 q2; exact ⟨q0, q1, q2⟩) (fun hHeld => ?_)
      clear hK K
      try simp only [Act.put, List.getElem_toArray, List.getElem_cons_succ, List.getElem_cons_zero, List.setIfInBounds_toArray, List.set_cons_zero, List.set_cons_succ]
      refine wpAnyH_ready (rs := [31]) (by kernel_rfl) (by simp) ?_
      refine (AllReadyH.cons rfl (fun K hK => ?_) AllReadyH.nil)
      try rw [if_pos (by kernel_rfl)]
      go_simp
      go_at_call 20
      refine (rsize_to HZ.out _ _ n0 M1 M2).mono ?_
      rintro e w15 ⟨rfl, k15⟩
      have b0 := b0.below k15 b0.lt
      have n0 := n0.below k15
      have bel := hthen bel k15
      clear k15
      try dsimp only
      refine hK.out _ _ (by have q0 := b0.cell 0; have q1 := b0.cell 1; have q2 := b0.cell 2; simp at q0 q1 q2; exact ⟨q0, q1, q2⟩) (fun hHeld => ?_)
      clear hK K
      try simp only [Act.put, List.getElem_toArray, List.getElem_cons_succ, List.getElem_cons_zero, List.setIfInBounds_toArray, List.set_cons_zero, List.set_cons_succ]
      refine wpAnyH_take (i := 32) (oi := ⟨some 78, _, _, _, _, _⟩) (v := ?_) rfl (by kernel_rfl) (by kernel_rfl) (by kernel_rfl) (fun _ _ _ h => h) (Or.inl ⟨by kernel_rfl, ?_⟩) hHeld ?_
      rotate_left
      · (intro w hSw; (try dsimp only at hSw); go_simp; try with_reducible rfl)
      try simp only [Act.put, List.getElem_toArray, List.getElem_cons_succ, List.getElem_cons_zero, List.setIfInBounds_toArray, List.set_cons_zero, List.set_cons_succ]
      refine wpAnyH_take (i := 33) (oi := ⟨some 79, _, _, _, _, _⟩) (v := ?_) rfl (by kernel_rfl) (by kernel_rfl) (by kernel_rfl) (fun _ _ _ h => h) (Or.inl ⟨by kernel_rfl, ?_⟩) hHeld ?_
      rotate_left
      · (intro w hSw; (try dsimp only at hSw); go_simp; try with_reducible rfl)
      try simp only [Act.put, List.getElem_toArray, List.getElem_cons_succ, List.getElem_cons_zero, List.setIfInBounds_toArray, List.set_cons_zero, List.set_cons_succ]
      refine wpAnyH_take (i := 34) (oi := ⟨some 80, _, _, _, _, _⟩) (v := ?_) rfl (by kernel_rfl) (by kernel_rfl) (by kernel_rfl) (fun _ _ _ h => h) (Or.inl ⟨by kernel_rfl, ?_⟩) hHeld ?_
      rotate_left
      · (intro w hSw; (try dsimp only at hSw); go_simp; try with_reducible rfl)
      try simp only [Act.put, List.getElem_toArray, List.getElem_cons_succ, List.getElem_cons_zero, List.setIfInBounds_toArray, List.set_cons_zero, List.set_cons_succ]
      refine wpAnyH_ready (rs := [35]) (by kernel_rfl) (by simp) ?_
      refine (AllReadyH.cons rfl (fun K hK => ?_) AllReadyH.nil)
      try rw [if_pos (by kernel_rfl)]
      go_simp
      go_at_call 11
      refine (live_ok _).mono ?_
      rintro e w16 ⟨rfl, k16⟩
      have b0 := b0.below k16 b0.lt
      have n0 := n0.below k16
      have bel := hthen bel k16
      clear k16
      try dsimp only
      refine hK.out _ _ (by have q0 := b0.cell 0; have q1 := b0.cell 1; have q2 := b0.cell 2; simp at q0 q1 q2; exact ⟨q0, q1, q2⟩) (fun hHeld => ?_)
      clear hK K
      try simp only [Act.put, List.getElem_toArray, List.getElem_cons_succ, List.getElem_cons_zero, List.setIfInBounds_toArray, List.set_cons_zero, List.set_cons_succ]
      refine wpAnyH_take (i := 36) (oi := ⟨some 82, _, _, _, _, _⟩) (v := ?_) rfl (by kernel_rfl) (by kernel_rfl) (by kernel_rfl) (fun _ _ _ h => h) (Or.inl ⟨by kernel_rfl, ?_⟩) hHeld ?_
      rotate_left
      · (intro w hSw; (try dsimp only at hSw); go_simp; try with_reducible rfl)
      try simp only [Act.put, List.getElem_toArray, List.getElem_cons_succ, List.getElem_cons_zero, List.setIfInBounds_toArray, List.set_cons_zero, List.set_cons_succ]
      refine wpAnyH_take (i := 37) (oi := ⟨some 4, _, _, _, _, _⟩) (v := ?_) rfl (by kernel_rfl) (by kernel_rfl) (by kernel_rfl) (fun _ _ _ h => h) (Or.inl ⟨by kernel_rfl, ?_⟩) hHeld ?_
      rotate_left
      · (intro w hSw; (try dsimp only at hSw); go_simp; try with_reducible rfl)
      try simp only [Act.put, List.getElem_toArray, List.getElem_cons_succ, List.getElem_cons_zero, List.setIfInBounds_toArray, List.set_cons_zero, List.set_cons_succ]
      refine wpAnyH_done (by kernel_rfl) ?_ _
      refine NoPanic.normal ?_
      go_wp2
      go_ret
      exact ⟨rfl, bel⟩

set_option maxRecDepth 100000 in
set_option maxHeartbeats 8000000 in
theorem nodeDecodes_walk (w : World) (a0 : List UInt8) (h0 : a0.length ≤ 140737488351232) :
    Calls Try.prog 4 #[.string (bstr a0)] w fun e w' => e = .returned (.bool true) ∧ Below w.heap.size w w' := by
  have szk : (bstr a0).size = a0.length := by simp [bstr, ByteArray.size]
  have bel : Below w.heap.size w w := Below.refl _ _
  by_cases hl : 1100 < a0.length
  · have q0 : decide ((a0.length : Int) > 1100) = true := decide_eq_true (by omega)
    go_enter Try.func4, Try.ntmps4
    go_wp2_with fail
    refine (live_ok _).mono ?_
    rintro e w1 ⟨rfl, k1⟩
    have bel := hthen bel k1
    clear k1
    go_wp2
    go_ret
    exact ⟨rfl, bel⟩
  · have q0 : decide ((a0.length : Int) > 1100) = false := decide_eq_false (by omega)
    obtain ⟨⟨m, f⟩, hD⟩ : ∃ p, decD a0 = p := ⟨_, rfl⟩
    obtain ⟨X1, X2⟩ := dec_small hD
    have HD := Lib.hid hD
    have qf : (f == f) = true := by simp
    clear hD
    go_enter Try.func4, Try.ntmps4
    go_wp2_with fail
    refine (dec_to HD.out h0 _).mono ?_
    rintro e w1 ⟨u1, rfl, n1, k1⟩
    have bel := hthen bel k1
    clear k1
    obtain ⟨A1, c1, C1, d1, rfl⟩ := n1.form
    go_wp2_with fail
    obtain ⟨w2, hw2⟩ : ∃ x, w1.alloc (.cells #[.bool m.leaf, .slice A1 m.keys.length c1, .slice C1 m.vals.length d1] 30) = x := ⟨_, rfl⟩
    obtain ⟨ib1, hib1⟩ : ∃ i, w1.heap.size = i := ⟨_, rfl⟩
    have b1 : Blk w2 ib1 30 #[.bool m.leaf, .slice A1 m.keys.length c1, .slice C1 m.vals.length d1] := by rw [← hw2, ← hib1]; exact Blk.new _ _ _
    have k2 : Below w1.heap.size w1 w2 := by rw [← hw2]; exact (Below.refl _ _).alloc (Nat.le_refl _) _
    have zb1 : w2.heap.size = ib1 + 1 := by rw [← hw2, ← hib1]; simp
    rw [hw2, hib1]
    have n1 := n1.below k2
    have bel := hthen bel k2
    clear k2
    clear hw2 hib1
    have b1c0 := b1.cell 0
    have b1c1 := b1.cell 1
    have b1c2 := b1.cell 2
    simp at b1c0 b1c1 b1c2
    have b1lt := b1.lt
    try (go_wp2_with fail)
    refine (rdec_to HD.out h0 _).mono ?_
    rintro e w3 ⟨u2, rfl, n2, k3⟩
    clear b1c0 b1c1 b1c2 b1lt
    have b1 := b1.below k3 b1.lt
    have n1 := n1.below k3
    have bel := hthen bel k3
    clear k3
    obtain ⟨A2, c2, C2, d2, rfl⟩ := n2.form
    have b1c0 := b1.cell 0
    have b1c1 := b1.cell 1
    have b1c2 := b1.cell 2
    simp at b1c0 b1c1 b1c2
    have b1lt := b1.lt
    go_wp2_with fail
    clear b1c0 b1c1 b1c2 b1lt
    obtain ⟨w4, hw4⟩ : ∃ x, w3.alloc (.cells #[.bool m.leaf, .slice A2 m.keys.length c2, .slice C2 m.vals.length d2] 24) = x := ⟨_, rfl⟩
    obtain ⟨ib2, hib2⟩ : ∃ i, w3.heap.size = i := ⟨_, rfl⟩
    have b2 : Blk w4 ib2 24 #[.bool m.leaf, .slice A2 m.keys.length c2, .slice C2 m.vals.length d2] := by rw [← hw4, ← hib2]; exact Blk.new _ _ _
    have k4 : Below w3.heap.size w3 w4 := by rw [← hw4]; exact (Below.refl _ _).alloc (Nat.le_refl _) _
    have zb2 : w4.heap.size = ib2 + 1 := by rw [← hw4, ← hib2]; simp
    rw [hw4, hib2]
    have b1 := b1.below k4 b1.lt
    have n1 := n1.below k4
    have n2 := n2.below k4
    have bel := hthen bel k4
    clear k4
    clear hw4 hib2
    have b1c0 := b1.cell 0
    have b1c1 := b1.cell 1
    have b1c2 := b1.cell 2
    simp at b1c0 b1c1 b1c2
    have b1lt := b1.lt
    have b2c0 := b2.cell 0
    have b2c1 := b2.cell 1
    have b2c2 := b2.cell 2
    simp at b2c0 b2c1 b2c2
    have b2lt := b2.lt
    try (go_wp2_with fail)
    clear b1c0 b1c1 b1c2 b1lt b2c0 b2c1 b2c2 b2lt
    have n1 := n1.below (Below.refl _ _).drew
    have n2 := n2.below (Below.refl _ _).drew
    have bel := bel.drew
    have b1 := b1.drew
    have b2 := b2.drew
    refine wp_region_noPanic ?_
    refine wp_region_held_drew (S := (fun w' => w'.cell? ⟨ib1, 0, none⟩ = some (.bool m.leaf) ∧ w'.cell? ⟨ib1, 1, none⟩ = some (.slice A1 m.keys.length c1) ∧ w'.cell? ⟨ib1, 2, none⟩ = some (.slice C1 m.vals.length d1) ∧ w'.cell? ⟨ib2, 0, none⟩ = some (.bool m.leaf) ∧ w'.cell? ⟨ib2, 1, none⟩ = some (.slice A2 m.keys.length c2) ∧ w'.cell? ⟨ib2, 2, none⟩ = some (.slice C2 m.vals.length d2))) (by kernel_rfl) ?hS0 (fun hHeld => ?_)
    case hS0 => (have q0 := b1.cell 0; have q1 := b1.cell 1; have q2 := b1.cell 2; have q3 := b2.cell 0; have q4 := b2.cell 1; have q5 := b2.cell 2; simp at q0 q1 q2 q3 q4 q5; exact ⟨q0, q1, q2, q3, q4, q5⟩)
    generalize hZ : w4.drew = wd5 at *
    clear hZ
    refine wpAnyH_take (i := 0) (oi := ⟨some 21, _, _, _, _, _⟩) (v := ?_) rfl (by kernel_rfl) (by kernel_rfl) (by kernel_rfl) (fun _ _ _ h => h) (Or.inl ⟨by kernel_rfl, ?_⟩) hHeld ?_
    rotate_left
    · (intro w hSw; (try dsimp only at hSw); go_simp; try with_reducible rfl)
    try simp only [Act.put, List.getElem_toArray, List.getElem_cons_succ, List.getElem_cons_zero, List.setIfInBounds_toArray, List.set_cons_zero, List.set_cons_succ]
    refine wpAnyH_take (i := 2) (oi := ⟨some 23, _, _, _, _, _⟩) (v := ?_) rfl (by kernel_rfl) (by kernel_rfl) (by kernel_rfl) (fun _ _ _ h => h) (Or.inl ⟨by kernel_rfl, ?_⟩) hHeld ?_
    rotate_left
    · (intro w hSw; (try dsimp only at hSw); go_simp; try with_reducible rfl)
    try simp only [Act.put, List.getElem_toArray, List.getElem_cons_succ, List.getElem_cons_zero, List.setIfInBounds_toArray, List.set_cons_zero, List.set_cons_succ]
    refine wpAnyH_ready (rs := [1]) (by kernel_rfl) (by simp) ?_
    refine (AllReadyH.cons rfl (fun K hK => ?_) AllReadyH.nil)
    try rw [if_pos (by kernel_rfl)]
    go_simp
    go_at_call 24
    refine (told_any _ m _ n1).mono ?_
    rintro e w6 ⟨rfl, k6⟩
    have b1 := b1.below k6 b1.lt
    have b2 := b2.below k6 b2.lt
    have n1 := n1.below k6
    have n2 := n2.below k6
    have bel := hthen bel k6
    clear k6
    try dsimp only
    refine hK.out _ _ (by have q0 := b1.cell 0; have q1 := b1.cell 1; have q2 := b1.cell 2; have q3 := b2.cell 0; have q4 := b2.cell 1; have q5 := b2.cell 2; simp at q0 q1 q2 q3 q4 q5; exact ⟨q0, q1, q2, q3, q4, q5⟩) (fun hHeld => ?_)
    clear hK K
    try simp only [Act.put, List.getElem_toArray, List.getElem_cons_succ, List.getElem_cons_zero, List.setIfInBounds_toArray, List.set_cons_zero, List.set_cons_succ]
    refine wpAnyH_ready (rs := [3]) (by kernel_rfl) (by simp) ?_
    refine (AllReadyH.cons rfl (fun K hK => ?_) AllReadyH.nil)
    try rw [if_pos (by kernel_rfl)]
    go_simp
    go_at_call 23
    refine (nsame_to rfl _ _ _ n1 n2 X1 X2).mono ?_
    rintro e w7 ⟨rfl, k7⟩
    have b1 := b1.below k7 b1.lt
    have b2 := b2.below k7 b2.lt
    have n1 := n1.below k7
    have n2 := n2.below k7
    have bel := hthen bel k7
    clear k7
    try dsimp only
    refine hK.out _ _ (by have q0 := b1.cell 0; have q1 := b1.cell 1; have q2 := b1.cell 2; have q3 := b2.cell 0; have q4 := b2.cell 1; have q5 := b2.cell 2; simp at q0 q1 q2 q3 q4 q5; exact ⟨q0, q1, q2, q3, q4, q5⟩) (fun hHeld => ?_)
    clear hK K
    try simp only [Act.put, List.getElem_toArray, List.getElem_cons_succ, List.getElem_cons_zero, List.setIfInBounds_toArray, List.set_cons_zero, List.set_cons_succ]
    refine wpAnyH_take (i := 4) (oi := ⟨some 25, _, _, _, _, _⟩) (v := ?_) rfl (by kernel_rfl) (by kernel_rfl) (by kernel_rfl) (fun _ _ _ h => h) (Or.inl ⟨by kernel_rfl, ?_⟩) hHeld ?_
    rotate_left
    · (intro w hSw; (try dsimp only at hSw); go_simp; try with_reducible rfl)
    try simp only [Act.put, List.getElem_toArray, List.getElem_cons_succ, List.getElem_cons_zero, List.setIfInBounds_toArray, List.set_cons_zero, List.set_cons_succ]
    refine wpAnyH_take (i := 5) (oi := ⟨some 26, _, _, _, _, _⟩) (v := ?_) rfl (by kernel_rfl) (by kernel_rfl) (by kernel_rfl) (fun _ _ _ h => h) (Or.inl ⟨by kernel_rfl, ?_⟩) hHeld ?_
    rotate_left
    · (intro w hSw; (try dsimp only at hSw); go_simp; try with_reducible rfl)
    try simp only [Act.put, List.getElem_toArray, List.getElem_cons_succ, List.getElem_cons_zero, List.setIfInBounds_toArray, List.set_cons_zero, List.set_cons_succ]
    refine wpAnyH_take (i := 6) (oi := ⟨some 27, _, _, _, _, _⟩) (v := ?_) rfl (by kernel_rfl) (by kernel_rfl) (by kernel_rfl) (fun _ _ _ h => h) (Or.inl ⟨by kernel_rfl, ?_⟩) hHeld ?_
    rotate_left
    · (intro w hSw; (try dsimp only at hSw); go_simp; try with_reducible rfl)
    try simp only [Act.put, List.getElem_toArray, List.getElem_cons_succ, List.getElem_cons_zero, List.setIfInBounds_toArray, List.set_cons_zero, List.set_cons_succ]
    refine wpAnyH_take (i := 7) (oi := ⟨some 28, _, _, _, _, _⟩) (v := ?_) rfl (by kernel_rfl) (by kernel_rfl) (by kernel_rfl) (fun _ _ _ h => h) (Or.inl ⟨by kernel_rfl, ?_⟩) hHeld ?_
    rotate_left
    · (intro w hSw; (try dsimp only at hSw); go_simp; try with_reducible rfl)
    try simp only [Act.put, List.getElem_toArray, List.getElem_cons_succ, List.getElem_cons_zero, List.setIfInBounds_toArray, List.set_cons_zero, List.set_cons_succ]
    refine wpAnyH_take (i := 8) (oi := ⟨some 29, _, _, _, _, _⟩) (v := ?_) rfl (by kernel_rfl) (by kernel_rfl) (by kernel_rfl) (fun _ _ _ h => h) (Or.inl ⟨by kernel_rfl, ?_⟩) hHeld ?_
    rotate_left
    · (intro w hSw; (try dsimp only at hSw); go_simp; try with_reducible rfl)
    try simp only [Act.put, List.getElem_toArray, List.getElem_cons_succ, List.getElem_cons_zero, List.setIfInBounds_toArray, List.set_cons_zero, List.set_cons_succ]
    refine wpAnyH_take (i := 9) (oi := ⟨some 30, _, _, _, _, _⟩) (v := ?_) rfl (by kernel_rfl) (by kernel_rfl) (by kernel_rfl) (fun _ _ _ h => h) (Or.inl ⟨by kernel_rfl, ?_⟩) hHeld ?_
    rotate_left
    · (intro w hSw; (try dsimp only at hSw); go_simp; try with_reducible rfl)
    try simp only [Act.put, List.getElem_toArray, List.getElem_cons_succ, List.getElem_cons_zero, List.setIfInBounds_toArray, List.set_cons_zero, List.set_cons_succ]
    refine wpAnyH_ready (rs := [10]) (by kernel_rfl) (by simp) ?_
    refine (AllReadyH.cons rfl (fun K hK => ?_) AllReadyH.nil)
    try rw [if_pos (by kernel_rfl)]
    go_simp
    go_at_call 11
    refine (live_ok _).mono ?_
    rintro e w8 ⟨rfl, k8⟩
    have b1 := b1.below k8 b1.lt
    have b2 := b2.below k8 b2.lt
    have n1 := n1.below k8
    have n2 := n2.below k8
    have bel := hthen bel k8
    clear k8
    try dsimp only
    refine hK.out _ _ (by have q0 := b1.cell 0; have q1 := b1.cell 1; have q2 := b1.cell 2; have q3 := b2.cell 0; have q4 := b2.cell 1; have q5 := b2.cell 2; simp at q0 q1 q2 q3 q4 q5; exact ⟨q0, q1, q2, q3, q4, q5⟩) (fun hHeld => ?_)
    clear hK K
    try simp only [Act.put, List.getElem_toArray, List.getElem_cons_succ, List.getElem_cons_zero, List.setIfInBounds_toArray, List.set_cons_zero, List.set_cons_succ]
    refine wpAnyH_take (i := 11) (oi := ⟨some 32, _, _, _, _, _⟩) (v := ?_) rfl (by kernel_rfl) (by kernel_rfl) (by kernel_rfl) (fun _ _ _ h => h) (Or.inl ⟨by kernel_rfl, ?_⟩) hHeld ?_
    rotate_left
    · (intro w hSw; (try dsimp only at hSw); go_simp; try with_reducible rfl)
    try simp only [Act.put, List.getElem_toArray, List.getElem_cons_succ, List.getElem_cons_zero, List.setIfInBounds_toArray, List.set_cons_zero, List.set_cons_succ]
    refine wpAnyH_take (i := 12) (oi := ⟨some 2, _, _, _, _, _⟩) (v := ?_) rfl (by kernel_rfl) (by kernel_rfl) (by kernel_rfl) (fun _ _ _ h => h) (Or.inl ⟨by kernel_rfl, ?_⟩) hHeld ?_
    rotate_left
    · (intro w hSw; (try dsimp only at hSw); go_simp; try with_reducible rfl)
    try simp only [Act.put, List.getElem_toArray, List.getElem_cons_succ, List.getElem_cons_zero, List.setIfInBounds_toArray, List.set_cons_zero, List.set_cons_succ]
    refine wpAnyH_done (by kernel_rfl) ?_ _
    refine NoPanic.normal ?_
    go_wp2
    go_ret
    exact ⟨rfl, bel⟩
end Go.Proofs.Ytiodeeliidhbgaa
