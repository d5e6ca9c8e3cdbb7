/- The walk of NodeFound. -/
import Derived.Test.YtiodeeliidhbgaaNdI
import Derived.Test.YtiodeeliidhbgaaNr
namespace Go.Proofs.Ytiodeeliidhbgaa
open Go Go.RowKit
set_option linter.unusedSimpArgs false
set_option linter.unnecessarySimpa false
set_option linter.unusedVariables false

theorem found_other {n : Nd} {key val other : List UInt8} (h : mayB n = true) (hk : plB key val = true) (hl : n.keys.length ≤ 254) (hne : other ≠ key) :
    (findN (withN n key val) other).2 = (findN n other).2 ∧ (findN (withoutN (withN n key val) key) other).2 = (findN n other).2 ∧ (findN (withoutN (withN n key val) key) key).2 = false := by
  have hm := with_may h hk hl
  have hm2 := without_may (key := key) hm
  rw [find_there hm, find_there hm2, find_there h, find_there hm2, with_keys h hk, without_keys hm]
  refine ⟨?_, ?_, ?_⟩
  · rw [decide_eq_decide, keysWith_mem h]
    exact ⟨fun e => e.resolve_left hne, .inr⟩
  · rw [decide_eq_decide, keysWithout_mem hm, with_keys h hk, keysWith_mem h]
    exact ⟨fun e => e.2.resolve_left hne, fun e => ⟨hne, .inr e⟩⟩
  · rw [decide_eq_false_iff_not, keysWithout_mem hm]
    exact fun e => e.1 rfl
theorem find_eq {n : Nd} {key : List UInt8} {b : Bool} (h : (findN n key).2 = b) : findN n key = ((findN n key).1, b) := by rw [← h]

set_option maxRecDepth 100000 in
set_option maxHeartbeats 4000000 in
theorem nodeFound_walk (w : World) (a0 : D_permafrostlaw09_Case) (v0_1 v0_2 : Value) (h0_0 : SlAt w.heap.size w IsStr 1 [v0_1] a0.n.keys) (h0_1 : SlAt w.heap.size w IsStr 1 [v0_2] a0.n.vals) (h0_2 : a0.key.length ≤ 9223372036854775807) (h0_3 : a0.val.length ≤ 9223372036854775807) (h0_4 : a0.other.length ≤ 9223372036854775807) :
    Calls Try.prog 8 #[.agg #[.bool a0.n.leaf, v0_1, v0_2, .string (bstr a0.key), .string (bstr a0.val), .string (bstr a0.other)]] w fun e w' => e = .returned (.bool true) ∧ Below w.heap.size w w' := by
  obtain ⟨⟨leaf, ks, vs⟩, key, val, other⟩ := a0
  simp only at h0_0 h0_1 h0_2 h0_3 h0_4 ⊢
  obtain ⟨s1, l1⟩ := ss_arg h0_0
  obtain ⟨s2, l2⟩ := ss_arg h0_1
  obtain ⟨A, c, rfl⟩ := s1.form
  obtain ⟨C, d, rfl⟩ := s2.form
  clear h0_0 h0_1
  have n0 : NdV w (.agg #[.bool leaf, .slice A ks.length c, .slice C vs.length d]) ⟨leaf, ks, vs⟩ := ⟨_, _, rfl, s1, s2⟩
  have bel : Below w.heap.size w w := Below.refl _ _
  have szv : (bstr val).size = val.length := by simp [bstr, ByteArray.size]
  clear s1 s2
  cases hs : smallB ⟨leaf, ks, vs⟩
  · have HS := Lib.hid hs
    clear hs
    go_enter Try.func8, Try.ntmps8
    go_wp2_with fail
    obtain ⟨w1, hw1⟩ : ∃ x, w.alloc (.cells #[.bool leaf, .slice A ks.length c, .slice C vs.length d, .string (bstr key), .string (bstr val), .string (bstr other)] 58) = x := ⟨_, rfl⟩
    obtain ⟨ib0, hib0⟩ : ∃ i, w.heap.size = i := ⟨_, rfl⟩
    have b0 : Blk w1 ib0 58 #[.bool leaf, .slice A ks.length c, .slice C vs.length d, .string (bstr key), .string (bstr val), .string (bstr other)] := by rw [← hw1, ← hib0]; exact Blk.new _ _ _
    have k1 : Below w.heap.size w w1 := by rw [← hw1]; exact (Below.refl _ _).alloc (Nat.le_refl _) _
    have zb0 : w1.heap.size = ib0 + 1 := by rw [← hw1, ← hib0]; simp
    rw [hw1, hib0]
    have n0 := n0.below k1
    have bel := hthen bel k1
    clear k1
    clear hw1 hib0
    have b0c0 := b0.cell 0
    have b0c1 := b0.cell 1
    have b0c2 := b0.cell 2
    have b0c3 := b0.cell 3
    have b0c4 := b0.cell 4
    have b0c5 := b0.cell 5
    simp at b0c0 b0c1 b0c2 b0c3 b0c4 b0c5
    have b0lt := b0.lt
    try (go_wp2_with fail)
    clear b0c0 b0c1 b0c2 b0c3 b0c4 b0c5 b0lt
    have n0 := n0.below (Below.refl _ _).drew
    have bel := bel.drew
    have b0 := b0.drew
    refine wp_region_noPanic ?_
    refine wp_region_held_drew (S := (fun w' => w'.cell? ⟨ib0, 0, none⟩ = some (.bool leaf) ∧ w'.cell? ⟨ib0, 1, none⟩ = some (.slice A ks.length c) ∧ w'.cell? ⟨ib0, 2, none⟩ = some (.slice C vs.length d) ∧ w'.cell? ⟨ib0, 3, none⟩ = some (.string (bstr key)) ∧ w'.cell? ⟨ib0, 4, none⟩ = some (.string (bstr val)) ∧ w'.cell? ⟨ib0, 5, none⟩ = some (.string (bstr other)))) (by kernel_rfl) ?hS0 (fun hHeld => ?_)
    case hS0 => (have q0 := b0.cell 0; have q1 := b0.cell 1; have q2 := b0.cell 2; have q3 := b0.cell 3; have q4 := b0.cell 4; have q5 := b0.cell 5; simp at q0 q1 q2 q3 q4 q5; exact ⟨q0, q1, q2, q3, q4, q5⟩)
    generalize hZ : w1.drew = wd2 at *
    clear hZ
    refine wpAnyH_take (i := 0) (oi := ⟨some 19, _, _, _, _, _⟩) (v := ?_) rfl (by kernel_rfl) (by kernel_rfl) (by kernel_rfl) (fun _ _ _ h => h) (Or.inl ⟨by kernel_rfl, ?_⟩) hHeld ?_
    rotate_left
    · (intro w hSw; (try dsimp only at hSw); go_simp; try with_reducible rfl)
    try simp only [Act.put, List.getElem_toArray, List.getElem_cons_succ, List.getElem_cons_zero, List.setIfInBounds_toArray, List.set_cons_zero, List.set_cons_succ]
    refine wpAnyH_take (i := 1) (oi := ⟨some 20, _, _, _, _, _⟩) (v := ?_) rfl (by kernel_rfl) (by kernel_rfl) (by kernel_rfl) (fun _ _ _ h => h) (Or.inl ⟨by kernel_rfl, ?_⟩) hHeld ?_
    rotate_left
    · (intro w hSw; (try dsimp only at hSw); go_simp; try with_reducible rfl)
    try simp only [Act.put, List.getElem_toArray, List.getElem_cons_succ, List.getElem_cons_zero, List.setIfInBounds_toArray, List.set_cons_zero, List.set_cons_succ]
    refine wpAnyH_take (i := 2) (oi := ⟨some 21, _, _, _, _, _⟩) (v := ?_) rfl (by kernel_rfl) (by kernel_rfl) (by kernel_rfl) (fun _ _ _ h => h) (Or.inl ⟨by kernel_rfl, ?_⟩) hHeld ?_
    rotate_left
    · (intro w hSw; (try dsimp only at hSw); go_simp; try with_reducible rfl)
    try simp only [Act.put, List.getElem_toArray, List.getElem_cons_succ, List.getElem_cons_zero, List.setIfInBounds_toArray, List.set_cons_zero, List.set_cons_succ]
    refine wpAnyH_take (i := 3) (oi := ⟨some 22, _, _, _, _, _⟩) (v := ?_) rfl (by kernel_rfl) (by kernel_rfl) (by kernel_rfl) (fun _ _ _ h => h) (Or.inl ⟨by kernel_rfl, ?_⟩) hHeld ?_
    rotate_left
    · (intro w hSw; (try dsimp only at hSw); go_simp; try with_reducible rfl)
    try simp only [Act.put, List.getElem_toArray, List.getElem_cons_succ, List.getElem_cons_zero, List.setIfInBounds_toArray, List.set_cons_zero, List.set_cons_succ]
    refine wpAnyH_take (i := 4) (oi := ⟨some 23, _, _, _, _, _⟩) (v := ?_) rfl (by kernel_rfl) (by kernel_rfl) (by kernel_rfl) (fun _ _ _ h => h) (Or.inl ⟨by kernel_rfl, ?_⟩) hHeld ?_
    rotate_left
    · (intro w hSw; (try dsimp only at hSw); go_simp; try with_reducible rfl)
    try simp only [Act.put, List.getElem_toArray, List.getElem_cons_succ, List.getElem_cons_zero, List.setIfInBounds_toArray, List.set_cons_zero, List.set_cons_succ]
    refine wpAnyH_take (i := 5) (oi := ⟨some 24, _, _, _, _, _⟩) (v := ?_) rfl (by kernel_rfl) (by kernel_rfl) (by kernel_rfl) (fun _ _ _ h => h) (Or.inl ⟨by kernel_rfl, ?_⟩) hHeld ?_
    rotate_left
    · (intro w hSw; (try dsimp only at hSw); go_simp; try with_reducible rfl)
    try simp only [Act.put, List.getElem_toArray, List.getElem_cons_succ, List.getElem_cons_zero, List.setIfInBounds_toArray, List.set_cons_zero, List.set_cons_succ]
    refine wpAnyH_take (i := 6) (oi := ⟨some 25, _, _, _, _, _⟩) (v := ?_) rfl (by kernel_rfl) (by kernel_rfl) (by kernel_rfl) (fun _ _ _ h => h) (Or.inl ⟨by kernel_rfl, ?_⟩) hHeld ?_
    rotate_left
    · (intro w hSw; (try dsimp only at hSw); go_simp; try with_reducible rfl)
    try simp only [Act.put, List.getElem_toArray, List.getElem_cons_succ, List.getElem_cons_zero, List.setIfInBounds_toArray, List.set_cons_zero, List.set_cons_succ]
    refine wpAnyH_take (i := 7) (oi := ⟨some 26, _, _, _, _, _⟩) (v := ?_) rfl (by kernel_rfl) (by kernel_rfl) (by kernel_rfl) (fun _ _ _ h => h) (Or.inl ⟨by kernel_rfl, ?_⟩) hHeld ?_
    rotate_left
    · (intro w hSw; (try dsimp only at hSw); go_simp; try with_reducible rfl)
    try simp only [Act.put, List.getElem_toArray, List.getElem_cons_succ, List.getElem_cons_zero, List.setIfInBounds_toArray, List.set_cons_zero, List.set_cons_succ]
    refine wpAnyH_ready (rs := [8]) (by kernel_rfl) (by simp) ?_
    refine (AllReadyH.cons rfl (fun K hK => ?_) AllReadyH.nil)
    try rw [if_pos (by kernel_rfl)]
    go_simp
    obtain ⟨w3, hX⟩ : ∃ x, wd2.alloc (.cells #[.bool false, .slice none 0 0, .slice none 0 0] 24) = x := ⟨_, rfl⟩
    obtain ⟨ib1, hib1⟩ : ∃ i, wd2.heap.size = i := ⟨_, rfl⟩
    have b1 : Blk w3 ib1 24 #[.bool false, .slice none 0 0, .slice none 0 0] := by rw [← hX, ← hib1]; exact Blk.new _ _ _
    have kab1 : Below wd2.heap.size wd2 w3 := by rw [← hX]; exact (Below.refl _ _).alloc (Nat.le_refl _) _
    rw [hX, hib1]
    clear hX
    try dsimp only
    refine hK.out _ _ (by have b0 := b0.below kab1 b0.lt; have q0 := b0.cell 0; have q1 := b0.cell 1; have q2 := b0.cell 2; have q3 := b0.cell 3; have q4 := b0.cell 4; have q5 := b0.cell 5; simp at q0 q1 q2 q3 q4 q5; exact ⟨q0, q1, q2, q3, q4, q5⟩) (fun hHeld => ?_)
    clear hK K
    try simp only [Act.put, List.getElem_toArray, List.getElem_cons_succ, List.getElem_cons_zero, List.setIfInBounds_toArray, List.set_cons_zero, List.set_cons_succ]
    refine wpAnyH_ready (rs := [9]) (by kernel_rfl) (by simp) ?_
    refine (AllReadyH.cons rfl (fun K hK => ?_) AllReadyH.nil)
    have b1z0 := b1.cell 0
    have b1f0 := b1.frozen 0
    have b1z1 := b1.cell 1
    have b1f1 := b1.frozen 1
    have b1z2 := b1.cell 2
    have b1f2 := b1.frozen 2
    simp at b1z0 b1z1 b1z2
    try rw [if_pos (by kernel_rfl)]
    go_simp
    obtain ⟨w4, hX⟩ : ∃ x, (((w3.setCell ⟨ib1, 0, none⟩ (.bool leaf)).setCell ⟨ib1, 1, none⟩ (.slice A ks.length c)).setCell ⟨ib1, 2, none⟩ (.slice C vs.length d)) = x := ⟨_, rfl⟩
    have b1n : Blk w4 ib1 24 #[.bool leaf, .slice A ks.length c, .slice C vs.length d] := by rw [← hX]; simpa using (((b1.set_ 0 (.bool leaf)).set_ 1 (.slice A ks.length c)).set_ 2 (.slice C vs.length d))
    have kbb1 : Below wd2.heap.size wd2 w4 := by rw [← hX]; exact (below_at (below_at (below_at kab1 (Nat.le_of_eq hib1) 0 (.bool leaf)) (Nat.le_of_eq hib1) 1 (.slice A ks.length c)) (Nat.le_of_eq hib1) 2 (.slice C vs.length d))
    rw [hX]
    have b0 := b0.below kbb1 b0.lt
    have n0 := n0.below kbb1
    have bel := hthen bel kbb1
    have b1 := b1n
    clear hX kbb1 kab1 b1n hib1 b1z0 b1f0 b1z1 b1f1 b1z2 b1f2
    try dsimp only
    refine hK.out _ _ (by have q0 := b0.cell 0; have q1 := b0.cell 1; have q2 := b0.cell 2; have q3 := b0.cell 3; have q4 := b0.cell 4; have q5 := b0.cell 5; simp at q0 q1 q2 q3 q4 q5; exact ⟨q0, q1, q2, q3, q4, q5⟩) (fun hHeld => ?_)
    clear hK K
    try simp only [Act.put, List.getElem_toArray, List.getElem_cons_succ, List.getElem_cons_zero, List.setIfInBounds_toArray, List.set_cons_zero, List.set_cons_succ]
    refine wpAnyH_take (i := 10) (oi := ⟨some 4, _, _, _, _, _⟩) (v := ?_) rfl (by kernel_rfl) (by kernel_rfl) (by kernel_rfl) (fun _ _ _ h => h) (Or.inl ⟨by kernel_rfl, ?_⟩) hHeld ?_
    rotate_left
    · (intro w hSw; (try dsimp only at hSw); go_simp; try with_reducible rfl)
    try simp only [Act.put, List.getElem_toArray, List.getElem_cons_succ, List.getElem_cons_zero, List.setIfInBounds_toArray, List.set_cons_zero, List.set_cons_succ]
    refine wpAnyH_take (i := 11) (oi := ⟨some 5, _, _, _, _, _⟩) (v := ?_) rfl (by kernel_rfl) (by kernel_rfl) (by kernel_rfl) (fun _ _ _ h => h) (Or.inl ⟨by kernel_rfl, ?_⟩) hHeld ?_
    rotate_left
    · (intro w hSw; (try dsimp only at hSw); go_simp; try with_reducible rfl)
    try simp only [Act.put, List.getElem_toArray, List.getElem_cons_succ, List.getElem_cons_zero, List.setIfInBounds_toArray, List.set_cons_zero, List.set_cons_succ]
    refine wpAnyH_take (i := 12) (oi := ⟨some 6, _, _, _, _, _⟩) (v := ?_) rfl (by kernel_rfl) (by kernel_rfl) (by kernel_rfl) (fun _ _ _ h => h) (Or.inl ⟨by kernel_rfl, ?_⟩) hHeld ?_
    rotate_left
    · (intro w hSw; (try dsimp only at hSw); go_simp; try with_reducible rfl)
    try simp only [Act.put, List.getElem_toArray, List.getElem_cons_succ, List.getElem_cons_zero, List.setIfInBounds_toArray, List.set_cons_zero, List.set_cons_succ]
    refine wpAnyH_done (by kernel_rfl) ?_ _
    refine NoPanic.normal ?_
    have b0c0 := b0.cell 0
    have b0c1 := b0.cell 1
    have b0c2 := b0.cell 2
    have b0c3 := b0.cell 3
    have b0c4 := b0.cell 4
    have b0c5 := b0.cell 5
    simp at b0c0 b0c1 b0c2 b0c3 b0c4 b0c5
    have b0lt := b0.lt
    have b1c0 := b1.cell 0
    have b1c1 := b1.cell 1
    have b1c2 := b1.cell 2
    simp at b1c0 b1c1 b1c2
    have b1lt := b1.lt
    go_wp2_with fail
    refine (small_to HS.out _ _ n0 l1 l2).mono ?_
    rintro e w5 ⟨rfl, k5⟩
    clear b0c0 b0c1 b0c2 b0c3 b0c4 b0c5 b0lt b1c0 b1c1 b1c2 b1lt
    have b0 := b0.below k5 b0.lt
    have b1 := b1.below k5 b1.lt
    have n0 := n0.below k5
    have bel := hthen bel k5
    clear k5
    have b0c0 := b0.cell 0
    have b0c1 := b0.cell 1
    have b0c2 := b0.cell 2
    have b0c3 := b0.cell 3
    have b0c4 := b0.cell 4
    have b0c5 := b0.cell 5
    simp at b0c0 b0c1 b0c2 b0c3 b0c4 b0c5
    have b0lt := b0.lt
    have b1c0 := b1.cell 0
    have b1c1 := b1.cell 1
    have b1c2 := b1.cell 2
    simp at b1c0 b1c1 b1c2
    have b1lt := b1.lt
    go_wp2_with fail
    refine (live_ok _).mono ?_
    rintro e w6 ⟨rfl, k6⟩
    clear b0c0 b0c1 b0c2 b0c3 b0c4 b0c5 b0lt b1c0 b1c1 b1c2 b1lt
    have b0 := b0.below k6 b0.lt
    have b1 := b1.below k6 b1.lt
    have n0 := n0.below k6
    have bel := hthen bel k6
    clear k6
    go_wp2
    go_ret
    exact ⟨rfl, bel⟩
  · obtain ⟨m1, m2⟩ := small_len hs
    simp only at m1 m2
    have HS := Lib.hid hs
    clear hs
    have M1 : ks.length ≤ 1000000 := by omega
    have M2 : vs.length ≤ 1000000 := by omega
    by_cases hl : 100 < ks.length
    · go_enter Try.func8, Try.ntmps8
      go_wp2_with fail
      obtain ⟨w1, hw1⟩ : ∃ x, w.alloc (.cells #[.bool leaf, .slice A ks.length c, .slice C vs.length d, .string (bstr key), .string (bstr val), .string (bstr other)] 58) = x := ⟨_, rfl⟩
      obtain ⟨ib0, hib0⟩ : ∃ i, w.heap.size = i := ⟨_, rfl⟩
      have b0 : Blk w1 ib0 58 #[.bool leaf, .slice A ks.length c, .slice C vs.length d, .string (bstr key), .string (bstr val), .string (bstr other)] := by rw [← hw1, ← hib0]; exact Blk.new _ _ _
      have k1 : Below w.heap.size w w1 := by rw [← hw1]; exact (Below.refl _ _).alloc (Nat.le_refl _) _
      have zb0 : w1.heap.size = ib0 + 1 := by rw [← hw1, ← hib0]; simp
      rw [hw1, hib0]
      have n0 := n0.below k1
      have bel := hthen bel k1
      clear k1
      clear hw1 hib0
      have b0c0 := b0.cell 0
      have b0c1 := b0.cell 1
      have b0c2 := b0.cell 2
      have b0c3 := b0.cell 3
      have b0c4 := b0.cell 4
      have b0c5 := b0.cell 5
      simp at b0c0 b0c1 b0c2 b0c3 b0c4 b0c5
      have b0lt := b0.lt
      try (go_wp2_with fail)
      clear b0c0 b0c1 b0c2 b0c3 b0c4 b0c5 b0lt
      have n0 := n0.below (Below.refl _ _).drew
      have bel := bel.drew
      have b0 := b0.drew
      refine wp_region_noPanic ?_
      refine wp_region_held_drew (S := (fun w' => w'.cell? ⟨ib0, 0, none⟩ = some (.bool leaf) ∧ w'.cell? ⟨ib0, 1, none⟩ = some (.slice A ks.length c) ∧ w'.cell? ⟨ib0, 2, none⟩ = some (.slice C vs.length d) ∧ w'.cell? ⟨ib0, 3, none⟩ = some (.string (bstr key)) ∧ w'.cell? ⟨ib0, 4, none⟩ = some (.string (bstr val)) ∧ w'.cell? ⟨ib0, 5, none⟩ = some (.string (bstr other)))) (by kernel_rfl) ?hS0 (fun hHeld => ?_)
      case hS0 => (have q0 := b0.cell 0; have q1 := b0.cell 1; have q2 := b0.cell 2; have q3 := b0.cell 3; have q4 := b0.cell 4; have q5 := b0.cell 5; simp at q0 q1 q2 q3 q4 q5; exact ⟨q0, q1, q2, q3, q4, q5⟩)
      generalize hZ : w1.drew = wd2 at *
      clear hZ
      refine wpAnyH_take (i := 0) (oi := ⟨some 19, _, _, _, _, _⟩) (v := ?_) rfl (by kernel_rfl) (by kernel_rfl) (by kernel_rfl) (fun _ _ _ h => h) (Or.inl ⟨by kernel_rfl, ?_⟩) hHeld ?_
      rotate_left
      · (intro w hSw; (try dsimp only at hSw); go_simp; try with_reducible rfl)
      try simp only [Act.put, List.getElem_toArray, List.getElem_cons_succ, List.getElem_cons_zero, List.setIfInBounds_toArray, List.set_cons_zero, List.set_cons_succ]
      refine wpAnyH_take (i := 1) (oi := ⟨some 20, _, _, _, _, _⟩) (v := ?_) rfl (by kernel_rfl) (by kernel_rfl) (by kernel_rfl) (fun _ _ _ h => h) (Or.inl ⟨by kernel_rfl, ?_⟩) hHeld ?_
      rotate_left
      · (intro w hSw; (try dsimp only at hSw); go_simp; try with_reducible rfl)
      try simp only [Act.put, List.getElem_toArray, List.getElem_cons_succ, List.getElem_cons_zero, List.setIfInBounds_toArray, List.set_cons_zero, List.set_cons_succ]
      refine wpAnyH_take (i := 2) (oi := ⟨some 21, _, _, _, _, _⟩) (v := ?_) rfl (by kernel_rfl) (by kernel_rfl) (by kernel_rfl) (fun _ _ _ h => h) (Or.inl ⟨by kernel_rfl, ?_⟩) hHeld ?_
      rotate_left
      · (intro w hSw; (try dsimp only at hSw); go_simp; try with_reducible rfl)
      try simp only [Act.put, List.getElem_toArray, List.getElem_cons_succ, List.getElem_cons_zero, List.setIfInBounds_toArray, List.set_cons_zero, List.set_cons_succ]
      refine wpAnyH_take (i := 3) (oi := ⟨some 22, _, _, _, _, _⟩) (v := ?_) rfl (by kernel_rfl) (by kernel_rfl) (by kernel_rfl) (fun _ _ _ h => h) (Or.inl ⟨by kernel_rfl, ?_⟩) hHeld ?_
      rotate_left
      · (intro w hSw; (try dsimp only at hSw); go_simp; try with_reducible rfl)
      try simp only [Act.put, List.getElem_toArray, List.getElem_cons_succ, List.getElem_cons_zero, List.setIfInBounds_toArray, List.set_cons_zero, List.set_cons_succ]
      refine wpAnyH_take (i := 4) (oi := ⟨some 23, _, _, _, _, _⟩) (v := ?_) rfl (by kernel_rfl) (by kernel_rfl) (by kernel_rfl) (fun _ _ _ h => h) (Or.inl ⟨by kernel_rfl, ?_⟩) hHeld ?_
      rotate_left
      · (intro w hSw; (try dsimp only at hSw); go_simp; try with_reducible rfl)
      try simp only [Act.put, List.getElem_toArray, List.getElem_cons_succ, List.getElem_cons_zero, List.setIfInBounds_toArray, List.set_cons_zero, List.set_cons_succ]
      refine wpAnyH_take (i := 5) (oi := ⟨some 24, _, _, _, _, _⟩) (v := ?_) rfl (by kernel_rfl) (by kernel_rfl) (by kernel_rfl) (fun _ _ _ h => h) (Or.inl ⟨by kernel_rfl, ?_⟩) hHeld ?_
      rotate_left
      · (intro w hSw; (try dsimp only at hSw); go_simp; try with_reducible rfl)
      try simp only [Act.put, List.getElem_toArray, List.getElem_cons_succ, List.getElem_cons_zero, List.setIfInBounds_toArray, List.set_cons_zero, List.set_cons_succ]
      refine wpAnyH_take (i := 6) (oi := ⟨some 25, _, _, _, _, _⟩) (v := ?_) rfl (by kernel_rfl) (by kernel_rfl) (by kernel_rfl) (fun _ _ _ h => h) (Or.inl ⟨by kernel_rfl, ?_⟩) hHeld ?_
      rotate_left
      · (intro w hSw; (try dsimp only at hSw); go_simp; try with_reducible rfl)
      try simp only [Act.put, List.getElem_toArray, List.getElem_cons_succ, List.getElem_cons_zero, List.setIfInBounds_toArray, List.set_cons_zero, List.set_cons_succ]
      refine wpAnyH_take (i := 7) (oi := ⟨some 26, _, _, _, _, _⟩) (v := ?_) rfl (by kernel_rfl) (by kernel_rfl) (by kernel_rfl) (fun _ _ _ h => h) (Or.inl ⟨by kernel_rfl, ?_⟩) hHeld ?_
      rotate_left
      · (intro w hSw; (try dsimp only at hSw); go_simp; try with_reducible rfl)
      try simp only [Act.put, List.getElem_toArray, List.getElem_cons_succ, List.getElem_cons_zero, List.setIfInBounds_toArray, List.set_cons_zero, List.set_cons_succ]
      refine wpAnyH_ready (rs := [8]) (by kernel_rfl) (by simp) ?_
      refine (AllReadyH.cons rfl (fun K hK => ?_) AllReadyH.nil)
      try rw [if_pos (by kernel_rfl)]
      go_simp
      obtain ⟨w3, hX⟩ : ∃ x, wd2.alloc (.cells #[.bool false, .slice none 0 0, .slice none 0 0] 24) = x := ⟨_, rfl⟩
      obtain ⟨ib1, hib1⟩ : ∃ i, wd2.heap.size = i := ⟨_, rfl⟩
      have b1 : Blk w3 ib1 24 #[.bool false, .slice none 0 0, .slice none 0 0] := by rw [← hX, ← hib1]; exact Blk.new _ _ _
      have kab1 : Below wd2.heap.size wd2 w3 := by rw [← hX]; exact (Below.refl _ _).alloc (Nat.le_refl _) _
      rw [hX, hib1]
      clear hX
      try dsimp only
      refine hK.out _ _ (by have b0 := b0.below kab1 b0.lt; have q0 := b0.cell 0; have q1 := b0.cell 1; have q2 := b0.cell 2; have q3 := b0.cell 3; have q4 := b0.cell 4; have q5 := b0.cell 5; simp at q0 q1 q2 q3 q4 q5; exact ⟨q0, q1, q2, q3, q4, q5⟩) (fun hHeld => ?_)
      clear hK K
      try simp only [Act.put, List.getElem_toArray, List.getElem_cons_succ, List.getElem_cons_zero, List.setIfInBounds_toArray, List.set_cons_zero, List.set_cons_succ]
      refine wpAnyH_ready (rs := [9]) (by kernel_rfl) (by simp) ?_
      refine (AllReadyH.cons rfl (fun K hK => ?_) AllReadyH.nil)
      have b1z0 := b1.cell 0
      have b1f0 := b1.frozen 0
      have b1z1 := b1.cell 1
      have b1f1 := b1.frozen 1
      have b1z2 := b1.cell 2
      have b1f2 := b1.frozen 2
      simp at b1z0 b1z1 b1z2
      try rw [if_pos (by kernel_rfl)]
      go_simp
      obtain ⟨w4, hX⟩ : ∃ x, (((w3.setCell ⟨ib1, 0, none⟩ (.bool leaf)).setCell ⟨ib1, 1, none⟩ (.slice A ks.length c)).setCell ⟨ib1, 2, none⟩ (.slice C vs.length d)) = x := ⟨_, rfl⟩
      have b1n : Blk w4 ib1 24 #[.bool leaf, .slice A ks.length c, .slice C vs.length d] := by rw [← hX]; simpa using (((b1.set_ 0 (.bool leaf)).set_ 1 (.slice A ks.length c)).set_ 2 (.slice C vs.length d))
      have kbb1 : Below wd2.heap.size wd2 w4 := by rw [← hX]; exact (below_at (below_at (below_at kab1 (Nat.le_of_eq hib1) 0 (.bool leaf)) (Nat.le_of_eq hib1) 1 (.slice A ks.length c)) (Nat.le_of_eq hib1) 2 (.slice C vs.length d))
      rw [hX]
      have b0 := b0.below kbb1 b0.lt
      have n0 := n0.below kbb1
      have bel := hthen bel kbb1
      have b1 := b1n
      clear hX kbb1 kab1 b1n hib1 b1z0 b1f0 b1z1 b1f1 b1z2 b1f2
      try dsimp only
      refine hK.out _ _ (by have q0 := b0.cell 0; have q1 := b0.cell 1; have q2 := b0.cell 2; have q3 := b0.cell 3; have q4 := b0.cell 4; have q5 := b0.cell 5; simp at q0 q1 q2 q3 q4 q5; exact ⟨q0, q1, q2, q3, q4, q5⟩) (fun hHeld => ?_)
      clear hK K
      try simp only [Act.put, List.getElem_toArray, List.getElem_cons_succ, List.getElem_cons_zero, List.setIfInBounds_toArray, List.set_cons_zero, List.set_cons_succ]
      refine wpAnyH_take (i := 10) (oi := ⟨some 4, _, _, _, _, _⟩) (v := ?_) rfl (by kernel_rfl) (by kernel_rfl) (by kernel_rfl) (fun _ _ _ h => h) (Or.inl ⟨by kernel_rfl, ?_⟩) hHeld ?_
      rotate_left
      · (intro w hSw; (try dsimp only at hSw); go_simp; try with_reducible rfl)
      try simp only [Act.put, List.getElem_toArray, List.getElem_cons_succ, List.getElem_cons_zero, List.setIfInBounds_toArray, List.set_cons_zero, List.set_cons_succ]
      refine wpAnyH_take (i := 11) (oi := ⟨some 5, _, _, _, _, _⟩) (v := ?_) rfl (by kernel_rfl) (by kernel_rfl) (by kernel_rfl) (fun _ _ _ h => h) (Or.inl ⟨by kernel_rfl, ?_⟩) hHeld ?_
      rotate_left
      · (intro w hSw; (try dsimp only at hSw); go_simp; try with_reducible rfl)
      try simp only [Act.put, List.getElem_toArray, List.getElem_cons_succ, List.getElem_cons_zero, List.setIfInBounds_toArray, List.set_cons_zero, List.set_cons_succ]
      refine wpAnyH_take (i := 12) (oi := ⟨some 6, _, _, _, _, _⟩) (v := ?_) rfl (by kernel_rfl) (by kernel_rfl) (by kernel_rfl) (fun _ _ _ h => h) (Or.inl ⟨by kernel_rfl, ?_⟩) hHeld ?_
      rotate_left
      · (intro w hSw; (try dsimp only at hSw); go_simp; try with_reducible rfl)
      try simp only [Act.put, List.getElem_toArray, List.getElem_cons_succ, List.getElem_cons_zero, List.setIfInBounds_toArray, List.set_cons_zero, List.set_cons_succ]
      refine wpAnyH_done (by kernel_rfl) ?_ _
      refine NoPanic.normal ?_
      have b0c0 := b0.cell 0
      have b0c1 := b0.cell 1
      have b0c2 := b0.cell 2
      have b0c3 := b0.cell 3
      have b0c4 := b0.cell 4
      have b0c5 := b0.cell 5
      simp at b0c0 b0c1 b0c2 b0c3 b0c4 b0c5
      have b0lt := b0.lt
      have b1c0 := b1.cell 0
      have b1c1 := b1.cell 1
      have b1c2 := b1.cell 2
      simp at b1c0 b1c1 b1c2
      have b1lt := b1.lt
      go_wp2_with fail
      have q0 : decide ((ks.length : Int) > 100) = true := decide_eq_true (by omega)
      refine (small_to HS.out _ _ n0 l1 l2).mono ?_
      rintro e w5 ⟨rfl, k5⟩
      clear b0c0 b0c1 b0c2 b0c3 b0c4 b0c5 b0lt b1c0 b1c1 b1c2 b1lt
      have b0 := b0.below k5 b0.lt
      have b1 := b1.below k5 b1.lt
      have n0 := n0.below k5
      have bel := hthen bel k5
      clear k5
      have b0c0 := b0.cell 0
      have b0c1 := b0.cell 1
      have b0c2 := b0.cell 2
      have b0c3 := b0.cell 3
      have b0c4 := b0.cell 4
      have b0c5 := b0.cell 5
      simp at b0c0 b0c1 b0c2 b0c3 b0c4 b0c5
      have b0lt := b0.lt
      have b1c0 := b1.cell 0
      have b1c1 := b1.cell 1
      have b1c2 := b1.cell 2
      simp at b1c0 b1c1 b1c2
      have b1lt := b1.lt
      go_wp2_with fail
      refine (live_ok _).mono ?_
      rintro e w6 ⟨rfl, k6⟩
      clear b0c0 b0c1 b0c2 b0c3 b0c4 b0c5 b0lt b1c0 b1c1 b1c2 b1lt
      have b0 := b0.below k6 b0.lt
      have b1 := b1.below k6 b1.lt
      have n0 := n0.below k6
      have bel := hthen bel k6
      clear k6
      go_wp2
      go_ret
      exact ⟨rfl, bel⟩
    have q0 : decide ((ks.length : Int) > 100) = false := decide_eq_false (by omega)
    cases hm : mayB ⟨leaf, ks, vs⟩
    · have HM := Lib.hid hm
      clear hm
      go_enter Try.func8, Try.ntmps8
      go_wp2_with fail
      obtain ⟨w1, hw1⟩ : ∃ x, w.alloc (.cells #[.bool leaf, .slice A ks.length c, .slice C vs.length d, .string (bstr key), .string (bstr val), .string (bstr other)] 58) = x := ⟨_, rfl⟩
      obtain ⟨ib0, hib0⟩ : ∃ i, w.heap.size = i := ⟨_, rfl⟩
      have b0 : Blk w1 ib0 58 #[.bool leaf, .slice A ks.length c, .slice C vs.length d, .string (bstr key), .string (bstr val), .string (bstr other)] := by rw [← hw1, ← hib0]; exact Blk.new _ _ _
      have k1 : Below w.heap.size w w1 := by rw [← hw1]; exact (Below.refl _ _).alloc (Nat.le_refl _) _
      have zb0 : w1.heap.size = ib0 + 1 := by rw [← hw1, ← hib0]; simp
      rw [hw1, hib0]
      have n0 := n0.below k1
      have bel := hthen bel k1
      clear k1
      clear hw1 hib0
      have b0c0 := b0.cell 0
      have b0c1 := b0.cell 1
      have b0c2 := b0.cell 2
      have b0c3 := b0.cell 3
      have b0c4 := b0.cell 4
      have b0c5 := b0.cell 5
      simp at b0c0 b0c1 b0c2 b0c3 b0c4 b0c5
      have b0lt := b0.lt
      try (go_wp2_with fail)
      clear b0c0 b0c1 b0c2 b0c3 b0c4 b0c5 b0lt
      have n0 := n0.below (Below.refl _ _).drew
      have bel := bel.drew
      have b0 := b0.drew
      refine wp_region_noPanic ?_
      refine wp_region_held_drew (S := (fun w' => w'.cell? ⟨ib0, 0, none⟩ = some (.bool leaf) ∧ w'.cell? ⟨ib0, 1, none⟩ = some (.slice A ks.length c) ∧ w'.cell? ⟨ib0, 2, none⟩ = some (.slice C vs.length d) ∧ w'.cell? ⟨ib0, 3, none⟩ = some (.string (bstr key)) ∧ w'.cell? ⟨ib0, 4, none⟩ = some (.string (bstr val)) ∧ w'.cell? ⟨ib0, 5, none⟩ = some (.string (bstr other)))) (by kernel_rfl) ?hS0 (fun hHeld => ?_)
      case hS0 => (have q0 := b0.cell 0; have q1 := b0.cell 1; have q2 := b0.cell 2; have q3 := b0.cell 3; have q4 := b0.cell 4; have q5 := b0.cell 5; simp at q0 q1 q2 q3 q4 q5; exact ⟨q0, q1, q2, q3, q4, q5⟩)
      generalize hZ : w1.drew = wd2 at *
      clear hZ
      refine wpAnyH_take (i := 0) (oi := ⟨some 19, _, _, _, _, _⟩) (v := ?_) rfl (by kernel_rfl) (by kernel_rfl) (by kernel_rfl) (fun _ _ _ h => h) (Or.inl ⟨by kernel_rfl, ?_⟩) hHeld ?_
      rotate_left
      · (intro w hSw; (try dsimp only at hSw); go_simp; try with_reducible rfl)
      try simp only [Act.put, List.getElem_toArray, List.getElem_cons_succ, List.getElem_cons_zero, List.setIfInBounds_toArray, List.set_cons_zero, List.set_cons_succ]
      refine wpAnyH_take (i := 1) (oi := ⟨some 20, _, _, _, _, _⟩) (v := ?_) rfl (by kernel_rfl) (by kernel_rfl) (by kernel_rfl) (fun _ _ _ h => h) (Or.inl ⟨by kernel_rfl, ?_⟩) hHeld ?_
      rotate_left
      · (intro w hSw; (try dsimp only at hSw); go_simp; try with_reducible rfl)
      try simp only [Act.put, List.getElem_toArray, List.getElem_cons_succ, List.getElem_cons_zero, List.setIfInBounds_toArray, List.set_cons_zero, List.set_cons_succ]
      refine wpAnyH_take (i := 2) (oi := ⟨some 21, _, _, _, _, _⟩) (v := ?_) rfl (by kernel_rfl) (by kernel_rfl) (by kernel_rfl) (fun _ _ _ h => h) (Or.inl ⟨by kernel_rfl, ?_⟩) hHeld ?_
      rotate_left
      · (intro w hSw; (try dsimp only at hSw); go_simp; try with_reducible rfl)
      try simp only [Act.put, List.getElem_toArray, List.getElem_cons_succ, List.getElem_cons_zero, List.setIfInBounds_toArray, List.set_cons_zero, List.set_cons_succ]
      refine wpAnyH_take (i := 3) (oi := ⟨some 22, _, _, _, _, _⟩) (v := ?_) rfl (by kernel_rfl) (by kernel_rfl) (by kernel_rfl) (fun _ _ _ h => h) (Or.inl ⟨by kernel_rfl, ?_⟩) hHeld ?_
      rotate_left
      · (intro w hSw; (try dsimp only at hSw); go_simp; try with_reducible rfl)
      try simp only [Act.put, List.getElem_toArray, List.getElem_cons_succ, List.getElem_cons_zero, List.setIfInBounds_toArray, List.set_cons_zero, List.set_cons_succ]
      refine wpAnyH_take (i := 4) (oi := ⟨some 23, _, _, _, _, _⟩) (v := ?_) rfl (by kernel_rfl) (by kernel_rfl) (by kernel_rfl) (fun _ _ _ h => h) (Or.inl ⟨by kernel_rfl, ?_⟩) hHeld ?_
      rotate_left
      · (intro w hSw; (try dsimp only at hSw); go_simp; try with_reducible rfl)
      try simp only [Act.put, List.getElem_toArray, List.getElem_cons_succ, List.getElem_cons_zero, List.setIfInBounds_toArray, List.set_cons_zero, List.set_cons_succ]
      refine wpAnyH_take (i := 5) (oi := ⟨some 24, _, _, _, _, _⟩) (v := ?_) rfl (by kernel_rfl) (by kernel_rfl) (by kernel_rfl) (fun _ _ _ h => h) (Or.inl ⟨by kernel_rfl, ?_⟩) hHeld ?_
      rotate_left
      · (intro w hSw; (try dsimp only at hSw); go_simp; try with_reducible rfl)
      try simp only [Act.put, List.getElem_toArray, List.getElem_cons_succ, List.getElem_cons_zero, List.setIfInBounds_toArray, List.set_cons_zero, List.set_cons_succ]
      refine wpAnyH_take (i := 6) (oi := ⟨some 25, _, _, _, _, _⟩) (v := ?_) rfl (by kernel_rfl) (by kernel_rfl) (by kernel_rfl) (fun _ _ _ h => h) (Or.inl ⟨by kernel_rfl, ?_⟩) hHeld ?_
      rotate_left
      · (intro w hSw; (try dsimp only at hSw); go_simp; try with_reducible rfl)
      try simp only [Act.put, List.getElem_toArray, List.getElem_cons_succ, List.getElem_cons_zero, List.setIfInBounds_toArray, List.set_cons_zero, List.set_cons_succ]
      refine wpAnyH_take (i := 7) (oi := ⟨some 26, _, _, _, _, _⟩) (v := ?_) rfl (by kernel_rfl) (by kernel_rfl) (by kernel_rfl) (fun _ _ _ h => h) (Or.inl ⟨by kernel_rfl, ?_⟩) hHeld ?_
      rotate_left
      · (intro w hSw; (try dsimp only at hSw); go_simp; try with_reducible rfl)
      try simp only [Act.put, List.getElem_toArray, List.getElem_cons_succ, List.getElem_cons_zero, List.setIfInBounds_toArray, List.set_cons_zero, List.set_cons_succ]
      refine wpAnyH_ready (rs := [8]) (by kernel_rfl) (by simp) ?_
      refine (AllReadyH.cons rfl (fun K hK => ?_) AllReadyH.nil)
      try rw [if_pos (by kernel_rfl)]
      go_simp
      obtain ⟨w3, hX⟩ : ∃ x, wd2.alloc (.cells #[.bool false, .slice none 0 0, .slice none 0 0] 24) = x := ⟨_, rfl⟩
      obtain ⟨ib1, hib1⟩ : ∃ i, wd2.heap.size = i := ⟨_, rfl⟩
      have b1 : Blk w3 ib1 24 #[.bool false, .slice none 0 0, .slice none 0 0] := by rw [← hX, ← hib1]; exact Blk.new _ _ _
      have kab1 : Below wd2.heap.size wd2 w3 := by rw [← hX]; exact (Below.refl _ _).alloc (Nat.le_refl _) _
      rw [hX, hib1]
      clear hX
      try dsimp only
      refine hK.out _ _ (by have b0 := b0.below kab1 b0.lt; have q0 := b0.cell 0; have q1 := b0.cell 1; have q2 := b0.cell 2; have q3 := b0.cell 3; have q4 := b0.cell 4; have q5 := b0.cell 5; simp at q0 q1 q2 q3 q4 q5; exact ⟨q0, q1, q2, q3, q4, q5⟩) (fun hHeld => ?_)
      clear hK K
      try simp only [Act.put, List.getElem_toArray, List.getElem_cons_succ, List.getElem_cons_zero, List.setIfInBounds_toArray, List.set_cons_zero, List.set_cons_succ]
      refine wpAnyH_ready (rs := [9]) (by kernel_rfl) (by simp) ?_
      refine (AllReadyH.cons rfl (fun K hK => ?_) AllReadyH.nil)
      have b1z0 := b1.cell 0
      have b1f0 := b1.frozen 0
      have b1z1 := b1.cell 1
      have b1f1 := b1.frozen 1
      have b1z2 := b1.cell 2
      have b1f2 := b1.frozen 2
      simp at b1z0 b1z1 b1z2
      try rw [if_pos (by kernel_rfl)]
      go_simp
      obtain ⟨w4, hX⟩ : ∃ x, (((w3.setCell ⟨ib1, 0, none⟩ (.bool leaf)).setCell ⟨ib1, 1, none⟩ (.slice A ks.length c)).setCell ⟨ib1, 2, none⟩ (.slice C vs.length d)) = x := ⟨_, rfl⟩
      have b1n : Blk w4 ib1 24 #[.bool leaf, .slice A ks.length c, .slice C vs.length d] := by rw [← hX]; simpa using (((b1.set_ 0 (.bool leaf)).set_ 1 (.slice A ks.length c)).set_ 2 (.slice C vs.length d))
      have kbb1 : Below wd2.heap.size wd2 w4 := by rw [← hX]; exact (below_at (below_at (below_at kab1 (Nat.le_of_eq hib1) 0 (.bool leaf)) (Nat.le_of_eq hib1) 1 (.slice A ks.length c)) (Nat.le_of_eq hib1) 2 (.slice C vs.length d))
      rw [hX]
      have b0 := b0.below kbb1 b0.lt
      have n0 := n0.below kbb1
      have bel := hthen bel kbb1
      have b1 := b1n
      clear hX kbb1 kab1 b1n hib1 b1z0 b1f0 b1z1 b1f1 b1z2 b1f2
      try dsimp only
      refine hK.out _ _ (by have q0 := b0.cell 0; have q1 := b0.cell 1; have q2 := b0.cell 2; have q3 := b0.cell 3; have q4 := b0.cell 4; have q5 := b0.cell 5; simp at q0 q1 q2 q3 q4 q5; exact ⟨q0, q1, q2, q3, q4, q5⟩) (fun hHeld => ?_)
      clear hK K
      try simp only [Act.put, List.getElem_toArray, List.getElem_cons_succ, List.getElem_cons_zero, List.setIfInBounds_toArray, List.set_cons_zero, List.set_cons_succ]
      refine wpAnyH_take (i := 10) (oi := ⟨some 4, _, _, _, _, _⟩) (v := ?_) rfl (by kernel_rfl) (by kernel_rfl) (by kernel_rfl) (fun _ _ _ h => h) (Or.inl ⟨by kernel_rfl, ?_⟩) hHeld ?_
      rotate_left
      · (intro w hSw; (try dsimp only at hSw); go_simp; try with_reducible rfl)
      try simp only [Act.put, List.getElem_toArray, List.getElem_cons_succ, List.getElem_cons_zero, List.setIfInBounds_toArray, List.set_cons_zero, List.set_cons_succ]
      refine wpAnyH_take (i := 11) (oi := ⟨some 5, _, _, _, _, _⟩) (v := ?_) rfl (by kernel_rfl) (by kernel_rfl) (by kernel_rfl) (fun _ _ _ h => h) (Or.inl ⟨by kernel_rfl, ?_⟩) hHeld ?_
      rotate_left
      · (intro w hSw; (try dsimp only at hSw); go_simp; try with_reducible rfl)
      try simp only [Act.put, List.getElem_toArray, List.getElem_cons_succ, List.getElem_cons_zero, List.setIfInBounds_toArray, List.set_cons_zero, List.set_cons_succ]
      refine wpAnyH_take (i := 12) (oi := ⟨some 6, _, _, _, _, _⟩) (v := ?_) rfl (by kernel_rfl) (by kernel_rfl) (by kernel_rfl) (fun _ _ _ h => h) (Or.inl ⟨by kernel_rfl, ?_⟩) hHeld ?_
      rotate_left
      · (intro w hSw; (try dsimp only at hSw); go_simp; try with_reducible rfl)
      try simp only [Act.put, List.getElem_toArray, List.getElem_cons_succ, List.getElem_cons_zero, List.setIfInBounds_toArray, List.set_cons_zero, List.set_cons_succ]
      refine wpAnyH_done (by kernel_rfl) ?_ _
      refine NoPanic.normal ?_
      have b0c0 := b0.cell 0
      have b0c1 := b0.cell 1
      have b0c2 := b0.cell 2
      have b0c3 := b0.cell 3
      have b0c4 := b0.cell 4
      have b0c5 := b0.cell 5
      simp at b0c0 b0c1 b0c2 b0c3 b0c4 b0c5
      have b0lt := b0.lt
      have b1c0 := b1.cell 0
      have b1c1 := b1.cell 1
      have b1c2 := b1.cell 2
      simp at b1c0 b1c1 b1c2
      have b1lt := b1.lt
      go_wp2_with fail
      refine (small_to HS.out _ _ n0 l1 l2).mono ?_
      rintro e w5 ⟨rfl, k5⟩
      clear b0c0 b0c1 b0c2 b0c3 b0c4 b0c5 b0lt b1c0 b1c1 b1c2 b1lt
      have b0 := b0.below k5 b0.lt
      have b1 := b1.below k5 b1.lt
      have n0 := n0.below k5
      have bel := hthen bel k5
      clear k5
      have b0c0 := b0.cell 0
      have b0c1 := b0.cell 1
      have b0c2 := b0.cell 2
      have b0c3 := b0.cell 3
      have b0c4 := b0.cell 4
      have b0c5 := b0.cell 5
      simp at b0c0 b0c1 b0c2 b0c3 b0c4 b0c5
      have b0lt := b0.lt
      have b1c0 := b1.cell 0
      have b1c1 := b1.cell 1
      have b1c2 := b1.cell 2
      simp at b1c0 b1c1 b1c2
      have b1lt := b1.lt
      go_wp2_with fail
      refine (rmay_to HM.out _ _ n0 M1 M2).mono ?_
      rintro e w6 ⟨rfl, k6⟩
      clear b0c0 b0c1 b0c2 b0c3 b0c4 b0c5 b0lt b1c0 b1c1 b1c2 b1lt
      have b0 := b0.below k6 b0.lt
      have b1 := b1.below k6 b1.lt
      have n0 := n0.below k6
      have bel := hthen bel k6
      clear k6
      have b0c0 := b0.cell 0
      have b0c1 := b0.cell 1
      have b0c2 := b0.cell 2
      have b0c3 := b0.cell 3
      have b0c4 := b0.cell 4
      have b0c5 := b0.cell 5
      simp at b0c0 b0c1 b0c2 b0c3 b0c4 b0c5
      have b0lt := b0.lt
      have b1c0 := b1.cell 0
      have b1c1 := b1.cell 1
      have b1c2 := b1.cell 2
      simp at b1c0 b1c1 b1c2
      have b1lt := b1.lt
      go_wp2_with fail
      refine (live_ok _).mono ?_
      rintro e w7 ⟨rfl, k7⟩
      clear b0c0 b0c1 b0c2 b0c3 b0c4 b0c5 b0lt b1c0 b1c1 b1c2 b1lt
      have b0 := b0.below k7 b0.lt
      have b1 := b1.below k7 b1.lt
      have n0 := n0.below k7
      have bel := hthen bel k7
      clear k7
      go_wp2
      go_ret
      exact ⟨rfl, bel⟩
    have HM := Lib.hid hm
    clear hm
    cases hky : kyB key
    · have HK := Lib.hid hky
      clear hky
      go_enter Try.func8, Try.ntmps8
      go_wp2_with fail
      obtain ⟨w1, hw1⟩ : ∃ x, w.alloc (.cells #[.bool leaf, .slice A ks.length c, .slice C vs.length d, .string (bstr key), .string (bstr val), .string (bstr other)] 58) = x := ⟨_, rfl⟩
      obtain ⟨ib0, hib0⟩ : ∃ i, w.heap.size = i := ⟨_, rfl⟩
      have b0 : Blk w1 ib0 58 #[.bool leaf, .slice A ks.length c, .slice C vs.length d, .string (bstr key), .string (bstr val), .string (bstr other)] := by rw [← hw1, ← hib0]; exact Blk.new _ _ _
      have k1 : Below w.heap.size w w1 := by rw [← hw1]; exact (Below.refl _ _).alloc (Nat.le_refl _) _
      have zb0 : w1.heap.size = ib0 + 1 := by rw [← hw1, ← hib0]; simp
      rw [hw1, hib0]
      have n0 := n0.below k1
      have bel := hthen bel k1
      clear k1
      clear hw1 hib0
      have b0c0 := b0.cell 0
      have b0c1 := b0.cell 1
      have b0c2 := b0.cell 2
      have b0c3 := b0.cell 3
      have b0c4 := b0.cell 4
      have b0c5 := b0.cell 5
      simp at b0c0 b0c1 b0c2 b0c3 b0c4 b0c5
      have b0lt := b0.lt
      try (go_wp2_with fail)
      clear b0c0 b0c1 b0c2 b0c3 b0c4 b0c5 b0lt
      have n0 := n0.below (Below.refl _ _).drew
      have bel := bel.drew
      have b0 := b0.drew
      refine wp_region_noPanic ?_
      refine wp_region_held_drew (S := (fun w' => w'.cell? ⟨ib0, 0, none⟩ = some (.bool leaf) ∧ w'.cell? ⟨ib0, 1, none⟩ = some (.slice A ks.length c) ∧ w'.cell? ⟨ib0, 2, none⟩ = some (.slice C vs.length d) ∧ w'.cell? ⟨ib0, 3, none⟩ = some (.string (bstr key)) ∧ w'.cell? ⟨ib0, 4, none⟩ = some (.string (bstr val)) ∧ w'.cell? ⟨ib0, 5, none⟩ = some (.string (bstr other)))) (by kernel_rfl) ?hS0 (fun hHeld => ?_)
      case hS0 => (have q0 := b0.cell 0; have q1 := b0.cell 1; have q2 := b0.cell 2; have q3 := b0.cell 3; have q4 := b0.cell 4; have q5 := b0.cell 5; simp at q0 q1 q2 q3 q4 q5; exact ⟨q0, q1, q2, q3, q4, q5⟩)
      generalize hZ : w1.drew = wd2 at *
      clear hZ
      refine wpAnyH_take (i := 0) (oi := ⟨some 19, _, _, _, _, _⟩) (v := ?_) rfl (by kernel_rfl) (by kernel_rfl) (by kernel_rfl) (fun _ _ _ h => h) (Or.inl ⟨by kernel_rfl, ?_⟩) hHeld ?_
      rotate_left
      · (intro w hSw; (try dsimp only at hSw); go_simp; try with_reducible rfl)
      try simp only [Act.put, List.getElem_toArray, List.getElem_cons_succ, List.getElem_cons_zero, List.setIfInBounds_toArray, List.set_cons_zero, List.set_cons_succ]
      refine wpAnyH_take (i := 1) (oi := ⟨some 20, _, _, _, _, _⟩) (v := ?_) rfl (by kernel_rfl) (by kernel_rfl) (by kernel_rfl) (fun _ _ _ h => h) (Or.inl ⟨by kernel_rfl, ?_⟩) hHeld ?_
      rotate_left
      · (intro w hSw; (try dsimp only at hSw); go_simp; try with_reducible rfl)
      try simp only [Act.put, List.getElem_toArray, List.getElem_cons_succ, List.getElem_cons_zero, List.setIfInBounds_toArray, List.set_cons_zero, List.set_cons_succ]
      refine wpAnyH_take (i := 2) (oi := ⟨some 21, _, _, _, _, _⟩) (v := ?_) rfl (by kernel_rfl) (by kernel_rfl) (by kernel_rfl) (fun _ _ _ h => h) (Or.inl ⟨by kernel_rfl, ?_⟩) hHeld ?_
      rotate_left
      · (intro w hSw; (try dsimp only at hSw); go_simp; try with_reducible rfl)
      try simp only [Act.put, List.getElem_toArray, List.getElem_cons_succ, List.getElem_cons_zero, List.setIfInBounds_toArray, List.set_cons_zero, List.set_cons_succ]
      refine wpAnyH_take (i := 3) (oi := ⟨some 22, _, _, _, _, _⟩) (v := ?_) rfl (by kernel_rfl) (by kernel_rfl) (by kernel_rfl) (fun _ _ _ h => h) (Or.inl ⟨by kernel_rfl, ?_⟩) hHeld ?_
      rotate_left
      · (intro w hSw; (try dsimp only at hSw); go_simp; try with_reducible rfl)
      try simp only [Act.put, List.getElem_toArray, List.getElem_cons_succ, List.getElem_cons_zero, List.setIfInBounds_toArray, List.set_cons_zero, List.set_cons_succ]
      refine wpAnyH_take (i := 4) (oi := ⟨some 23, _, _, _, _, _⟩) (v := ?_) rfl (by kernel_rfl) (by kernel_rfl) (by kernel_rfl) (fun _ _ _ h => h) (Or.inl ⟨by kernel_rfl, ?_⟩) hHeld ?_
      rotate_left
      · (intro w hSw; (try dsimp only at hSw); go_simp; try with_reducible rfl)
      try simp only [Act.put, List.getElem_toArray, List.getElem_cons_succ, List.getElem_cons_zero, List.setIfInBounds_toArray, List.set_cons_zero, List.set_cons_succ]
      refine wpAnyH_take (i := 5) (oi := ⟨some 24, _, _, _, _, _⟩) (v := ?_) rfl (by kernel_rfl) (by kernel_rfl) (by kernel_rfl) (fun _ _ _ h => h) (Or.inl ⟨by kernel_rfl, ?_⟩) hHeld ?_
      rotate_left
      · (intro w hSw; (try dsimp only at hSw); go_simp; try with_reducible rfl)
      try simp only [Act.put, List.getElem_toArray, List.getElem_cons_succ, List.getElem_cons_zero, List.setIfInBounds_toArray, List.set_cons_zero, List.set_cons_succ]
      refine wpAnyH_take (i := 6) (oi := ⟨some 25, _, _, _, _, _⟩) (v := ?_) rfl (by kernel_rfl) (by kernel_rfl) (by kernel_rfl) (fun _ _ _ h => h) (Or.inl ⟨by kernel_rfl, ?_⟩) hHeld ?_
      rotate_left
      · (intro w hSw; (try dsimp only at hSw); go_simp; try with_reducible rfl)
      try simp only [Act.put, List.getElem_toArray, List.getElem_cons_succ, List.getElem_cons_zero, List.setIfInBounds_toArray, List.set_cons_zero, List.set_cons_succ]
      refine wpAnyH_take (i := 7) (oi := ⟨some 26, _, _, _, _, _⟩) (v := ?_) rfl (by kernel_rfl) (by kernel_rfl) (by kernel_rfl) (fun _ _ _ h => h) (Or.inl ⟨by kernel_rfl, ?_⟩) hHeld ?_
      rotate_left
      · (intro w hSw; (try dsimp only at hSw); go_simp; try with_reducible rfl)
      try simp only [Act.put, List.getElem_toArray, List.getElem_cons_succ, List.getElem_cons_zero, List.setIfInBounds_toArray, List.set_cons_zero, List.set_cons_succ]
      refine wpAnyH_ready (rs := [8]) (by kernel_rfl) (by simp) ?_
      refine (AllReadyH.cons rfl (fun K hK => ?_) AllReadyH.nil)
      try rw [if_pos (by kernel_rfl)]
      go_simp
      obtain ⟨w3, hX⟩ : ∃ x, wd2.alloc (.cells #[.bool false, .slice none 0 0, .slice none 0 0] 24) = x := ⟨_, rfl⟩
      obtain ⟨ib1, hib1⟩ : ∃ i, wd2.heap.size = i := ⟨_, rfl⟩
      have b1 : Blk w3 ib1 24 #[.bool false, .slice none 0 0, .slice none 0 0] := by rw [← hX, ← hib1]; exact Blk.new _ _ _
      have kab1 : Below wd2.heap.size wd2 w3 := by rw [← hX]; exact (Below.refl _ _).alloc (Nat.le_refl _) _
      rw [hX, hib1]
      clear hX
      try dsimp only
      refine hK.out _ _ (by have b0 := b0.below kab1 b0.lt; have q0 := b0.cell 0; have q1 := b0.cell 1; have q2 := b0.cell 2; have q3 := b0.cell 3; have q4 := b0.cell 4; have q5 := b0.cell 5; simp at q0 q1 q2 q3 q4 q5; exact ⟨q0, q1, q2, q3, q4, q5⟩) (fun hHeld => ?_)
      clear hK K
      try simp only [Act.put, List.getElem_toArray, List.getElem_cons_succ, List.getElem_cons_zero, List.setIfInBounds_toArray, List.set_cons_zero, List.set_cons_succ]
      refine wpAnyH_ready (rs := [9]) (by kernel_rfl) (by simp) ?_
      refine (AllReadyH.cons rfl (fun K hK => ?_) AllReadyH.nil)
      have b1z0 := b1.cell 0
      have b1f0 := b1.frozen 0
      have b1z1 := b1.cell 1
      have b1f1 := b1.frozen 1
      have b1z2 := b1.cell 2
      have b1f2 := b1.frozen 2
      simp at b1z0 b1z1 b1z2
      try rw [if_pos (by kernel_rfl)]
      go_simp
      obtain ⟨w4, hX⟩ : ∃ x, (((w3.setCell ⟨ib1, 0, none⟩ (.bool leaf)).setCell ⟨ib1, 1, none⟩ (.slice A ks.length c)).setCell ⟨ib1, 2, none⟩ (.slice C vs.length d)) = x := ⟨_, rfl⟩
      have b1n : Blk w4 ib1 24 #[.bool leaf, .slice A ks.length c, .slice C vs.length d] := by rw [← hX]; simpa using (((b1.set_ 0 (.bool leaf)).set_ 1 (.slice A ks.length c)).set_ 2 (.slice C vs.length d))
      have kbb1 : Below wd2.heap.size wd2 w4 := by rw [← hX]; exact (below_at (below_at (below_at kab1 (Nat.le_of_eq hib1) 0 (.bool leaf)) (Nat.le_of_eq hib1) 1 (.slice A ks.length c)) (Nat.le_of_eq hib1) 2 (.slice C vs.length d))
      rw [hX]
      have b0 := b0.below kbb1 b0.lt
      have n0 := n0.below kbb1
      have bel := hthen bel kbb1
      have b1 := b1n
      clear hX kbb1 kab1 b1n hib1 b1z0 b1f0 b1z1 b1f1 b1z2 b1f2
      try dsimp only
      refine hK.out _ _ (by have q0 := b0.cell 0; have q1 := b0.cell 1; have q2 := b0.cell 2; have q3 := b0.cell 3; have q4 := b0.cell 4; have q5 := b0.cell 5; simp at q0 q1 q2 q3 q4 q5; exact ⟨q0, q1, q2, q3, q4, q5⟩) (fun hHeld => ?_)
      clear hK K
      try simp only [Act.put, List.getElem_toArray, List.getElem_cons_succ, List.getElem_cons_zero, List.setIfInBounds_toArray, List.set_cons_zero, List.set_cons_succ]
      refine wpAnyH_take (i := 10) (oi := ⟨some 4, _, _, _, _, _⟩) (v := ?_) rfl (by kernel_rfl) (by kernel_rfl) (by kernel_rfl) (fun _ _ _ h => h) (Or.inl ⟨by kernel_rfl, ?_⟩) hHeld ?_
      rotate_left
      · (intro w hSw; (try dsimp only at hSw); go_simp; try with_reducible rfl)
      try simp only [Act.put, List.getElem_toArray, List.getElem_cons_succ, List.getElem_cons_zero, List.setIfInBounds_toArray, List.set_cons_zero, List.set_cons_succ]
      refine wpAnyH_take (i := 11) (oi := ⟨some 5, _, _, _, _, _⟩) (v := ?_) rfl (by kernel_rfl) (by kernel_rfl) (by kernel_rfl) (fun _ _ _ h => h) (Or.inl ⟨by kernel_rfl, ?_⟩) hHeld ?_
      rotate_left
      · (intro w hSw; (try dsimp only at hSw); go_simp; try with_reducible rfl)
      try simp only [Act.put, List.getElem_toArray, List.getElem_cons_succ, List.getElem_cons_zero, List.setIfInBounds_toArray, List.set_cons_zero, List.set_cons_succ]
      refine wpAnyH_take (i := 12) (oi := ⟨some 6, _, _, _, _, _⟩) (v := ?_) rfl (by kernel_rfl) (by kernel_rfl) (by kernel_rfl) (fun _ _ _ h => h) (Or.inl ⟨by kernel_rfl, ?_⟩) hHeld ?_
      rotate_left
      · (intro w hSw; (try dsimp only at hSw); go_simp; try with_reducible rfl)
      try simp only [Act.put, List.getElem_toArray, List.getElem_cons_succ, List.getElem_cons_zero, List.setIfInBounds_toArray, List.set_cons_zero, List.set_cons_succ]
      refine wpAnyH_done (by kernel_rfl) ?_ _
      refine NoPanic.normal ?_
      have b0c0 := b0.cell 0
      have b0c1 := b0.cell 1
      have b0c2 := b0.cell 2
      have b0c3 := b0.cell 3
      have b0c4 := b0.cell 4
      have b0c5 := b0.cell 5
      simp at b0c0 b0c1 b0c2 b0c3 b0c4 b0c5
      have b0lt := b0.lt
      have b1c0 := b1.cell 0
      have b1c1 := b1.cell 1
      have b1c2 := b1.cell 2
      simp at b1c0 b1c1 b1c2
      have b1lt := b1.lt
      go_wp2_with fail
      refine (small_to HS.out _ _ n0 l1 l2).mono ?_
      rintro e w5 ⟨rfl, k5⟩
      clear b0c0 b0c1 b0c2 b0c3 b0c4 b0c5 b0lt b1c0 b1c1 b1c2 b1lt
      have b0 := b0.below k5 b0.lt
      have b1 := b1.below k5 b1.lt
      have n0 := n0.below k5
      have bel := hthen bel k5
      clear k5
      have b0c0 := b0.cell 0
      have b0c1 := b0.cell 1
      have b0c2 := b0.cell 2
      have b0c3 := b0.cell 3
      have b0c4 := b0.cell 4
      have b0c5 := b0.cell 5
      simp at b0c0 b0c1 b0c2 b0c3 b0c4 b0c5
      have b0lt := b0.lt
      have b1c0 := b1.cell 0
      have b1c1 := b1.cell 1
      have b1c2 := b1.cell 2
      simp at b1c0 b1c1 b1c2
      have b1lt := b1.lt
      go_wp2_with fail
      refine (rmay_to HM.out _ _ n0 M1 M2).mono ?_
      rintro e w6 ⟨rfl, k6⟩
      clear b0c0 b0c1 b0c2 b0c3 b0c4 b0c5 b0lt b1c0 b1c1 b1c2 b1lt
      have b0 := b0.below k6 b0.lt
      have b1 := b1.below k6 b1.lt
      have n0 := n0.below k6
      have bel := hthen bel k6
      clear k6
      have b0c0 := b0.cell 0
      have b0c1 := b0.cell 1
      have b0c2 := b0.cell 2
      have b0c3 := b0.cell 3
      have b0c4 := b0.cell 4
      have b0c5 := b0.cell 5
      simp at b0c0 b0c1 b0c2 b0c3 b0c4 b0c5
      have b0lt := b0.lt
      have b1c0 := b1.cell 0
      have b1c1 := b1.cell 1
      have b1c2 := b1.cell 2
      simp at b1c0 b1c1 b1c2
      have b1lt := b1.lt
      go_wp2_with fail
      refine (rkey_to HK.out _).mono ?_
      rintro e w9 ⟨rfl, rfl⟩
      clear b0c0 b0c1 b0c2 b0c3 b0c4 b0c5 b0lt b1c0 b1c1 b1c2 b1lt
      have b0c0 := b0.cell 0
      have b0c1 := b0.cell 1
      have b0c2 := b0.cell 2
      have b0c3 := b0.cell 3
      have b0c4 := b0.cell 4
      have b0c5 := b0.cell 5
      simp at b0c0 b0c1 b0c2 b0c3 b0c4 b0c5
      have b0lt := b0.lt
      have b1c0 := b1.cell 0
      have b1c1 := b1.cell 1
      have b1c2 := b1.cell 2
      simp at b1c0 b1c1 b1c2
      have b1lt := b1.lt
      go_wp2_with fail
      refine (live_ok _).mono ?_
      rintro e w7 ⟨rfl, k7⟩
      clear b0c0 b0c1 b0c2 b0c3 b0c4 b0c5 b0lt b1c0 b1c1 b1c2 b1lt
      have b0 := b0.below k7 b0.lt
      have b1 := b1.below k7 b1.lt
      have n0 := n0.below k7
      have bel := hthen bel k7
      clear k7
      go_wp2
      go_ret
      exact ⟨rfl, bel⟩
    have HK := Lib.hid hky
    by_cases hv : 120 < val.length
    · have q1 : decide ((val.length : Int) > 120) = true := decide_eq_true (by omega)
      clear hky
      go_enter Try.func8, Try.ntmps8
      go_wp2_with fail
      obtain ⟨w1, hw1⟩ : ∃ x, w.alloc (.cells #[.bool leaf, .slice A ks.length c, .slice C vs.length d, .string (bstr key), .string (bstr val), .string (bstr other)] 58) = x := ⟨_, rfl⟩
      obtain ⟨ib0, hib0⟩ : ∃ i, w.heap.size = i := ⟨_, rfl⟩
      have b0 : Blk w1 ib0 58 #[.bool leaf, .slice A ks.length c, .slice C vs.length d, .string (bstr key), .string (bstr val), .string (bstr other)] := by rw [← hw1, ← hib0]; exact Blk.new _ _ _
      have k1 : Below w.heap.size w w1 := by rw [← hw1]; exact (Below.refl _ _).alloc (Nat.le_refl _) _
      have zb0 : w1.heap.size = ib0 + 1 := by rw [← hw1, ← hib0]; simp
      rw [hw1, hib0]
      have n0 := n0.below k1
      have bel := hthen bel k1
      clear k1
      clear hw1 hib0
      have b0c0 := b0.cell 0
      have b0c1 := b0.cell 1
      have b0c2 := b0.cell 2
      have b0c3 := b0.cell 3
      have b0c4 := b0.cell 4
      have b0c5 := b0.cell 5
      simp at b0c0 b0c1 b0c2 b0c3 b0c4 b0c5
      have b0lt := b0.lt
      try (go_wp2_with fail)
      clear b0c0 b0c1 b0c2 b0c3 b0c4 b0c5 b0lt
      have n0 := n0.below (Below.refl _ _).drew
      have bel := bel.drew
      have b0 := b0.drew
      refine wp_region_noPanic ?_
      refine wp_region_held_drew (S := (fun w' => w'.cell? ⟨ib0, 0, none⟩ = some (.bool leaf) ∧ w'.cell? ⟨ib0, 1, none⟩ = some (.slice A ks.length c) ∧ w'.cell? ⟨ib0, 2, none⟩ = some (.slice C vs.length d) ∧ w'.cell? ⟨ib0, 3, none⟩ = some (.string (bstr key)) ∧ w'.cell? ⟨ib0, 4, none⟩ = some (.string (bstr val)) ∧ w'.cell? ⟨ib0, 5, none⟩ = some (.string (bstr other)))) (by kernel_rfl) ?hS0 (fun hHeld => ?_)
      case hS0 => (have q0 := b0.cell 0; have q1 := b0.cell 1; have q2 := b0.cell 2; have q3 := b0.cell 3; have q4 := b0.cell 4; have q5 := b0.cell 5; simp at q0 q1 q2 q3 q4 q5; exact ⟨q0, q1, q2, q3, q4, q5⟩)
      generalize hZ : w1.drew = wd2 at *
      clear hZ
      refine wpAnyH_take (i := 0) (oi := ⟨some 19, _, _, _, _, _⟩) (v := ?_) rfl (by kernel_rfl) (by kernel_rfl) (by kernel_rfl) (fun _ _ _ h => h) (Or.inl ⟨by kernel_rfl, ?_⟩) hHeld ?_
      rotate_left
      · (intro w hSw; (try dsimp only at hSw); go_simp; try with_reducible rfl)
      try simp only [Act.put, List.getElem_toArray, List.getElem_cons_succ, List.getElem_cons_zero, List.setIfInBounds_toArray, List.set_cons_zero, List.set_cons_succ]
      refine wpAnyH_take (i := 1) (oi := ⟨some 20, _, _, _, _, _⟩) (v := ?_) rfl (by kernel_rfl) (by kernel_rfl) (by kernel_rfl) (fun _ _ _ h => h) (Or.inl ⟨by kernel_rfl, ?_⟩) hHeld ?_
      rotate_left
      · (intro w hSw; (try dsimp only at hSw); go_simp; try with_reducible rfl)
      try simp only [Act.put, List.getElem_toArray, List.getElem_cons_succ, List.getElem_cons_zero, List.setIfInBounds_toArray, List.set_cons_zero, List.set_cons_succ]
      refine wpAnyH_take (i := 2) (oi := ⟨some 21, _, _, _, _, _⟩) (v := ?_) rfl (by kernel_rfl) (by kernel_rfl) (by kernel_rfl) (fun _ _ _ h => h) (Or.inl ⟨by kernel_rfl, ?_⟩) hHeld ?_
      rotate_left
      · (intro w hSw; (try dsimp only at hSw); go_simp; try with_reducible rfl)
      try simp only [Act.put, List.getElem_toArray, List.getElem_cons_succ, List.getElem_cons_zero, List.setIfInBounds_toArray, List.set_cons_zero, List.set_cons_succ]
      refine wpAnyH_take (i := 3) (oi := ⟨some 22, _, _, _, _, _⟩) (v := ?_) rfl (by kernel_rfl) (by kernel_rfl) (by kernel_rfl) (fun _ _ _ h => h) (Or.inl ⟨by kernel_rfl, ?_⟩) hHeld ?_
      rotate_left
      · (intro w hSw; (try dsimp only at hSw); go_simp; try with_reducible rfl)
      try simp only [Act.put, List.getElem_toArray, List.getElem_cons_succ, List.getElem_cons_zero, List.setIfInBounds_toArray, List.set_cons_zero, List.set_cons_succ]
      refine wpAnyH_take (i := 4) (oi := ⟨some 23, _, _, _, _, _⟩) (v := ?_) rfl (by kernel_rfl) (by kernel_rfl) (by kernel_rfl) (fun _ _ _ h => h) (Or.inl ⟨by kernel_rfl, ?_⟩) hHeld ?_
      rotate_left
      · (intro w hSw; (try dsimp only at hSw); go_simp; try with_reducible rfl)
      try simp only [Act.put, List.getElem_toArray, List.getElem_cons_succ, List.getElem_cons_zero, List.setIfInBounds_toArray, List.set_cons_zero, List.set_cons_succ]
      refine wpAnyH_take (i := 5) (oi := ⟨some 24, _, _, _, _, _⟩) (v := ?_) rfl (by kernel_rfl) (by kernel_rfl) (by kernel_rfl) (fun _ _ _ h => h) (Or.inl ⟨by kernel_rfl, ?_⟩) hHeld ?_
      rotate_left
      · (intro w hSw; (try dsimp only at hSw); go_simp; try with_reducible rfl)
      try simp only [Act.put, List.getElem_toArray, List.getElem_cons_succ, List.getElem_cons_zero, List.setIfInBounds_toArray, List.set_cons_zero, List.set_cons_succ]
      refine wpAnyH_take (i := 6) (oi := ⟨some 25, _, _, _, _, _⟩) (v := ?_) rfl (by kernel_rfl) (by kernel_rfl) (by kernel_rfl) (fun _ _ _ h => h) (Or.inl ⟨by kernel_rfl, ?_⟩) hHeld ?_
      rotate_left
      · (intro w hSw; (try dsimp only at hSw); go_simp; try with_reducible rfl)
      try simp only [Act.put, List.getElem_toArray, List.getElem_cons_succ, List.getElem_cons_zero, List.setIfInBounds_toArray, List.set_cons_zero, List.set_cons_succ]
      refine wpAnyH_take (i := 7) (oi := ⟨some 26, _, _, _, _, _⟩) (v := ?_) rfl (by kernel_rfl) (by kernel_rfl) (by kernel_rfl) (fun _ _ _ h => h) (Or.inl ⟨by kernel_rfl, ?_⟩) hHeld ?_
      rotate_left
      · (intro w hSw; (try dsimp only at hSw); go_simp; try with_reducible rfl)
      try simp only [Act.put, List.getElem_toArray, List.getElem_cons_succ, List.getElem_cons_zero, List.setIfInBounds_toArray, List.set_cons_zero, List.set_cons_succ]
      refine wpAnyH_ready (rs := [8]) (by kernel_rfl) (by simp) ?_
      refine (AllReadyH.cons rfl (fun K hK => ?_) AllReadyH.nil)
      try rw [if_pos (by kernel_rfl)]
      go_simp
      obtain ⟨w3, hX⟩ : ∃ x, wd2.alloc (.cells #[.bool false, .slice none 0 0, .slice none 0 0] 24) = x := ⟨_, rfl⟩
      obtain ⟨ib1, hib1⟩ : ∃ i, wd2.heap.size = i := ⟨_, rfl⟩
      have b1 : Blk w3 ib1 24 #[.bool false, .slice none 0 0, .slice none 0 0] := by rw [← hX, ← hib1]; exact Blk.new _ _ _
      have kab1 : Below wd2.heap.size wd2 w3 := by rw [← hX]; exact (Below.refl _ _).alloc (Nat.le_refl _) _
      rw [hX, hib1]
      clear hX
      try dsimp only
      refine hK.out _ _ (by have b0 := b0.below kab1 b0.lt; have q0 := b0.cell 0; have q1 := b0.cell 1; have q2 := b0.cell 2; have q3 := b0.cell 3; have q4 := b0.cell 4; have q5 := b0.cell 5; simp at q0 q1 q2 q3 q4 q5; exact ⟨q0, q1, q2, q3, q4, q5⟩) (fun hHeld => ?_)
      clear hK K
      try simp only [Act.put, List.getElem_toArray, List.getElem_cons_succ, List.getElem_cons_zero, List.setIfInBounds_toArray, List.set_cons_zero, List.set_cons_succ]
      refine wpAnyH_ready (rs := [9]) (by kernel_rfl) (by simp) ?_
      refine (AllReadyH.cons rfl (fun K hK => ?_) AllReadyH.nil)
      have b1z0 := b1.cell 0
      have b1f0 := b1.frozen 0
      have b1z1 := b1.cell 1
      have b1f1 := b1.frozen 1
      have b1z2 := b1.cell 2
      have b1f2 := b1.frozen 2
      simp at b1z0 b1z1 b1z2
      try rw [if_pos (by kernel_rfl)]
      go_simp
      obtain ⟨w4, hX⟩ : ∃ x, (((w3.setCell ⟨ib1, 0, none⟩ (.bool leaf)).setCell ⟨ib1, 1, none⟩ (.slice A ks.length c)).setCell ⟨ib1, 2, none⟩ (.slice C vs.length d)) = x := ⟨_, rfl⟩
      have b1n : Blk w4 ib1 24 #[.bool leaf, .slice A ks.length c, .slice C vs.length d] := by rw [← hX]; simpa using (((b1.set_ 0 (.bool leaf)).set_ 1 (.slice A ks.length c)).set_ 2 (.slice C vs.length d))
      have kbb1 : Below wd2.heap.size wd2 w4 := by rw [← hX]; exact (below_at (below_at (below_at kab1 (Nat.le_of_eq hib1) 0 (.bool leaf)) (Nat.le_of_eq hib1) 1 (.slice A ks.length c)) (Nat.le_of_eq hib1) 2 (.slice C vs.length d))
      rw [hX]
      have b0 := b0.below kbb1 b0.lt
      have n0 := n0.below kbb1
      have bel := hthen bel kbb1
      have b1 := b1n
      clear hX kbb1 kab1 b1n hib1 b1z0 b1f0 b1z1 b1f1 b1z2 b1f2
      try dsimp only
      refine hK.out _ _ (by have q0 := b0.cell 0; have q1 := b0.cell 1; have q2 := b0.cell 2; have q3 := b0.cell 3; have q4 := b0.cell 4; have q5 := b0.cell 5; simp at q0 q1 q2 q3 q4 q5; exact ⟨q0, q1, q2, q3, q4, q5⟩) (fun hHeld => ?_)
      clear hK K
      try simp only [Act.put, List.getElem_toArray, List.getElem_cons_succ, List.getElem_cons_zero, List.setIfInBounds_toArray, List.set_cons_zero, List.set_cons_succ]
      refine wpAnyH_take (i := 10) (oi := ⟨some 4, _, _, _, _, _⟩) (v := ?_) rfl (by kernel_rfl) (by kernel_rfl) (by kernel_rfl) (fun _ _ _ h => h) (Or.inl ⟨by kernel_rfl, ?_⟩) hHeld ?_
      rotate_left
      · (intro w hSw; (try dsimp only at hSw); go_simp; try with_reducible rfl)
      try simp only [Act.put, List.getElem_toArray, List.getElem_cons_succ, List.getElem_cons_zero, List.setIfInBounds_toArray, List.set_cons_zero, List.set_cons_succ]
      refine wpAnyH_take (i := 11) (oi := ⟨some 5, _, _, _, _, _⟩) (v := ?_) rfl (by kernel_rfl) (by kernel_rfl) (by kernel_rfl) (fun _ _ _ h => h) (Or.inl ⟨by kernel_rfl, ?_⟩) hHeld ?_
      rotate_left
      · (intro w hSw; (try dsimp only at hSw); go_simp; try with_reducible rfl)
      try simp only [Act.put, List.getElem_toArray, List.getElem_cons_succ, List.getElem_cons_zero, List.setIfInBounds_toArray, List.set_cons_zero, List.set_cons_succ]
      refine wpAnyH_take (i := 12) (oi := ⟨some 6, _, _, _, _, _⟩) (v := ?_) rfl (by kernel_rfl) (by kernel_rfl) (by kernel_rfl) (fun _ _ _ h => h) (Or.inl ⟨by kernel_rfl, ?_⟩) hHeld ?_
      rotate_left
      · (intro w hSw; (try dsimp only at hSw); go_simp; try with_reducible rfl)
      try simp only [Act.put, List.getElem_toArray, List.getElem_cons_succ, List.getElem_cons_zero, List.setIfInBounds_toArray, List.set_cons_zero, List.set_cons_succ]
      refine wpAnyH_done (by kernel_rfl) ?_ _
      refine NoPanic.normal ?_
      have b0c0 := b0.cell 0
      have b0c1 := b0.cell 1
      have b0c2 := b0.cell 2
      have b0c3 := b0.cell 3
      have b0c4 := b0.cell 4
      have b0c5 := b0.cell 5
      simp at b0c0 b0c1 b0c2 b0c3 b0c4 b0c5
      have b0lt := b0.lt
      have b1c0 := b1.cell 0
      have b1c1 := b1.cell 1
      have b1c2 := b1.cell 2
      simp at b1c0 b1c1 b1c2
      have b1lt := b1.lt
      go_wp2_with fail
      refine (small_to HS.out _ _ n0 l1 l2).mono ?_
      rintro e w5 ⟨rfl, k5⟩
      clear b0c0 b0c1 b0c2 b0c3 b0c4 b0c5 b0lt b1c0 b1c1 b1c2 b1lt
      have b0 := b0.below k5 b0.lt
      have b1 := b1.below k5 b1.lt
      have n0 := n0.below k5
      have bel := hthen bel k5
      clear k5
      have b0c0 := b0.cell 0
      have b0c1 := b0.cell 1
      have b0c2 := b0.cell 2
      have b0c3 := b0.cell 3
      have b0c4 := b0.cell 4
      have b0c5 := b0.cell 5
      simp at b0c0 b0c1 b0c2 b0c3 b0c4 b0c5
      have b0lt := b0.lt
      have b1c0 := b1.cell 0
      have b1c1 := b1.cell 1
      have b1c2 := b1.cell 2
      simp at b1c0 b1c1 b1c2
      have b1lt := b1.lt
      go_wp2_with fail
      refine (rmay_to HM.out _ _ n0 M1 M2).mono ?_
      rintro e w6 ⟨rfl, k6⟩
      clear b0c0 b0c1 b0c2 b0c3 b0c4 b0c5 b0lt b1c0 b1c1 b1c2 b1lt
      have b0 := b0.below k6 b0.lt
      have b1 := b1.below k6 b1.lt
      have n0 := n0.below k6
      have bel := hthen bel k6
      clear k6
      have b0c0 := b0.cell 0
      have b0c1 := b0.cell 1
      have b0c2 := b0.cell 2
      have b0c3 := b0.cell 3
      have b0c4 := b0.cell 4
      have b0c5 := b0.cell 5
      simp at b0c0 b0c1 b0c2 b0c3 b0c4 b0c5
      have b0lt := b0.lt
      have b1c0 := b1.cell 0
      have b1c1 := b1.cell 1
      have b1c2 := b1.cell 2
      simp at b1c0 b1c1 b1c2
      have b1lt := b1.lt
      go_wp2_with fail
      refine (rkey_to HK.out _).mono ?_
      rintro e w9 ⟨rfl, rfl⟩
      clear b0c0 b0c1 b0c2 b0c3 b0c4 b0c5 b0lt b1c0 b1c1 b1c2 b1lt
      have b0c0 := b0.cell 0
      have b0c1 := b0.cell 1
      have b0c2 := b0.cell 2
      have b0c3 := b0.cell 3
      have b0c4 := b0.cell 4
      have b0c5 := b0.cell 5
      simp at b0c0 b0c1 b0c2 b0c3 b0c4 b0c5
      have b0lt := b0.lt
      have b1c0 := b1.cell 0
      have b1c1 := b1.cell 1
      have b1c2 := b1.cell 2
      simp at b1c0 b1c1 b1c2
      have b1lt := b1.lt
      go_wp2_with fail
      refine (live_ok _).mono ?_
      rintro e w7 ⟨rfl, k7⟩
      clear b0c0 b0c1 b0c2 b0c3 b0c4 b0c5 b0lt b1c0 b1c1 b1c2 b1lt
      have b0 := b0.below k7 b0.lt
      have b1 := b1.below k7 b1.lt
      have n0 := n0.below k7
      have bel := hthen bel k7
      clear k7
      go_wp2
      go_ret
      exact ⟨rfl, bel⟩
    have q1 : decide ((val.length : Int) > 120) = false := decide_eq_false (by omega)
    by_cases ho : other = key
    · have q2 : (other == key) = true := by simp [ho]
      have HO := Lib.hid ho
      clear ho hky
      go_enter Try.func8, Try.ntmps8
      go_wp2_with fail
      obtain ⟨w1, hw1⟩ : ∃ x, w.alloc (.cells #[.bool leaf, .slice A ks.length c, .slice C vs.length d, .string (bstr key), .string (bstr val), .string (bstr other)] 58) = x := ⟨_, rfl⟩
      obtain ⟨ib0, hib0⟩ : ∃ i, w.heap.size = i := ⟨_, rfl⟩
      have b0 : Blk w1 ib0 58 #[.bool leaf, .slice A ks.length c, .slice C vs.length d, .string (bstr key), .string (bstr val), .string (bstr other)] := by rw [← hw1, ← hib0]; exact Blk.new _ _ _
      have k1 : Below w.heap.size w w1 := by rw [← hw1]; exact (Below.refl _ _).alloc (Nat.le_refl _) _
      have zb0 : w1.heap.size = ib0 + 1 := by rw [← hw1, ← hib0]; simp
      rw [hw1, hib0]
      have n0 := n0.below k1
      have bel := hthen bel k1
      clear k1
      clear hw1 hib0
      have b0c0 := b0.cell 0
      have b0c1 := b0.cell 1
      have b0c2 := b0.cell 2
      have b0c3 := b0.cell 3
      have b0c4 := b0.cell 4
      have b0c5 := b0.cell 5
      simp at b0c0 b0c1 b0c2 b0c3 b0c4 b0c5
      have b0lt := b0.lt
      try (go_wp2_with fail)
      clear b0c0 b0c1 b0c2 b0c3 b0c4 b0c5 b0lt
      have n0 := n0.below (Below.refl _ _).drew
      have bel := bel.drew
      have b0 := b0.drew
      refine wp_region_noPanic ?_
      refine wp_region_held_drew (S := (fun w' => w'.cell? ⟨ib0, 0, none⟩ = some (.bool leaf) ∧ w'.cell? ⟨ib0, 1, none⟩ = some (.slice A ks.length c) ∧ w'.cell? ⟨ib0, 2, none⟩ = some (.slice C vs.length d) ∧ w'.cell? ⟨ib0, 3, none⟩ = some (.string (bstr key)) ∧ w'.cell? ⟨ib0, 4, none⟩ = some (.string (bstr val)) ∧ w'.cell? ⟨ib0, 5, none⟩ = some (.string (bstr other)))) (by kernel_rfl) ?hS0 (fun hHeld => ?_)
      case hS0 => (have q0 := b0.cell 0; have q1 := b0.cell 1; have q2 := b0.cell 2; have q3 := b0.cell 3; have q4 := b0.cell 4; have q5 := b0.cell 5; simp at q0 q1 q2 q3 q4 q5; exact ⟨q0, q1, q2, q3, q4, q5⟩)
      generalize hZ : w1.drew = wd2 at *
      clear hZ
      refine wpAnyH_take (i := 0) (oi := ⟨some 19, _, _, _, _, _⟩) (v := ?_) rfl (by kernel_rfl) (by kernel_rfl) (by kernel_rfl) (fun _ _ _ h => h) (Or.inl ⟨by kernel_rfl, ?_⟩) hHeld ?_
      rotate_left
      · (intro w hSw; (try dsimp only at hSw); go_simp; try with_reducible rfl)
      try simp only [Act.put, List.getElem_toArray, List.getElem_cons_succ, List.getElem_cons_zero, List.setIfInBounds_toArray, List.set_cons_zero, List.set_cons_succ]
      refine wpAnyH_take (i := 1) (oi := ⟨some 20, _, _, _, _, _⟩) (v := ?_) rfl (by kernel_rfl) (by kernel_rfl) (by kernel_rfl) (fun _ _ _ h => h) (Or.inl ⟨by kernel_rfl, ?_⟩) hHeld ?_
      rotate_left
      · (intro w hSw; (try dsimp only at hSw); go_simp; try with_reducible rfl)
      try simp only [Act.put, List.getElem_toArray, List.getElem_cons_succ, List.getElem_cons_zero, List.setIfInBounds_toArray, List.set_cons_zero, List.set_cons_succ]
      refine wpAnyH_take (i := 2) (oi := ⟨some 21, _, _, _, _, _⟩) (v := ?_) rfl (by kernel_rfl) (by kernel_rfl) (by kernel_rfl) (fun _ _ _ h => h) (Or.inl ⟨by kernel_rfl, ?_⟩) hHeld ?_
      rotate_left
      · (intro w hSw; (try dsimp only at hSw); go_simp; try with_reducible rfl)
      try simp only [Act.put, List.getElem_toArray, List.getElem_cons_succ, List.getElem_cons_zero, List.setIfInBounds_toArray, List.set_cons_zero, List.set_cons_succ]
      refine wpAnyH_take (i := 3) (oi := ⟨some 22, _, _, _, _, _⟩) (v := ?_) rfl (by kernel_rfl) (by kernel_rfl) (by kernel_rfl) (fun _ _ _ h => h) (Or.inl ⟨by kernel_rfl, ?_⟩) hHeld ?_
      rotate_left
      · (intro w hSw; (try dsimp only at hSw); go_simp; try with_reducible rfl)
      try simp only [Act.put, List.getElem_toArray, List.getElem_cons_succ, List.getElem_cons_zero, List.setIfInBounds_toArray, List.set_cons_zero, List.set_cons_succ]
      refine wpAnyH_take (i := 4) (oi := ⟨some 23, _, _, _, _, _⟩) (v := ?_) rfl (by kernel_rfl) (by kernel_rfl) (by kernel_rfl) (fun _ _ _ h => h) (Or.inl ⟨by kernel_rfl, ?_⟩) hHeld ?_
      rotate_left
      · (intro w hSw; (try dsimp only at hSw); go_simp; try with_reducible rfl)
      try simp only [Act.put, List.getElem_toArray, List.getElem_cons_succ, List.getElem_cons_zero, List.setIfInBounds_toArray, List.set_cons_zero, List.set_cons_succ]
      refine wpAnyH_take (i := 5) (oi := ⟨some 24, _, _, _, _, _⟩) (v := ?_) rfl (by kernel_rfl) (by kernel_rfl) (by kernel_rfl) (fun _ _ _ h => h) (Or.inl ⟨by kernel_rfl, ?_⟩) hHeld ?_
      rotate_left
      · (intro w hSw; (try dsimp only at hSw); go_simp; try with_reducible rfl)
      try simp only [Act.put, List.getElem_toArray, List.getElem_cons_succ, List.getElem_cons_zero, List.setIfInBounds_toArray, List.set_cons_zero, List.set_cons_succ]
      refine wpAnyH_take (i := 6) (oi := ⟨some 25, _, _, _, _, _⟩) (v := ?_) rfl (by kernel_rfl) (by kernel_rfl) (by kernel_rfl) (fun _ _ _ h => h) (Or.inl ⟨by kernel_rfl, ?_⟩) hHeld ?_
      rotate_left
      · (intro w hSw; (try dsimp only at hSw); go_simp; try with_reducible rfl)
      try simp only [Act.put, List.getElem_toArray, List.getElem_cons_succ, List.getElem_cons_zero, List.setIfInBounds_toArray, List.set_cons_zero, List.set_cons_succ]
      refine wpAnyH_take (i := 7) (oi := ⟨some 26, _, _, _, _, _⟩) (v := ?_) rfl (by kernel_rfl) (by kernel_rfl) (by kernel_rfl) (fun _ _ _ h => h) (Or.inl ⟨by kernel_rfl, ?_⟩) hHeld ?_
      rotate_left
      · (intro w hSw; (try dsimp only at hSw); go_simp; try with_reducible rfl)
      try simp only [Act.put, List.getElem_toArray, List.getElem_cons_succ, List.getElem_cons_zero, List.setIfInBounds_toArray, List.set_cons_zero, List.set_cons_succ]
      refine wpAnyH_ready (rs := [8]) (by kernel_rfl) (by simp) ?_
      refine (AllReadyH.cons rfl (fun K hK => ?_) AllReadyH.nil)
      try rw [if_pos (by kernel_rfl)]
      go_simp
      obtain ⟨w3, hX⟩ : ∃ x, wd2.alloc (.cells #[.bool false, .slice none 0 0, .slice none 0 0] 24) = x := ⟨_, rfl⟩
      obtain ⟨ib1, hib1⟩ : ∃ i, wd2.heap.size = i := ⟨_, rfl⟩
      have b1 : Blk w3 ib1 24 #[.bool false, .slice none 0 0, .slice none 0 0] := by rw [← hX, ← hib1]; exact Blk.new _ _ _
      have kab1 : Below wd2.heap.size wd2 w3 := by rw [← hX]; exact (Below.refl _ _).alloc (Nat.le_refl _) _
      rw [hX, hib1]
      clear hX
      try dsimp only
      refine hK.out _ _ (by have b0 := b0.below kab1 b0.lt; have q0 := b0.cell 0; have q1 := b0.cell 1; have q2 := b0.cell 2; have q3 := b0.cell 3; have q4 := b0.cell 4; have q5 := b0.cell 5; simp at q0 q1 q2 q3 q4 q5; exact ⟨q0, q1, q2, q3, q4, q5⟩) (fun hHeld => ?_)
      clear hK K
      try simp only [Act.put, List.getElem_toArray, List.getElem_cons_succ, List.getElem_cons_zero, List.setIfInBounds_toArray, List.set_cons_zero, List.set_cons_succ]
      refine wpAnyH_ready (rs := [9]) (by kernel_rfl) (by simp) ?_
      refine (AllReadyH.cons rfl (fun K hK => ?_) AllReadyH.nil)
      have b1z0 := b1.cell 0
      have b1f0 := b1.frozen 0
      have b1z1 := b1.cell 1
      have b1f1 := b1.frozen 1
      have b1z2 := b1.cell 2
      have b1f2 := b1.frozen 2
      simp at b1z0 b1z1 b1z2
      try rw [if_pos (by kernel_rfl)]
      go_simp
      obtain ⟨w4, hX⟩ : ∃ x, (((w3.setCell ⟨ib1, 0, none⟩ (.bool leaf)).setCell ⟨ib1, 1, none⟩ (.slice A ks.length c)).setCell ⟨ib1, 2, none⟩ (.slice C vs.length d)) = x := ⟨_, rfl⟩
      have b1n : Blk w4 ib1 24 #[.bool leaf, .slice A ks.length c, .slice C vs.length d] := by rw [← hX]; simpa using (((b1.set_ 0 (.bool leaf)).set_ 1 (.slice A ks.length c)).set_ 2 (.slice C vs.length d))
      have kbb1 : Below wd2.heap.size wd2 w4 := by rw [← hX]; exact (below_at (below_at (below_at kab1 (Nat.le_of_eq hib1) 0 (.bool leaf)) (Nat.le_of_eq hib1) 1 (.slice A ks.length c)) (Nat.le_of_eq hib1) 2 (.slice C vs.length d))
      rw [hX]
      have b0 := b0.below kbb1 b0.lt
      have n0 := n0.below kbb1
      have bel := hthen bel kbb1
      have b1 := b1n
      clear hX kbb1 kab1 b1n hib1 b1z0 b1f0 b1z1 b1f1 b1z2 b1f2
      try dsimp only
      refine hK.out _ _ (by have q0 := b0.cell 0; have q1 := b0.cell 1; have q2 := b0.cell 2; have q3 := b0.cell 3; have q4 := b0.cell 4; have q5 := b0.cell 5; simp at q0 q1 q2 q3 q4 q5; exact ⟨q0, q1, q2, q3, q4, q5⟩) (fun hHeld => ?_)
      clear hK K
      try simp only [Act.put, List.getElem_toArray, List.getElem_cons_succ, List.getElem_cons_zero, List.setIfInBounds_toArray, List.set_cons_zero, List.set_cons_succ]
      refine wpAnyH_take (i := 10) (oi := ⟨some 4, _, _, _, _, _⟩) (v := ?_) rfl (by kernel_rfl) (by kernel_rfl) (by kernel_rfl) (fun _ _ _ h => h) (Or.inl ⟨by kernel_rfl, ?_⟩) hHeld ?_
      rotate_left
      · (intro w hSw; (try dsimp only at hSw); go_simp; try with_reducible rfl)
      try simp only [Act.put, List.getElem_toArray, List.getElem_cons_succ, List.getElem_cons_zero, List.setIfInBounds_toArray, List.set_cons_zero, List.set_cons_succ]
      refine wpAnyH_take (i := 11) (oi := ⟨some 5, _, _, _, _, _⟩) (v := ?_) rfl (by kernel_rfl) (by kernel_rfl) (by kernel_rfl) (fun _ _ _ h => h) (Or.inl ⟨by kernel_rfl, ?_⟩) hHeld ?_
      rotate_left
      · (intro w hSw; (try dsimp only at hSw); go_simp; try with_reducible rfl)
      try simp only [Act.put, List.getElem_toArray, List.getElem_cons_succ, List.getElem_cons_zero, List.setIfInBounds_toArray, List.set_cons_zero, List.set_cons_succ]
      refine wpAnyH_take (i := 12) (oi := ⟨some 6, _, _, _, _, _⟩) (v := ?_) rfl (by kernel_rfl) (by kernel_rfl) (by kernel_rfl) (fun _ _ _ h => h) (Or.inl ⟨by kernel_rfl, ?_⟩) hHeld ?_
      rotate_left
      · (intro w hSw; (try dsimp only at hSw); go_simp; try with_reducible rfl)
      try simp only [Act.put, List.getElem_toArray, List.getElem_cons_succ, List.getElem_cons_zero, List.setIfInBounds_toArray, List.set_cons_zero, List.set_cons_succ]
      refine wpAnyH_done (by kernel_rfl) ?_ _
      refine NoPanic.normal ?_
      have b0c0 := b0.cell 0
      have b0c1 := b0.cell 1
      have b0c2 := b0.cell 2
      have b0c3 := b0.cell 3
      have b0c4 := b0.cell 4
      have b0c5 := b0.cell 5
      simp at b0c0 b0c1 b0c2 b0c3 b0c4 b0c5
      have b0lt := b0.lt
      have b1c0 := b1.cell 0
      have b1c1 := b1.cell 1
      have b1c2 := b1.cell 2
      simp at b1c0 b1c1 b1c2
      have b1lt := b1.lt
      go_wp2_with fail
      refine (small_to HS.out _ _ n0 l1 l2).mono ?_
      rintro e w5 ⟨rfl, k5⟩
      clear b0c0 b0c1 b0c2 b0c3 b0c4 b0c5 b0lt b1c0 b1c1 b1c2 b1lt
      have b0 := b0.below k5 b0.lt
      have b1 := b1.below k5 b1.lt
      have n0 := n0.below k5
      have bel := hthen bel k5
      clear k5
      have b0c0 := b0.cell 0
      have b0c1 := b0.cell 1
      have b0c2 := b0.cell 2
      have b0c3 := b0.cell 3
      have b0c4 := b0.cell 4
      have b0c5 := b0.cell 5
      simp at b0c0 b0c1 b0c2 b0c3 b0c4 b0c5
      have b0lt := b0.lt
      have b1c0 := b1.cell 0
      have b1c1 := b1.cell 1
      have b1c2 := b1.cell 2
      simp at b1c0 b1c1 b1c2
      have b1lt := b1.lt
      go_wp2_with fail
      refine (rmay_to HM.out _ _ n0 M1 M2).mono ?_
      rintro e w6 ⟨rfl, k6⟩
      clear b0c0 b0c1 b0c2 b0c3 b0c4 b0c5 b0lt b1c0 b1c1 b1c2 b1lt
      have b0 := b0.below k6 b0.lt
      have b1 := b1.below k6 b1.lt
      have n0 := n0.below k6
      have bel := hthen bel k6
      clear k6
      have b0c0 := b0.cell 0
      have b0c1 := b0.cell 1
      have b0c2 := b0.cell 2
      have b0c3 := b0.cell 3
      have b0c4 := b0.cell 4
      have b0c5 := b0.cell 5
      simp at b0c0 b0c1 b0c2 b0c3 b0c4 b0c5
      have b0lt := b0.lt
      have b1c0 := b1.cell 0
      have b1c1 := b1.cell 1
      have b1c2 := b1.cell 2
      simp at b1c0 b1c1 b1c2
      have b1lt := b1.lt
      go_wp2_with fail
      refine (rkey_to HK.out _).mono ?_
      rintro e w9 ⟨rfl, rfl⟩
      clear b0c0 b0c1 b0c2 b0c3 b0c4 b0c5 b0lt b1c0 b1c1 b1c2 b1lt
      have b0c0 := b0.cell 0
      have b0c1 := b0.cell 1
      have b0c2 := b0.cell 2
      have b0c3 := b0.cell 3
      have b0c4 := b0.cell 4
      have b0c5 := b0.cell 5
      simp at b0c0 b0c1 b0c2 b0c3 b0c4 b0c5
      have b0lt := b0.lt
      have b1c0 := b1.cell 0
      have b1c1 := b1.cell 1
      have b1c2 := b1.cell 2
      simp at b1c0 b1c1 b1c2
      have b1lt := b1.lt
      go_wp2_with fail
      refine (live_ok _).mono ?_
      rintro e w7 ⟨rfl, k7⟩
      clear b0c0 b0c1 b0c2 b0c3 b0c4 b0c5 b0lt b1c0 b1c1 b1c2 b1lt
      have b0 := b0.below k7 b0.lt
      have b1 := b1.below k7 b1.lt
      have n0 := n0.below k7
      have bel := hthen bel k7
      clear k7
      go_wp2
      go_ret
      exact ⟨rfl, bel⟩
    have q2 : (other == key) = false := beq_eq_false_iff_ne.2 ho
    have hpl : plB key val = true := by unfold plB; rw [hky, decide_eq_true (by omega)]; rfl
    obtain ⟨f1, f2, f3⟩ := found_other (n := ⟨leaf, ks, vs⟩) (other := other) HM.out hpl (by show ks.length ≤ 254; omega) ho
    obtain ⟨g1, g2, g3⟩ := with_found (n := ⟨leaf, ks, vs⟩) HM.out hpl (by show ks.length ≤ 254; omega)
    obtain ⟨p, hp⟩ : ∃ p, placeN ⟨leaf, ks, vs⟩ key = p := ⟨_, rfl⟩
    rw [hp] at g1 g2 g3
    have xm := with_may (n := ⟨leaf, ks, vs⟩) HM.out hpl (by show ks.length ≤ 254; omega)
    obtain ⟨x1, x2⟩ := may_small xm
    obtain ⟨X, hX⟩ : ∃ X, withN ⟨leaf, ks, vs⟩ key val = X := ⟨_, rfl⟩
    rw [hX] at f1 f2 f3 g1 g2 g3 xm x1 x2
    have ym := without_may (key := key) xm
    obtain ⟨y1, y2⟩ := may_small ym
    obtain ⟨Y, hY⟩ : ∃ Y, withoutN X key = Y := ⟨_, rfl⟩
    rw [hY] at f2 f3 y1 y2
    obtain ⟨B, hB⟩ : ∃ B, (findN ⟨leaf, ks, vs⟩ other).2 = B := ⟨_, rfl⟩
    rw [hB] at f1 f2
    have e0 := find_eq hB
    have e1 := find_eq f1
    have e2 := find_eq f2
    have e3 := find_eq f3
    have X1 : X.keys.length ≤ 1000000 := by omega
    have X2 : X.vals.length ≤ 1000000 := by omega
    have Y1 : Y.keys.length ≤ 1000000 := by omega
    have Y2 : Y.vals.length ≤ 1000000 := by omega
    have HX := Lib.hid hX
    have HY := Lib.hid hY
    have E0 := Lib.hid e0
    have E1 := Lib.hid e1
    have E2 := Lib.hid e2
    have E3 := Lib.hid e3
    have G1 := Lib.hid g1
    have G3 := Lib.hid g3
    clear hX hY e0 e1 e2 e3 g1 g3 f1 f2 f3 hB hp hky xm ym ho x1 x2 y1 y2
    go_enter Try.func8, Try.ntmps8
    go_wp2_with fail
    obtain ⟨w1, hw1⟩ : ∃ x, w.alloc (.cells #[.bool leaf, .slice A ks.length c, .slice C vs.length d, .string (bstr key), .string (bstr val), .string (bstr other)] 58) = x := ⟨_, rfl⟩
    obtain ⟨ib0, hib0⟩ : ∃ i, w.heap.size = i := ⟨_, rfl⟩
    have b0 : Blk w1 ib0 58 #[.bool leaf, .slice A ks.length c, .slice C vs.length d, .string (bstr key), .string (bstr val), .string (bstr other)] := by rw [← hw1, ← hib0]; exact Blk.new _ _ _
    have k1 : Below w.heap.size w w1 := by rw [← hw1]; exact (Below.refl _ _).alloc (Nat.le_refl _) _
    have zb0 : w1.heap.size = ib0 + 1 := by rw [← hw1, ← hib0]; simp
    rw [hw1, hib0]
    have n0 := n0.below k1
    have bel := hthen bel k1
    clear k1
    clear hw1 hib0
    have b0c0 := b0.cell 0
    have b0c1 := b0.cell 1
    have b0c2 := b0.cell 2
    have b0c3 := b0.cell 3
    have b0c4 := b0.cell 4
    have b0c5 := b0.cell 5
    simp at b0c0 b0c1 b0c2 b0c3 b0c4 b0c5
    have b0lt := b0.lt
    try (go_wp2_with fail)
    clear b0c0 b0c1 b0c2 b0c3 b0c4 b0c5 b0lt
    have n0 := n0.below (Below.refl _ _).drew
    have bel := bel.drew
    have b0 := b0.drew
    refine wp_region_noPanic ?_
    refine wp_region_held_drew (S := (fun w' => w'.cell? ⟨ib0, 0, none⟩ = some (.bool leaf) ∧ w'.cell? ⟨ib0, 1, none⟩ = some (.slice A ks.length c) ∧ w'.cell? ⟨ib0, 2, none⟩ = some (.slice C vs.length d) ∧ w'.cell? ⟨ib0, 3, none⟩ = some (.string (bstr key)) ∧ w'.cell? ⟨ib0, 4, none⟩ = some (.string (bstr val)) ∧ w'.cell? ⟨ib0, 5, none⟩ = some (.string (bstr other)))) (by kernel_rfl) ?hS0 (fun hHeld => ?_)
    case hS0 => (have q0 := b0.cell 0; have q1 := b0.cell 1; have q2 := b0.cell 2; have q3 := b0.cell 3; have q4 := b0.cell 4; have q5 := b0.cell 5; simp at q0 q1 q2 q3 q4 q5; exact ⟨q0, q1, q2, q3, q4, q5⟩)
    generalize hZ : w1.drew = wd2 at *
    clear hZ
    refine wpAnyH_take (i := 0) (oi := ⟨some 19, _, _, _, _, _⟩) (v := ?_) rfl (by kernel_rfl) (by kernel_rfl) (by kernel_rfl) (fun _ _ _ h => h) (Or.inl ⟨by kernel_rfl, ?_⟩) hHeld ?_
    rotate_left
    · (intro w hSw; (try dsimp only at hSw); go_simp; try with_reducible rfl)
    try simp only [Act.put, List.getElem_toArray, List.getElem_cons_succ, List.getElem_cons_zero, List.setIfInBounds_toArray, List.set_cons_zero, List.set_cons_succ]
    refine wpAnyH_take (i := 1) (oi := ⟨some 20, _, _, _, _, _⟩) (v := ?_) rfl (by kernel_rfl) (by kernel_rfl) (by kernel_rfl) (fun _ _ _ h => h) (Or.inl ⟨by kernel_rfl, ?_⟩) hHeld ?_
    rotate_left
    · (intro w hSw; (try dsimp only at hSw); go_simp; try with_reducible rfl)
    try simp only [Act.put, List.getElem_toArray, List.getElem_cons_succ, List.getElem_cons_zero, List.setIfInBounds_toArray, List.set_cons_zero, List.set_cons_succ]
    refine wpAnyH_take (i := 2) (oi := ⟨some 21, _, _, _, _, _⟩) (v := ?_) rfl (by kernel_rfl) (by kernel_rfl) (by kernel_rfl) (fun _ _ _ h => h) (Or.inl ⟨by kernel_rfl, ?_⟩) hHeld ?_
    rotate_left
    · (intro w hSw; (try dsimp only at hSw); go_simp; try with_reducible rfl)
    try simp only [Act.put, List.getElem_toArray, List.getElem_cons_succ, List.getElem_cons_zero, List.setIfInBounds_toArray, List.set_cons_zero, List.set_cons_succ]
    refine wpAnyH_take (i := 3) (oi := ⟨some 22, _, _, _, _, _⟩) (v := ?_) rfl (by kernel_rfl) (by kernel_rfl) (by kernel_rfl) (fun _ _ _ h => h) (Or.inl ⟨by kernel_rfl, ?_⟩) hHeld ?_
    rotate_left
    · (intro w hSw; (try dsimp only at hSw); go_simp; try with_reducible rfl)
    try simp only [Act.put, List.getElem_toArray, List.getElem_cons_succ, List.getElem_cons_zero, List.setIfInBounds_toArray, List.set_cons_zero, List.set_cons_succ]
    refine wpAnyH_take (i := 4) (oi := ⟨some 23, _, _, _, _, _⟩) (v := ?_) rfl (by kernel_rfl) (by kernel_rfl) (by kernel_rfl) (fun _ _ _ h => h) (Or.inl ⟨by kernel_rfl, ?_⟩) hHeld ?_
    rotate_left
    · (intro w hSw; (try dsimp only at hSw); go_simp; try with_reducible rfl)
    try simp only [Act.put, List.getElem_toArray, List.getElem_cons_succ, List.getElem_cons_zero, List.setIfInBounds_toArray, List.set_cons_zero, List.set_cons_succ]
    refine wpAnyH_take (i := 5) (oi := ⟨some 24, _, _, _, _, _⟩) (v := ?_) rfl (by kernel_rfl) (by kernel_rfl) (by kernel_rfl) (fun _ _ _ h => h) (Or.inl ⟨by kernel_rfl, ?_⟩) hHeld ?_
    rotate_left
    · (intro w hSw; (try dsimp only at hSw); go_simp; try with_reducible rfl)
    try simp only [Act.put, List.getElem_toArray, List.getElem_cons_succ, List.getElem_cons_zero, List.setIfInBounds_toArray, List.set_cons_zero, List.set_cons_succ]
    refine wpAnyH_take (i := 6) (oi := ⟨some 25, _, _, _, _, _⟩) (v := ?_) rfl (by kernel_rfl) (by kernel_rfl) (by kernel_rfl) (fun _ _ _ h => h) (Or.inl ⟨by kernel_rfl, ?_⟩) hHeld ?_
    rotate_left
    · (intro w hSw; (try dsimp only at hSw); go_simp; try with_reducible rfl)
    try simp only [Act.put, List.getElem_toArray, List.getElem_cons_succ, List.getElem_cons_zero, List.setIfInBounds_toArray, List.set_cons_zero, List.set_cons_succ]
    refine wpAnyH_take (i := 7) (oi := ⟨some 26, _, _, _, _, _⟩) (v := ?_) rfl (by kernel_rfl) (by kernel_rfl) (by kernel_rfl) (fun _ _ _ h => h) (Or.inl ⟨by kernel_rfl, ?_⟩) hHeld ?_
    rotate_left
    · (intro w hSw; (try dsimp only at hSw); go_simp; try with_reducible rfl)
    try simp only [Act.put, List.getElem_toArray, List.getElem_cons_succ, List.getElem_cons_zero, List.setIfInBounds_toArray, List.set_cons_zero, List.set_cons_succ]
    refine wpAnyH_ready (rs := [8]) (by kernel_rfl) (by simp) ?_
    refine (AllReadyH.cons rfl (fun K hK => ?_) AllReadyH.nil)
    try rw [if_pos (by kernel_rfl)]
    go_simp
    obtain ⟨w3, hX⟩ : ∃ x, wd2.alloc (.cells #[.bool false, .slice none 0 0, .slice none 0 0] 24) = x := ⟨_, rfl⟩
    obtain ⟨ib1, hib1⟩ : ∃ i, wd2.heap.size = i := ⟨_, rfl⟩
    have b1 : Blk w3 ib1 24 #[.bool false, .slice none 0 0, .slice none 0 0] := by rw [← hX, ← hib1]; exact Blk.new _ _ _
    have kab1 : Below wd2.heap.size wd2 w3 := by rw [← hX]; exact (Below.refl _ _).alloc (Nat.le_refl _) _
    rw [hX, hib1]
    clear hX
    try dsimp only
    refine hK.out _ _ (by have b0 := b0.below kab1 b0.lt; have q0 := b0.cell 0; have q1 := b0.cell 1; have q2 := b0.cell 2; have q3 := b0.cell 3; have q4 := b0.cell 4; have q5 := b0.cell 5; simp at q0 q1 q2 q3 q4 q5; exact ⟨q0, q1, q2, q3, q4, q5⟩) (fun hHeld => ?_)
    clear hK K
    try simp only [Act.put, List.getElem_toArray, List.getElem_cons_succ, List.getElem_cons_zero, List.setIfInBounds_toArray, List.set_cons_zero, List.set_cons_succ]
    refine wpAnyH_ready (rs := [9]) (by kernel_rfl) (by simp) ?_
    refine (AllReadyH.cons rfl (fun K hK => ?_) AllReadyH.nil)
    have b1z0 := b1.cell 0
    have b1f0 := b1.frozen 0
    have b1z1 := b1.cell 1
    have b1f1 := b1.frozen 1
    have b1z2 := b1.cell 2
    have b1f2 := b1.frozen 2
    simp at b1z0 b1z1 b1z2
    try rw [if_pos (by kernel_rfl)]
    go_simp
    obtain ⟨w4, hX⟩ : ∃ x, (((w3.setCell ⟨ib1, 0, none⟩ (.bool leaf)).setCell ⟨ib1, 1, none⟩ (.slice A ks.length c)).setCell ⟨ib1, 2, none⟩ (.slice C vs.length d)) = x := ⟨_, rfl⟩
    have b1n : Blk w4 ib1 24 #[.bool leaf, .slice A ks.length c, .slice C vs.length d] := by rw [← hX]; simpa using (((b1.set_ 0 (.bool leaf)).set_ 1 (.slice A ks.length c)).set_ 2 (.slice C vs.length d))
    have kbb1 : Below wd2.heap.size wd2 w4 := by rw [← hX]; exact (below_at (below_at (below_at kab1 (Nat.le_of_eq hib1) 0 (.bool leaf)) (Nat.le_of_eq hib1) 1 (.slice A ks.length c)) (Nat.le_of_eq hib1) 2 (.slice C vs.length d))
    rw [hX]
    have b0 := b0.below kbb1 b0.lt
    have n0 := n0.below kbb1
    have bel := hthen bel kbb1
    have b1 := b1n
    clear hX kbb1 kab1 b1n hib1 b1z0 b1f0 b1z1 b1f1 b1z2 b1f2
    try dsimp only
    refine hK.out _ _ (by have q0 := b0.cell 0; have q1 := b0.cell 1; have q2 := b0.cell 2; have q3 := b0.cell 3; have q4 := b0.cell 4; have q5 := b0.cell 5; simp at q0 q1 q2 q3 q4 q5; exact ⟨q0, q1, q2, q3, q4, q5⟩) (fun hHeld => ?_)
    clear hK K
    try simp only [Act.put, List.getElem_toArray, List.getElem_cons_succ, List.getElem_cons_zero, List.setIfInBounds_toArray, List.set_cons_zero, List.set_cons_succ]
    refine wpAnyH_take (i := 10) (oi := ⟨some 4, _, _, _, _, _⟩) (v := ?_) rfl (by kernel_rfl) (by kernel_rfl) (by kernel_rfl) (fun _ _ _ h => h) (Or.inl ⟨by kernel_rfl, ?_⟩) hHeld ?_
    rotate_left
    · (intro w hSw; (try dsimp only at hSw); go_simp; try with_reducible rfl)
    try simp only [Act.put, List.getElem_toArray, List.getElem_cons_succ, List.getElem_cons_zero, List.setIfInBounds_toArray, List.set_cons_zero, List.set_cons_succ]
    refine wpAnyH_take (i := 11) (oi := ⟨some 5, _, _, _, _, _⟩) (v := ?_) rfl (by kernel_rfl) (by kernel_rfl) (by kernel_rfl) (fun _ _ _ h => h) (Or.inl ⟨by kernel_rfl, ?_⟩) hHeld ?_
    rotate_left
    · (intro w hSw; (try dsimp only at hSw); go_simp; try with_reducible rfl)
    try simp only [Act.put, List.getElem_toArray, List.getElem_cons_succ, List.getElem_cons_zero, List.setIfInBounds_toArray, List.set_cons_zero, List.set_cons_succ]
    refine wpAnyH_take (i := 12) (oi := ⟨some 6, _, _, _, _, _⟩) (v := ?_) rfl (by kernel_rfl) (by kernel_rfl) (by kernel_rfl) (fun _ _ _ h => h) (Or.inl ⟨by kernel_rfl, ?_⟩) hHeld ?_
    rotate_left
    · (intro w hSw; (try dsimp only at hSw); go_simp; try with_reducible rfl)
    try simp only [Act.put, List.getElem_toArray, List.getElem_cons_succ, List.getElem_cons_zero, List.setIfInBounds_toArray, List.set_cons_zero, List.set_cons_succ]
    refine wpAnyH_done (by kernel_rfl) ?_ _
    refine NoPanic.normal ?_
    have b0c0 := b0.cell 0
    have b0c1 := b0.cell 1
    have b0c2 := b0.cell 2
    have b0c3 := b0.cell 3
    have b0c4 := b0.cell 4
    have b0c5 := b0.cell 5
    simp at b0c0 b0c1 b0c2 b0c3 b0c4 b0c5
    have b0lt := b0.lt
    have b1c0 := b1.cell 0
    have b1c1 := b1.cell 1
    have b1c2 := b1.cell 2
    simp at b1c0 b1c1 b1c2
    have b1lt := b1.lt
    go_wp2_with fail
    refine (small_to HS.out _ _ n0 l1 l2).mono ?_
    rintro e w5 ⟨rfl, k5⟩
    clear b0c0 b0c1 b0c2 b0c3 b0c4 b0c5 b0lt b1c0 b1c1 b1c2 b1lt
    have b0 := b0.below k5 b0.lt
    have b1 := b1.below k5 b1.lt
    have n0 := n0.below k5
    have bel := hthen bel k5
    clear k5
    have b0c0 := b0.cell 0
    have b0c1 := b0.cell 1
    have b0c2 := b0.cell 2
    have b0c3 := b0.cell 3
    have b0c4 := b0.cell 4
    have b0c5 := b0.cell 5
    simp at b0c0 b0c1 b0c2 b0c3 b0c4 b0c5
    have b0lt := b0.lt
    have b1c0 := b1.cell 0
    have b1c1 := b1.cell 1
    have b1c2 := b1.cell 2
    simp at b1c0 b1c1 b1c2
    have b1lt := b1.lt
    go_wp2_with fail
    refine (rmay_to HM.out _ _ n0 M1 M2).mono ?_
    rintro e w6 ⟨rfl, k6⟩
    clear b0c0 b0c1 b0c2 b0c3 b0c4 b0c5 b0lt b1c0 b1c1 b1c2 b1lt
    have b0 := b0.below k6 b0.lt
    have b1 := b1.below k6 b1.lt
    have n0 := n0.below k6
    have bel := hthen bel k6
    clear k6
    have b0c0 := b0.cell 0
    have b0c1 := b0.cell 1
    have b0c2 := b0.cell 2
    have b0c3 := b0.cell 3
    have b0c4 := b0.cell 4
    have b0c5 := b0.cell 5
    simp at b0c0 b0c1 b0c2 b0c3 b0c4 b0c5
    have b0lt := b0.lt
    have b1c0 := b1.cell 0
    have b1c1 := b1.cell 1
    have b1c2 := b1.cell 2
    simp at b1c0 b1c1 b1c2
    have b1lt := b1.lt
    go_wp2_with fail
    refine (rkey_to HK.out _).mono ?_
    rintro e w9 ⟨rfl, rfl⟩
    clear b0c0 b0c1 b0c2 b0c3 b0c4 b0c5 b0lt b1c0 b1c1 b1c2 b1lt
    have b0c0 := b0.cell 0
    have b0c1 := b0.cell 1
    have b0c2 := b0.cell 2
    have b0c3 := b0.cell 3
    have b0c4 := b0.cell 4
    have b0c5 := b0.cell 5
    simp at b0c0 b0c1 b0c2 b0c3 b0c4 b0c5
    have b0lt := b0.lt
    have b1c0 := b1.cell 0
    have b1c1 := b1.cell 1
    have b1c2 := b1.cell 2
    simp at b1c0 b1c1 b1c2
    have b1lt := b1.lt
    go_wp2_with fail
    refine (own_any _ ⟨leaf, ks, vs⟩ _ n0).mono ?_
    rintro e w7 ⟨rfl, k7⟩
    clear b0c0 b0c1 b0c2 b0c3 b0c4 b0c5 b0lt b1c0 b1c1 b1c2 b1lt
    have b0 := b0.below k7 b0.lt
    have b1 := b1.below k7 b1.lt
    have n0 := n0.below k7
    have bel := hthen bel k7
    clear k7
    have b0c0 := b0.cell 0
    have b0c1 := b0.cell 1
    have b0c2 := b0.cell 2
    have b0c3 := b0.cell 3
    have b0c4 := b0.cell 4
    have b0c5 := b0.cell 5
    simp at b0c0 b0c1 b0c2 b0c3 b0c4 b0c5
    have b0lt := b0.lt
    have b1c0 := b1.cell 0
    have b1c1 := b1.cell 1
    have b1c2 := b1.cell 2
    simp at b1c0 b1c1 b1c2
    have b1lt := b1.lt
    go_wp2_with fail
    refine (with_to HX.out _ _ n0 M1 M2).mono ?_
    rintro e w8 ⟨u1, rfl, nx, k8⟩
    clear b0c0 b0c1 b0c2 b0c3 b0c4 b0c5 b0lt b1c0 b1c1 b1c2 b1lt
    have b0 := b0.below k8 b0.lt
    have b1 := b1.below k8 b1.lt
    have n0 := n0.below k8
    have bel := hthen bel k8
    clear k8
    obtain ⟨A1, c1, C1, d1, rfl⟩ := nx.form
    have b0c0 := b0.cell 0
    have b0c1 := b0.cell 1
    have b0c2 := b0.cell 2
    have b0c3 := b0.cell 3
    have b0c4 := b0.cell 4
    have b0c5 := b0.cell 5
    simp at b0c0 b0c1 b0c2 b0c3 b0c4 b0c5
    have b0lt := b0.lt
    have b1c0 := b1.cell 0
    have b1c1 := b1.cell 1
    have b1c2 := b1.cell 2
    simp at b1c0 b1c1 b1c2
    have b1lt := b1.lt
    go_wp2_with fail
    clear b0c0 b0c1 b0c2 b0c3 b0c4 b0c5 b0lt b1c0 b1c1 b1c2 b1lt
    obtain ⟨w9, hw9⟩ : ∃ x, w8.alloc (.cells #[.bool X.leaf, .slice A1 X.keys.length c1, .slice C1 X.vals.length d1] 30) = x := ⟨_, rfl⟩
    obtain ⟨ib2, hib2⟩ : ∃ i, w8.heap.size = i := ⟨_, rfl⟩
    have b2 : Blk w9 ib2 30 #[.bool X.leaf, .slice A1 X.keys.length c1, .slice C1 X.vals.length d1] := by rw [← hw9, ← hib2]; exact Blk.new _ _ _
    have k9 : Below w8.heap.size w8 w9 := by rw [← hw9]; exact (Below.refl _ _).alloc (Nat.le_refl _) _
    have zb2 : w9.heap.size = ib2 + 1 := by rw [← hw9, ← hib2]; simp
    rw [hw9, hib2]
    have b0 := b0.below k9 b0.lt
    have b1 := b1.below k9 b1.lt
    have n0 := n0.below k9
    have nx := nx.below k9
    have bel := hthen bel k9
    clear k9
    clear hw9 hib2
    have b0c0 := b0.cell 0
    have b0c1 := b0.cell 1
    have b0c2 := b0.cell 2
    have b0c3 := b0.cell 3
    have b0c4 := b0.cell 4
    have b0c5 := b0.cell 5
    simp at b0c0 b0c1 b0c2 b0c3 b0c4 b0c5
    have b0lt := b0.lt
    have b1c0 := b1.cell 0
    have b1c1 := b1.cell 1
    have b1c2 := b1.cell 2
    simp at b1c0 b1c1 b1c2
    have b1lt := b1.lt
    have b2c0 := b2.cell 0
    have b2c1 := b2.cell 1
    have b2c2 := b2.cell 2
    simp at b2c0 b2c1 b2c2
    have b2lt := b2.lt
    try (go_wp2_with fail)
    refine (without_to HY.out _ _ nx X1 X2).mono ?_
    rintro e w10 ⟨u2, rfl, ny, k10⟩
    clear b0c0 b0c1 b0c2 b0c3 b0c4 b0c5 b0lt b1c0 b1c1 b1c2 b1lt b2c0 b2c1 b2c2 b2lt
    have b0 := b0.below k10 b0.lt
    have b1 := b1.below k10 b1.lt
    have b2 := b2.below k10 b2.lt
    have n0 := n0.below k10
    have nx := nx.below k10
    have bel := hthen bel k10
    clear k10
    obtain ⟨A2, c2, C2, d2, rfl⟩ := ny.form
    have b0c0 := b0.cell 0
    have b0c1 := b0.cell 1
    have b0c2 := b0.cell 2
    have b0c3 := b0.cell 3
    have b0c4 := b0.cell 4
    have b0c5 := b0.cell 5
    simp at b0c0 b0c1 b0c2 b0c3 b0c4 b0c5
    have b0lt := b0.lt
    have b1c0 := b1.cell 0
    have b1c1 := b1.cell 1
    have b1c2 := b1.cell 2
    simp at b1c0 b1c1 b1c2
    have b1lt := b1.lt
    have b2c0 := b2.cell 0
    have b2c1 := b2.cell 1
    have b2c2 := b2.cell 2
    simp at b2c0 b2c1 b2c2
    have b2lt := b2.lt
    go_wp2_with fail
    clear b0c0 b0c1 b0c2 b0c3 b0c4 b0c5 b0lt b1c0 b1c1 b1c2 b1lt b2c0 b2c1 b2c2 b2lt
    obtain ⟨w11, hw11⟩ : ∃ x, w10.alloc (.cells #[.bool Y.leaf, .slice A2 Y.keys.length c2, .slice C2 Y.vals.length d2] 30) = x := ⟨_, rfl⟩
    obtain ⟨ib3, hib3⟩ : ∃ i, w10.heap.size = i := ⟨_, rfl⟩
    have b3 : Blk w11 ib3 30 #[.bool Y.leaf, .slice A2 Y.keys.length c2, .slice C2 Y.vals.length d2] := by rw [← hw11, ← hib3]; exact Blk.new _ _ _
    have k11 : Below w10.heap.size w10 w11 := by rw [← hw11]; exact (Below.refl _ _).alloc (Nat.le_refl _) _
    have zb3 : w11.heap.size = ib3 + 1 := by rw [← hw11, ← hib3]; simp
    rw [hw11, hib3]
    have b0 := b0.below k11 b0.lt
    have b1 := b1.below k11 b1.lt
    have b2 := b2.below k11 b2.lt
    have n0 := n0.below k11
    have nx := nx.below k11
    have ny := ny.below k11
    have bel := hthen bel k11
    clear k11
    clear hw11 hib3
    have b0c0 := b0.cell 0
    have b0c1 := b0.cell 1
    have b0c2 := b0.cell 2
    have b0c3 := b0.cell 3
    have b0c4 := b0.cell 4
    have b0c5 := b0.cell 5
    simp at b0c0 b0c1 b0c2 b0c3 b0c4 b0c5
    have b0lt := b0.lt
    have b1c0 := b1.cell 0
    have b1c1 := b1.cell 1
    have b1c2 := b1.cell 2
    simp at b1c0 b1c1 b1c2
    have b1lt := b1.lt
    have b2c0 := b2.cell 0
    have b2c1 := b2.cell 1
    have b2c2 := b2.cell 2
    simp at b2c0 b2c1 b2c2
    have b2lt := b2.lt
    have b3c0 := b3.cell 0
    have b3c1 := b3.cell 1
    have b3c2 := b3.cell 2
    simp at b3c0 b3c1 b3c2
    have b3lt := b3.lt
    try (go_wp2_with fail)
    refine (find_to G1.out _ _ nx X1 X2).mono ?_
    rintro e w12 ⟨rfl, k12⟩
    clear b0c0 b0c1 b0c2 b0c3 b0c4 b0c5 b0lt b1c0 b1c1 b1c2 b1lt b2c0 b2c1 b2c2 b2lt b3c0 b3c1 b3c2 b3lt
    have b0 := b0.below k12 b0.lt
    have b1 := b1.below k12 b1.lt
    have b2 := b2.below k12 b2.lt
    have b3 := b3.below k12 b3.lt
    have n0 := n0.below k12
    have nx := nx.below k12
    have ny := ny.below k12
    have bel := hthen bel k12
    clear k12
    have b0c0 := b0.cell 0
    have b0c1 := b0.cell 1
    have b0c2 := b0.cell 2
    have b0c3 := b0.cell 3
    have b0c4 := b0.cell 4
    have b0c5 := b0.cell 5
    simp at b0c0 b0c1 b0c2 b0c3 b0c4 b0c5
    have b0lt := b0.lt
    have b1c0 := b1.cell 0
    have b1c1 := b1.cell 1
    have b1c2 := b1.cell 2
    simp at b1c0 b1c1 b1c2
    have b1lt := b1.lt
    have b2c0 := b2.cell 0
    have b2c1 := b2.cell 1
    have b2c2 := b2.cell 2
    simp at b2c0 b2c1 b2c2
    have b2lt := b2.lt
    have b3c0 := b3.cell 0
    have b3c1 := b3.cell 1
    have b3c2 := b3.cell 2
    simp at b3c0 b3c1 b3c2
    have b3lt := b3.lt
    go_wp2_with fail
    refine (find_to E3.out _ _ ny Y1 Y2).mono ?_
    rintro e w13 ⟨rfl, k13⟩
    clear b0c0 b0c1 b0c2 b0c3 b0c4 b0c5 b0lt b1c0 b1c1 b1c2 b1lt b2c0 b2c1 b2c2 b2lt b3c0 b3c1 b3c2 b3lt
    have b0 := b0.below k13 b0.lt
    have b1 := b1.below k13 b1.lt
    have b2 := b2.below k13 b2.lt
    have b3 := b3.below k13 b3.lt
    have n0 := n0.below k13
    have nx := nx.below k13
    have ny := ny.below k13
    have bel := hthen bel k13
    clear k13
    have b0c0 := b0.cell 0
    have b0c1 := b0.cell 1
    have b0c2 := b0.cell 2
    have b0c3 := b0.cell 3
    have b0c4 := b0.cell 4
    have b0c5 := b0.cell 5
    simp at b0c0 b0c1 b0c2 b0c3 b0c4 b0c5
    have b0lt := b0.lt
    have b1c0 := b1.cell 0
    have b1c1 := b1.cell 1
    have b1c2 := b1.cell 2
    simp at b1c0 b1c1 b1c2
    have b1lt := b1.lt
    have b2c0 := b2.cell 0
    have b2c1 := b2.cell 1
    have b2c2 := b2.cell 2
    simp at b2c0 b2c1 b2c2
    have b2lt := b2.lt
    have b3c0 := b3.cell 0
    have b3c1 := b3.cell 1
    have b3c2 := b3.cell 2
    simp at b3c0 b3c1 b3c2
    have b3lt := b3.lt
    go_wp2_with fail
    refine (own_any _ ⟨leaf, ks, vs⟩ _ n0).mono ?_
    rintro e w14 ⟨rfl, k14⟩
    clear b0c0 b0c1 b0c2 b0c3 b0c4 b0c5 b0lt b1c0 b1c1 b1c2 b1lt b2c0 b2c1 b2c2 b2lt b3c0 b3c1 b3c2 b3lt
    have b0 := b0.below k14 b0.lt
    have b1 := b1.below k14 b1.lt
    have b2 := b2.below k14 b2.lt
    have b3 := b3.below k14 b3.lt
    have n0 := n0.below k14
    have nx := nx.below k14
    have ny := ny.below k14
    have bel := hthen bel k14
    clear k14
    have b0c0 := b0.cell 0
    have b0c1 := b0.cell 1
    have b0c2 := b0.cell 2
    have b0c3 := b0.cell 3
    have b0c4 := b0.cell 4
    have b0c5 := b0.cell 5
    simp at b0c0 b0c1 b0c2 b0c3 b0c4 b0c5
    have b0lt := b0.lt
    have b1c0 := b1.cell 0
    have b1c1 := b1.cell 1
    have b1c2 := b1.cell 2
    simp at b1c0 b1c1 b1c2
    have b1lt := b1.lt
    have b2c0 := b2.cell 0
    have b2c1 := b2.cell 1
    have b2c2 := b2.cell 2
    simp at b2c0 b2c1 b2c2
    have b2lt := b2.lt
    have b3c0 := b3.cell 0
    have b3c1 := b3.cell 1
    have b3c2 := b3.cell 2
    simp at b3c0 b3c1 b3c2
    have b3lt := b3.lt
    go_wp2_with fail
    refine (find_to E0.out _ _ n0 M1 M2).mono ?_
    rintro e w15 ⟨rfl, k15⟩
    clear b0c0 b0c1 b0c2 b0c3 b0c4 b0c5 b0lt b1c0 b1c1 b1c2 b1lt b2c0 b2c1 b2c2 b2lt b3c0 b3c1 b3c2 b3lt
    have b0 := b0.below k15 b0.lt
    have b1 := b1.below k15 b1.lt
    have b2 := b2.below k15 b2.lt
    have b3 := b3.below k15 b3.lt
    have n0 := n0.below k15
    have nx := nx.below k15
    have ny := ny.below k15
    have bel := hthen bel k15
    clear k15
    have b0c0 := b0.cell 0
    have b0c1 := b0.cell 1
    have b0c2 := b0.cell 2
    have b0c3 := b0.cell 3
    have b0c4 := b0.cell 4
    have b0c5 := b0.cell 5
    simp at b0c0 b0c1 b0c2 b0c3 b0c4 b0c5
    have b0lt := b0.lt
    have b1c0 := b1.cell 0
    have b1c1 := b1.cell 1
    have b1c2 := b1.cell 2
    simp at b1c0 b1c1 b1c2
    have b1lt := b1.lt
    have b2c0 := b2.cell 0
    have b2c1 := b2.cell 1
    have b2c2 := b2.cell 2
    simp at b2c0 b2c1 b2c2
    have b2lt := b2.lt
    have b3c0 := b3.cell 0
    have b3c1 := b3.cell 1
    have b3c2 := b3.cell 2
    simp at b3c0 b3c1 b3c2
    have b3lt := b3.lt
    go_wp2_with fail
    refine (find_to E1.out _ _ nx X1 X2).mono ?_
    rintro e w16 ⟨rfl, k16⟩
    clear b0c0 b0c1 b0c2 b0c3 b0c4 b0c5 b0lt b1c0 b1c1 b1c2 b1lt b2c0 b2c1 b2c2 b2lt b3c0 b3c1 b3c2 b3lt
    have b0 := b0.below k16 b0.lt
    have b1 := b1.below k16 b1.lt
    have b2 := b2.below k16 b2.lt
    have b3 := b3.below k16 b3.lt
    have n0 := n0.below k16
    have nx := nx.below k16
    have ny := ny.below k16
    have bel := hthen bel k16
    clear k16
    have b0c0 := b0.cell 0
    have b0c1 := b0.cell 1
    have b0c2 := b0.cell 2
    have b0c3 := b0.cell 3
    have b0c4 := b0.cell 4
    have b0c5 := b0.cell 5
    simp at b0c0 b0c1 b0c2 b0c3 b0c4 b0c5
    have b0lt := b0.lt
    have b1c0 := b1.cell 0
    have b1c1 := b1.cell 1
    have b1c2 := b1.cell 2
    simp at b1c0 b1c1 b1c2
    have b1lt := b1.lt
    have b2c0 := b2.cell 0
    have b2c1 := b2.cell 1
    have b2c2 := b2.cell 2
    simp at b2c0 b2c1 b2c2
    have b2lt := b2.lt
    have b3c0 := b3.cell 0
    have b3c1 := b3.cell 1
    have b3c2 := b3.cell 2
    simp at b3c0 b3c1 b3c2
    have b3lt := b3.lt
    go_wp2_with fail
    refine (find_to E2.out _ _ ny Y1 Y2).mono ?_
    rintro e w17 ⟨rfl, k17⟩
    clear b0c0 b0c1 b0c2 b0c3 b0c4 b0c5 b0lt b1c0 b1c1 b1c2 b1lt b2c0 b2c1 b2c2 b2lt b3c0 b3c1 b3c2 b3lt
    have b0 := b0.below k17 b0.lt
    have b1 := b1.below k17 b1.lt
    have b2 := b2.below k17 b2.lt
    have b3 := b3.below k17 b3.lt
    have n0 := n0.below k17
    have nx := nx.below k17
    have ny := ny.below k17
    have bel := hthen bel k17
    clear k17
    have qp : decide ((p : Int) < X.vals.length) = true := decide_eq_true (by omega)
    have T0 : (0 : Int) ≤ p := by omega
    have T1 : (p : Int) < X.vals.length := by omega
    obtain ⟨_, _, eX, sx1, sx2⟩ := nx
    cases eX
    obtain ⟨ad, rfl, cx⟩ := sx2.cell (Below.refl _ _) (j := p) g2
    rw [G3.out] at cx
    clear sx1 sx2 g2
    have qv : (val == val) = true := by simp
    have qB : (B == B) = true := by simp
    have b0c0 := b0.cell 0
    have b0c1 := b0.cell 1
    have b0c2 := b0.cell 2
    have b0c3 := b0.cell 3
    have b0c4 := b0.cell 4
    have b0c5 := b0.cell 5
    simp at b0c0 b0c1 b0c2 b0c3 b0c4 b0c5
    have b0lt := b0.lt
    have b1c0 := b1.cell 0
    have b1c1 := b1.cell 1
    have b1c2 := b1.cell 2
    simp at b1c0 b1c1 b1c2
    have b1lt := b1.lt
    have b2c0 := b2.cell 0
    have b2c1 := b2.cell 1
    have b2c2 := b2.cell 2
    simp at b2c0 b2c1 b2c2
    have b2lt := b2.lt
    have b3c0 := b3.cell 0
    have b3c1 := b3.cell 1
    have b3c2 := b3.cell 2
    simp at b3c0 b3c1 b3c2
    have b3lt := b3.lt
    go_wp2_with fail
    refine (live_ok _).mono ?_
    rintro e w18 ⟨rfl, k18⟩
    clear b0c0 b0c1 b0c2 b0c3 b0c4 b0c5 b0lt b1c0 b1c1 b1c2 b1lt b2c0 b2c1 b2c2 b2lt b3c0 b3c1 b3c2 b3lt
    have b0 := b0.below k18 b0.lt
    have b1 := b1.below k18 b1.lt
    have b2 := b2.below k18 b2.lt
    have b3 := b3.below k18 b3.lt
    have n0 := n0.below k18
    have ny := ny.below k18
    have bel := hthen bel k18
    clear k18
    go_wp2
    go_ret
    exact ⟨rfl, bel⟩
end Go.Proofs.Ytiodeeliidhbgaa
