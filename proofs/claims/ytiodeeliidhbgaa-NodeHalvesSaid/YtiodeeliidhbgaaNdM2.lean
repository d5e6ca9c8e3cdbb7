/- The walk of NodeHalves. -/
import Derived.Test.YtiodeeliidhbgaaNdM1
namespace Go.Proofs.Ytiodeeliidhbgaa
open Go Go.RowKit
set_option linter.unusedSimpArgs false
set_option linter.unnecessarySimpa false
set_option linter.unusedVariables false

set_option maxRecDepth 100000 in
set_option maxHeartbeats 8000000 in
theorem nodeHalves_walk (w : World) (a0 : D_permafrostref09_Node) (v0_1 v0_2 : Value) (h0_0 : SlAt w.heap.size w IsStr 1 [v0_1] a0.keys) (h0_1 : SlAt w.heap.size w IsStr 1 [v0_2] a0.vals) :
    Calls Try.prog 7 #[.agg #[.bool a0.leaf, v0_1, v0_2]] w fun e w' => e = .returned (.bool true) ∧ Below w.heap.size w w' := by
  obtain ⟨leaf, ks, vs⟩ := a0
  simp only at h0_0 h0_1 ⊢
  obtain ⟨s1, l1⟩ := ss_arg h0_0
  obtain ⟨s2, l2⟩ := ss_arg h0_1
  obtain ⟨A, c, rfl⟩ := s1.form
  obtain ⟨C, d, rfl⟩ := s2.form
  clear h0_0 h0_1
  have n0 : NdV w (.agg #[.bool leaf, .slice A ks.length c, .slice C vs.length d]) ⟨leaf, ks, vs⟩ := ⟨_, _, rfl, s1, s2⟩
  have bel : Below w.heap.size w w := Below.refl _ _
  clear s1 s2
  cases hs : smallB ⟨leaf, ks, vs⟩
  · have HS := Lib.hid hs
    clear hs
    go_enter Try.func7, Try.ntmps7
    go_wp2_with fail
    obtain ⟨w1, hw1⟩ : ∃ x, w.alloc (.cells #[.bool leaf, .slice A ks.length c, .slice C vs.length d] 24) = x := ⟨_, rfl⟩
    obtain ⟨ib0, hib0⟩ : ∃ i, w.heap.size = i := ⟨_, rfl⟩
    have b0 : Blk w1 ib0 24 #[.bool leaf, .slice A ks.length c, .slice C vs.length d] := by rw [← hw1, ← hib0]; exact Blk.new _ _ _
    have k1 : Below w.heap.size w w1 := by rw [← hw1]; exact (Below.refl _ _).alloc (Nat.le_refl _) _
    have zb0 : w1.heap.size = ib0 + 1 := by rw [← hw1, ← hib0]; simp
    rw [hw1, hib0]
    have ob0 : w.heap.size ≤ ib0 := by rw [← hib0]; exact bel.size
    have n0 := n0.below k1
    have bel := hthen bel k1
    clear k1
    clear hw1 hib0
    have b0c0 := b0.cell 0
    have b0c1 := b0.cell 1
    have b0c2 := b0.cell 2
    simp at b0c0 b0c1 b0c2
    have b0lt := b0.lt
    try (go_wp2_with fail)
    refine (small_to HS.out _ _ n0 l1 l2).mono ?_
    rintro e w2 ⟨rfl, k2⟩
    clear b0c0 b0c1 b0c2 b0lt
    have b0 := b0.below k2 b0.lt
    have n0 := n0.below k2
    have bel := hthen bel k2
    clear k2
    have b0c0 := b0.cell 0
    have b0c1 := b0.cell 1
    have b0c2 := b0.cell 2
    simp at b0c0 b0c1 b0c2
    have b0lt := b0.lt
    go_wp2_with fail
    refine (live_ok _).mono ?_
    rintro e w3 ⟨rfl, k3⟩
    clear b0c0 b0c1 b0c2 b0lt
    have b0 := b0.below k3 b0.lt
    have n0 := n0.below k3
    have bel := hthen bel k3
    clear k3
    go_wp2
    go_ret
    exact ⟨rfl, bel⟩
  · obtain ⟨m1, m2⟩ := small_len hs
    simp only at m1 m2
    have HS := Lib.hid hs
    clear hs
    have M1 : ks.length ≤ 1000000 := by omega
    have M2 : vs.length ≤ 1000000 := by omega
    cases hH : halvesN ⟨leaf, ks, vs⟩
    · have hP : firstN ⟨leaf, ks, vs⟩ = emptyN := by unfold firstN; rw [hH]; rfl
      have hQ : secondN ⟨leaf, ks, vs⟩ = emptyN := by unfold secondN; rw [hH]; rfl
      have HP := Lib.hid hP
      have HQ := Lib.hid hQ
      have HH := Lib.hid hH
      clear hP hQ hH
      go_enter Try.func7, Try.ntmps7
      go_wp2_with fail
      obtain ⟨w1, hw1⟩ : ∃ x, w.alloc (.cells #[.bool leaf, .slice A ks.length c, .slice C vs.length d] 24) = x := ⟨_, rfl⟩
      obtain ⟨ib0, hib0⟩ : ∃ i, w.heap.size = i := ⟨_, rfl⟩
      have b0 : Blk w1 ib0 24 #[.bool leaf, .slice A ks.length c, .slice C vs.length d] := by rw [← hw1, ← hib0]; exact Blk.new _ _ _
      have k1 : Below w.heap.size w w1 := by rw [← hw1]; exact (Below.refl _ _).alloc (Nat.le_refl _) _
      have zb0 : w1.heap.size = ib0 + 1 := by rw [← hw1, ← hib0]; simp
      rw [hw1, hib0]
      have ob0 : w.heap.size ≤ ib0 := by rw [← hib0]; exact bel.size
      have n0 := n0.below k1
      have bel := hthen bel k1
      clear k1
      clear hw1 hib0
      have b0c0 := b0.cell 0
      have b0c1 := b0.cell 1
      have b0c2 := b0.cell 2
      simp at b0c0 b0c1 b0c2
      have b0lt := b0.lt
      try (go_wp2_with fail)
      refine (small_to HS.out _ _ n0 l1 l2).mono ?_
      rintro e w2 ⟨rfl, k2⟩
      clear b0c0 b0c1 b0c2 b0lt
      have b0 := b0.below k2 b0.lt
      have n0 := n0.below k2
      have bel := hthen bel k2
      clear k2
      have b0c0 := b0.cell 0
      have b0c1 := b0.cell 1
      have b0c2 := b0.cell 2
      simp at b0c0 b0c1 b0c2
      have b0lt := b0.lt
      go_wp2_with fail
      refine (own_any _ ⟨leaf, ks, vs⟩ _ n0).mono ?_
      rintro e w3 ⟨rfl, k3⟩
      clear b0c0 b0c1 b0c2 b0lt
      have b0 := b0.below k3 b0.lt
      have n0 := n0.below k3
      have bel := hthen bel k3
      clear k3
      have b0c0 := b0.cell 0
      have b0c1 := b0.cell 1
      have b0c2 := b0.cell 2
      simp at b0c0 b0c1 b0c2
      have b0lt := b0.lt
      go_wp2_with fail
      refine (split_to HP.out HQ.out HH.out _ _ n0 M1 M2).mono ?_
      rintro e w4 ⟨u5, u6, rfl, n5, n6, k4⟩
      clear b0c0 b0c1 b0c2 b0lt
      have b0 := b0.below k4 b0.lt
      have n0 := n0.below k4
      have bel := hthen bel k4
      clear k4
      obtain ⟨A5, c5, C5, d5, rfl⟩ := n5.form2 (a := 0) (b := 0) rfl rfl
      obtain ⟨A6, c6, C6, d6, rfl⟩ := n6.form2 (a := 0) (b := 0) rfl rfl
      rw [show emptyN.leaf = false from rfl]
      clear n5 n6
      have b0c0 := b0.cell 0
      have b0c1 := b0.cell 1
      have b0c2 := b0.cell 2
      simp at b0c0 b0c1 b0c2
      have b0lt := b0.lt
      go_wp2_with fail
      clear b0c0 b0c1 b0c2 b0lt
      obtain ⟨w5, hw5⟩ : ∃ x, w4.alloc (.cells #[.bool false, .slice A5 0 c5, .slice C5 0 d5] 30) = x := ⟨_, rfl⟩
      obtain ⟨ib5, hib5⟩ : ∃ i, w4.heap.size = i := ⟨_, rfl⟩
      have b5 : Blk w5 ib5 30 #[.bool false, .slice A5 0 c5, .slice C5 0 d5] := by rw [← hw5, ← hib5]; exact Blk.new _ _ _
      have k5 : Below w4.heap.size w4 w5 := by rw [← hw5]; exact (Below.refl _ _).alloc (Nat.le_refl _) _
      have zb5 : w5.heap.size = ib5 + 1 := by rw [← hw5, ← hib5]; simp
      rw [hw5, hib5]
      have b0 := b0.below k5 b0.lt
      have n0 := n0.below k5
      have bel := hthen bel k5
      clear k5
      clear hw5 hib5
      have b0c0 := b0.cell 0
      have b0c1 := b0.cell 1
      have b0c2 := b0.cell 2
      simp at b0c0 b0c1 b0c2
      have b0lt := b0.lt
      have b5c0 := b5.cell 0
      have b5c1 := b5.cell 1
      have b5c2 := b5.cell 2
      simp at b5c0 b5c1 b5c2
      have b5lt := b5.lt
      try (go_wp2_with fail)
      clear b0c0 b0c1 b0c2 b0lt b5c0 b5c1 b5c2 b5lt
      obtain ⟨w6, hw6⟩ : ∃ x, w5.alloc (.cells #[.bool false, .slice A6 0 c6, .slice C6 0 d6] 30) = x := ⟨_, rfl⟩
      obtain ⟨ib6, hib6⟩ : ∃ i, w5.heap.size = i := ⟨_, rfl⟩
      have b6 : Blk w6 ib6 30 #[.bool false, .slice A6 0 c6, .slice C6 0 d6] := by rw [← hw6, ← hib6]; exact Blk.new _ _ _
      have k6 : Below w5.heap.size w5 w6 := by rw [← hw6]; exact (Below.refl _ _).alloc (Nat.le_refl _) _
      have zb6 : w6.heap.size = ib6 + 1 := by rw [← hw6, ← hib6]; simp
      rw [hw6, ← zb5, hib6]
      have b0 := b0.below k6 b0.lt
      have b5 := b5.below k6 b5.lt
      have n0 := n0.below k6
      have bel := hthen bel k6
      clear k6
      clear hw6 hib6
      have b0c0 := b0.cell 0
      have b0c1 := b0.cell 1
      have b0c2 := b0.cell 2
      simp at b0c0 b0c1 b0c2
      have b0lt := b0.lt
      have b5c0 := b5.cell 0
      have b5c1 := b5.cell 1
      have b5c2 := b5.cell 2
      simp at b5c0 b5c1 b5c2
      have b5lt := b5.lt
      have b6c0 := b6.cell 0
      have b6c1 := b6.cell 1
      have b6c2 := b6.cell 2
      simp at b6c0 b6c1 b6c2
      have b6lt := b6.lt
      try (go_wp2_with fail)
      refine (live_ok _).mono ?_
      rintro e w7 ⟨rfl, k7⟩
      clear b0c0 b0c1 b0c2 b0lt b5c0 b5c1 b5c2 b5lt b6c0 b6c1 b6c2 b6lt
      have b0 := b0.below k7 b0.lt
      have b5 := b5.below k7 b5.lt
      have b6 := b6.below k7 b6.lt
      have n0 := n0.below k7
      have bel := hthen bel k7
      clear k7
      go_wp2
      go_ret
      exact ⟨rfl, bel⟩
    · obtain ⟨hm, hl2⟩ := halves_may hH
      simp only at hl2
      obtain ⟨ct1, ct2, _, _⟩ := cutN_spec (n := ⟨leaf, ks, vs⟩) hl2
      simp only at ct2
      have hvl : vs.length = ks.length := (may_small hm).2
      obtain ⟨K1, hK1⟩ : ∃ X, ks.take (cutN ⟨leaf, ks, vs⟩) = X := ⟨_, rfl⟩
      obtain ⟨K2, hK2⟩ : ∃ X, ks.drop (cutN ⟨leaf, ks, vs⟩) = X := ⟨_, rfl⟩
      obtain ⟨V1, hV1⟩ : ∃ X, vs.take (cutN ⟨leaf, ks, vs⟩) = X := ⟨_, rfl⟩
      obtain ⟨V2, hV2⟩ : ∃ X, vs.drop (cutN ⟨leaf, ks, vs⟩) = X := ⟨_, rfl⟩
      have hP : firstN ⟨leaf, ks, vs⟩ = ⟨leaf, K1, V1⟩ := by unfold firstN; rw [if_pos hH]; simp only; rw [hK1, hV1]
      have hQ : secondN ⟨leaf, ks, vs⟩ = ⟨leaf, K2, V2⟩ := by unfold secondN; rw [if_pos hH]; simp only; rw [hK2, hV2]
      have hks : K1 ++ K2 = ks := by rw [← hK1, ← hK2]; exact List.take_append_drop _ _
      have hvs : V1 ++ V2 = vs := by rw [← hV1, ← hV2]; exact List.take_append_drop _ _
      have lK1 : K1.length = cutN ⟨leaf, ks, vs⟩ := by rw [← hK1, List.length_take]; omega
      have lK2 : K2.length = ks.length - cutN ⟨leaf, ks, vs⟩ := by rw [← hK2, List.length_drop]
      have lV1 : V1.length = cutN ⟨leaf, ks, vs⟩ := by rw [← hV1, List.length_take]; omega
      have lV2 : V2.length = vs.length - cutN ⟨leaf, ks, vs⟩ := by rw [← hV2, List.length_drop]
      have hfit : sizeN ⟨leaf, ks, vs⟩ ≤ 1383 → checkN ⟨leaf, K1, V1⟩ = 0 ∧ checkN ⟨leaf, K2, V2⟩ = 0 := fun h => by
        have := halves_fit hH h
        rwa [hP, hQ] at this
      obtain ⟨Z, hZ⟩ : ∃ Z, sizeN ⟨leaf, ks, vs⟩ = Z := ⟨_, rfl⟩
      rw [hZ] at hfit
      have qa : ((K1.length : Int) == 0) = false := beq_eq_false_iff_ne.2 (by omega)
      have qb : ((K2.length : Int) == 0) = false := beq_eq_false_iff_ne.2 (by omega)
      have ql : (leaf == leaf) = true := by simp
      have g1 : K1.length ≤ 260 := by omega
      have g2 : K2.length ≤ 260 := by omega
      have g3 : V1.length ≤ 260 := by omega
      have g4 : V2.length ≤ 260 := by omega
      have HP := Lib.hid hP
      have HQ := Lib.hid hQ
      have HH := Lib.hid hH
      have HKS := Lib.hid hks
      have HVS := Lib.hid hvs
      have HZ := Lib.hid hZ
      have HFIT := Lib.hid hfit
      clear hP hQ hH hK1 hK2 hV1 hV2 lK1 lK2 lV1 lV2 hks hvs hZ hfit hm hvl ct1 ct2
      go_enter Try.func7, Try.ntmps7
      go_wp2_with fail
      obtain ⟨w1, hw1⟩ : ∃ x, w.alloc (.cells #[.bool leaf, .slice A ks.length c, .slice C vs.length d] 24) = x := ⟨_, rfl⟩
      obtain ⟨ib0, hib0⟩ : ∃ i, w.heap.size = i := ⟨_, rfl⟩
      have b0 : Blk w1 ib0 24 #[.bool leaf, .slice A ks.length c, .slice C vs.length d] := by rw [← hw1, ← hib0]; exact Blk.new _ _ _
      have k1 : Below w.heap.size w w1 := by rw [← hw1]; exact (Below.refl _ _).alloc (Nat.le_refl _) _
      have zb0 : w1.heap.size = ib0 + 1 := by rw [← hw1, ← hib0]; simp
      rw [hw1, hib0]
      have ob0 : w.heap.size ≤ ib0 := by rw [← hib0]; exact bel.size
      have n0 := n0.below k1
      have bel := hthen bel k1
      clear k1
      clear hw1 hib0
      have b0c0 := b0.cell 0
      have b0c1 := b0.cell 1
      have b0c2 := b0.cell 2
      simp at b0c0 b0c1 b0c2
      have b0lt := b0.lt
      try (go_wp2_with fail)
      refine (small_to HS.out _ _ n0 l1 l2).mono ?_
      rintro e w2 ⟨rfl, k2⟩
      clear b0c0 b0c1 b0c2 b0lt
      have b0 := b0.below k2 b0.lt
      have n0 := n0.below k2
      have bel := hthen bel k2
      clear k2
      have b0c0 := b0.cell 0
      have b0c1 := b0.cell 1
      have b0c2 := b0.cell 2
      simp at b0c0 b0c1 b0c2
      have b0lt := b0.lt
      go_wp2_with fail
      refine (own_any _ ⟨leaf, ks, vs⟩ _ n0).mono ?_
      rintro e w3 ⟨rfl, k3⟩
      clear b0c0 b0c1 b0c2 b0lt
      have b0 := b0.below k3 b0.lt
      have n0 := n0.below k3
      have bel := hthen bel k3
      clear k3
      have b0c0 := b0.cell 0
      have b0c1 := b0.cell 1
      have b0c2 := b0.cell 2
      simp at b0c0 b0c1 b0c2
      have b0lt := b0.lt
      go_wp2_with fail
      refine (split_to HP.out HQ.out HH.out _ _ n0 M1 M2).mono ?_
      rintro e w4 ⟨u5, u6, rfl, n5, n6, k4⟩
      clear b0c0 b0c1 b0c2 b0lt
      have b0 := b0.below k4 b0.lt
      have n0 := n0.below k4
      have bel := hthen bel k4
      clear k4
      obtain ⟨A5, c5, C5, d5, rfl⟩ := n5.form
      obtain ⟨A6, c6, C6, d6, rfl⟩ := n6.form
      have b0c0 := b0.cell 0
      have b0c1 := b0.cell 1
      have b0c2 := b0.cell 2
      simp at b0c0 b0c1 b0c2
      have b0lt := b0.lt
      go_upto_region 4 with fail
      clear b0c0 b0c1 b0c2 b0lt
      obtain ⟨w5, hw5⟩ : ∃ x, w4.alloc (.cells #[.bool leaf, .slice A5 K1.length c5, .slice C5 V1.length d5] 30) = x := ⟨_, rfl⟩
      obtain ⟨ib5, hib5⟩ : ∃ i, w4.heap.size = i := ⟨_, rfl⟩
      have b5 : Blk w5 ib5 30 #[.bool leaf, .slice A5 K1.length c5, .slice C5 V1.length d5] := by rw [← hw5, ← hib5]; exact Blk.new _ _ _
      have k5 : Below w4.heap.size w4 w5 := by rw [← hw5]; exact (Below.refl _ _).alloc (Nat.le_refl _) _
      have zb5 : w5.heap.size = ib5 + 1 := by rw [← hw5, ← hib5]; simp
      rw [hw5, hib5]
      have ob5 : w.heap.size ≤ ib5 := by rw [← hib5]; exact bel.size
      have nb0b5 : ib0 ≠ ib5 := by have := b0.lt; omega
      have b0 := b0.below k5 b0.lt
      have n0 := n0.below k5
      have n5 := n5.below k5
      have n6 := n6.below k5
      have bel := hthen bel k5
      clear k5
      clear hw5 hib5
      have b0c0 := b0.cell 0
      have b0c1 := b0.cell 1
      have b0c2 := b0.cell 2
      simp at b0c0 b0c1 b0c2
      have b0lt := b0.lt
      have b5c0 := b5.cell 0
      have b5c1 := b5.cell 1
      have b5c2 := b5.cell 2
      simp at b5c0 b5c1 b5c2
      have b5lt := b5.lt
      clear b0c0 b0c1 b0c2 b0lt b5c0 b5c1 b5c2 b5lt
      obtain ⟨w6, hw6⟩ : ∃ x, w5.alloc (.cells #[.bool leaf, .slice A6 K2.length c6, .slice C6 V2.length d6] 30) = x := ⟨_, rfl⟩
      obtain ⟨ib6, hib6⟩ : ∃ i, w5.heap.size = i := ⟨_, rfl⟩
      have b6 : Blk w6 ib6 30 #[.bool leaf, .slice A6 K2.length c6, .slice C6 V2.length d6] := by rw [← hw6, ← hib6]; exact Blk.new _ _ _
      have k6 : Below w5.heap.size w5 w6 := by rw [← hw6]; exact (Below.refl _ _).alloc (Nat.le_refl _) _
      have zb6 : w6.heap.size = ib6 + 1 := by rw [← hw6, ← hib6]; simp
      rw [hw6, ← zb5, hib6]
      have ob6 : w.heap.size ≤ ib6 := by rw [← hib6]; exact bel.size
      have nb0b6 : ib0 ≠ ib6 := by have := b0.lt; omega
      have nb5b6 : ib5 ≠ ib6 := by have := b5.lt; omega
      have b0 := b0.below k6 b0.lt
      have b5 := b5.below k6 b5.lt
      have n0 := n0.below k6
      have n5 := n5.below k6
      have n6 := n6.below k6
      have bel := hthen bel k6
      clear k6
      clear hw6 hib6
      have b0c0 := b0.cell 0
      have b0c1 := b0.cell 1
      have b0c2 := b0.cell 2
      simp at b0c0 b0c1 b0c2
      have b0lt := b0.lt
      have b5c0 := b5.cell 0
      have b5c1 := b5.cell 1
      have b5c2 := b5.cell 2
      simp at b5c0 b5c1 b5c2
      have b5lt := b5.lt
      have b6c0 := b6.cell 0
      have b6c1 := b6.cell 1
      have b6c2 := b6.cell 2
      simp at b6c0 b6c1 b6c2
      have b6lt := b6.lt
      clear zb0 zb5 zb6
      go_upto_region 7 with fail
      clear b0c0 b0c1 b0c2 b0lt b5c0 b5c1 b5c2 b5lt b6c0 b6c1 b6c2 b6lt
      have BEL := Lib.hid bel
      have N00 := Lib.hid n0
      have N55 := Lib.hid n5
      have N66 := Lib.hid n6
      have bel : Below w6.heap.size w6 w6 := Below.refl _ _
      obtain ⟨w7, hw7⟩ : ∃ x, w6.alloc (.cells #[.bool false, .slice none 0 0, .slice none 0 0] 24) = x := ⟨_, rfl⟩
      obtain ⟨ib2, hib2⟩ : ∃ i, w6.heap.size = i := ⟨_, rfl⟩
      have b2 : Blk w7 ib2 24 #[.bool false, .slice none 0 0, .slice none 0 0] := by rw [← hw7, ← hib2]; exact Blk.new _ _ _
      have k7 : Below w6.heap.size w6 w7 := by rw [← hw7]; exact (Below.refl _ _).alloc (Nat.le_refl _) _
      have zb2 : w7.heap.size = ib2 + 1 := by rw [← hw7, ← hib2]; simp
      rw [hw7, hib2]
      have ob2 : w6.heap.size ≤ ib2 := by rw [← hib2]; exact bel.size
      have nb0b2 : ib0 ≠ ib2 := by have := b0.lt; omega
      have nb5b2 : ib5 ≠ ib2 := by have := b5.lt; omega
      have nb6b2 : ib6 ≠ ib2 := by have := b6.lt; omega
      have b0 := b0.below k7 b0.lt
      have b5 := b5.below k7 b5.lt
      have b6 := b6.below k7 b6.lt
      have n0 := n0.below k7
      have n5 := n5.below k7
      have n6 := n6.below k7
      have bel := hthen bel k7
      clear k7
      clear hw7 hib2
      have b0c0 := b0.cell 0
      have b0c1 := b0.cell 1
      have b0c2 := b0.cell 2
      simp at b0c0 b0c1 b0c2
      have b0lt := b0.lt
      have b5c0 := b5.cell 0
      have b5c1 := b5.cell 1
      have b5c2 := b5.cell 2
      simp at b5c0 b5c1 b5c2
      have b5lt := b5.lt
      have b6c0 := b6.cell 0
      have b6c1 := b6.cell 1
      have b6c2 := b6.cell 2
      simp at b6c0 b6c1 b6c2
      have b6lt := b6.lt
      have b2c0 := b2.cell 0
      have b2c1 := b2.cell 1
      have b2c2 := b2.cell 2
      simp at b2c0 b2c1 b2c2
      have b2lt := b2.lt
      clear zb2
      have bf0 := b2.frozen 0
      go_upto_region 8 with fail
      clear b0c0 b0c1 b0c2 b0lt b5c0 b5c1 b5c2 b5lt b6c0 b6c1 b6c2 b6lt b2c0 b2c1 b2c2 b2lt
      clear bf0 n0 n5 n6
      have b0 := b0.far (p := ⟨ib2, 0, none⟩) nb0b2 (.bool leaf)
      have b5 := b5.far (p := ⟨ib2, 0, none⟩) nb5b2 (.bool leaf)
      have b6 := b6.far (p := ⟨ib2, 0, none⟩) nb6b2 (.bool leaf)
      have b2 := b2.set_ 0 (.bool leaf)
      simp only [List.setIfInBounds_toArray, List.set_cons_zero] at b2
      have bel := below_at bel ob2 0 (.bool leaf)
      obtain ⟨wC, hwC⟩ : ∃ x, w7.setCell ⟨ib2, 0, none⟩ (.bool leaf) = x := ⟨_, rfl⟩
      rw [hwC] at b0 b5 b6 b2 bel ⊢
      have st : GrSt 24 w6 ib2 leaf [] [] 0 0 (.slice none 0 0) (.slice none 0 0) wC := GrSt.new bel b2 ob2
      clear hwC b2 bel
      have b0c0 := b0.cell 0
      have b0c1 := b0.cell 1
      have b0c2 := b0.cell 2
      simp at b0c0 b0c1 b0c2
      have b0lt := b0.lt
      have b5c0 := b5.cell 0
      have b5c1 := b5.cell 1
      have b5c2 := b5.cell 2
      simp at b5c0 b5c1 b5c2
      have b5lt := b5.lt
      have b6c0 := b6.cell 0
      have b6c1 := b6.cell 1
      have b6c2 := b6.cell 2
      simp at b6c0 b6c1 b6c2
      have b6lt := b6.lt
      have o0 := st.b.cell 0
      have o1 := st.b.cell 1
      have o2 := st.b.cell 2
      simp at o0 o1 o2
      go_wp2_with (at_builtin; refine wpList_append_ss rfl _ _ rfl w6.heap.size (.slice none 0 0) (0) _ rfl st.o1 (.slice A5 K1.length c5) (K1) rfl (by obtain ⟨_, _, e, s1, s2⟩ := N55.out.below st.bel; cases e; exact s1) (by omega) st.bel.size ?_)
      clear b0c0 b0c1 b0c2 b0lt b5c0 b5c1 b5c2 b5lt b6c0 b6c1 b6c2 b6lt
      clear o0 o1 o2
      intro B1 cp1 u3 hown hgr hat
      obtain ⟨bn, stn, othN⟩ := GrSt.appL1 (Nat.zero_add _) st (by decide) hown hgr hat
      have b0 := othN _ _ _ b0 (by decide) nb0b2
      have b5 := othN _ _ _ b5 (by decide) nb5b2
      have b6 := othN _ _ _ b6 (by decide) nb6b2
      have zz := bn.frozen 1
      have zc := bn.cell 1
      simp at zc
      obtain ⟨w8, hu4⟩ : ∃ x, u3.setCell ⟨ib2, 1, none⟩ (.slice B1 ((K1).length) cp1) = x := ⟨_, rfl⟩
      rw [hu4] at stn b0 b5 b6
      have HU4 := Lib.hid hu4
      clear hu4 hown hgr hat othN
      go_upto_region 9 with fail
      rw [HU4.out]
      have st := stn
      clear stn HU4 bn zz zc
      rw [List.nil_append] at st
      have b0c0 := b0.cell 0
      have b0c1 := b0.cell 1
      have b0c2 := b0.cell 2
      simp at b0c0 b0c1 b0c2
      have b0lt := b0.lt
      have b5c0 := b5.cell 0
      have b5c1 := b5.cell 1
      have b5c2 := b5.cell 2
      simp at b5c0 b5c1 b5c2
      have b5lt := b5.lt
      have b6c0 := b6.cell 0
      have b6c1 := b6.cell 1
      have b6c2 := b6.cell 2
      simp at b6c0 b6c1 b6c2
      have b6lt := b6.lt
      have o0 := st.b.cell 0
      have o1 := st.b.cell 1
      have o2 := st.b.cell 2
      simp at o0 o1 o2
      go_wp2_with (at_builtin; refine wpList_append_ss rfl _ _ rfl w6.heap.size (.slice B1 K1.length cp1) (K1.length) _ rfl st.o1 (.slice A6 K2.length c6) (K2) rfl (by obtain ⟨_, _, e, s1, s2⟩ := N66.out.below st.bel; cases e; exact s1) (by omega) st.bel.size ?_)
      clear b0c0 b0c1 b0c2 b0lt b5c0 b5c1 b5c2 b5lt b6c0 b6c1 b6c2 b6lt
      clear o0 o1 o2
      intro B1 cp1 u3 hown hgr hat
      obtain ⟨bn, stn, othN⟩ := GrSt.appL1 (rfl) st (by decide) hown hgr hat
      have b0 := othN _ _ _ b0 (by decide) nb0b2
      have b5 := othN _ _ _ b5 (by decide) nb5b2
      have b6 := othN _ _ _ b6 (by decide) nb6b2
      have zz := bn.frozen 1
      have zc := bn.cell 1
      simp at zc
      obtain ⟨w9, hu4⟩ : ∃ x, u3.setCell ⟨ib2, 1, none⟩ (.slice B1 (K1.length + (K2).length) cp1) = x := ⟨_, rfl⟩
      rw [hu4] at stn b0 b5 b6
      have HU4 := Lib.hid hu4
      clear hu4 hown hgr hat othN
      go_upto_region 10 with fail
      rw [HU4.out]
      have st := stn
      clear stn HU4 bn zz zc
      have b0c0 := b0.cell 0
      have b0c1 := b0.cell 1
      have b0c2 := b0.cell 2
      simp at b0c0 b0c1 b0c2
      have b0lt := b0.lt
      have b5c0 := b5.cell 0
      have b5c1 := b5.cell 1
      have b5c2 := b5.cell 2
      simp at b5c0 b5c1 b5c2
      have b5lt := b5.lt
      have b6c0 := b6.cell 0
      have b6c1 := b6.cell 1
      have b6c2 := b6.cell 2
      simp at b6c0 b6c1 b6c2
      have b6lt := b6.lt
      have o0 := st.b.cell 0
      have o1 := st.b.cell 1
      have o2 := st.b.cell 2
      simp at o0 o1 o2
      go_wp2_with (at_builtin; refine wpList_append_ss rfl _ _ rfl w6.heap.size (.slice none 0 0) (0) _ rfl st.o2 (.slice C5 V1.length d5) (V1) rfl (by obtain ⟨_, _, e, s1, s2⟩ := N55.out.below st.bel; cases e; exact s2) (by omega) st.bel.size ?_)
      clear b0c0 b0c1 b0c2 b0lt b5c0 b5c1 b5c2 b5lt b6c0 b6c1 b6c2 b6lt
      clear o0 o1 o2
      intro B2 cp2 u3 hown hgr hat
      obtain ⟨bn, stn, othN⟩ := GrSt.appL2 (Nat.zero_add _) st (by decide) hown hgr hat
      have b0 := othN _ _ _ b0 (by decide) nb0b2
      have b5 := othN _ _ _ b5 (by decide) nb5b2
      have b6 := othN _ _ _ b6 (by decide) nb6b2
      have zz := bn.frozen 2
      have zc := bn.cell 2
      simp at zc
      obtain ⟨w10, hu4⟩ : ∃ x, u3.setCell ⟨ib2, 2, none⟩ (.slice B2 ((V1).length) cp2) = x := ⟨_, rfl⟩
      rw [hu4] at stn b0 b5 b6
      have HU4 := Lib.hid hu4
      clear hu4 hown hgr hat othN
      go_upto_region 11 with fail
      rw [HU4.out]
      have st := stn
      clear stn HU4 bn zz zc
      rw [List.nil_append] at st
      have b0c0 := b0.cell 0
      have b0c1 := b0.cell 1
      have b0c2 := b0.cell 2
      simp at b0c0 b0c1 b0c2
      have b0lt := b0.lt
      have b5c0 := b5.cell 0
      have b5c1 := b5.cell 1
      have b5c2 := b5.cell 2
      simp at b5c0 b5c1 b5c2
      have b5lt := b5.lt
      have b6c0 := b6.cell 0
      have b6c1 := b6.cell 1
      have b6c2 := b6.cell 2
      simp at b6c0 b6c1 b6c2
      have b6lt := b6.lt
      have o0 := st.b.cell 0
      have o1 := st.b.cell 1
      have o2 := st.b.cell 2
      simp at o0 o1 o2
      go_wp2_with (at_builtin; refine wpList_append_ss rfl _ _ rfl w6.heap.size (.slice B2 V1.length cp2) (V1.length) _ rfl st.o2 (.slice C6 V2.length d6) (V2) rfl (by obtain ⟨_, _, e, s1, s2⟩ := N66.out.below st.bel; cases e; exact s2) (by omega) st.bel.size ?_)
      clear b0c0 b0c1 b0c2 b0lt b5c0 b5c1 b5c2 b5lt b6c0 b6c1 b6c2 b6lt
      clear o0 o1 o2
      intro B2 cp2 u3 hown hgr hat
      obtain ⟨bn, stn, othN⟩ := GrSt.appL2 (rfl) st (by decide) hown hgr hat
      have b0 := othN _ _ _ b0 (by decide) nb0b2
      have b5 := othN _ _ _ b5 (by decide) nb5b2
      have b6 := othN _ _ _ b6 (by decide) nb6b2
      have zz := bn.frozen 2
      have zc := bn.cell 2
      simp at zc
      obtain ⟨w11, hu4⟩ : ∃ x, u3.setCell ⟨ib2, 2, none⟩ (.slice B2 (V1.length + (V2).length) cp2) = x := ⟨_, rfl⟩
      rw [hu4] at stn b0 b5 b6
      have HU4 := Lib.hid hu4
      clear hu4 hown hgr hat othN
      go_upto_region 12 with fail
      rw [HU4.out]
      have st := stn
      clear stn HU4 bn zz zc
      rw [HKS.out, HVS.out] at st
      have nw := st.nd
      have n0 := N00.out.below st.bel
      have n5 := N55.out.below st.bel
      have n6 := N66.out.below st.bel
      have b2 := st.b
      have bel := BEL.out.trans (st.bel.mono BEL.out.size)
      clear st
      have b0c0 := b0.cell 0
      have b0c1 := b0.cell 1
      have b0c2 := b0.cell 2
      simp at b0c0 b0c1 b0c2
      have b0lt := b0.lt
      have b5c0 := b5.cell 0
      have b5c1 := b5.cell 1
      have b5c2 := b5.cell 2
      simp at b5c0 b5c1 b5c2
      have b5lt := b5.lt
      have b6c0 := b6.cell 0
      have b6c1 := b6.cell 1
      have b6c2 := b6.cell 2
      simp at b6c0 b6c1 b6c2
      have b6lt := b6.lt
      have b2c0 := b2.cell 0
      have b2c1 := b2.cell 1
      have b2c2 := b2.cell 2
      simp at b2c0 b2c1 b2c2
      have b2lt := b2.lt
      go_wp2_with fail
      refine (nsame_to rfl _ _ _ nw n0 (by show ks.length ≤ _; omega) (by show vs.length ≤ _; omega)).mono ?_
      rintro e w12 ⟨rfl, k12⟩
      clear b0c0 b0c1 b0c2 b0lt b5c0 b5c1 b5c2 b5lt b6c0 b6c1 b6c2 b6lt b2c0 b2c1 b2c2 b2lt
      have b0 := b0.below k12 b0.lt
      have b5 := b5.below k12 b5.lt
      have b6 := b6.below k12 b6.lt
      have b2 := b2.below k12 b2.lt
      have n0 := n0.below k12
      have nw := nw.below k12
      have n5 := n5.below k12
      have n6 := n6.below k12
      have bel := hthen bel k12
      clear k12
      have b0c0 := b0.cell 0
      have b0c1 := b0.cell 1
      have b0c2 := b0.cell 2
      simp at b0c0 b0c1 b0c2
      have b0lt := b0.lt
      have b5c0 := b5.cell 0
      have b5c1 := b5.cell 1
      have b5c2 := b5.cell 2
      simp at b5c0 b5c1 b5c2
      have b5lt := b5.lt
      have b6c0 := b6.cell 0
      have b6c1 := b6.cell 1
      have b6c2 := b6.cell 2
      simp at b6c0 b6c1 b6c2
      have b6lt := b6.lt
      have b2c0 := b2.cell 0
      have b2c1 := b2.cell 1
      have b2c2 := b2.cell 2
      simp at b2c0 b2c1 b2c2
      have b2lt := b2.lt
      go_wp2_with fail
      refine (own_any _ ⟨leaf, ks, vs⟩ _ n0).mono ?_
      rintro e w13 ⟨rfl, k13⟩
      clear b0c0 b0c1 b0c2 b0lt b5c0 b5c1 b5c2 b5lt b6c0 b6c1 b6c2 b6lt b2c0 b2c1 b2c2 b2lt
      have b0 := b0.below k13 b0.lt
      have b5 := b5.below k13 b5.lt
      have b6 := b6.below k13 b6.lt
      have b2 := b2.below k13 b2.lt
      have n0 := n0.below k13
      have nw := nw.below k13
      have n5 := n5.below k13
      have n6 := n6.below k13
      have bel := hthen bel k13
      clear k13
      have b0c0 := b0.cell 0
      have b0c1 := b0.cell 1
      have b0c2 := b0.cell 2
      simp at b0c0 b0c1 b0c2
      have b0lt := b0.lt
      have b5c0 := b5.cell 0
      have b5c1 := b5.cell 1
      have b5c2 := b5.cell 2
      simp at b5c0 b5c1 b5c2
      have b5lt := b5.lt
      have b6c0 := b6.cell 0
      have b6c1 := b6.cell 1
      have b6c2 := b6.cell 2
      simp at b6c0 b6c1 b6c2
      have b6lt := b6.lt
      have b2c0 := b2.cell 0
      have b2c1 := b2.cell 1
      have b2c2 := b2.cell 2
      simp at b2c0 b2c1 b2c2
      have b2lt := b2.lt
      go_wp2_with fail
      by_cases hZ : 1383 < Z
      · have qz : decide ((Z : Int) > 1383) = true := decide_eq_true (by omega)
        refine (size_to HZ.out _ _ n0 M1 M2).mono ?_
        rintro e w14 ⟨rfl, k14⟩
        clear b0c0 b0c1 b0c2 b0lt b5c0 b5c1 b5c2 b5lt b6c0 b6c1 b6c2 b6lt b2c0 b2c1 b2c2 b2lt
        have b0 := b0.below k14 b0.lt
        have b5 := b5.below k14 b5.lt
        have b6 := b6.below k14 b6.lt
        have b2 := b2.below k14 b2.lt
        have n0 := n0.below k14
        have nw := nw.below k14
        have n5 := n5.below k14
        have n6 := n6.below k14
        have bel := hthen bel k14
        clear k14
        have b0c0 := b0.cell 0
        have b0c1 := b0.cell 1
        have b0c2 := b0.cell 2
        simp at b0c0 b0c1 b0c2
        have b0lt := b0.lt
        have b5c0 := b5.cell 0
        have b5c1 := b5.cell 1
        have b5c2 := b5.cell 2
        simp at b5c0 b5c1 b5c2
        have b5lt := b5.lt
        have b6c0 := b6.cell 0
        have b6c1 := b6.cell 1
        have b6c2 := b6.cell 2
        simp at b6c0 b6c1 b6c2
        have b6lt := b6.lt
        have b2c0 := b2.cell 0
        have b2c1 := b2.cell 1
        have b2c2 := b2.cell 2
        simp at b2c0 b2c1 b2c2
        have b2lt := b2.lt
        go_wp2_with fail
        refine (live_ok _).mono ?_
        rintro e w15 ⟨rfl, k15⟩
        clear b0c0 b0c1 b0c2 b0lt b5c0 b5c1 b5c2 b5lt b6c0 b6c1 b6c2 b6lt b2c0 b2c1 b2c2 b2lt
        have b0 := b0.below k15 b0.lt
        have b5 := b5.below k15 b5.lt
        have b6 := b6.below k15 b6.lt
        have b2 := b2.below k15 b2.lt
        have n0 := n0.below k15
        have nw := nw.below k15
        have n5 := n5.below k15
        have n6 := n6.below k15
        have bel := hthen bel k15
        clear k15
        go_wp2
        go_ret
        exact ⟨rfl, bel⟩
      · have qz : decide ((Z : Int) > 1383) = false := decide_eq_false (by omega)
        obtain ⟨f1, f2⟩ := HFIT.out (by omega)
        have F1 := Lib.hid f1
        have F2 := Lib.hid f2
        clear f1 f2
        refine (size_to HZ.out _ _ n0 M1 M2).mono ?_
        rintro e w14 ⟨rfl, k14⟩
        clear b0c0 b0c1 b0c2 b0lt b5c0 b5c1 b5c2 b5lt b6c0 b6c1 b6c2 b6lt b2c0 b2c1 b2c2 b2lt
        have b0 := b0.below k14 b0.lt
        have b5 := b5.below k14 b5.lt
        have b6 := b6.below k14 b6.lt
        have b2 := b2.below k14 b2.lt
        have n0 := n0.below k14
        have nw := nw.below k14
        have n5 := n5.below k14
        have n6 := n6.below k14
        have bel := hthen bel k14
        clear k14
        have b0c0 := b0.cell 0
        have b0c1 := b0.cell 1
        have b0c2 := b0.cell 2
        simp at b0c0 b0c1 b0c2
        have b0lt := b0.lt
        have b5c0 := b5.cell 0
        have b5c1 := b5.cell 1
        have b5c2 := b5.cell 2
        simp at b5c0 b5c1 b5c2
        have b5lt := b5.lt
        have b6c0 := b6.cell 0
        have b6c1 := b6.cell 1
        have b6c2 := b6.cell 2
        simp at b6c0 b6c1 b6c2
        have b6lt := b6.lt
        have b2c0 := b2.cell 0
        have b2c1 := b2.cell 1
        have b2c2 := b2.cell 2
        simp at b2c0 b2c1 b2c2
        have b2lt := b2.lt
        go_wp2_with fail
        refine (check_to F1.out _ _ n5 (by show K1.length ≤ _; omega) (by show V1.length ≤ _; omega)).mono ?_
        rintro e w15 ⟨rfl, k15⟩
        clear b0c0 b0c1 b0c2 b0lt b5c0 b5c1 b5c2 b5lt b6c0 b6c1 b6c2 b6lt b2c0 b2c1 b2c2 b2lt
        have b0 := b0.below k15 b0.lt
        have b5 := b5.below k15 b5.lt
        have b6 := b6.below k15 b6.lt
        have b2 := b2.below k15 b2.lt
        have n0 := n0.below k15
        have nw := nw.below k15
        have n5 := n5.below k15
        have n6 := n6.below k15
        have bel := hthen bel k15
        clear k15
        have b0c0 := b0.cell 0
        have b0c1 := b0.cell 1
        have b0c2 := b0.cell 2
        simp at b0c0 b0c1 b0c2
        have b0lt := b0.lt
        have b5c0 := b5.cell 0
        have b5c1 := b5.cell 1
        have b5c2 := b5.cell 2
        simp at b5c0 b5c1 b5c2
        have b5lt := b5.lt
        have b6c0 := b6.cell 0
        have b6c1 := b6.cell 1
        have b6c2 := b6.cell 2
        simp at b6c0 b6c1 b6c2
        have b6lt := b6.lt
        have b2c0 := b2.cell 0
        have b2c1 := b2.cell 1
        have b2c2 := b2.cell 2
        simp at b2c0 b2c1 b2c2
        have b2lt := b2.lt
        go_wp2_with fail
        refine (check_to F2.out _ _ n6 (by show K2.length ≤ _; omega) (by show V2.length ≤ _; omega)).mono ?_
        rintro e w16 ⟨rfl, k16⟩
        clear b0c0 b0c1 b0c2 b0lt b5c0 b5c1 b5c2 b5lt b6c0 b6c1 b6c2 b6lt b2c0 b2c1 b2c2 b2lt
        have b0 := b0.below k16 b0.lt
        have b5 := b5.below k16 b5.lt
        have b6 := b6.below k16 b6.lt
        have b2 := b2.below k16 b2.lt
        have n0 := n0.below k16
        have nw := nw.below k16
        have n5 := n5.below k16
        have n6 := n6.below k16
        have bel := hthen bel k16
        clear k16
        have b0c0 := b0.cell 0
        have b0c1 := b0.cell 1
        have b0c2 := b0.cell 2
        simp at b0c0 b0c1 b0c2
        have b0lt := b0.lt
        have b5c0 := b5.cell 0
        have b5c1 := b5.cell 1
        have b5c2 := b5.cell 2
        simp at b5c0 b5c1 b5c2
        have b5lt := b5.lt
        have b6c0 := b6.cell 0
        have b6c1 := b6.cell 1
        have b6c2 := b6.cell 2
        simp at b6c0 b6c1 b6c2
        have b6lt := b6.lt
        have b2c0 := b2.cell 0
        have b2c1 := b2.cell 1
        have b2c2 := b2.cell 2
        simp at b2c0 b2c1 b2c2
        have b2lt := b2.lt
        go_wp2_with fail
        refine (live_ok _).mono ?_
        rintro e w17 ⟨rfl, k17⟩
        clear b0c0 b0c1 b0c2 b0lt b5c0 b5c1 b5c2 b5lt b6c0 b6c1 b6c2 b6lt b2c0 b2c1 b2c2 b2lt
        have b0 := b0.below k17 b0.lt
        have b5 := b5.below k17 b5.lt
        have b6 := b6.below k17 b6.lt
        have b2 := b2.below k17 b2.lt
        have n0 := n0.below k17
        have nw := nw.below k17
        have n5 := n5.below k17
        have n6 := n6.below k17
        have bel := hthen bel k17
        clear k17
        go_wp2
        go_ret
        exact ⟨rfl, bel⟩
end Go.Proofs.Ytiodeeliidhbgaa
