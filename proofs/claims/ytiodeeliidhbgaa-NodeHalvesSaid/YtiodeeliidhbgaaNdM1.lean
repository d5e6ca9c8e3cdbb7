/- The walk of NodeKeeps. -/
import Derived.Test.YtiodeeliidhbgaaNdL2
import Derived.Test.YtiodeeliidhbgaaGs
namespace Go.Proofs.Ytiodeeliidhbgaa
open Go Go.RowKit
set_option linter.unusedSimpArgs false
set_option linter.unnecessarySimpa false
set_option linter.unusedVariables false

set_option maxRecDepth 100000 in
set_option maxHeartbeats 8000000 in
theorem nodeKeeps_walk (w : World) (a0 : D_permafrostref09_Node) (v0_1 v0_2 : Value) (h0_0 : SlAt w.heap.size w IsStr 1 [v0_1] a0.keys) (h0_1 : SlAt w.heap.size w IsStr 1 [v0_2] a0.vals) (a1 : List UInt8) (h1 : a1.length ≤ 140737488351232) (a2 : List UInt8) (h2 : a2.length ≤ 140737488351232) :
    Calls Try.prog 9 #[.agg #[.bool a0.leaf, v0_1, v0_2], .string (bstr a1), .string (bstr a2)] w fun e w' => e = .returned (.bool true) ∧ Below w.heap.size w w' := by
  obtain ⟨leaf, ks, vs⟩ := a0
  simp only at h0_0 h0_1 ⊢
  obtain ⟨s1, l1⟩ := ss_arg h0_0
  obtain ⟨s2, l2⟩ := ss_arg h0_1
  obtain ⟨A, c, rfl⟩ := s1.form
  obtain ⟨C, d, rfl⟩ := s2.form
  clear h0_0 h0_1
  have n0 : NdV w (.agg #[.bool leaf, .slice A ks.length c, .slice C vs.length d]) ⟨leaf, ks, vs⟩ := ⟨_, _, rfl, s1, s2⟩
  have bel : Below w.heap.size w w := Below.refl _ _
  clear s1 s2
  have szk : (bstr a1).size = a1.length := by simp [bstr, ByteArray.size]
  have szv : (bstr a2).size = a2.length := by simp [bstr, ByteArray.size]
  cases hs : smallB ⟨leaf, ks, vs⟩
  · have HS := Lib.hid hs
    clear hs
    go_enter Try.func9, Try.ntmps9
    go_wp2_with fail
    obtain ⟨w1, hw1⟩ : ∃ x, w.alloc (.cells #[.bool leaf, .slice A ks.length c, .slice C vs.length d] 24) = x := ⟨_, rfl⟩
    obtain ⟨ib0, hib0⟩ : ∃ i, w.heap.size = i := ⟨_, rfl⟩
    have b0 : Blk w1 ib0 24 #[.bool leaf, .slice A ks.length c, .slice C vs.length d] := by rw [← hw1, ← hib0]; exact Blk.new _ _ _
    have k1 : Below w.heap.size w w1 := by rw [← hw1]; exact (Below.refl _ _).alloc (Nat.le_refl _) _
    have zb0 : w1.heap.size = ib0 + 1 := by rw [← hw1, ← hib0]; simp
    rw [hw1, hib0]
    have ob0 : w.heap.size ≤ ib0 := by rw [← hib0]; exact bel.size
    have n0 := n0.below k1
    have bel := hthen bel k1
    clear k1
    clear hw1 hib0
    have b0c0 := b0.cell 0
    have b0c1 := b0.cell 1
    have b0c2 := b0.cell 2
    simp at b0c0 b0c1 b0c2
    have b0lt := b0.lt
    try (go_wp2_with fail)
    refine (small_to HS.out _ _ n0 l1 l2).mono ?_
    rintro e w2 ⟨rfl, k2⟩
    clear b0c0 b0c1 b0c2 b0lt
    have b0 := b0.below k2 b0.lt
    have n0 := n0.below k2
    have bel := hthen bel k2
    clear k2
    have b0c0 := b0.cell 0
    have b0c1 := b0.cell 1
    have b0c2 := b0.cell 2
    simp at b0c0 b0c1 b0c2
    have b0lt := b0.lt
    go_wp2_with fail
    refine (live_ok _).mono ?_
    rintro e w3 ⟨rfl, k3⟩
    clear b0c0 b0c1 b0c2 b0lt
    have b0 := b0.below k3 b0.lt
    have n0 := n0.below k3
    have bel := hthen bel k3
    clear k3
    go_wp2
    go_ret
    exact ⟨rfl, bel⟩
  · obtain ⟨m1, m2⟩ := small_len hs
    simp only at m1 m2
    have HS := Lib.hid hs
    clear hs
    have M1 : ks.length ≤ 1000000 := by omega
    have M2 : vs.length ≤ 1000000 := by omega
    by_cases hl : 60 < ks.length
    · have qhl : decide ((ks.length : Int) > 60) = true := decide_eq_true (by omega)
      go_enter Try.func9, Try.ntmps9
      go_wp2_with fail
      obtain ⟨w1, hw1⟩ : ∃ x, w.alloc (.cells #[.bool leaf, .slice A ks.length c, .slice C vs.length d] 24) = x := ⟨_, rfl⟩
      obtain ⟨ib0, hib0⟩ : ∃ i, w.heap.size = i := ⟨_, rfl⟩
      have b0 : Blk w1 ib0 24 #[.bool leaf, .slice A ks.length c, .slice C vs.length d] := by rw [← hw1, ← hib0]; exact Blk.new _ _ _
      have k1 : Below w.heap.size w w1 := by rw [← hw1]; exact (Below.refl _ _).alloc (Nat.le_refl _) _
      have zb0 : w1.heap.size = ib0 + 1 := by rw [← hw1, ← hib0]; simp
      rw [hw1, hib0]
      have ob0 : w.heap.size ≤ ib0 := by rw [← hib0]; exact bel.size
      have n0 := n0.below k1
      have bel := hthen bel k1
      clear k1
      clear hw1 hib0
      have b0c0 := b0.cell 0
      have b0c1 := b0.cell 1
      have b0c2 := b0.cell 2
      simp at b0c0 b0c1 b0c2
      have b0lt := b0.lt
      try (go_wp2_with fail)
      refine (small_to HS.out _ _ n0 l1 l2).mono ?_
      rintro e w2 ⟨rfl, k2⟩
      clear b0c0 b0c1 b0c2 b0lt
      have b0 := b0.below k2 b0.lt
      have n0 := n0.below k2
      have bel := hthen bel k2
      clear k2
      have b0c0 := b0.cell 0
      have b0c1 := b0.cell 1
      have b0c2 := b0.cell 2
      simp at b0c0 b0c1 b0c2
      have b0lt := b0.lt
      go_wp2_with fail
      refine (live_ok _).mono ?_
      rintro e w3 ⟨rfl, k3⟩
      clear b0c0 b0c1 b0c2 b0lt
      have b0 := b0.below k3 b0.lt
      have n0 := n0.below k3
      have bel := hthen bel k3
      clear k3
      go_wp2
      go_ret
      exact ⟨rfl, bel⟩
    have qhl : decide ((ks.length : Int) > 60) = false := decide_eq_false (by omega)
    by_cases hl2 : 400 < a1.length
    · have qhl2 : decide ((a1.length : Int) > 400) = true := decide_eq_true (by omega)
      go_enter Try.func9, Try.ntmps9
      go_wp2_with fail
      obtain ⟨w1, hw1⟩ : ∃ x, w.alloc (.cells #[.bool leaf, .slice A ks.length c, .slice C vs.length d] 24) = x := ⟨_, rfl⟩
      obtain ⟨ib0, hib0⟩ : ∃ i, w.heap.size = i := ⟨_, rfl⟩
      have b0 : Blk w1 ib0 24 #[.bool leaf, .slice A ks.length c, .slice C vs.length d] := by rw [← hw1, ← hib0]; exact Blk.new _ _ _
      have k1 : Below w.heap.size w w1 := by rw [← hw1]; exact (Below.refl _ _).alloc (Nat.le_refl _) _
      have zb0 : w1.heap.size = ib0 + 1 := by rw [← hw1, ← hib0]; simp
      rw [hw1, hib0]
      have ob0 : w.heap.size ≤ ib0 := by rw [← hib0]; exact bel.size
      have n0 := n0.below k1
      have bel := hthen bel k1
      clear k1
      clear hw1 hib0
      have b0c0 := b0.cell 0
      have b0c1 := b0.cell 1
      have b0c2 := b0.cell 2
      simp at b0c0 b0c1 b0c2
      have b0lt := b0.lt
      try (go_wp2_with fail)
      refine (small_to HS.out _ _ n0 l1 l2).mono ?_
      rintro e w2 ⟨rfl, k2⟩
      clear b0c0 b0c1 b0c2 b0lt
      have b0 := b0.below k2 b0.lt
      have n0 := n0.below k2
      have bel := hthen bel k2
      clear k2
      have b0c0 := b0.cell 0
      have b0c1 := b0.cell 1
      have b0c2 := b0.cell 2
      simp at b0c0 b0c1 b0c2
      have b0lt := b0.lt
      go_wp2_with fail
      refine (live_ok _).mono ?_
      rintro e w3 ⟨rfl, k3⟩
      clear b0c0 b0c1 b0c2 b0lt
      have b0 := b0.below k3 b0.lt
      have n0 := n0.below k3
      have bel := hthen bel k3
      clear k3
      go_wp2
      go_ret
      exact ⟨rfl, bel⟩
    have qhl2 : decide ((a1.length : Int) > 400) = false := decide_eq_false (by omega)
    by_cases hl3 : 300 < a2.length
    · have qhl3 : decide ((a2.length : Int) > 300) = true := decide_eq_true (by omega)
      go_enter Try.func9, Try.ntmps9
      go_wp2_with fail
      obtain ⟨w1, hw1⟩ : ∃ x, w.alloc (.cells #[.bool leaf, .slice A ks.length c, .slice C vs.length d] 24) = x := ⟨_, rfl⟩
      obtain ⟨ib0, hib0⟩ : ∃ i, w.heap.size = i := ⟨_, rfl⟩
      have b0 : Blk w1 ib0 24 #[.bool leaf, .slice A ks.length c, .slice C vs.length d] := by rw [← hw1, ← hib0]; exact Blk.new _ _ _
      have k1 : Below w.heap.size w w1 := by rw [← hw1]; exact (Below.refl _ _).alloc (Nat.le_refl _) _
      have zb0 : w1.heap.size = ib0 + 1 := by rw [← hw1, ← hib0]; simp
      rw [hw1, hib0]
      have ob0 : w.heap.size ≤ ib0 := by rw [← hib0]; exact bel.size
      have n0 := n0.below k1
      have bel := hthen bel k1
      clear k1
      clear hw1 hib0
      have b0c0 := b0.cell 0
      have b0c1 := b0.cell 1
      have b0c2 := b0.cell 2
      simp at b0c0 b0c1 b0c2
      have b0lt := b0.lt
      try (go_wp2_with fail)
      refine (small_to HS.out _ _ n0 l1 l2).mono ?_
      rintro e w2 ⟨rfl, k2⟩
      clear b0c0 b0c1 b0c2 b0lt
      have b0 := b0.below k2 b0.lt
      have n0 := n0.below k2
      have bel := hthen bel k2
      clear k2
      have b0c0 := b0.cell 0
      have b0c1 := b0.cell 1
      have b0c2 := b0.cell 2
      simp at b0c0 b0c1 b0c2
      have b0lt := b0.lt
      go_wp2_with fail
      refine (live_ok _).mono ?_
      rintro e w3 ⟨rfl, k3⟩
      clear b0c0 b0c1 b0c2 b0lt
      have b0 := b0.below k3 b0.lt
      have n0 := n0.below k3
      have bel := hthen bel k3
      clear k3
      go_wp2
      go_ret
      exact ⟨rfl, bel⟩
    have qhl3 : decide ((a2.length : Int) > 300) = false := decide_eq_false (by omega)
    have z1 := with_len ⟨leaf, ks, vs⟩ a1 a2
    have z2 := without_len ⟨leaf, ks, vs⟩ a1
    have z3 := first_len ⟨leaf, ks, vs⟩
    obtain ⟨X, hX⟩ : ∃ X, withN ⟨leaf, ks, vs⟩ a1 a2 = X := ⟨_, rfl⟩
    obtain ⟨P, hP⟩ : ∃ X, firstN ⟨leaf, ks, vs⟩ = X := ⟨_, rfl⟩
    obtain ⟨H, hH⟩ : ∃ X, halvesN ⟨leaf, ks, vs⟩ = X := ⟨_, rfl⟩
    rw [hX] at z1
    rw [hP] at z3
    simp only at z1 z2 z3
    have X1 : X.keys.length ≤ 1000000 := by omega
    have X2 : X.vals.length ≤ 1000000 := by omega
    have P1 : P.keys.length ≤ 1000000 := by omega
    have P2 : P.vals.length ≤ 1000000 := by omega
    have HX := Lib.hid hX
    have HP := Lib.hid hP
    have HH := Lib.hid hH
    clear hX hP hH z1 z2 z3
    cases H
    · go_enter Try.func9, Try.ntmps9
      go_wp2_with fail
      obtain ⟨w1, hw1⟩ : ∃ x, w.alloc (.cells #[.bool leaf, .slice A ks.length c, .slice C vs.length d] 24) = x := ⟨_, rfl⟩
      obtain ⟨ib0, hib0⟩ : ∃ i, w.heap.size = i := ⟨_, rfl⟩
      have b0 : Blk w1 ib0 24 #[.bool leaf, .slice A ks.length c, .slice C vs.length d] := by rw [← hw1, ← hib0]; exact Blk.new _ _ _
      have k1 : Below w.heap.size w w1 := by rw [← hw1]; exact (Below.refl _ _).alloc (Nat.le_refl _) _
      have zb0 : w1.heap.size = ib0 + 1 := by rw [← hw1, ← hib0]; simp
      rw [hw1, hib0]
      have ob0 : w.heap.size ≤ ib0 := by rw [← hib0]; exact bel.size
      have n0 := n0.below k1
      have bel := hthen bel k1
      clear k1
      clear hw1 hib0
      have b0c0 := b0.cell 0
      have b0c1 := b0.cell 1
      have b0c2 := b0.cell 2
      simp at b0c0 b0c1 b0c2
      have b0lt := b0.lt
      try (go_wp2_with fail)
      refine (small_to HS.out _ _ n0 l1 l2).mono ?_
      rintro e w2 ⟨rfl, k2⟩
      clear b0c0 b0c1 b0c2 b0lt
      have b0 := b0.below k2 b0.lt
      have n0 := n0.below k2
      have bel := hthen bel k2
      clear k2
      have b0c0 := b0.cell 0
      have b0c1 := b0.cell 1
      have b0c2 := b0.cell 2
      simp at b0c0 b0c1 b0c2
      have b0lt := b0.lt
      go_wp2_with fail
      refine (own_any _ ⟨leaf, ks, vs⟩ _ n0).mono ?_
      rintro e wO ⟨rfl, kO⟩
      clear b0c0 b0c1 b0c2 b0lt
      have b0 := b0.below kO b0.lt
      have n0 := n0.below kO
      have bel := hthen bel kO
      clear kO
      have b0c0 := b0.cell 0
      have b0c1 := b0.cell 1
      have b0c2 := b0.cell 2
      simp at b0c0 b0c1 b0c2
      have b0lt := b0.lt
      go_upto_region 4 with fail
      clear b0c0 b0c1 b0c2 b0lt
      obtain ⟨w3, hw3⟩ : ∃ x, wO.alloc (.cells #[.bool leaf, .slice A ks.length c, .slice C vs.length d] 30) = x := ⟨_, rfl⟩
      obtain ⟨ib1, hib1⟩ : ∃ i, wO.heap.size = i := ⟨_, rfl⟩
      have b1 : Blk w3 ib1 30 #[.bool leaf, .slice A ks.length c, .slice C vs.length d] := by rw [← hw3, ← hib1]; exact Blk.new _ _ _
      have k3 : Below wO.heap.size wO w3 := by rw [← hw3]; exact (Below.refl _ _).alloc (Nat.le_refl _) _
      have zb1 : w3.heap.size = ib1 + 1 := by rw [← hw3, ← hib1]; simp
      rw [hw3, hib1]
      have ob1 : w.heap.size ≤ ib1 := by rw [← hib1]; exact bel.size
      have nb0b1 : ib0 ≠ ib1 := by have := b0.lt; omega
      have b0 := b0.below k3 b0.lt
      have n0 := n0.below k3
      have bel := hthen bel k3
      clear k3
      clear hw3 hib1
      have b0c0 := b0.cell 0
      have b0c1 := b0.cell 1
      have b0c2 := b0.cell 2
      simp at b0c0 b0c1 b0c2
      have b0lt := b0.lt
      have b1c0 := b1.cell 0
      have b1c1 := b1.cell 1
      have b1c2 := b1.cell 2
      simp at b1c0 b1c1 b1c2
      have b1lt := b1.lt
      clear b0c0 b0c1 b0c2 b0lt b1c0 b1c1 b1c2 b1lt
      have BEL := Lib.hid bel
      have N00 := Lib.hid n0
      have bel : Below w3.heap.size w3 w3 := Below.refl _ _
      have b0c0 := b0.cell 0
      have b0c1 := b0.cell 1
      have b0c2 := b0.cell 2
      simp at b0c0 b0c1 b0c2
      have b0lt := b0.lt
      have b1c0 := b1.cell 0
      have b1c1 := b1.cell 1
      have b1c2 := b1.cell 2
      simp at b1c0 b1c1 b1c2
      have b1lt := b1.lt
      go_upto_region 5 with fail
      clear b0c0 b0c1 b0c2 b0lt b1c0 b1c1 b1c2 b1lt
      obtain ⟨w4, hw4⟩ : ∃ x, w3.alloc (.cells #[.bool false, .slice none 0 0, .slice none 0 0] 24) = x := ⟨_, rfl⟩
      obtain ⟨ib2, hib2⟩ : ∃ i, w3.heap.size = i := ⟨_, rfl⟩
      have b2 : Blk w4 ib2 24 #[.bool false, .slice none 0 0, .slice none 0 0] := by rw [← hw4, ← hib2]; exact Blk.new _ _ _
      have k4 : Below w3.heap.size w3 w4 := by rw [← hw4]; exact (Below.refl _ _).alloc (Nat.le_refl _) _
      have zb2 : w4.heap.size = ib2 + 1 := by rw [← hw4, ← hib2]; simp
      rw [hw4, ← zb1, hib2]
      have ob2 : w3.heap.size ≤ ib2 := by rw [← hib2]; exact bel.size
      have nb0b2 : ib0 ≠ ib2 := by have := b0.lt; omega
      have nb1b2 : ib1 ≠ ib2 := by have := b1.lt; omega
      have b0 := b0.below k4 b0.lt
      have b1 := b1.below k4 b1.lt
      have n0 := n0.below k4
      have bel := hthen bel k4
      clear k4
      clear hw4 hib2
      have b0c0 := b0.cell 0
      have b0c1 := b0.cell 1
      have b0c2 := b0.cell 2
      simp at b0c0 b0c1 b0c2
      have b0lt := b0.lt
      have b1c0 := b1.cell 0
      have b1c1 := b1.cell 1
      have b1c2 := b1.cell 2
      simp at b1c0 b1c1 b1c2
      have b1lt := b1.lt
      have b2c0 := b2.cell 0
      have b2c1 := b2.cell 1
      have b2c2 := b2.cell 2
      simp at b2c0 b2c1 b2c2
      have b2lt := b2.lt
      clear zb0 zb1 zb2
      have bf0 := b2.frozen 0
      go_upto_region 6 with fail
      clear b0c0 b0c1 b0c2 b0lt b1c0 b1c1 b1c2 b1lt b2c0 b2c1 b2c2 b2lt
      clear bf0 n0
      have b0 := b0.far (p := ⟨ib2, 0, none⟩) nb0b2 (.bool leaf)
      have b1 := b1.far (p := ⟨ib2, 0, none⟩) nb1b2 (.bool leaf)
      have b2 := b2.set_ 0 (.bool leaf)
      simp only [List.setIfInBounds_toArray, List.set_cons_zero] at b2
      have bel := below_at bel ob2 0 (.bool leaf)
      obtain ⟨wC, hwC⟩ : ∃ x, w4.setCell ⟨ib2, 0, none⟩ (.bool leaf) = x := ⟨_, rfl⟩
      rw [hwC] at b0 b1 b2 bel ⊢
      have n0 := N00.out.below bel
      have st : GrSt 24 w3 ib2 leaf [] [] 0 0 (.slice none 0 0) (.slice none 0 0) wC := GrSt.new bel b2 ob2
      clear hwC b2 bel
      have b0c0 := b0.cell 0
      have b0c1 := b0.cell 1
      have b0c2 := b0.cell 2
      simp at b0c0 b0c1 b0c2
      have b0lt := b0.lt
      have b1c0 := b1.cell 0
      have b1c1 := b1.cell 1
      have b1c2 := b1.cell 2
      simp at b1c0 b1c1 b1c2
      have b1lt := b1.lt
      have o0 := st.b.cell 0
      have o1 := st.b.cell 1
      have o2 := st.b.cell 2
      simp at o0 o1 o2
      go_wp2_with (at_builtin; refine wpList_append_ss rfl _ _ rfl w3.heap.size (.slice none 0 0) (0) _ rfl st.o1 (.slice A ks.length c) (ks) rfl (by obtain ⟨_, _, e, s1, s2⟩ := n0; cases e; exact s1) (by omega) st.bel.size ?_)
      clear b0c0 b0c1 b0c2 b0lt b1c0 b1c1 b1c2 b1lt
      clear o0 o1 o2
      intro B1 cp1 u3 hown hgr hat
      obtain ⟨bn, stn, othN⟩ := GrSt.appL1 (Nat.zero_add _) st (by decide) hown hgr hat
      have b0 := othN _ _ _ b0 (by decide) nb0b2
      have b1 := othN _ _ _ b1 (by decide) nb1b2
      have zz := bn.frozen 1
      have zc := bn.cell 1
      simp at zc
      obtain ⟨w5, hu4⟩ : ∃ x, u3.setCell ⟨ib2, 1, none⟩ (.slice B1 ((ks).length) cp1) = x := ⟨_, rfl⟩
      rw [hu4] at stn b0 b1
      have HU4 := Lib.hid hu4
      clear hu4 hown hgr hat othN
      go_upto_region 7 with fail
      rw [HU4.out]
      have st := stn
      clear stn HU4 bn zz zc
      have n0 := N00.out.below st.bel
      have b0c0 := b0.cell 0
      have b0c1 := b0.cell 1
      have b0c2 := b0.cell 2
      simp at b0c0 b0c1 b0c2
      have b0lt := b0.lt
      have b1c0 := b1.cell 0
      have b1c1 := b1.cell 1
      have b1c2 := b1.cell 2
      simp at b1c0 b1c1 b1c2
      have b1lt := b1.lt
      have o0 := st.b.cell 0
      have o1 := st.b.cell 1
      have o2 := st.b.cell 2
      simp at o0 o1 o2
      go_wp2_with (at_builtin; refine wpList_append_ss rfl _ _ rfl w3.heap.size (.slice none 0 0) (0) _ rfl st.o2 (.slice C vs.length d) (vs) rfl (by obtain ⟨_, _, e, s1, s2⟩ := n0; cases e; exact s2) (by omega) st.bel.size ?_)
      clear b0c0 b0c1 b0c2 b0lt b1c0 b1c1 b1c2 b1lt
      clear o0 o1 o2
      intro B2 cp2 u3 hown hgr hat
      obtain ⟨bn, stn, othN⟩ := GrSt.appL2 (Nat.zero_add _) st (by decide) hown hgr hat
      have b0 := othN _ _ _ b0 (by decide) nb0b2
      have b1 := othN _ _ _ b1 (by decide) nb1b2
      have zz := bn.frozen 2
      have zc := bn.cell 2
      simp at zc
      obtain ⟨w6, hu4⟩ : ∃ x, u3.setCell ⟨ib2, 2, none⟩ (.slice B2 ((vs).length) cp2) = x := ⟨_, rfl⟩
      rw [hu4] at stn b0 b1
      have HU4 := Lib.hid hu4
      clear hu4 hown hgr hat othN
      go_upto_region 8 with fail
      rw [HU4.out]
      have st := stn
      clear stn HU4 bn zz zc
      have n0 := N00.out.below st.bel
      rw [List.nil_append, List.nil_append] at st
      have nw := st.nd
      have b2 := st.b
      have bel := BEL.out.trans (st.bel.mono BEL.out.size)
      clear st
      have b0c0 := b0.cell 0
      have b0c1 := b0.cell 1
      have b0c2 := b0.cell 2
      simp at b0c0 b0c1 b0c2
      have b0lt := b0.lt
      have b1c0 := b1.cell 0
      have b1c1 := b1.cell 1
      have b1c2 := b1.cell 2
      simp at b1c0 b1c1 b1c2
      have b1lt := b1.lt
      have b2c0 := b2.cell 0
      have b2c1 := b2.cell 1
      have b2c2 := b2.cell 2
      simp at b2c0 b2c1 b2c2
      have b2lt := b2.lt
      go_wp2_with fail
      refine (with_to HX.out _ _ n0 M1 M2).mono ?_
      rintro e w7 ⟨u3, rfl, n3, k7⟩
      clear b0c0 b0c1 b0c2 b0lt b1c0 b1c1 b1c2 b1lt b2c0 b2c1 b2c2 b2lt
      have b0 := b0.below k7 b0.lt
      have b1 := b1.below k7 b1.lt
      have b2 := b2.below k7 b2.lt
      have n0 := n0.below k7
      have nw := nw.below k7
      have bel := hthen bel k7
      clear k7
      obtain ⟨A3, c3, C3, d3, rfl⟩ := n3.form
      have b0c0 := b0.cell 0
      have b0c1 := b0.cell 1
      have b0c2 := b0.cell 2
      simp at b0c0 b0c1 b0c2
      have b0lt := b0.lt
      have b1c0 := b1.cell 0
      have b1c1 := b1.cell 1
      have b1c2 := b1.cell 2
      simp at b1c0 b1c1 b1c2
      have b1lt := b1.lt
      have b2c0 := b2.cell 0
      have b2c1 := b2.cell 1
      have b2c2 := b2.cell 2
      simp at b2c0 b2c1 b2c2
      have b2lt := b2.lt
      go_wp2_with fail
      clear b0c0 b0c1 b0c2 b0lt b1c0 b1c1 b1c2 b1lt b2c0 b2c1 b2c2 b2lt
      obtain ⟨w8, hw8⟩ : ∃ x, w7.alloc (.cells #[.bool X.leaf, .slice A3 X.keys.length c3, .slice C3 X.vals.length d3] 30) = x := ⟨_, rfl⟩
      obtain ⟨ib3, hib3⟩ : ∃ i, w7.heap.size = i := ⟨_, rfl⟩
      have b3 : Blk w8 ib3 30 #[.bool X.leaf, .slice A3 X.keys.length c3, .slice C3 X.vals.length d3] := by rw [← hw8, ← hib3]; exact Blk.new _ _ _
      have k8 : Below w7.heap.size w7 w8 := by rw [← hw8]; exact (Below.refl _ _).alloc (Nat.le_refl _) _
      have zb3 : w8.heap.size = ib3 + 1 := by rw [← hw8, ← hib3]; simp
      rw [hw8, hib3]
      have b0 := b0.below k8 b0.lt
      have b1 := b1.below k8 b1.lt
      have b2 := b2.below k8 b2.lt
      have n0 := n0.below k8
      have nw := nw.below k8
      have n3 := n3.below k8
      have bel := hthen bel k8
      clear k8
      clear hw8 hib3
      have b0c0 := b0.cell 0
      have b0c1 := b0.cell 1
      have b0c2 := b0.cell 2
      simp at b0c0 b0c1 b0c2
      have b0lt := b0.lt
      have b1c0 := b1.cell 0
      have b1c1 := b1.cell 1
      have b1c2 := b1.cell 2
      simp at b1c0 b1c1 b1c2
      have b1lt := b1.lt
      have b2c0 := b2.cell 0
      have b2c1 := b2.cell 1
      have b2c2 := b2.cell 2
      simp at b2c0 b2c1 b2c2
      have b2lt := b2.lt
      have b3c0 := b3.cell 0
      have b3c1 := b3.cell 1
      have b3c2 := b3.cell 2
      simp at b3c0 b3c1 b3c2
      have b3lt := b3.lt
      try (go_wp2_with fail)
      refine (without_to rfl _ _ n0 M1 M2).mono ?_
      rintro e w9 ⟨u4, rfl, _, k9⟩
      clear b0c0 b0c1 b0c2 b0lt b1c0 b1c1 b1c2 b1lt b2c0 b2c1 b2c2 b2lt b3c0 b3c1 b3c2 b3lt
      have b0 := b0.below k9 b0.lt
      have b1 := b1.below k9 b1.lt
      have b2 := b2.below k9 b2.lt
      have b3 := b3.below k9 b3.lt
      have n0 := n0.below k9
      have nw := nw.below k9
      have n3 := n3.below k9
      have bel := hthen bel k9
      clear k9
      have b0c0 := b0.cell 0
      have b0c1 := b0.cell 1
      have b0c2 := b0.cell 2
      simp at b0c0 b0c1 b0c2
      have b0lt := b0.lt
      have b1c0 := b1.cell 0
      have b1c1 := b1.cell 1
      have b1c2 := b1.cell 2
      simp at b1c0 b1c1 b1c2
      have b1lt := b1.lt
      have b2c0 := b2.cell 0
      have b2c1 := b2.cell 1
      have b2c2 := b2.cell 2
      simp at b2c0 b2c1 b2c2
      have b2lt := b2.lt
      have b3c0 := b3.cell 0
      have b3c1 := b3.cell 1
      have b3c2 := b3.cell 2
      simp at b3c0 b3c1 b3c2
      have b3lt := b3.lt
      go_wp2_with fail
      refine (split_to HP.out rfl HH.out _ _ n0 M1 M2).mono ?_
      rintro e w10 ⟨u5, u6, rfl, n5, n6, k10⟩
      clear b0c0 b0c1 b0c2 b0lt b1c0 b1c1 b1c2 b1lt b2c0 b2c1 b2c2 b2lt b3c0 b3c1 b3c2 b3lt
      have b0 := b0.below k10 b0.lt
      have b1 := b1.below k10 b1.lt
      have b2 := b2.below k10 b2.lt
      have b3 := b3.below k10 b3.lt
      have n0 := n0.below k10
      have nw := nw.below k10
      have n3 := n3.below k10
      have bel := hthen bel k10
      clear k10
      obtain ⟨A5, c5, C5, d5, rfl⟩ := n5.form
      obtain ⟨A6, c6, C6, d6, rfl⟩ := n6.form
      have b0c0 := b0.cell 0
      have b0c1 := b0.cell 1
      have b0c2 := b0.cell 2
      simp at b0c0 b0c1 b0c2
      have b0lt := b0.lt
      have b1c0 := b1.cell 0
      have b1c1 := b1.cell 1
      have b1c2 := b1.cell 2
      simp at b1c0 b1c1 b1c2
      have b1lt := b1.lt
      have b2c0 := b2.cell 0
      have b2c1 := b2.cell 1
      have b2c2 := b2.cell 2
      simp at b2c0 b2c1 b2c2
      have b2lt := b2.lt
      have b3c0 := b3.cell 0
      have b3c1 := b3.cell 1
      have b3c2 := b3.cell 2
      simp at b3c0 b3c1 b3c2
      have b3lt := b3.lt
      go_wp2_with fail
      clear b0c0 b0c1 b0c2 b0lt b1c0 b1c1 b1c2 b1lt b2c0 b2c1 b2c2 b2lt b3c0 b3c1 b3c2 b3lt
      obtain ⟨w11, hw11⟩ : ∃ x, w10.alloc (.cells #[.bool P.leaf, .slice A5 P.keys.length c5, .slice C5 P.vals.length d5] 30) = x := ⟨_, rfl⟩
      obtain ⟨ib5, hib5⟩ : ∃ i, w10.heap.size = i := ⟨_, rfl⟩
      have b5 : Blk w11 ib5 30 #[.bool P.leaf, .slice A5 P.keys.length c5, .slice C5 P.vals.length d5] := by rw [← hw11, ← hib5]; exact Blk.new _ _ _
      have k11 : Below w10.heap.size w10 w11 := by rw [← hw11]; exact (Below.refl _ _).alloc (Nat.le_refl _) _
      have zb5 : w11.heap.size = ib5 + 1 := by rw [← hw11, ← hib5]; simp
      rw [hw11, hib5]
      have b0 := b0.below k11 b0.lt
      have b1 := b1.below k11 b1.lt
      have b2 := b2.below k11 b2.lt
      have b3 := b3.below k11 b3.lt
      have n0 := n0.below k11
      have nw := nw.below k11
      have n3 := n3.below k11
      have n5 := n5.below k11
      have bel := hthen bel k11
      clear k11
      clear hw11 hib5
      have b0c0 := b0.cell 0
      have b0c1 := b0.cell 1
      have b0c2 := b0.cell 2
      simp at b0c0 b0c1 b0c2
      have b0lt := b0.lt
      have b1c0 := b1.cell 0
      have b1c1 := b1.cell 1
      have b1c2 := b1.cell 2
      simp at b1c0 b1c1 b1c2
      have b1lt := b1.lt
      have b2c0 := b2.cell 0
      have b2c1 := b2.cell 1
      have b2c2 := b2.cell 2
      simp at b2c0 b2c1 b2c2
      have b2lt := b2.lt
      have b3c0 := b3.cell 0
      have b3c1 := b3.cell 1
      have b3c2 := b3.cell 2
      simp at b3c0 b3c1 b3c2
      have b3lt := b3.lt
      have b5c0 := b5.cell 0
      have b5c1 := b5.cell 1
      have b5c2 := b5.cell 2
      simp at b5c0 b5c1 b5c2
      have b5lt := b5.lt
      try (go_wp2_with fail)
      clear b0c0 b0c1 b0c2 b0lt b1c0 b1c1 b1c2 b1lt b2c0 b2c1 b2c2 b2lt b3c0 b3c1 b3c2 b3lt b5c0 b5c1 b5c2 b5lt
      obtain ⟨w12, hw12⟩ : ∃ x, w11.alloc (.cells #[.bool (secondN ⟨leaf, ks, vs⟩).leaf, .slice A6 (secondN ⟨leaf, ks, vs⟩).keys.length c6, .slice C6 (secondN ⟨leaf, ks, vs⟩).vals.length d6] 30) = x := ⟨_, rfl⟩
      obtain ⟨ib6, hib6⟩ : ∃ i, w11.heap.size = i := ⟨_, rfl⟩
      have b6 : Blk w12 ib6 30 #[.bool (secondN ⟨leaf, ks, vs⟩).leaf, .slice A6 (secondN ⟨leaf, ks, vs⟩).keys.length c6, .slice C6 (secondN ⟨leaf, ks, vs⟩).vals.length d6] := by rw [← hw12, ← hib6]; exact Blk.new _ _ _
      have k12 : Below w11.heap.size w11 w12 := by rw [← hw12]; exact (Below.refl _ _).alloc (Nat.le_refl _) _
      have zb6 : w12.heap.size = ib6 + 1 := by rw [← hw12, ← hib6]; simp
      rw [hw12, ← zb5, hib6]
      have b0 := b0.below k12 b0.lt
      have b1 := b1.below k12 b1.lt
      have b2 := b2.below k12 b2.lt
      have b3 := b3.below k12 b3.lt
      have b5 := b5.below k12 b5.lt
      have n0 := n0.below k12
      have nw := nw.below k12
      have n3 := n3.below k12
      have n5 := n5.below k12
      have bel := hthen bel k12
      clear k12
      clear hw12 hib6
      have b0c0 := b0.cell 0
      have b0c1 := b0.cell 1
      have b0c2 := b0.cell 2
      simp at b0c0 b0c1 b0c2
      have b0lt := b0.lt
      have b1c0 := b1.cell 0
      have b1c1 := b1.cell 1
      have b1c2 := b1.cell 2
      simp at b1c0 b1c1 b1c2
      have b1lt := b1.lt
      have b2c0 := b2.cell 0
      have b2c1 := b2.cell 1
      have b2c2 := b2.cell 2
      simp at b2c0 b2c1 b2c2
      have b2lt := b2.lt
      have b3c0 := b3.cell 0
      have b3c1 := b3.cell 1
      have b3c2 := b3.cell 2
      simp at b3c0 b3c1 b3c2
      have b3lt := b3.lt
      have b5c0 := b5.cell 0
      have b5c1 := b5.cell 1
      have b5c2 := b5.cell 2
      simp at b5c0 b5c1 b5c2
      have b5lt := b5.lt
      have b6c0 := b6.cell 0
      have b6c1 := b6.cell 1
      have b6c2 := b6.cell 2
      simp at b6c0 b6c1 b6c2
      have b6lt := b6.lt
      try (go_wp2_with fail)
      refine (without_to rfl _ _ n3 X1 X2).mono ?_
      rintro e w13 ⟨u8, rfl, _, k13⟩
      clear b0c0 b0c1 b0c2 b0lt b1c0 b1c1 b1c2 b1lt b2c0 b2c1 b2c2 b2lt b3c0 b3c1 b3c2 b3lt b5c0 b5c1 b5c2 b5lt b6c0 b6c1 b6c2 b6lt
      have b0 := b0.below k13 b0.lt
      have b1 := b1.below k13 b1.lt
      have b2 := b2.below k13 b2.lt
      have b3 := b3.below k13 b3.lt
      have b5 := b5.below k13 b5.lt
      have b6 := b6.below k13 b6.lt
      have n0 := n0.below k13
      have nw := nw.below k13
      have n3 := n3.below k13
      have n5 := n5.below k13
      have bel := hthen bel k13
      clear k13
      have b0c0 := b0.cell 0
      have b0c1 := b0.cell 1
      have b0c2 := b0.cell 2
      simp at b0c0 b0c1 b0c2
      have b0lt := b0.lt
      have b1c0 := b1.cell 0
      have b1c1 := b1.cell 1
      have b1c2 := b1.cell 2
      simp at b1c0 b1c1 b1c2
      have b1lt := b1.lt
      have b2c0 := b2.cell 0
      have b2c1 := b2.cell 1
      have b2c2 := b2.cell 2
      simp at b2c0 b2c1 b2c2
      have b2lt := b2.lt
      have b3c0 := b3.cell 0
      have b3c1 := b3.cell 1
      have b3c2 := b3.cell 2
      simp at b3c0 b3c1 b3c2
      have b3lt := b3.lt
      have b5c0 := b5.cell 0
      have b5c1 := b5.cell 1
      have b5c2 := b5.cell 2
      simp at b5c0 b5c1 b5c2
      have b5lt := b5.lt
      have b6c0 := b6.cell 0
      have b6c1 := b6.cell 1
      have b6c2 := b6.cell 2
      simp at b6c0 b6c1 b6c2
      have b6lt := b6.lt
      go_wp2_with fail
      clear b0c0 b0c1 b0c2 b0lt b1c0 b1c1 b1c2 b1lt b2c0 b2c1 b2c2 b2lt b3c0 b3c1 b3c2 b3lt b5c0 b5c1 b5c2 b5lt b6c0 b6c1 b6c2 b6lt
      have n0 := n0.below (Below.refl _ _).drew
      have nw := nw.below (Below.refl _ _).drew
      have n3 := n3.below (Below.refl _ _).drew
      have n5 := n5.below (Below.refl _ _).drew
      have bel := bel.drew
      have b0 := b0.drew
      have b1 := b1.drew
      have b2 := b2.drew
      have b3 := b3.drew
      have b5 := b5.drew
      have b6 := b6.drew
      refine wp_region_noPanic ?_
      refine wp_region_held_drew (S := (fun w' => w'.cell? ⟨ib1, 0, none⟩ = some (.bool leaf) ∧ w'.cell? ⟨ib1, 1, none⟩ = some (.slice A ks.length c) ∧ w'.cell? ⟨ib1, 2, none⟩ = some (.slice C vs.length d) ∧ w'.cell? ⟨ib2, 0, none⟩ = some (.bool leaf) ∧ w'.cell? ⟨ib2, 1, none⟩ = some (.slice B1 ks.length cp1) ∧ w'.cell? ⟨ib2, 2, none⟩ = some (.slice B2 vs.length cp2))) (by kernel_rfl) ?hS0 (fun hHeld => ?_)
      case hS0 => (have q0 := b1.cell 0; have q1 := b1.cell 1; have q2 := b1.cell 2; have q3 := b2.cell 0; have q4 := b2.cell 1; have q5 := b2.cell 2; simp at q0 q1 q2 q3 q4 q5; exact ⟨q0, q1, q2, q3, q4, q5⟩)
      generalize hZ : w13.drew = wd14 at *
      clear hZ
      refine wpAnyH_take (i := 0) (oi := ⟨some 71, _, _, _, _, _⟩) (v := ?_) rfl (by kernel_rfl) (by kernel_rfl) (by kernel_rfl) (fun _ _ _ h => h) (Or.inl ⟨by kernel_rfl, ?_⟩) hHeld ?_
      rotate_left
      · (intro w hSw; (try dsimp only at hSw); go_simp; try with_reducible rfl)
      try simp only [Act.put, List.getElem_toArray, List.getElem_cons_succ, List.getElem_cons_zero, List.setIfInBounds_toArray, List.set_cons_zero, List.set_cons_succ]
      refine wpAnyH_take (i := 2) (oi := ⟨some 73, _, _, _, _, _⟩) (v := ?_) rfl (by kernel_rfl) (by kernel_rfl) (by kernel_rfl) (fun _ _ _ h => h) (Or.inl ⟨by kernel_rfl, ?_⟩) hHeld ?_
      rotate_left
      · (intro w hSw; (try dsimp only at hSw); go_simp; try with_reducible rfl)
      try simp only [Act.put, List.getElem_toArray, List.getElem_cons_succ, List.getElem_cons_zero, List.setIfInBounds_toArray, List.set_cons_zero, List.set_cons_succ]
      refine wpAnyH_ready (rs := [1]) (by kernel_rfl) (by simp) ?_
      refine (AllReadyH.cons rfl (fun K hK => ?_) AllReadyH.nil)
      try rw [if_pos (by kernel_rfl)]
      go_simp
      go_at_call 24
      refine (told_any _ ⟨leaf, ks, vs⟩ _ n0).mono ?_
      rintro e w15 ⟨rfl, k15⟩
      have b0 := b0.below k15 b0.lt
      have b1 := b1.below k15 b1.lt
      have b2 := b2.below k15 b2.lt
      have b3 := b3.below k15 b3.lt
      have b5 := b5.below k15 b5.lt
      have b6 := b6.below k15 b6.lt
      have n0 := n0.below k15
      have nw := nw.below k15
      have n3 := n3.below k15
      have n5 := n5.below k15
      have bel := hthen bel k15
      clear k15
      try dsimp only
      refine hK.out _ _ (by have q0 := b1.cell 0; have q1 := b1.cell 1; have q2 := b1.cell 2; have q3 := b2.cell 0; have q4 := b2.cell 1; have q5 := b2.cell 2; simp at q0 q1 q2 q3 q4 q5; exact ⟨q0, q1, q2, q3, q4, q5⟩) (fun hHeld => ?_)
      clear hK K
      try simp only [Act.put, List.getElem_toArray, List.getElem_cons_succ, List.getElem_cons_zero, List.setIfInBounds_toArray, List.set_cons_zero, List.set_cons_succ]
      refine wpAnyH_ready (rs := [3]) (by kernel_rfl) (by simp) ?_
      refine (AllReadyH.cons rfl (fun K hK => ?_) AllReadyH.nil)
      try rw [if_pos (by kernel_rfl)]
      go_simp
      go_at_call 23
      refine (nsame_to rfl _ _ _ n0 nw M1 M2).mono ?_
      rintro e w16 ⟨rfl, k16⟩
      have b0 := b0.below k16 b0.lt
      have b1 := b1.below k16 b1.lt
      have b2 := b2.below k16 b2.lt
      have b3 := b3.below k16 b3.lt
      have b5 := b5.below k16 b5.lt
      have b6 := b6.below k16 b6.lt
      have n0 := n0.below k16
      have nw := nw.below k16
      have n3 := n3.below k16
      have n5 := n5.below k16
      have bel := hthen bel k16
      clear k16
      try dsimp only
      refine hK.out _ _ (by have q0 := b1.cell 0; have q1 := b1.cell 1; have q2 := b1.cell 2; have q3 := b2.cell 0; have q4 := b2.cell 1; have q5 := b2.cell 2; simp at q0 q1 q2 q3 q4 q5; exact ⟨q0, q1, q2, q3, q4, q5⟩) (fun hHeld => ?_)
      clear hK K
      try simp only [Act.put, List.getElem_toArray, List.getElem_cons_succ, List.getElem_cons_zero, List.setIfInBounds_toArray, List.set_cons_zero, List.set_cons_succ]
      refine wpAnyH_take (i := 4) (oi := ⟨some 75, _, _, _, _, _⟩) (v := ?_) rfl (by kernel_rfl) (by kernel_rfl) (by kernel_rfl) (fun _ _ _ h => h) (Or.inl ⟨by kernel_rfl, ?_⟩) hHeld ?_
      rotate_left
      · (intro w hSw; (try dsimp only at hSw); go_simp; try with_reducible rfl)
      try simp only [Act.put, List.getElem_toArray, List.getElem_cons_succ, List.getElem_cons_zero, List.setIfInBounds_toArray, List.set_cons_zero, List.set_cons_succ]
      refine wpAnyH_ready (rs := [5]) (by kernel_rfl) (by simp) ?_
      refine (AllReadyH.cons rfl (fun K hK => ?_) AllReadyH.nil)
      try rw [if_pos (by kernel_rfl)]
      go_simp
      go_at_call 11
      refine (live_ok _).mono ?_
      rintro e w17 ⟨rfl, k17⟩
      have b0 := b0.below k17 b0.lt
      have b1 := b1.below k17 b1.lt
      have b2 := b2.below k17 b2.lt
      have b3 := b3.below k17 b3.lt
      have b5 := b5.below k17 b5.lt
      have b6 := b6.below k17 b6.lt
      have n0 := n0.below k17
      have nw := nw.below k17
      have n3 := n3.below k17
      have n5 := n5.below k17
      have bel := hthen bel k17
      clear k17
      try dsimp only
      refine hK.out _ _ (by have q0 := b1.cell 0; have q1 := b1.cell 1; have q2 := b1.cell 2; have q3 := b2.cell 0; have q4 := b2.cell 1; have q5 := b2.cell 2; simp at q0 q1 q2 q3 q4 q5; exact ⟨q0, q1, q2, q3, q4, q5⟩) (fun hHeld => ?_)
      clear hK K
      try simp only [Act.put, List.getElem_toArray, List.getElem_cons_succ, List.getElem_cons_zero, List.setIfInBounds_toArray, List.set_cons_zero, List.set_cons_succ]
      refine wpAnyH_take (i := 6) (oi := ⟨some 77, _, _, _, _, _⟩) (v := ?_) rfl (by kernel_rfl) (by kernel_rfl) (by kernel_rfl) (fun _ _ _ h => h) (Or.inl ⟨by kernel_rfl, ?_⟩) hHeld ?_
      rotate_left
      · (intro w hSw; (try dsimp only at hSw); go_simp; try with_reducible rfl)
      try simp only [Act.put, List.getElem_toArray, List.getElem_cons_succ, List.getElem_cons_zero, List.setIfInBounds_toArray, List.set_cons_zero, List.set_cons_succ]
      refine wpAnyH_take (i := 7) (oi := ⟨some 6, _, _, _, _, _⟩) (v := ?_) rfl (by kernel_rfl) (by kernel_rfl) (by kernel_rfl) (fun _ _ _ h => h) (Or.inl ⟨by kernel_rfl, ?_⟩) hHeld ?_
      rotate_left
      · (intro w hSw; (try dsimp only at hSw); go_simp; try with_reducible rfl)
      try simp only [Act.put, List.getElem_toArray, List.getElem_cons_succ, List.getElem_cons_zero, List.setIfInBounds_toArray, List.set_cons_zero, List.set_cons_succ]
      refine wpAnyH_done (by kernel_rfl) ?_ _
      refine NoPanic.normal ?_
      go_wp2
      go_ret
      exact ⟨rfl, bel⟩
    · go_enter Try.func9, Try.ntmps9
      go_wp2_with fail
      obtain ⟨w1, hw1⟩ : ∃ x, w.alloc (.cells #[.bool leaf, .slice A ks.length c, .slice C vs.length d] 24) = x := ⟨_, rfl⟩
      obtain ⟨ib0, hib0⟩ : ∃ i, w.heap.size = i := ⟨_, rfl⟩
      have b0 : Blk w1 ib0 24 #[.bool leaf, .slice A ks.length c, .slice C vs.length d] := by rw [← hw1, ← hib0]; exact Blk.new _ _ _
      have k1 : Below w.heap.size w w1 := by rw [← hw1]; exact (Below.refl _ _).alloc (Nat.le_refl _) _
      have zb0 : w1.heap.size = ib0 + 1 := by rw [← hw1, ← hib0]; simp
      rw [hw1, hib0]
      have ob0 : w.heap.size ≤ ib0 := by rw [← hib0]; exact bel.size
      have n0 := n0.below k1
      have bel := hthen bel k1
      clear k1
      clear hw1 hib0
      have b0c0 := b0.cell 0
      have b0c1 := b0.cell 1
      have b0c2 := b0.cell 2
      simp at b0c0 b0c1 b0c2
      have b0lt := b0.lt
      try (go_wp2_with fail)
      refine (small_to HS.out _ _ n0 l1 l2).mono ?_
      rintro e w2 ⟨rfl, k2⟩
      clear b0c0 b0c1 b0c2 b0lt
      have b0 := b0.below k2 b0.lt
      have n0 := n0.below k2
      have bel := hthen bel k2
      clear k2
      have b0c0 := b0.cell 0
      have b0c1 := b0.cell 1
      have b0c2 := b0.cell 2
      simp at b0c0 b0c1 b0c2
      have b0lt := b0.lt
      go_wp2_with fail
      refine (own_any _ ⟨leaf, ks, vs⟩ _ n0).mono ?_
      rintro e wO ⟨rfl, kO⟩
      clear b0c0 b0c1 b0c2 b0lt
      have b0 := b0.below kO b0.lt
      have n0 := n0.below kO
      have bel := hthen bel kO
      clear kO
      have b0c0 := b0.cell 0
      have b0c1 := b0.cell 1
      have b0c2 := b0.cell 2
      simp at b0c0 b0c1 b0c2
      have b0lt := b0.lt
      go_upto_region 4 with fail
      clear b0c0 b0c1 b0c2 b0lt
      obtain ⟨w3, hw3⟩ : ∃ x, wO.alloc (.cells #[.bool leaf, .slice A ks.length c, .slice C vs.length d] 30) = x := ⟨_, rfl⟩
      obtain ⟨ib1, hib1⟩ : ∃ i, wO.heap.size = i := ⟨_, rfl⟩
      have b1 : Blk w3 ib1 30 #[.bool leaf, .slice A ks.length c, .slice C vs.length d] := by rw [← hw3, ← hib1]; exact Blk.new _ _ _
      have k3 : Below wO.heap.size wO w3 := by rw [← hw3]; exact (Below.refl _ _).alloc (Nat.le_refl _) _
      have zb1 : w3.heap.size = ib1 + 1 := by rw [← hw3, ← hib1]; simp
      rw [hw3, hib1]
      have ob1 : w.heap.size ≤ ib1 := by rw [← hib1]; exact bel.size
      have nb0b1 : ib0 ≠ ib1 := by have := b0.lt; omega
      have b0 := b0.below k3 b0.lt
      have n0 := n0.below k3
      have bel := hthen bel k3
      clear k3
      clear hw3 hib1
      have b0c0 := b0.cell 0
      have b0c1 := b0.cell 1
      have b0c2 := b0.cell 2
      simp at b0c0 b0c1 b0c2
      have b0lt := b0.lt
      have b1c0 := b1.cell 0
      have b1c1 := b1.cell 1
      have b1c2 := b1.cell 2
      simp at b1c0 b1c1 b1c2
      have b1lt := b1.lt
      clear b0c0 b0c1 b0c2 b0lt b1c0 b1c1 b1c2 b1lt
      have BEL := Lib.hid bel
      have N00 := Lib.hid n0
      have bel : Below w3.heap.size w3 w3 := Below.refl _ _
      have b0c0 := b0.cell 0
      have b0c1 := b0.cell 1
      have b0c2 := b0.cell 2
      simp at b0c0 b0c1 b0c2
      have b0lt := b0.lt
      have b1c0 := b1.cell 0
      have b1c1 := b1.cell 1
      have b1c2 := b1.cell 2
      simp at b1c0 b1c1 b1c2
      have b1lt := b1.lt
      go_upto_region 5 with fail
      clear b0c0 b0c1 b0c2 b0lt b1c0 b1c1 b1c2 b1lt
      obtain ⟨w4, hw4⟩ : ∃ x, w3.alloc (.cells #[.bool false, .slice none 0 0, .slice none 0 0] 24) = x := ⟨_, rfl⟩
      obtain ⟨ib2, hib2⟩ : ∃ i, w3.heap.size = i := ⟨_, rfl⟩
      have b2 : Blk w4 ib2 24 #[.bool false, .slice none 0 0, .slice none 0 0] := by rw [← hw4, ← hib2]; exact Blk.new _ _ _
      have k4 : Below w3.heap.size w3 w4 := by rw [← hw4]; exact (Below.refl _ _).alloc (Nat.le_refl _) _
      have zb2 : w4.heap.size = ib2 + 1 := by rw [← hw4, ← hib2]; simp
      rw [hw4, ← zb1, hib2]
      have ob2 : w3.heap.size ≤ ib2 := by rw [← hib2]; exact bel.size
      have nb0b2 : ib0 ≠ ib2 := by have := b0.lt; omega
      have nb1b2 : ib1 ≠ ib2 := by have := b1.lt; omega
      have b0 := b0.below k4 b0.lt
      have b1 := b1.below k4 b1.lt
      have n0 := n0.below k4
      have bel := hthen bel k4
      clear k4
      clear hw4 hib2
      have b0c0 := b0.cell 0
      have b0c1 := b0.cell 1
      have b0c2 := b0.cell 2
      simp at b0c0 b0c1 b0c2
      have b0lt := b0.lt
      have b1c0 := b1.cell 0
      have b1c1 := b1.cell 1
      have b1c2 := b1.cell 2
      simp at b1c0 b1c1 b1c2
      have b1lt := b1.lt
      have b2c0 := b2.cell 0
      have b2c1 := b2.cell 1
      have b2c2 := b2.cell 2
      simp at b2c0 b2c1 b2c2
      have b2lt := b2.lt
      clear zb0 zb1 zb2
      have bf0 := b2.frozen 0
      go_upto_region 6 with fail
      clear b0c0 b0c1 b0c2 b0lt b1c0 b1c1 b1c2 b1lt b2c0 b2c1 b2c2 b2lt
      clear bf0 n0
      have b0 := b0.far (p := ⟨ib2, 0, none⟩) nb0b2 (.bool leaf)
      have b1 := b1.far (p := ⟨ib2, 0, none⟩) nb1b2 (.bool leaf)
      have b2 := b2.set_ 0 (.bool leaf)
      simp only [List.setIfInBounds_toArray, List.set_cons_zero] at b2
      have bel := below_at bel ob2 0 (.bool leaf)
      obtain ⟨wC, hwC⟩ : ∃ x, w4.setCell ⟨ib2, 0, none⟩ (.bool leaf) = x := ⟨_, rfl⟩
      rw [hwC] at b0 b1 b2 bel ⊢
      have n0 := N00.out.below bel
      have st : GrSt 24 w3 ib2 leaf [] [] 0 0 (.slice none 0 0) (.slice none 0 0) wC := GrSt.new bel b2 ob2
      clear hwC b2 bel
      have b0c0 := b0.cell 0
      have b0c1 := b0.cell 1
      have b0c2 := b0.cell 2
      simp at b0c0 b0c1 b0c2
      have b0lt := b0.lt
      have b1c0 := b1.cell 0
      have b1c1 := b1.cell 1
      have b1c2 := b1.cell 2
      simp at b1c0 b1c1 b1c2
      have b1lt := b1.lt
      have o0 := st.b.cell 0
      have o1 := st.b.cell 1
      have o2 := st.b.cell 2
      simp at o0 o1 o2
      go_wp2_with (at_builtin; refine wpList_append_ss rfl _ _ rfl w3.heap.size (.slice none 0 0) (0) _ rfl st.o1 (.slice A ks.length c) (ks) rfl (by obtain ⟨_, _, e, s1, s2⟩ := n0; cases e; exact s1) (by omega) st.bel.size ?_)
      clear b0c0 b0c1 b0c2 b0lt b1c0 b1c1 b1c2 b1lt
      clear o0 o1 o2
      intro B1 cp1 u3 hown hgr hat
      obtain ⟨bn, stn, othN⟩ := GrSt.appL1 (Nat.zero_add _) st (by decide) hown hgr hat
      have b0 := othN _ _ _ b0 (by decide) nb0b2
      have b1 := othN _ _ _ b1 (by decide) nb1b2
      have zz := bn.frozen 1
      have zc := bn.cell 1
      simp at zc
      obtain ⟨w5, hu4⟩ : ∃ x, u3.setCell ⟨ib2, 1, none⟩ (.slice B1 ((ks).length) cp1) = x := ⟨_, rfl⟩
      rw [hu4] at stn b0 b1
      have HU4 := Lib.hid hu4
      clear hu4 hown hgr hat othN
      go_upto_region 7 with fail
      rw [HU4.out]
      have st := stn
      clear stn HU4 bn zz zc
      have n0 := N00.out.below st.bel
      have b0c0 := b0.cell 0
      have b0c1 := b0.cell 1
      have b0c2 := b0.cell 2
      simp at b0c0 b0c1 b0c2
      have b0lt := b0.lt
      have b1c0 := b1.cell 0
      have b1c1 := b1.cell 1
      have b1c2 := b1.cell 2
      simp at b1c0 b1c1 b1c2
      have b1lt := b1.lt
      have o0 := st.b.cell 0
      have o1 := st.b.cell 1
      have o2 := st.b.cell 2
      simp at o0 o1 o2
      go_wp2_with (at_builtin; refine wpList_append_ss rfl _ _ rfl w3.heap.size (.slice none 0 0) (0) _ rfl st.o2 (.slice C vs.length d) (vs) rfl (by obtain ⟨_, _, e, s1, s2⟩ := n0; cases e; exact s2) (by omega) st.bel.size ?_)
      clear b0c0 b0c1 b0c2 b0lt b1c0 b1c1 b1c2 b1lt
      clear o0 o1 o2
      intro B2 cp2 u3 hown hgr hat
      obtain ⟨bn, stn, othN⟩ := GrSt.appL2 (Nat.zero_add _) st (by decide) hown hgr hat
      have b0 := othN _ _ _ b0 (by decide) nb0b2
      have b1 := othN _ _ _ b1 (by decide) nb1b2
      have zz := bn.frozen 2
      have zc := bn.cell 2
      simp at zc
      obtain ⟨w6, hu4⟩ : ∃ x, u3.setCell ⟨ib2, 2, none⟩ (.slice B2 ((vs).length) cp2) = x := ⟨_, rfl⟩
      rw [hu4] at stn b0 b1
      have HU4 := Lib.hid hu4
      clear hu4 hown hgr hat othN
      go_upto_region 8 with fail
      rw [HU4.out]
      have st := stn
      clear stn HU4 bn zz zc
      have n0 := N00.out.below st.bel
      rw [List.nil_append, List.nil_append] at st
      have nw := st.nd
      have b2 := st.b
      have bel := BEL.out.trans (st.bel.mono BEL.out.size)
      clear st
      have b0c0 := b0.cell 0
      have b0c1 := b0.cell 1
      have b0c2 := b0.cell 2
      simp at b0c0 b0c1 b0c2
      have b0lt := b0.lt
      have b1c0 := b1.cell 0
      have b1c1 := b1.cell 1
      have b1c2 := b1.cell 2
      simp at b1c0 b1c1 b1c2
      have b1lt := b1.lt
      have b2c0 := b2.cell 0
      have b2c1 := b2.cell 1
      have b2c2 := b2.cell 2
      simp at b2c0 b2c1 b2c2
      have b2lt := b2.lt
      go_wp2_with fail
      refine (with_to HX.out _ _ n0 M1 M2).mono ?_
      rintro e w7 ⟨u3, rfl, n3, k7⟩
      clear b0c0 b0c1 b0c2 b0lt b1c0 b1c1 b1c2 b1lt b2c0 b2c1 b2c2 b2lt
      have b0 := b0.below k7 b0.lt
      have b1 := b1.below k7 b1.lt
      have b2 := b2.below k7 b2.lt
      have n0 := n0.below k7
      have nw := nw.below k7
      have bel := hthen bel k7
      clear k7
      obtain ⟨A3, c3, C3, d3, rfl⟩ := n3.form
      have b0c0 := b0.cell 0
      have b0c1 := b0.cell 1
      have b0c2 := b0.cell 2
      simp at b0c0 b0c1 b0c2
      have b0lt := b0.lt
      have b1c0 := b1.cell 0
      have b1c1 := b1.cell 1
      have b1c2 := b1.cell 2
      simp at b1c0 b1c1 b1c2
      have b1lt := b1.lt
      have b2c0 := b2.cell 0
      have b2c1 := b2.cell 1
      have b2c2 := b2.cell 2
      simp at b2c0 b2c1 b2c2
      have b2lt := b2.lt
      go_wp2_with fail
      clear b0c0 b0c1 b0c2 b0lt b1c0 b1c1 b1c2 b1lt b2c0 b2c1 b2c2 b2lt
      obtain ⟨w8, hw8⟩ : ∃ x, w7.alloc (.cells #[.bool X.leaf, .slice A3 X.keys.length c3, .slice C3 X.vals.length d3] 30) = x := ⟨_, rfl⟩
      obtain ⟨ib3, hib3⟩ : ∃ i, w7.heap.size = i := ⟨_, rfl⟩
      have b3 : Blk w8 ib3 30 #[.bool X.leaf, .slice A3 X.keys.length c3, .slice C3 X.vals.length d3] := by rw [← hw8, ← hib3]; exact Blk.new _ _ _
      have k8 : Below w7.heap.size w7 w8 := by rw [← hw8]; exact (Below.refl _ _).alloc (Nat.le_refl _) _
      have zb3 : w8.heap.size = ib3 + 1 := by rw [← hw8, ← hib3]; simp
      rw [hw8, hib3]
      have b0 := b0.below k8 b0.lt
      have b1 := b1.below k8 b1.lt
      have b2 := b2.below k8 b2.lt
      have n0 := n0.below k8
      have nw := nw.below k8
      have n3 := n3.below k8
      have bel := hthen bel k8
      clear k8
      clear hw8 hib3
      have b0c0 := b0.cell 0
      have b0c1 := b0.cell 1
      have b0c2 := b0.cell 2
      simp at b0c0 b0c1 b0c2
      have b0lt := b0.lt
      have b1c0 := b1.cell 0
      have b1c1 := b1.cell 1
      have b1c2 := b1.cell 2
      simp at b1c0 b1c1 b1c2
      have b1lt := b1.lt
      have b2c0 := b2.cell 0
      have b2c1 := b2.cell 1
      have b2c2 := b2.cell 2
      simp at b2c0 b2c1 b2c2
      have b2lt := b2.lt
      have b3c0 := b3.cell 0
      have b3c1 := b3.cell 1
      have b3c2 := b3.cell 2
      simp at b3c0 b3c1 b3c2
      have b3lt := b3.lt
      try (go_wp2_with fail)
      refine (without_to rfl _ _ n0 M1 M2).mono ?_
      rintro e w9 ⟨u4, rfl, _, k9⟩
      clear b0c0 b0c1 b0c2 b0lt b1c0 b1c1 b1c2 b1lt b2c0 b2c1 b2c2 b2lt b3c0 b3c1 b3c2 b3lt
      have b0 := b0.below k9 b0.lt
      have b1 := b1.below k9 b1.lt
      have b2 := b2.below k9 b2.lt
      have b3 := b3.below k9 b3.lt
      have n0 := n0.below k9
      have nw := nw.below k9
      have n3 := n3.below k9
      have bel := hthen bel k9
      clear k9
      have b0c0 := b0.cell 0
      have b0c1 := b0.cell 1
      have b0c2 := b0.cell 2
      simp at b0c0 b0c1 b0c2
      have b0lt := b0.lt
      have b1c0 := b1.cell 0
      have b1c1 := b1.cell 1
      have b1c2 := b1.cell 2
      simp at b1c0 b1c1 b1c2
      have b1lt := b1.lt
      have b2c0 := b2.cell 0
      have b2c1 := b2.cell 1
      have b2c2 := b2.cell 2
      simp at b2c0 b2c1 b2c2
      have b2lt := b2.lt
      have b3c0 := b3.cell 0
      have b3c1 := b3.cell 1
      have b3c2 := b3.cell 2
      simp at b3c0 b3c1 b3c2
      have b3lt := b3.lt
      go_wp2_with fail
      refine (split_to HP.out rfl HH.out _ _ n0 M1 M2).mono ?_
      rintro e w10 ⟨u5, u6, rfl, n5, n6, k10⟩
      clear b0c0 b0c1 b0c2 b0lt b1c0 b1c1 b1c2 b1lt b2c0 b2c1 b2c2 b2lt b3c0 b3c1 b3c2 b3lt
      have b0 := b0.below k10 b0.lt
      have b1 := b1.below k10 b1.lt
      have b2 := b2.below k10 b2.lt
      have b3 := b3.below k10 b3.lt
      have n0 := n0.below k10
      have nw := nw.below k10
      have n3 := n3.below k10
      have bel := hthen bel k10
      clear k10
      obtain ⟨A5, c5, C5, d5, rfl⟩ := n5.form
      obtain ⟨A6, c6, C6, d6, rfl⟩ := n6.form
      have b0c0 := b0.cell 0
      have b0c1 := b0.cell 1
      have b0c2 := b0.cell 2
      simp at b0c0 b0c1 b0c2
      have b0lt := b0.lt
      have b1c0 := b1.cell 0
      have b1c1 := b1.cell 1
      have b1c2 := b1.cell 2
      simp at b1c0 b1c1 b1c2
      have b1lt := b1.lt
      have b2c0 := b2.cell 0
      have b2c1 := b2.cell 1
      have b2c2 := b2.cell 2
      simp at b2c0 b2c1 b2c2
      have b2lt := b2.lt
      have b3c0 := b3.cell 0
      have b3c1 := b3.cell 1
      have b3c2 := b3.cell 2
      simp at b3c0 b3c1 b3c2
      have b3lt := b3.lt
      go_wp2_with fail
      clear b0c0 b0c1 b0c2 b0lt b1c0 b1c1 b1c2 b1lt b2c0 b2c1 b2c2 b2lt b3c0 b3c1 b3c2 b3lt
      obtain ⟨w11, hw11⟩ : ∃ x, w10.alloc (.cells #[.bool P.leaf, .slice A5 P.keys.length c5, .slice C5 P.vals.length d5] 30) = x := ⟨_, rfl⟩
      obtain ⟨ib5, hib5⟩ : ∃ i, w10.heap.size = i := ⟨_, rfl⟩
      have b5 : Blk w11 ib5 30 #[.bool P.leaf, .slice A5 P.keys.length c5, .slice C5 P.vals.length d5] := by rw [← hw11, ← hib5]; exact Blk.new _ _ _
      have k11 : Below w10.heap.size w10 w11 := by rw [← hw11]; exact (Below.refl _ _).alloc (Nat.le_refl _) _
      have zb5 : w11.heap.size = ib5 + 1 := by rw [← hw11, ← hib5]; simp
      rw [hw11, hib5]
      have b0 := b0.below k11 b0.lt
      have b1 := b1.below k11 b1.lt
      have b2 := b2.below k11 b2.lt
      have b3 := b3.below k11 b3.lt
      have n0 := n0.below k11
      have nw := nw.below k11
      have n3 := n3.below k11
      have n5 := n5.below k11
      have bel := hthen bel k11
      clear k11
      clear hw11 hib5
      have b0c0 := b0.cell 0
      have b0c1 := b0.cell 1
      have b0c2 := b0.cell 2
      simp at b0c0 b0c1 b0c2
      have b0lt := b0.lt
      have b1c0 := b1.cell 0
      have b1c1 := b1.cell 1
      have b1c2 := b1.cell 2
      simp at b1c0 b1c1 b1c2
      have b1lt := b1.lt
      have b2c0 := b2.cell 0
      have b2c1 := b2.cell 1
      have b2c2 := b2.cell 2
      simp at b2c0 b2c1 b2c2
      have b2lt := b2.lt
      have b3c0 := b3.cell 0
      have b3c1 := b3.cell 1
      have b3c2 := b3.cell 2
      simp at b3c0 b3c1 b3c2
      have b3lt := b3.lt
      have b5c0 := b5.cell 0
      have b5c1 := b5.cell 1
      have b5c2 := b5.cell 2
      simp at b5c0 b5c1 b5c2
      have b5lt := b5.lt
      try (go_wp2_with fail)
      clear b0c0 b0c1 b0c2 b0lt b1c0 b1c1 b1c2 b1lt b2c0 b2c1 b2c2 b2lt b3c0 b3c1 b3c2 b3lt b5c0 b5c1 b5c2 b5lt
      obtain ⟨w12, hw12⟩ : ∃ x, w11.alloc (.cells #[.bool (secondN ⟨leaf, ks, vs⟩).leaf, .slice A6 (secondN ⟨leaf, ks, vs⟩).keys.length c6, .slice C6 (secondN ⟨leaf, ks, vs⟩).vals.length d6] 30) = x := ⟨_, rfl⟩
      obtain ⟨ib6, hib6⟩ : ∃ i, w11.heap.size = i := ⟨_, rfl⟩
      have b6 : Blk w12 ib6 30 #[.bool (secondN ⟨leaf, ks, vs⟩).leaf, .slice A6 (secondN ⟨leaf, ks, vs⟩).keys.length c6, .slice C6 (secondN ⟨leaf, ks, vs⟩).vals.length d6] := by rw [← hw12, ← hib6]; exact Blk.new _ _ _
      have k12 : Below w11.heap.size w11 w12 := by rw [← hw12]; exact (Below.refl _ _).alloc (Nat.le_refl _) _
      have zb6 : w12.heap.size = ib6 + 1 := by rw [← hw12, ← hib6]; simp
      rw [hw12, ← zb5, hib6]
      have b0 := b0.below k12 b0.lt
      have b1 := b1.below k12 b1.lt
      have b2 := b2.below k12 b2.lt
      have b3 := b3.below k12 b3.lt
      have b5 := b5.below k12 b5.lt
      have n0 := n0.below k12
      have nw := nw.below k12
      have n3 := n3.below k12
      have n5 := n5.below k12
      have bel := hthen bel k12
      clear k12
      clear hw12 hib6
      have b0c0 := b0.cell 0
      have b0c1 := b0.cell 1
      have b0c2 := b0.cell 2
      simp at b0c0 b0c1 b0c2
      have b0lt := b0.lt
      have b1c0 := b1.cell 0
      have b1c1 := b1.cell 1
      have b1c2 := b1.cell 2
      simp at b1c0 b1c1 b1c2
      have b1lt := b1.lt
      have b2c0 := b2.cell 0
      have b2c1 := b2.cell 1
      have b2c2 := b2.cell 2
      simp at b2c0 b2c1 b2c2
      have b2lt := b2.lt
      have b3c0 := b3.cell 0
      have b3c1 := b3.cell 1
      have b3c2 := b3.cell 2
      simp at b3c0 b3c1 b3c2
      have b3lt := b3.lt
      have b5c0 := b5.cell 0
      have b5c1 := b5.cell 1
      have b5c2 := b5.cell 2
      simp at b5c0 b5c1 b5c2
      have b5lt := b5.lt
      have b6c0 := b6.cell 0
      have b6c1 := b6.cell 1
      have b6c2 := b6.cell 2
      simp at b6c0 b6c1 b6c2
      have b6lt := b6.lt
      try (go_wp2_with fail)
      refine (with_to rfl _ _ n5 P1 P2).mono ?_
      rintro e w13 ⟨u7, rfl, _, k13⟩
      clear b0c0 b0c1 b0c2 b0lt b1c0 b1c1 b1c2 b1lt b2c0 b2c1 b2c2 b2lt b3c0 b3c1 b3c2 b3lt b5c0 b5c1 b5c2 b5lt b6c0 b6c1 b6c2 b6lt
      have b0 := b0.below k13 b0.lt
      have b1 := b1.below k13 b1.lt
      have b2 := b2.below k13 b2.lt
      have b3 := b3.below k13 b3.lt
      have b5 := b5.below k13 b5.lt
      have b6 := b6.below k13 b6.lt
      have n0 := n0.below k13
      have nw := nw.below k13
      have n3 := n3.below k13
      have n5 := n5.below k13
      have bel := hthen bel k13
      clear k13
      have b0c0 := b0.cell 0
      have b0c1 := b0.cell 1
      have b0c2 := b0.cell 2
      simp at b0c0 b0c1 b0c2
      have b0lt := b0.lt
      have b1c0 := b1.cell 0
      have b1c1 := b1.cell 1
      have b1c2 := b1.cell 2
      simp at b1c0 b1c1 b1c2
      have b1lt := b1.lt
      have b2c0 := b2.cell 0
      have b2c1 := b2.cell 1
      have b2c2 := b2.cell 2
      simp at b2c0 b2c1 b2c2
      have b2lt := b2.lt
      have b3c0 := b3.cell 0
      have b3c1 := b3.cell 1
      have b3c2 := b3.cell 2
      simp at b3c0 b3c1 b3c2
      have b3lt := b3.lt
      have b5c0 := b5.cell 0
      have b5c1 := b5.cell 1
      have b5c2 := b5.cell 2
      simp at b5c0 b5c1 b5c2
      have b5lt := b5.lt
      have b6c0 := b6.cell 0
      have b6c1 := b6.cell 1
      have b6c2 := b6.cell 2
      simp at b6c0 b6c1 b6c2
      have b6lt := b6.lt
      go_wp2_with fail
      refine (without_to rfl _ _ n3 X1 X2).mono ?_
      rintro e w14 ⟨u8, rfl, _, k14⟩
      clear b0c0 b0c1 b0c2 b0lt b1c0 b1c1 b1c2 b1lt b2c0 b2c1 b2c2 b2lt b3c0 b3c1 b3c2 b3lt b5c0 b5c1 b5c2 b5lt b6c0 b6c1 b6c2 b6lt
      have b0 := b0.below k14 b0.lt
      have b1 := b1.below k14 b1.lt
      have b2 := b2.below k14 b2.lt
      have b3 := b3.below k14 b3.lt
      have b5 := b5.below k14 b5.lt
      have b6 := b6.below k14 b6.lt
      have n0 := n0.below k14
      have nw := nw.below k14
      have n3 := n3.below k14
      have n5 := n5.below k14
      have bel := hthen bel k14
      clear k14
      have b0c0 := b0.cell 0
      have b0c1 := b0.cell 1
      have b0c2 := b0.cell 2
      simp at b0c0 b0c1 b0c2
      have b0lt := b0.lt
      have b1c0 := b1.cell 0
      have b1c1 := b1.cell 1
      have b1c2 := b1.cell 2
      simp at b1c0 b1c1 b1c2
      have b1lt := b1.lt
      have b2c0 := b2.cell 0
      have b2c1 := b2.cell 1
      have b2c2 := b2.cell 2
      simp at b2c0 b2c1 b2c2
      have b2lt := b2.lt
      have b3c0 := b3.cell 0
      have b3c1 := b3.cell 1
      have b3c2 := b3.cell 2
      simp at b3c0 b3c1 b3c2
      have b3lt := b3.lt
      have b5c0 := b5.cell 0
      have b5c1 := b5.cell 1
      have b5c2 := b5.cell 2
      simp at b5c0 b5c1 b5c2
      have b5lt := b5.lt
      have b6c0 := b6.cell 0
      have b6c1 := b6.cell 1
      have b6c2 := b6.cell 2
      simp at b6c0 b6c1 b6c2
      have b6lt := b6.lt
      go_wp2_with fail
      clear b0c0 b0c1 b0c2 b0lt b1c0 b1c1 b1c2 b1lt b2c0 b2c1 b2c2 b2lt b3c0 b3c1 b3c2 b3lt b5c0 b5c1 b5c2 b5lt b6c0 b6c1 b6c2 b6lt
      have n0 := n0.below (Below.refl _ _).drew
      have nw := nw.below (Below.refl _ _).drew
      have n3 := n3.below (Below.refl _ _).drew
      have n5 := n5.below (Below.refl _ _).drew
      have bel := bel.drew
      have b0 := b0.drew
      have b1 := b1.drew
      have b2 := b2.drew
      have b3 := b3.drew
      have b5 := b5.drew
      have b6 := b6.drew
      refine wp_region_noPanic ?_
      refine wp_region_held_drew (S := (fun w' => w'.cell? ⟨ib1, 0, none⟩ = some (.bool leaf) ∧ w'.cell? ⟨ib1, 1, none⟩ = some (.slice A ks.length c) ∧ w'.cell? ⟨ib1, 2, none⟩ = some (.slice C vs.length d) ∧ w'.cell? ⟨ib2, 0, none⟩ = some (.bool leaf) ∧ w'.cell? ⟨ib2, 1, none⟩ = some (.slice B1 ks.length cp1) ∧ w'.cell? ⟨ib2, 2, none⟩ = some (.slice B2 vs.length cp2))) (by kernel_rfl) ?hS0 (fun hHeld => ?_)
      case hS0 => (have q0 := b1.cell 0; have q1 := b1.cell 1; have q2 := b1.cell 2; have q3 := b2.cell 0; have q4 := b2.cell 1; have q5 := b2.cell 2; simp at q0 q1 q2 q3 q4 q5; exact ⟨q0, q1, q2, q3, q4, q5⟩)
      generalize hZ : w14.drew = wd15 at *
      clear hZ
      refine wpAnyH_take (i := 0) (oi := ⟨some 71, _, _, _, _, _⟩) (v := ?_) rfl (by kernel_rfl) (by kernel_rfl) (by kernel_rfl) (fun _ _ _ h => h) (Or.inl ⟨by kernel_rfl, ?_⟩) hHeld ?_
      rotate_left
      · (intro w hSw; (try dsimp only at hSw); go_simp; try with_reducible rfl)
      try simp only [Act.put, List.getElem_toArray, List.getElem_cons_succ, List.getElem_cons_zero, List.setIfInBounds_toArray, List.set_cons_zero, List.set_cons_succ]
      refine wpAnyH_take (i := 2) (oi := ⟨some 73, _, _, _, _, _⟩) (v := ?_) rfl (by kernel_rfl) (by kernel_rfl) (by kernel_rfl) (fun _ _ _ h => h) (Or.inl ⟨by kernel_rfl, ?_⟩) hHeld ?_
      rotate_left
      · (intro w hSw; (try dsimp only at hSw); go_simp; try with_reducible rfl)
      try simp only [Act.put, List.getElem_toArray, List.getElem_cons_succ, List.getElem_cons_zero, List.setIfInBounds_toArray, List.set_cons_zero, List.set_cons_succ]
      refine wpAnyH_ready (rs := [1]) (by kernel_rfl) (by simp) ?_
      refine (AllReadyH.cons rfl (fun K hK => ?_) AllReadyH.nil)
      try rw [if_pos (by kernel_rfl)]
      go_simp
      go_at_call 24
      refine (told_any _ ⟨leaf, ks, vs⟩ _ n0).mono ?_
      rintro e w16 ⟨rfl, k16⟩
      have b0 := b0.below k16 b0.lt
      have b1 := b1.below k16 b1.lt
      have b2 := b2.below k16 b2.lt
      have b3 := b3.below k16 b3.lt
      have b5 := b5.below k16 b5.lt
      have b6 := b6.below k16 b6.lt
      have n0 := n0.below k16
      have nw := nw.below k16
      have n3 := n3.below k16
      have n5 := n5.below k16
      have bel := hthen bel k16
      clear k16
      try dsimp only
      refine hK.out _ _ (by have q0 := b1.cell 0; have q1 := b1.cell 1; have q2 := b1.cell 2; have q3 := b2.cell 0; have q4 := b2.cell 1; have q5 := b2.cell 2; simp at q0 q1 q2 q3 q4 q5; exact ⟨q0, q1, q2, q3, q4, q5⟩) (fun hHeld => ?_)
      clear hK K
      try simp only [Act.put, List.getElem_toArray, List.getElem_cons_succ, List.getElem_cons_zero, List.setIfInBounds_toArray, List.set_cons_zero, List.set_cons_succ]
      refine wpAnyH_ready (rs := [3]) (by kernel_rfl) (by simp) ?_
      refine (AllReadyH.cons rfl (fun K hK => ?_) AllReadyH.nil)
      try rw [if_pos (by kernel_rfl)]
      go_simp
      go_at_call 23
      refine (nsame_to rfl _ _ _ n0 nw M1 M2).mono ?_
      rintro e w17 ⟨rfl, k17⟩
      have b0 := b0.below k17 b0.lt
      have b1 := b1.below k17 b1.lt
      have b2 := b2.below k17 b2.lt
      have b3 := b3.below k17 b3.lt
      have b5 := b5.below k17 b5.lt
      have b6 := b6.below k17 b6.lt
      have n0 := n0.below k17
      have nw := nw.below k17
      have n3 := n3.below k17
      have n5 := n5.below k17
      have bel := hthen bel k17
      clear k17
      try dsimp only
      refine hK.out _ _ (by have q0 := b1.cell 0; have q1 := b1.cell 1; have q2 := b1.cell 2; have q3 := b2.cell 0; have q4 := b2.cell 1; have q5 := b2.cell 2; simp at q0 q1 q2 q3 q4 q5; exact ⟨q0, q1, q2, q3, q4, q5⟩) (fun hHeld => ?_)
      clear hK K
      try simp only [Act.put, List.getElem_toArray, List.getElem_cons_succ, List.getElem_cons_zero, List.setIfInBounds_toArray, List.set_cons_zero, List.set_cons_succ]
      refine wpAnyH_take (i := 4) (oi := ⟨some 75, _, _, _, _, _⟩) (v := ?_) rfl (by kernel_rfl) (by kernel_rfl) (by kernel_rfl) (fun _ _ _ h => h) (Or.inl ⟨by kernel_rfl, ?_⟩) hHeld ?_
      rotate_left
      · (intro w hSw; (try dsimp only at hSw); go_simp; try with_reducible rfl)
      try simp only [Act.put, List.getElem_toArray, List.getElem_cons_succ, List.getElem_cons_zero, List.setIfInBounds_toArray, List.set_cons_zero, List.set_cons_succ]
      refine wpAnyH_ready (rs := [5]) (by kernel_rfl) (by simp) ?_
      refine (AllReadyH.cons rfl (fun K hK => ?_) AllReadyH.nil)
      try rw [if_pos (by kernel_rfl)]
      go_simp
      go_at_call 11
      refine (live_ok _).mono ?_
      rintro e w18 ⟨rfl, k18⟩
      have b0 := b0.below k18 b0.lt
      have b1 := b1.below k18 b1.lt
      have b2 := b2.below k18 b2.lt
      have b3 := b3.below k18 b3.lt
      have b5 := b5.below k18 b5.lt
      have b6 := b6.below k18 b6.lt
      have n0 := n0.below k18
      have nw := nw.below k18
      have n3 := n3.below k18
      have n5 := n5.below k18
      have bel := hthen bel k18
      clear k18
      try dsimp only
      refine hK.out _ _ (by have q0 := b1.cell 0; have q1 := b1.cell 1; have q2 := b1.cell 2; have q3 := b2.cell 0; have q4 := b2.cell 1; have q5 := b2.cell 2; simp at q0 q1 q2 q3 q4 q5; exact ⟨q0, q1, q2, q3, q4, q5⟩) (fun hHeld => ?_)
      clear hK K
      try simp only [Act.put, List.getElem_toArray, List.getElem_cons_succ, List.getElem_cons_zero, List.setIfInBounds_toArray, List.set_cons_zero, List.set_cons_succ]
      refine wpAnyH_take (i := 6) (oi := ⟨some 77, _, _, _, _, _⟩) (v := ?_) rfl (by kernel_rfl) (by kernel_rfl) (by kernel_rfl) (fun _ _ _ h => h) (Or.inl ⟨by kernel_rfl, ?_⟩) hHeld ?_
      rotate_left
      · (intro w hSw; (try dsimp only at hSw); go_simp; try with_reducible rfl)
      try simp only [Act.put, List.getElem_toArray, List.getElem_cons_succ, List.getElem_cons_zero, List.setIfInBounds_toArray, List.set_cons_zero, List.set_cons_succ]
      refine wpAnyH_take (i := 7) (oi := ⟨some 6, _, _, _, _, _⟩) (v := ?_) rfl (by kernel_rfl) (by kernel_rfl) (by kernel_rfl) (fun _ _ _ h => h) (Or.inl ⟨by kernel_rfl, ?_⟩) hHeld ?_
      rotate_left
      · (intro w hSw; (try dsimp only at hSw); go_simp; try with_reducible rfl)
      try simp only [Act.put, List.getElem_toArray, List.getElem_cons_succ, List.getElem_cons_zero, List.setIfInBounds_toArray, List.set_cons_zero, List.set_cons_succ]
      refine wpAnyH_done (by kernel_rfl) ?_ _
      refine NoPanic.normal ?_
      go_wp2
      go_ret
      exact ⟨rfl, bel⟩
end Go.Proofs.Ytiodeeliidhbgaa
