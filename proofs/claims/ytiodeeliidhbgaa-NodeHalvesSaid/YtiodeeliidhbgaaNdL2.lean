/- The walk of NodeTurns. -/
import Derived.Test.YtiodeeliidhbgaaNdL1
namespace Go.Proofs.Ytiodeeliidhbgaa
open Go Go.RowKit
set_option linter.unusedSimpArgs false
set_option linter.unnecessarySimpa false
set_option linter.unusedVariables false

theorem sl_cap {w : World} {v : Value} {l : List (List UInt8)} (h : SlAt w.heap.size w IsStr 1 [v] l) : ∃ A c, v = .slice A l.length c ∧ l.length ≤ c := by
  obtain ⟨A, n, c, e, rfl, hc, hm, hx⟩ := h
  simp only [List.cons.injEq, and_true] at e
  exact ⟨A, c, e, by omega⟩
theorem with_len (n : Nd) (key val : List UInt8) : (withN n key val).keys.length ≤ n.keys.length + 1 ∧ (withN n key val).vals.length ≤ n.vals.length + 1 := by
  unfold withN
  split
  · simp only [List.length_append, List.length_cons, List.length_take, List.length_drop]; omega
  · omega
theorem without_len (n : Nd) (key : List UInt8) : (withoutN n key).keys.length ≤ n.keys.length ∧ (withoutN n key).vals.length ≤ n.vals.length := by
  unfold withoutN
  split
  · simp only [List.length_append, List.length_take, List.length_drop]; omega
  · omega
theorem first_len (n : Nd) : (firstN n).keys.length ≤ n.keys.length ∧ (firstN n).vals.length ≤ n.vals.length := by
  unfold firstN
  split
  · simp only [List.length_take]; omega
  · exact ⟨Nat.zero_le _, Nat.zero_le _⟩
theorem second_len (n : Nd) : (secondN n).keys.length ≤ n.keys.length ∧ (secondN n).vals.length ≤ n.vals.length := by
  unfold secondN
  split
  · simp only [List.length_drop]; omega
  · exact ⟨Nat.zero_le _, Nat.zero_le _⟩
theorem rsplit_to {leaf : Bool} {ks vs : List (List UInt8)} {a b : Nd} {x : Bool} (ha : firstN ⟨leaf, ks, vs⟩ = a) (hb : secondN ⟨leaf, ks, vs⟩ = b) (hx : halvesN ⟨leaf, ks, vs⟩ = x) {A C : Option Addr} {c d : Nat} (w : World) (h : NdV w (.agg #[.bool leaf, .slice A ks.length c, .slice C vs.length d]) ⟨leaf, ks, vs⟩) (hk : ks.length ≤ 1000000) (hv : vs.length ≤ 1000000) (hc : ks.length ≤ c) (hd : vs.length ≤ d) :
    Calls Try.prog 26 #[.agg #[.bool leaf, .slice A ks.length c, .slice C vs.length d]] w fun e w' => ∃ ua ub, e = .returned (.tuple #[ua, ub, .bool x]) ∧ NdV w' ua a ∧ NdV w' ub b ∧ Below w.heap.size w w' := by
  subst ha; subst hb; subst hx; exact rsplit_any leaf ks vs A C c d w h hk hv hc hd

set_option maxRecDepth 100000 in
set_option maxHeartbeats 8000000 in
theorem nodeTurns_walk (w : World) (a0 : D_permafrostref09_Node) (v0_1 v0_2 : Value) (h0_0 : SlAt w.heap.size w IsStr 1 [v0_1] a0.keys) (h0_1 : SlAt w.heap.size w IsStr 1 [v0_2] a0.vals) (a1 : List UInt8) (h1 : a1.length ≤ 140737488351232) (a2 : List UInt8) (h2 : a2.length ≤ 140737488351232) :
    Calls Try.prog 5 #[.agg #[.bool a0.leaf, v0_1, v0_2], .string (bstr a1), .string (bstr a2)] w fun e w' => e = .returned (.bool true) ∧ Below w.heap.size w w' := by
  obtain ⟨leaf, ks, vs⟩ := a0
  simp only at h0_0 h0_1 ⊢
  obtain ⟨s1, l1⟩ := ss_arg h0_0
  obtain ⟨s2, l2⟩ := ss_arg h0_1
  obtain ⟨A, c, rfl, hcap⟩ := sl_cap h0_0
  obtain ⟨C, d, rfl, hcap2⟩ := sl_cap h0_1
  clear h0_0 h0_1
  have n0 : NdV w (.agg #[.bool leaf, .slice A ks.length c, .slice C vs.length d]) ⟨leaf, ks, vs⟩ := ⟨_, _, rfl, s1, s2⟩
  have bel : Below w.heap.size w w := Below.refl _ _
  clear s1 s2
  have szk : (bstr a1).size = a1.length := by simp [bstr, ByteArray.size]
  have szv : (bstr a2).size = a2.length := by simp [bstr, ByteArray.size]
  cases hs : smallB ⟨leaf, ks, vs⟩
  · have HS := Lib.hid hs
    clear hs
    go_enter Try.func5, Try.ntmps5
    go_wp2_with fail
    obtain ⟨w1, hw1⟩ : ∃ x, w.alloc (.cells #[.bool leaf, .slice A ks.length c, .slice C vs.length d] 24) = x := ⟨_, rfl⟩
    obtain ⟨ib0, hib0⟩ : ∃ i, w.heap.size = i := ⟨_, rfl⟩
    have b0 : Blk w1 ib0 24 #[.bool leaf, .slice A ks.length c, .slice C vs.length d] := by rw [← hw1, ← hib0]; exact Blk.new _ _ _
    have k1 : Below w.heap.size w w1 := by rw [← hw1]; exact (Below.refl _ _).alloc (Nat.le_refl _) _
    have zb0 : w1.heap.size = ib0 + 1 := by rw [← hw1, ← hib0]; simp
    rw [hw1, hib0]
    have n0 := n0.below k1
    have bel := hthen bel k1
    clear k1
    clear hw1 hib0
    have b0c0 := b0.cell 0
    have b0c1 := b0.cell 1
    have b0c2 := b0.cell 2
    simp at b0c0 b0c1 b0c2
    have b0lt := b0.lt
    try (go_wp2_with fail)
    refine (small_to HS.out _ _ n0 l1 l2).mono ?_
    rintro e w2 ⟨rfl, k2⟩
    clear b0c0 b0c1 b0c2 b0lt
    have b0 := b0.below k2 b0.lt
    have n0 := n0.below k2
    have bel := hthen bel k2
    clear k2
    have b0c0 := b0.cell 0
    have b0c1 := b0.cell 1
    have b0c2 := b0.cell 2
    simp at b0c0 b0c1 b0c2
    have b0lt := b0.lt
    go_wp2_with fail
    refine (live_ok _).mono ?_
    rintro e w3 ⟨rfl, k3⟩
    clear b0c0 b0c1 b0c2 b0lt
    have b0 := b0.below k3 b0.lt
    have n0 := n0.below k3
    have bel := hthen bel k3
    clear k3
    go_wp2
    go_ret
    exact ⟨rfl, bel⟩
  · obtain ⟨m1, m2⟩ := small_len hs
    simp only at m1 m2
    have HS := Lib.hid hs
    clear hs
    have M1 : ks.length ≤ 1000000 := by omega
    have M2 : vs.length ≤ 1000000 := by omega
    by_cases hl : 400 < a1.length
    · have q0 : decide ((a1.length : Int) > 400) = true := decide_eq_true (by omega)
      go_enter Try.func5, Try.ntmps5
      go_wp2_with fail
      obtain ⟨w1, hw1⟩ : ∃ x, w.alloc (.cells #[.bool leaf, .slice A ks.length c, .slice C vs.length d] 24) = x := ⟨_, rfl⟩
      obtain ⟨ib0, hib0⟩ : ∃ i, w.heap.size = i := ⟨_, rfl⟩
      have b0 : Blk w1 ib0 24 #[.bool leaf, .slice A ks.length c, .slice C vs.length d] := by rw [← hw1, ← hib0]; exact Blk.new _ _ _
      have k1 : Below w.heap.size w w1 := by rw [← hw1]; exact (Below.refl _ _).alloc (Nat.le_refl _) _
      have zb0 : w1.heap.size = ib0 + 1 := by rw [← hw1, ← hib0]; simp
      rw [hw1, hib0]
      have n0 := n0.below k1
      have bel := hthen bel k1
      clear k1
      clear hw1 hib0
      have b0c0 := b0.cell 0
      have b0c1 := b0.cell 1
      have b0c2 := b0.cell 2
      simp at b0c0 b0c1 b0c2
      have b0lt := b0.lt
      try (go_wp2_with fail)
      refine (small_to HS.out _ _ n0 l1 l2).mono ?_
      rintro e w2 ⟨rfl, k2⟩
      clear b0c0 b0c1 b0c2 b0lt
      have b0 := b0.below k2 b0.lt
      have n0 := n0.below k2
      have bel := hthen bel k2
      clear k2
      have b0c0 := b0.cell 0
      have b0c1 := b0.cell 1
      have b0c2 := b0.cell 2
      simp at b0c0 b0c1 b0c2
      have b0lt := b0.lt
      go_wp2_with fail
      refine (live_ok _).mono ?_
      rintro e w3 ⟨rfl, k3⟩
      clear b0c0 b0c1 b0c2 b0lt
      have b0 := b0.below k3 b0.lt
      have n0 := n0.below k3
      have bel := hthen bel k3
      clear k3
      go_wp2
      go_ret
      exact ⟨rfl, bel⟩
    · have q0 : decide ((a1.length : Int) > 400) = false := decide_eq_false (by omega)
      by_cases hl2 : 300 < a2.length
      · have q9 : decide ((a2.length : Int) > 300) = true := decide_eq_true (by omega)
        go_enter Try.func5, Try.ntmps5
        go_wp2_with fail
        obtain ⟨w1, hw1⟩ : ∃ x, w.alloc (.cells #[.bool leaf, .slice A ks.length c, .slice C vs.length d] 24) = x := ⟨_, rfl⟩
        obtain ⟨ib0, hib0⟩ : ∃ i, w.heap.size = i := ⟨_, rfl⟩
        have b0 : Blk w1 ib0 24 #[.bool leaf, .slice A ks.length c, .slice C vs.length d] := by rw [← hw1, ← hib0]; exact Blk.new _ _ _
        have k1 : Below w.heap.size w w1 := by rw [← hw1]; exact (Below.refl _ _).alloc (Nat.le_refl _) _
        have zb0 : w1.heap.size = ib0 + 1 := by rw [← hw1, ← hib0]; simp
        rw [hw1, hib0]
        have n0 := n0.below k1
        have bel := hthen bel k1
        clear k1
        clear hw1 hib0
        have b0c0 := b0.cell 0
        have b0c1 := b0.cell 1
        have b0c2 := b0.cell 2
        simp at b0c0 b0c1 b0c2
        have b0lt := b0.lt
        try (go_wp2_with fail)
        refine (small_to HS.out _ _ n0 l1 l2).mono ?_
        rintro e w2 ⟨rfl, k2⟩
        clear b0c0 b0c1 b0c2 b0lt
        have b0 := b0.below k2 b0.lt
        have n0 := n0.below k2
        have bel := hthen bel k2
        clear k2
        have b0c0 := b0.cell 0
        have b0c1 := b0.cell 1
        have b0c2 := b0.cell 2
        simp at b0c0 b0c1 b0c2
        have b0lt := b0.lt
        go_wp2_with fail
        refine (live_ok _).mono ?_
        rintro e w3 ⟨rfl, k3⟩
        clear b0c0 b0c1 b0c2 b0lt
        have b0 := b0.below k3 b0.lt
        have n0 := n0.below k3
        have bel := hthen bel k3
        clear k3
        go_wp2
        go_ret
        exact ⟨rfl, bel⟩
      · have q9 : decide ((a2.length : Int) > 300) = false := decide_eq_false (by omega)
        have z1 := with_len ⟨leaf, ks, vs⟩ a1 a2
        have z2 := without_len ⟨leaf, ks, vs⟩ a1
        have z3 := first_len ⟨leaf, ks, vs⟩
        have z4 := second_len ⟨leaf, ks, vs⟩
        obtain ⟨X, hX⟩ : ∃ X, withN ⟨leaf, ks, vs⟩ a1 a2 = X := ⟨_, rfl⟩
        obtain ⟨Y, hY⟩ : ∃ X, withoutN ⟨leaf, ks, vs⟩ a1 = X := ⟨_, rfl⟩
        obtain ⟨P, hP⟩ : ∃ X, firstN ⟨leaf, ks, vs⟩ = X := ⟨_, rfl⟩
        obtain ⟨Q, hQ⟩ : ∃ X, secondN ⟨leaf, ks, vs⟩ = X := ⟨_, rfl⟩
        obtain ⟨H, hH⟩ : ∃ X, halvesN ⟨leaf, ks, vs⟩ = X := ⟨_, rfl⟩
        rw [hX] at z1
        rw [hY] at z2
        rw [hP] at z3
        rw [hQ] at z4
        simp only at z1 z2 z3 z4
        have X1 : X.keys.length ≤ 1000000 := by omega
        have X2 : X.vals.length ≤ 1000000 := by omega
        have Y1 : Y.keys.length ≤ 1000000 := by omega
        have Y2 : Y.vals.length ≤ 1000000 := by omega
        have P1 : P.keys.length ≤ 1000000 := by omega
        have P2 : P.vals.length ≤ 1000000 := by omega
        have Q1 : Q.keys.length ≤ 1000000 := by omega
        have Q2 : Q.vals.length ≤ 1000000 := by omega
        have HX := Lib.hid hX
        have HY := Lib.hid hY
        have HP := Lib.hid hP
        have HQ := Lib.hid hQ
        have HH := Lib.hid hH
        have qH : (H == H) = true := by simp
        clear hX hY hP hQ hH z1 z2 z3 z4
        go_enter Try.func5, Try.ntmps5
        go_wp2_with fail
        obtain ⟨w1, hw1⟩ : ∃ x, w.alloc (.cells #[.bool leaf, .slice A ks.length c, .slice C vs.length d] 24) = x := ⟨_, rfl⟩
        obtain ⟨ib0, hib0⟩ : ∃ i, w.heap.size = i := ⟨_, rfl⟩
        have b0 : Blk w1 ib0 24 #[.bool leaf, .slice A ks.length c, .slice C vs.length d] := by rw [← hw1, ← hib0]; exact Blk.new _ _ _
        have k1 : Below w.heap.size w w1 := by rw [← hw1]; exact (Below.refl _ _).alloc (Nat.le_refl _) _
        have zb0 : w1.heap.size = ib0 + 1 := by rw [← hw1, ← hib0]; simp
        rw [hw1, hib0]
        have n0 := n0.below k1
        have bel := hthen bel k1
        clear k1
        clear hw1 hib0
        have b0c0 := b0.cell 0
        have b0c1 := b0.cell 1
        have b0c2 := b0.cell 2
        simp at b0c0 b0c1 b0c2
        have b0lt := b0.lt
        try (go_wp2_with fail)
        refine (small_to HS.out _ _ n0 l1 l2).mono ?_
        rintro e w2 ⟨rfl, k2⟩
        clear b0c0 b0c1 b0c2 b0lt
        have b0 := b0.below k2 b0.lt
        have n0 := n0.below k2
        have bel := hthen bel k2
        clear k2
        have b0c0 := b0.cell 0
        have b0c1 := b0.cell 1
        have b0c2 := b0.cell 2
        simp at b0c0 b0c1 b0c2
        have b0lt := b0.lt
        go_wp2_with fail
        refine (own_any _ ⟨leaf, ks, vs⟩ _ n0).mono ?_
        rintro e w3 ⟨rfl, k3⟩
        clear b0c0 b0c1 b0c2 b0lt
        have b0 := b0.below k3 b0.lt
        have n0 := n0.below k3
        have bel := hthen bel k3
        clear k3
        have b0c0 := b0.cell 0
        have b0c1 := b0.cell 1
        have b0c2 := b0.cell 2
        simp at b0c0 b0c1 b0c2
        have b0lt := b0.lt
        go_wp2_with fail
        refine (split_to HP.out HQ.out HH.out _ _ n0 M1 M2).mono ?_
        rintro e w4 ⟨u1, u2, rfl, n1, n2, k4⟩
        clear b0c0 b0c1 b0c2 b0lt
        have b0 := b0.below k4 b0.lt
        have n0 := n0.below k4
        have bel := hthen bel k4
        clear k4
        obtain ⟨A1, c1, C1, d1, rfl⟩ := n1.form
        obtain ⟨A2, c2, C2, d2, rfl⟩ := n2.form
        have b0c0 := b0.cell 0
        have b0c1 := b0.cell 1
        have b0c2 := b0.cell 2
        simp at b0c0 b0c1 b0c2
        have b0lt := b0.lt
        go_wp2_with fail
        clear b0c0 b0c1 b0c2 b0lt
        obtain ⟨w5, hw5⟩ : ∃ x, w4.alloc (.cells #[.bool P.leaf, .slice A1 P.keys.length c1, .slice C1 P.vals.length d1] 30) = x := ⟨_, rfl⟩
        obtain ⟨ib1, hib1⟩ : ∃ i, w4.heap.size = i := ⟨_, rfl⟩
        have b1 : Blk w5 ib1 30 #[.bool P.leaf, .slice A1 P.keys.length c1, .slice C1 P.vals.length d1] := by rw [← hw5, ← hib1]; exact Blk.new _ _ _
        have k5 : Below w4.heap.size w4 w5 := by rw [← hw5]; exact (Below.refl _ _).alloc (Nat.le_refl _) _
        have zb1 : w5.heap.size = ib1 + 1 := by rw [← hw5, ← hib1]; simp
        rw [hw5, hib1]
        have b0 := b0.below k5 b0.lt
        have n0 := n0.below k5
        have n1 := n1.below k5
        have n2 := n2.below k5
        have bel := hthen bel k5
        clear k5
        clear hw5 hib1
        have b0c0 := b0.cell 0
        have b0c1 := b0.cell 1
        have b0c2 := b0.cell 2
        simp at b0c0 b0c1 b0c2
        have b0lt := b0.lt
        have b1c0 := b1.cell 0
        have b1c1 := b1.cell 1
        have b1c2 := b1.cell 2
        simp at b1c0 b1c1 b1c2
        have b1lt := b1.lt
        try (go_wp2_with fail)
        clear b0c0 b0c1 b0c2 b0lt b1c0 b1c1 b1c2 b1lt
        obtain ⟨w6, hw6⟩ : ∃ x, w5.alloc (.cells #[.bool Q.leaf, .slice A2 Q.keys.length c2, .slice C2 Q.vals.length d2] 30) = x := ⟨_, rfl⟩
        obtain ⟨ib2, hib2⟩ : ∃ i, w5.heap.size = i := ⟨_, rfl⟩
        have b2 : Blk w6 ib2 30 #[.bool Q.leaf, .slice A2 Q.keys.length c2, .slice C2 Q.vals.length d2] := by rw [← hw6, ← hib2]; exact Blk.new _ _ _
        have k6 : Below w5.heap.size w5 w6 := by rw [← hw6]; exact (Below.refl _ _).alloc (Nat.le_refl _) _
        have zb2 : w6.heap.size = ib2 + 1 := by rw [← hw6, ← hib2]; simp
        rw [hw6, ← zb1, hib2]
        have b0 := b0.below k6 b0.lt
        have b1 := b1.below k6 b1.lt
        have n0 := n0.below k6
        have n1 := n1.below k6
        have n2 := n2.below k6
        have bel := hthen bel k6
        clear k6
        clear hw6 hib2
        have b0c0 := b0.cell 0
        have b0c1 := b0.cell 1
        have b0c2 := b0.cell 2
        simp at b0c0 b0c1 b0c2
        have b0lt := b0.lt
        have b1c0 := b1.cell 0
        have b1c1 := b1.cell 1
        have b1c2 := b1.cell 2
        simp at b1c0 b1c1 b1c2
        have b1lt := b1.lt
        have b2c0 := b2.cell 0
        have b2c1 := b2.cell 1
        have b2c2 := b2.cell 2
        simp at b2c0 b2c1 b2c2
        have b2lt := b2.lt
        try (go_wp2_with fail)
        refine (rsplit_to HP.out HQ.out HH.out _ n0 M1 M2 hcap hcap2).mono ?_
        rintro e w7 ⟨u3, u4, rfl, n3, n4, k7⟩
        clear b0c0 b0c1 b0c2 b0lt b1c0 b1c1 b1c2 b1lt b2c0 b2c1 b2c2 b2lt
        have b0 := b0.below k7 b0.lt
        have b1 := b1.below k7 b1.lt
        have b2 := b2.below k7 b2.lt
        have n0 := n0.below k7
        have n1 := n1.below k7
        have n2 := n2.below k7
        have bel := hthen bel k7
        clear k7
        obtain ⟨A3, c3, C3, d3, rfl⟩ := n3.form
        obtain ⟨A4, c4, C4, d4, rfl⟩ := n4.form
        have b0c0 := b0.cell 0
        have b0c1 := b0.cell 1
        have b0c2 := b0.cell 2
        simp at b0c0 b0c1 b0c2
        have b0lt := b0.lt
        have b1c0 := b1.cell 0
        have b1c1 := b1.cell 1
        have b1c2 := b1.cell 2
        simp at b1c0 b1c1 b1c2
        have b1lt := b1.lt
        have b2c0 := b2.cell 0
        have b2c1 := b2.cell 1
        have b2c2 := b2.cell 2
        simp at b2c0 b2c1 b2c2
        have b2lt := b2.lt
        go_wp2_with fail
        clear b0c0 b0c1 b0c2 b0lt b1c0 b1c1 b1c2 b1lt b2c0 b2c1 b2c2 b2lt
        obtain ⟨w8, hw8⟩ : ∃ x, w7.alloc (.cells #[.bool P.leaf, .slice A3 P.keys.length c3, .slice C3 P.vals.length d3] 24) = x := ⟨_, rfl⟩
        obtain ⟨ib3, hib3⟩ : ∃ i, w7.heap.size = i := ⟨_, rfl⟩
        have b3 : Blk w8 ib3 24 #[.bool P.leaf, .slice A3 P.keys.length c3, .slice C3 P.vals.length d3] := by rw [← hw8, ← hib3]; exact Blk.new _ _ _
        have k8 : Below w7.heap.size w7 w8 := by rw [← hw8]; exact (Below.refl _ _).alloc (Nat.le_refl _) _
        have zb3 : w8.heap.size = ib3 + 1 := by rw [← hw8, ← hib3]; simp
        rw [hw8, hib3]
        have b0 := b0.below k8 b0.lt
        have b1 := b1.below k8 b1.lt
        have b2 := b2.below k8 b2.lt
        have n0 := n0.below k8
        have n1 := n1.below k8
        have n2 := n2.below k8
        have n3 := n3.below k8
        have n4 := n4.below k8
        have bel := hthen bel k8
        clear k8
        clear hw8 hib3
        have b0c0 := b0.cell 0
        have b0c1 := b0.cell 1
        have b0c2 := b0.cell 2
        simp at b0c0 b0c1 b0c2
        have b0lt := b0.lt
        have b1c0 := b1.cell 0
        have b1c1 := b1.cell 1
        have b1c2 := b1.cell 2
        simp at b1c0 b1c1 b1c2
        have b1lt := b1.lt
        have b2c0 := b2.cell 0
        have b2c1 := b2.cell 1
        have b2c2 := b2.cell 2
        simp at b2c0 b2c1 b2c2
        have b2lt := b2.lt
        have b3c0 := b3.cell 0
        have b3c1 := b3.cell 1
        have b3c2 := b3.cell 2
        simp at b3c0 b3c1 b3c2
        have b3lt := b3.lt
        try (go_wp2_with fail)
        clear b0c0 b0c1 b0c2 b0lt b1c0 b1c1 b1c2 b1lt b2c0 b2c1 b2c2 b2lt b3c0 b3c1 b3c2 b3lt
        obtain ⟨w9, hw9⟩ : ∃ x, w8.alloc (.cells #[.bool Q.leaf, .slice A4 Q.keys.length c4, .slice C4 Q.vals.length d4] 24) = x := ⟨_, rfl⟩
        obtain ⟨ib4, hib4⟩ : ∃ i, w8.heap.size = i := ⟨_, rfl⟩
        have b4 : Blk w9 ib4 24 #[.bool Q.leaf, .slice A4 Q.keys.length c4, .slice C4 Q.vals.length d4] := by rw [← hw9, ← hib4]; exact Blk.new _ _ _
        have k9 : Below w8.heap.size w8 w9 := by rw [← hw9]; exact (Below.refl _ _).alloc (Nat.le_refl _) _
        have zb4 : w9.heap.size = ib4 + 1 := by rw [← hw9, ← hib4]; simp
        rw [hw9, ← zb3, hib4]
        have b0 := b0.below k9 b0.lt
        have b1 := b1.below k9 b1.lt
        have b2 := b2.below k9 b2.lt
        have b3 := b3.below k9 b3.lt
        have n0 := n0.below k9
        have n1 := n1.below k9
        have n2 := n2.below k9
        have n3 := n3.below k9
        have n4 := n4.below k9
        have bel := hthen bel k9
        clear k9
        clear hw9 hib4
        have b0c0 := b0.cell 0
        have b0c1 := b0.cell 1
        have b0c2 := b0.cell 2
        simp at b0c0 b0c1 b0c2
        have b0lt := b0.lt
        have b1c0 := b1.cell 0
        have b1c1 := b1.cell 1
        have b1c2 := b1.cell 2
        simp at b1c0 b1c1 b1c2
        have b1lt := b1.lt
        have b2c0 := b2.cell 0
        have b2c1 := b2.cell 1
        have b2c2 := b2.cell 2
        simp at b2c0 b2c1 b2c2
        have b2lt := b2.lt
        have b3c0 := b3.cell 0
        have b3c1 := b3.cell 1
        have b3c2 := b3.cell 2
        simp at b3c0 b3c1 b3c2
        have b3lt := b3.lt
        have b4c0 := b4.cell 0
        have b4c1 := b4.cell 1
        have b4c2 := b4.cell 2
        simp at b4c0 b4c1 b4c2
        have b4lt := b4.lt
        try (go_wp2_with fail)
        clear b0c0 b0c1 b0c2 b0lt b1c0 b1c1 b1c2 b1lt b2c0 b2c1 b2c2 b2lt b3c0 b3c1 b3c2 b3lt b4c0 b4c1 b4c2 b4lt
        have n0 := n0.below (Below.refl _ _).drew
        have n1 := n1.below (Below.refl _ _).drew
        have n2 := n2.below (Below.refl _ _).drew
        have n3 := n3.below (Below.refl _ _).drew
        have n4 := n4.below (Below.refl _ _).drew
        have bel := bel.drew
        have b0 := b0.drew
        have b1 := b1.drew
        have b2 := b2.drew
        have b3 := b3.drew
        have b4 := b4.drew
        refine wp_region_noPanic ?_
        refine wp_region_held_drew (S := (fun w' => w'.cell? ⟨ib0, 0, none⟩ = some (.bool leaf) ∧ w'.cell? ⟨ib0, 1, none⟩ = some (.slice A ks.length c) ∧ w'.cell? ⟨ib0, 2, none⟩ = some (.slice C vs.length d) ∧ w'.cell? ⟨ib1, 0, none⟩ = some (.bool P.leaf) ∧ w'.cell? ⟨ib1, 1, none⟩ = some (.slice A1 P.keys.length c1) ∧ w'.cell? ⟨ib1, 2, none⟩ = some (.slice C1 P.vals.length d1) ∧ w'.cell? ⟨ib2, 0, none⟩ = some (.bool Q.leaf) ∧ w'.cell? ⟨ib2, 1, none⟩ = some (.slice A2 Q.keys.length c2) ∧ w'.cell? ⟨ib2, 2, none⟩ = some (.slice C2 Q.vals.length d2) ∧ w'.cell? ⟨ib3, 0, none⟩ = some (.bool P.leaf) ∧ w'.cell? ⟨ib3, 1, none⟩ = some (.slice A3 P.keys.length c3) ∧ w'.cell? ⟨ib3, 2, none⟩ = some (.slice C3 P.vals.length d3) ∧ w'.cell? ⟨ib4, 0, none⟩ = some (.bool Q.leaf) ∧ w'.cell? ⟨ib4, 1, none⟩ = some (.slice A4 Q.keys.length c4) ∧ w'.cell? ⟨ib4, 2, none⟩ = some (.slice C4 Q.vals.length d4))) (by kernel_rfl) ?hS0 (fun hHeld => ?_)
        case hS0 => (have q0 := b0.cell 0; have q1 := b0.cell 1; have q2 := b0.cell 2; have q3 := b1.cell 0; have q4 := b1.cell 1; have q5 := b1.cell 2; have q6 := b2.cell 0; have q7 := b2.cell 1; have q8 := b2.cell 2; have q9 := b3.cell 0; have q10 := b3.cell 1; have q11 := b3.cell 2; have q12 := b4.cell 0; have q13 := b4.cell 1; have q14 := b4.cell 2; simp at q0 q1 q2 q3 q4 q5 q6 q7 q8 q9 q10 q11 q12 q13 q14; exact ⟨q0, q1, q2, q3, q4, q5, q6, q7, q8, q9, q10, q11, q12, q13, q14⟩)
        generalize hZ : w9.drew = wd10 at *
        clear hZ
        refine wpAnyH_take (i := 0) (oi := ⟨some 40, _, _, _, _, _⟩) (v := ?_) rfl (by kernel_rfl) (by kernel_rfl) (by kernel_rfl) (fun _ _ _ h => h) (Or.inl ⟨by kernel_rfl, ?_⟩) hHeld ?_
        rotate_left
        · (intro w hSw; (try dsimp only at hSw); go_simp; try with_reducible rfl)
        try simp only [Act.put, List.getElem_toArray, List.getElem_cons_succ, List.getElem_cons_zero, List.setIfInBounds_toArray, List.set_cons_zero, List.set_cons_succ]
        refine wpAnyH_take (i := 2) (oi := ⟨some 42, _, _, _, _, _⟩) (v := ?_) rfl (by kernel_rfl) (by kernel_rfl) (by kernel_rfl) (fun _ _ _ h => h) (Or.inl ⟨by kernel_rfl, ?_⟩) hHeld ?_
        rotate_left
        · (intro w hSw; (try dsimp only at hSw); go_simp; try with_reducible rfl)
        try simp only [Act.put, List.getElem_toArray, List.getElem_cons_succ, List.getElem_cons_zero, List.setIfInBounds_toArray, List.set_cons_zero, List.set_cons_succ]
        refine wpAnyH_take (i := 3) (oi := ⟨some 43, _, _, _, _, _⟩) (v := ?_) rfl (by kernel_rfl) (by kernel_rfl) (by kernel_rfl) (fun _ _ _ h => h) (Or.inl ⟨by kernel_rfl, ?_⟩) hHeld ?_
        rotate_left
        · (intro w hSw; (try dsimp only at hSw); go_simp; try with_reducible rfl)
        try simp only [Act.put, List.getElem_toArray, List.getElem_cons_succ, List.getElem_cons_zero, List.setIfInBounds_toArray, List.set_cons_zero, List.set_cons_succ]
        refine wpAnyH_take (i := 6) (oi := ⟨some 46, _, _, _, _, _⟩) (v := ?_) rfl (by kernel_rfl) (by kernel_rfl) (by kernel_rfl) (fun _ _ _ h => h) (Or.inl ⟨by kernel_rfl, ?_⟩) hHeld ?_
        rotate_left
        · (intro w hSw; (try dsimp only at hSw); go_simp; try with_reducible rfl)
        try simp only [Act.put, List.getElem_toArray, List.getElem_cons_succ, List.getElem_cons_zero, List.setIfInBounds_toArray, List.set_cons_zero, List.set_cons_succ]
        refine wpAnyH_take (i := 7) (oi := ⟨some 47, _, _, _, _, _⟩) (v := ?_) rfl (by kernel_rfl) (by kernel_rfl) (by kernel_rfl) (fun _ _ _ h => h) (Or.inl ⟨by kernel_rfl, ?_⟩) hHeld ?_
        rotate_left
        · (intro w hSw; (try dsimp only at hSw); go_simp; try with_reducible rfl)
        try simp only [Act.put, List.getElem_toArray, List.getElem_cons_succ, List.getElem_cons_zero, List.setIfInBounds_toArray, List.set_cons_zero, List.set_cons_succ]
        refine wpAnyH_take (i := 8) (oi := ⟨some 48, _, _, _, _, _⟩) (v := ?_) rfl (by kernel_rfl) (by kernel_rfl) (by kernel_rfl) (fun _ _ _ h => h) (Or.inl ⟨by kernel_rfl, ?_⟩) hHeld ?_
        rotate_left
        · (intro w hSw; (try dsimp only at hSw); go_simp; try with_reducible rfl)
        try simp only [Act.put, List.getElem_toArray, List.getElem_cons_succ, List.getElem_cons_zero, List.setIfInBounds_toArray, List.set_cons_zero, List.set_cons_succ]
        refine wpAnyH_ready (rs := [1]) (by kernel_rfl) (by simp) ?_
        refine (AllReadyH.cons rfl (fun K hK => ?_) AllReadyH.nil)
        try rw [if_pos (by kernel_rfl)]
        go_simp
        go_at_call 13
        refine (own_any _ ⟨leaf, ks, vs⟩ _ n0).mono ?_
        rintro e w11 ⟨rfl, k11⟩
        have b0 := b0.below k11 b0.lt
        have b1 := b1.below k11 b1.lt
        have b2 := b2.below k11 b2.lt
        have b3 := b3.below k11 b3.lt
        have b4 := b4.below k11 b4.lt
        have n0 := n0.below k11
        have n1 := n1.below k11
        have n2 := n2.below k11
        have n3 := n3.below k11
        have n4 := n4.below k11
        have bel := hthen bel k11
        clear k11
        try dsimp only
        refine hK.out _ _ (by have q0 := b0.cell 0; have q1 := b0.cell 1; have q2 := b0.cell 2; have q3 := b1.cell 0; have q4 := b1.cell 1; have q5 := b1.cell 2; have q6 := b2.cell 0; have q7 := b2.cell 1; have q8 := b2.cell 2; have q9 := b3.cell 0; have q10 := b3.cell 1; have q11 := b3.cell 2; have q12 := b4.cell 0; have q13 := b4.cell 1; have q14 := b4.cell 2; simp at q0 q1 q2 q3 q4 q5 q6 q7 q8 q9 q10 q11 q12 q13 q14; exact ⟨q0, q1, q2, q3, q4, q5, q6, q7, q8, q9, q10, q11, q12, q13, q14⟩) (fun hHeld => ?_)
        clear hK K
        try simp only [Act.put, List.getElem_toArray, List.getElem_cons_succ, List.getElem_cons_zero, List.setIfInBounds_toArray, List.set_cons_zero, List.set_cons_succ]
        refine wpAnyH_ready (rs := [4]) (by kernel_rfl) (by simp) ?_
        refine (AllReadyH.cons rfl (fun K hK => ?_) AllReadyH.nil)
        try rw [if_pos (by kernel_rfl)]
        go_simp
        go_at_call 27
        refine (with_to HX.out _ _ n0 M1 M2).mono ?_
        rintro e w12 ⟨u5, rfl, n5, k12⟩
        have b0 := b0.below k12 b0.lt
        have b1 := b1.below k12 b1.lt
        have b2 := b2.below k12 b2.lt
        have b3 := b3.below k12 b3.lt
        have b4 := b4.below k12 b4.lt
        have n0 := n0.below k12
        have n1 := n1.below k12
        have n2 := n2.below k12
        have n3 := n3.below k12
        have n4 := n4.below k12
        have bel := hthen bel k12
        clear k12
        obtain ⟨A5, c5, C5, d5, rfl⟩ := n5.form
        try dsimp only
        refine hK.out _ _ (by have q0 := b0.cell 0; have q1 := b0.cell 1; have q2 := b0.cell 2; have q3 := b1.cell 0; have q4 := b1.cell 1; have q5 := b1.cell 2; have q6 := b2.cell 0; have q7 := b2.cell 1; have q8 := b2.cell 2; have q9 := b3.cell 0; have q10 := b3.cell 1; have q11 := b3.cell 2; have q12 := b4.cell 0; have q13 := b4.cell 1; have q14 := b4.cell 2; simp at q0 q1 q2 q3 q4 q5 q6 q7 q8 q9 q10 q11 q12 q13 q14; exact ⟨q0, q1, q2, q3, q4, q5, q6, q7, q8, q9, q10, q11, q12, q13, q14⟩) (fun hHeld => ?_)
        clear hK K
        try simp only [Act.put, List.getElem_toArray, List.getElem_cons_succ, List.getElem_cons_zero, List.setIfInBounds_toArray, List.set_cons_zero, List.set_cons_succ]
        refine wpAnyH_ready (rs := [5]) (by kernel_rfl) (by simp) ?_
        refine (AllReadyH.cons rfl (fun K hK => ?_) AllReadyH.nil)
        try rw [if_pos (by kernel_rfl)]
        go_simp
        go_at_call 24
        refine (told_any _ X _ n5).mono ?_
        rintro e w13 ⟨rfl, k13⟩
        have b0 := b0.below k13 b0.lt
        have b1 := b1.below k13 b1.lt
        have b2 := b2.below k13 b2.lt
        have b3 := b3.below k13 b3.lt
        have b4 := b4.below k13 b4.lt
        have n0 := n0.below k13
        have n1 := n1.below k13
        have n2 := n2.below k13
        have n3 := n3.below k13
        have n4 := n4.below k13
        have n5 := n5.below k13
        have bel := hthen bel k13
        clear k13
        try dsimp only
        refine hK.out _ _ (by have q0 := b0.cell 0; have q1 := b0.cell 1; have q2 := b0.cell 2; have q3 := b1.cell 0; have q4 := b1.cell 1; have q5 := b1.cell 2; have q6 := b2.cell 0; have q7 := b2.cell 1; have q8 := b2.cell 2; have q9 := b3.cell 0; have q10 := b3.cell 1; have q11 := b3.cell 2; have q12 := b4.cell 0; have q13 := b4.cell 1; have q14 := b4.cell 2; simp at q0 q1 q2 q3 q4 q5 q6 q7 q8 q9 q10 q11 q12 q13 q14; exact ⟨q0, q1, q2, q3, q4, q5, q6, q7, q8, q9, q10, q11, q12, q13, q14⟩) (fun hHeld => ?_)
        clear hK K
        try simp only [Act.put, List.getElem_toArray, List.getElem_cons_succ, List.getElem_cons_zero, List.setIfInBounds_toArray, List.set_cons_zero, List.set_cons_succ]
        refine wpAnyH_ready (rs := [9]) (by kernel_rfl) (by simp) ?_
        refine (AllReadyH.cons rfl (fun K hK => ?_) AllReadyH.nil)
        try rw [if_pos (by kernel_rfl)]
        go_simp
        go_at_call 28
        refine (rwith_to HX.out _ _ n0 M1 M2).mono ?_
        rintro e w14 ⟨u6, rfl, n6, k14⟩
        have b0 := b0.below k14 b0.lt
        have b1 := b1.below k14 b1.lt
        have b2 := b2.below k14 b2.lt
        have b3 := b3.below k14 b3.lt
        have b4 := b4.below k14 b4.lt
        have n0 := n0.below k14
        have n1 := n1.below k14
        have n2 := n2.below k14
        have n3 := n3.below k14
        have n4 := n4.below k14
        have n5 := n5.below k14
        have bel := hthen bel k14
        clear k14
        obtain ⟨A6, c6, C6, d6, rfl⟩ := n6.form
        try dsimp only
        refine hK.out _ _ (by have q0 := b0.cell 0; have q1 := b0.cell 1; have q2 := b0.cell 2; have q3 := b1.cell 0; have q4 := b1.cell 1; have q5 := b1.cell 2; have q6 := b2.cell 0; have q7 := b2.cell 1; have q8 := b2.cell 2; have q9 := b3.cell 0; have q10 := b3.cell 1; have q11 := b3.cell 2; have q12 := b4.cell 0; have q13 := b4.cell 1; have q14 := b4.cell 2; simp at q0 q1 q2 q3 q4 q5 q6 q7 q8 q9 q10 q11 q12 q13 q14; exact ⟨q0, q1, q2, q3, q4, q5, q6, q7, q8, q9, q10, q11, q12, q13, q14⟩) (fun hHeld => ?_)
        clear hK K
        try simp only [Act.put, List.getElem_toArray, List.getElem_cons_succ, List.getElem_cons_zero, List.setIfInBounds_toArray, List.set_cons_zero, List.set_cons_succ]
        refine wpAnyH_ready (rs := [10]) (by kernel_rfl) (by simp) ?_
        refine (AllReadyH.cons rfl (fun K hK => ?_) AllReadyH.nil)
        try rw [if_pos (by kernel_rfl)]
        go_simp
        go_at_call 23
        refine (nsame_to rfl _ _ _ n5 n6 X1 X2).mono ?_
        rintro e w15 ⟨rfl, k15⟩
        have b0 := b0.below k15 b0.lt
        have b1 := b1.below k15 b1.lt
        have b2 := b2.below k15 b2.lt
        have b3 := b3.below k15 b3.lt
        have b4 := b4.below k15 b4.lt
        have n0 := n0.below k15
        have n1 := n1.below k15
        have n2 := n2.below k15
        have n3 := n3.below k15
        have n4 := n4.below k15
        have n5 := n5.below k15
        have n6 := n6.below k15
        have bel := hthen bel k15
        clear k15
        try dsimp only
        refine hK.out _ _ (by have q0 := b0.cell 0; have q1 := b0.cell 1; have q2 := b0.cell 2; have q3 := b1.cell 0; have q4 := b1.cell 1; have q5 := b1.cell 2; have q6 := b2.cell 0; have q7 := b2.cell 1; have q8 := b2.cell 2; have q9 := b3.cell 0; have q10 := b3.cell 1; have q11 := b3.cell 2; have q12 := b4.cell 0; have q13 := b4.cell 1; have q14 := b4.cell 2; simp at q0 q1 q2 q3 q4 q5 q6 q7 q8 q9 q10 q11 q12 q13 q14; exact ⟨q0, q1, q2, q3, q4, q5, q6, q7, q8, q9, q10, q11, q12, q13, q14⟩) (fun hHeld => ?_)
        clear hK K
        try simp only [Act.put, List.getElem_toArray, List.getElem_cons_succ, List.getElem_cons_zero, List.setIfInBounds_toArray, List.set_cons_zero, List.set_cons_succ]
        refine wpAnyH_take (i := 11) (oi := ⟨some 51, _, _, _, _, _⟩) (v := ?_) rfl (by kernel_rfl) (by kernel_rfl) (by kernel_rfl) (fun _ _ _ h => h) (Or.inl ⟨by kernel_rfl, ?_⟩) hHeld ?_
        rotate_left
        · (intro w hSw; (try dsimp only at hSw); go_simp; try with_reducible rfl)
        try simp only [Act.put, List.getElem_toArray, List.getElem_cons_succ, List.getElem_cons_zero, List.setIfInBounds_toArray, List.set_cons_zero, List.set_cons_succ]
        refine wpAnyH_take (i := 12) (oi := ⟨some 52, _, _, _, _, _⟩) (v := ?_) rfl (by kernel_rfl) (by kernel_rfl) (by kernel_rfl) (fun _ _ _ h => h) (Or.inl ⟨by kernel_rfl, ?_⟩) hHeld ?_
        rotate_left
        · (intro w hSw; (try dsimp only at hSw); go_simp; try with_reducible rfl)
        try simp only [Act.put, List.getElem_toArray, List.getElem_cons_succ, List.getElem_cons_zero, List.setIfInBounds_toArray, List.set_cons_zero, List.set_cons_succ]
        refine wpAnyH_take (i := 14) (oi := ⟨some 54, _, _, _, _, _⟩) (v := ?_) rfl (by kernel_rfl) (by kernel_rfl) (by kernel_rfl) (fun _ _ _ h => h) (Or.inl ⟨by kernel_rfl, ?_⟩) hHeld ?_
        rotate_left
        · (intro w hSw; (try dsimp only at hSw); go_simp; try with_reducible rfl)
        try simp only [Act.put, List.getElem_toArray, List.getElem_cons_succ, List.getElem_cons_zero, List.setIfInBounds_toArray, List.set_cons_zero, List.set_cons_succ]
        refine wpAnyH_take (i := 17) (oi := ⟨some 57, _, _, _, _, _⟩) (v := ?_) rfl (by kernel_rfl) (by kernel_rfl) (by kernel_rfl) (fun _ _ _ h => h) (Or.inl ⟨by kernel_rfl, ?_⟩) hHeld ?_
        rotate_left
        · (intro w hSw; (try dsimp only at hSw); go_simp; try with_reducible rfl)
        try simp only [Act.put, List.getElem_toArray, List.getElem_cons_succ, List.getElem_cons_zero, List.setIfInBounds_toArray, List.set_cons_zero, List.set_cons_succ]
        refine wpAnyH_take (i := 18) (oi := ⟨some 58, _, _, _, _, _⟩) (v := ?_) rfl (by kernel_rfl) (by kernel_rfl) (by kernel_rfl) (fun _ _ _ h => h) (Or.inl ⟨by kernel_rfl, ?_⟩) hHeld ?_
        rotate_left
        · (intro w hSw; (try dsimp only at hSw); go_simp; try with_reducible rfl)
        try simp only [Act.put, List.getElem_toArray, List.getElem_cons_succ, List.getElem_cons_zero, List.setIfInBounds_toArray, List.set_cons_zero, List.set_cons_succ]
        refine wpAnyH_ready (rs := [13]) (by kernel_rfl) (by simp) ?_
        refine (AllReadyH.cons rfl (fun K hK => ?_) AllReadyH.nil)
        try rw [if_pos (by kernel_rfl)]
        go_simp
        go_at_call 13
        refine (own_any _ ⟨leaf, ks, vs⟩ _ n0).mono ?_
        rintro e w16 ⟨rfl, k16⟩
        have b0 := b0.below k16 b0.lt
        have b1 := b1.below k16 b1.lt
        have b2 := b2.below k16 b2.lt
        have b3 := b3.below k16 b3.lt
        have b4 := b4.below k16 b4.lt
        have n0 := n0.below k16
        have n1 := n1.below k16
        have n2 := n2.below k16
        have n3 := n3.below k16
        have n4 := n4.below k16
        have n5 := n5.below k16
        have n6 := n6.below k16
        have bel := hthen bel k16
        clear k16
        try dsimp only
        refine hK.out _ _ (by have q0 := b0.cell 0; have q1 := b0.cell 1; have q2 := b0.cell 2; have q3 := b1.cell 0; have q4 := b1.cell 1; have q5 := b1.cell 2; have q6 := b2.cell 0; have q7 := b2.cell 1; have q8 := b2.cell 2; have q9 := b3.cell 0; have q10 := b3.cell 1; have q11 := b3.cell 2; have q12 := b4.cell 0; have q13 := b4.cell 1; have q14 := b4.cell 2; simp at q0 q1 q2 q3 q4 q5 q6 q7 q8 q9 q10 q11 q12 q13 q14; exact ⟨q0, q1, q2, q3, q4, q5, q6, q7, q8, q9, q10, q11, q12, q13, q14⟩) (fun hHeld => ?_)
        clear hK K
        try simp only [Act.put, List.getElem_toArray, List.getElem_cons_succ, List.getElem_cons_zero, List.setIfInBounds_toArray, List.set_cons_zero, List.set_cons_succ]
        refine wpAnyH_ready (rs := [15]) (by kernel_rfl) (by simp) ?_
        refine (AllReadyH.cons rfl (fun K hK => ?_) AllReadyH.nil)
        try rw [if_pos (by kernel_rfl)]
        go_simp
        go_at_call 29
        refine (without_to HY.out _ _ n0 M1 M2).mono ?_
        rintro e w17 ⟨u7, rfl, n7, k17⟩
        have b0 := b0.below k17 b0.lt
        have b1 := b1.below k17 b1.lt
        have b2 := b2.below k17 b2.lt
        have b3 := b3.below k17 b3.lt
        have b4 := b4.below k17 b4.lt
        have n0 := n0.below k17
        have n1 := n1.below k17
        have n2 := n2.below k17
        have n3 := n3.below k17
        have n4 := n4.below k17
        have n5 := n5.below k17
        have n6 := n6.below k17
        have bel := hthen bel k17
        clear k17
        obtain ⟨A7, c7, C7, d7, rfl⟩ := n7.form
        try dsimp only
        refine hK.out _ _ (by have q0 := b0.cell 0; have q1 := b0.cell 1; have q2 := b0.cell 2; have q3 := b1.cell 0; have q4 := b1.cell 1; have q5 := b1.cell 2; have q6 := b2.cell 0; have q7 := b2.cell 1; have q8 := b2.cell 2; have q9 := b3.cell 0; have q10 := b3.cell 1; have q11 := b3.cell 2; have q12 := b4.cell 0; have q13 := b4.cell 1; have q14 := b4.cell 2; simp at q0 q1 q2 q3 q4 q5 q6 q7 q8 q9 q10 q11 q12 q13 q14; exact ⟨q0, q1, q2, q3, q4, q5, q6, q7, q8, q9, q10, q11, q12, q13, q14⟩) (fun hHeld => ?_)
        clear hK K
        try simp only [Act.put, List.getElem_toArray, List.getElem_cons_succ, List.getElem_cons_zero, List.setIfInBounds_toArray, List.set_cons_zero, List.set_cons_succ]
        refine wpAnyH_ready (rs := [16]) (by kernel_rfl) (by simp) ?_
        refine (AllReadyH.cons rfl (fun K hK => ?_) AllReadyH.nil)
        try rw [if_pos (by kernel_rfl)]
        go_simp
        go_at_call 24
        refine (told_any _ Y _ n7).mono ?_
        rintro e w18 ⟨rfl, k18⟩
        have b0 := b0.below k18 b0.lt
        have b1 := b1.below k18 b1.lt
        have b2 := b2.below k18 b2.lt
        have b3 := b3.below k18 b3.lt
        have b4 := b4.below k18 b4.lt
        have n0 := n0.below k18
        have n1 := n1.below k18
        have n2 := n2.below k18
        have n3 := n3.below k18
        have n4 := n4.below k18
        have n5 := n5.below k18
        have n6 := n6.below k18
        have n7 := n7.below k18
        have bel := hthen bel k18
        clear k18
        try dsimp only
        refine hK.out _ _ (by have q0 := b0.cell 0; have q1 := b0.cell 1; have q2 := b0.cell 2; have q3 := b1.cell 0; have q4 := b1.cell 1; have q5 := b1.cell 2; have q6 := b2.cell 0; have q7 := b2.cell 1; have q8 := b2.cell 2; have q9 := b3.cell 0; have q10 := b3.cell 1; have q11 := b3.cell 2; have q12 := b4.cell 0; have q13 := b4.cell 1; have q14 := b4.cell 2; simp at q0 q1 q2 q3 q4 q5 q6 q7 q8 q9 q10 q11 q12 q13 q14; exact ⟨q0, q1, q2, q3, q4, q5, q6, q7, q8, q9, q10, q11, q12, q13, q14⟩) (fun hHeld => ?_)
        clear hK K
        try simp only [Act.put, List.getElem_toArray, List.getElem_cons_succ, List.getElem_cons_zero, List.setIfInBounds_toArray, List.set_cons_zero, List.set_cons_succ]
        refine wpAnyH_ready (rs := [19]) (by kernel_rfl) (by simp) ?_
        refine (AllReadyH.cons rfl (fun K hK => ?_) AllReadyH.nil)
        try rw [if_pos (by kernel_rfl)]
        go_simp
        go_at_call 30
        refine (rwithout_to HY.out _ _ n0 M1 M2).mono ?_
        rintro e w19 ⟨u8, rfl, n8, k19⟩
        have b0 := b0.below k19 b0.lt
        have b1 := b1.below k19 b1.lt
        have b2 := b2.below k19 b2.lt
        have b3 := b3.below k19 b3.lt
        have b4 := b4.below k19 b4.lt
        have n0 := n0.below k19
        have n1 := n1.below k19
        have n2 := n2.below k19
        have n3 := n3.below k19
        have n4 := n4.below k19
        have n5 := n5.below k19
        have n6 := n6.below k19
        have n7 := n7.below k19
        have bel := hthen bel k19
        clear k19
        obtain ⟨A8, c8, C8, d8, rfl⟩ := n8.form
        try dsimp only
        refine hK.out _ _ (by have q0 := b0.cell 0; have q1 := b0.cell 1; have q2 := b0.cell 2; have q3 := b1.cell 0; have q4 := b1.cell 1; have q5 := b1.cell 2; have q6 := b2.cell 0; have q7 := b2.cell 1; have q8 := b2.cell 2; have q9 := b3.cell 0; have q10 := b3.cell 1; have q11 := b3.cell 2; have q12 := b4.cell 0; have q13 := b4.cell 1; have q14 := b4.cell 2; simp at q0 q1 q2 q3 q4 q5 q6 q7 q8 q9 q10 q11 q12 q13 q14; exact ⟨q0, q1, q2, q3, q4, q5, q6, q7, q8, q9, q10, q11, q12, q13, q14⟩) (fun hHeld => ?_)
        clear hK K
        try simp only [Act.put, List.getElem_toArray, List.getElem_cons_succ, List.getElem_cons_zero, List.setIfInBounds_toArray, List.set_cons_zero, List.set_cons_succ]
        refine wpAnyH_ready (rs := [20]) (by kernel_rfl) (by simp) ?_
        refine (AllReadyH.cons rfl (fun K hK => ?_) AllReadyH.nil)
        try rw [if_pos (by kernel_rfl)]
        go_simp
        go_at_call 23
        refine (nsame_to rfl _ _ _ n7 n8 Y1 Y2).mono ?_
        rintro e w20 ⟨rfl, k20⟩
        have b0 := b0.below k20 b0.lt
        have b1 := b1.below k20 b1.lt
        have b2 := b2.below k20 b2.lt
        have b3 := b3.below k20 b3.lt
        have b4 := b4.below k20 b4.lt
        have n0 := n0.below k20
        have n1 := n1.below k20
        have n2 := n2.below k20
        have n3 := n3.below k20
        have n4 := n4.below k20
        have n5 := n5.below k20
        have n6 := n6.below k20
        have n7 := n7.below k20
        have n8 := n8.below k20
        have bel := hthen bel k20
        clear k20
        try dsimp only
        refine hK.out _ _ (by have q0 := b0.cell 0; have q1 := b0.cell 1; have q2 := b0.cell 2; have q3 := b1.cell 0; have q4 := b1.cell 1; have q5 := b1.cell 2; have q6 := b2.cell 0; have q7 := b2.cell 1; have q8 := b2.cell 2; have q9 := b3.cell 0; have q10 := b3.cell 1; have q11 := b3.cell 2; have q12 := b4.cell 0; have q13 := b4.cell 1; have q14 := b4.cell 2; simp at q0 q1 q2 q3 q4 q5 q6 q7 q8 q9 q10 q11 q12 q13 q14; exact ⟨q0, q1, q2, q3, q4, q5, q6, q7, q8, q9, q10, q11, q12, q13, q14⟩) (fun hHeld => ?_)
        clear hK K
        try simp only [Act.put, List.getElem_toArray, List.getElem_cons_succ, List.getElem_cons_zero, List.setIfInBounds_toArray, List.set_cons_zero, List.set_cons_succ]
        refine wpAnyH_take (i := 21) (oi := ⟨some 61, _, _, _, _, _⟩) (v := ?_) rfl (by kernel_rfl) (by kernel_rfl) (by kernel_rfl) (fun _ _ _ h => h) (Or.inl ⟨by kernel_rfl, ?_⟩) hHeld ?_
        rotate_left
        · (intro w hSw; (try dsimp only at hSw); go_simp; try with_reducible rfl)
        try simp only [Act.put, List.getElem_toArray, List.getElem_cons_succ, List.getElem_cons_zero, List.setIfInBounds_toArray, List.set_cons_zero, List.set_cons_succ]
        refine wpAnyH_take (i := 22) (oi := ⟨some 62, _, _, _, _, _⟩) (v := ?_) rfl (by kernel_rfl) (by kernel_rfl) (by kernel_rfl) (fun _ _ _ h => h) (Or.inl ⟨by kernel_rfl, ?_⟩) hHeld ?_
        rotate_left
        · (intro w hSw; (try dsimp only at hSw); go_simp; try with_reducible rfl)
        try simp only [Act.put, List.getElem_toArray, List.getElem_cons_succ, List.getElem_cons_zero, List.setIfInBounds_toArray, List.set_cons_zero, List.set_cons_succ]
        refine wpAnyH_take (i := 23) (oi := ⟨some 63, _, _, _, _, _⟩) (v := ?_) rfl (by kernel_rfl) (by kernel_rfl) (by kernel_rfl) (fun _ _ _ h => h) (Or.inl ⟨by kernel_rfl, ?_⟩) hHeld ?_
        rotate_left
        · (intro w hSw; (try dsimp only at hSw); go_simp; try with_reducible rfl)
        try simp only [Act.put, List.getElem_toArray, List.getElem_cons_succ, List.getElem_cons_zero, List.setIfInBounds_toArray, List.set_cons_zero, List.set_cons_succ]
        refine wpAnyH_take (i := 25) (oi := ⟨some 65, _, _, _, _, _⟩) (v := ?_) rfl (by kernel_rfl) (by kernel_rfl) (by kernel_rfl) (fun _ _ _ h => h) (Or.inl ⟨by kernel_rfl, ?_⟩) hHeld ?_
        rotate_left
        · (intro w hSw; (try dsimp only at hSw); go_simp; try with_reducible rfl)
        try simp only [Act.put, List.getElem_toArray, List.getElem_cons_succ, List.getElem_cons_zero, List.setIfInBounds_toArray, List.set_cons_zero, List.set_cons_succ]
        refine wpAnyH_ready (rs := [24]) (by kernel_rfl) (by simp) ?_
        refine (AllReadyH.cons rfl (fun K hK => ?_) AllReadyH.nil)
        try rw [if_pos (by kernel_rfl)]
        go_simp
        go_at_call 24
        refine (told_any _ P _ n1).mono ?_
        rintro e w21 ⟨rfl, k21⟩
        have b0 := b0.below k21 b0.lt
        have b1 := b1.below k21 b1.lt
        have b2 := b2.below k21 b2.lt
        have b3 := b3.below k21 b3.lt
        have b4 := b4.below k21 b4.lt
        have n0 := n0.below k21
        have n1 := n1.below k21
        have n2 := n2.below k21
        have n3 := n3.below k21
        have n4 := n4.below k21
        have n5 := n5.below k21
        have n6 := n6.below k21
        have n7 := n7.below k21
        have n8 := n8.below k21
        have bel := hthen bel k21
        clear k21
        try dsimp only
        refine hK.out _ _ (by have q0 := b0.cell 0; have q1 := b0.cell 1; have q2 := b0.cell 2; have q3 := b1.cell 0; have q4 := b1.cell 1; have q5 := b1.cell 2; have q6 := b2.cell 0; have q7 := b2.cell 1; have q8 := b2.cell 2; have q9 := b3.cell 0; have q10 := b3.cell 1; have q11 := b3.cell 2; have q12 := b4.cell 0; have q13 := b4.cell 1; have q14 := b4.cell 2; simp at q0 q1 q2 q3 q4 q5 q6 q7 q8 q9 q10 q11 q12 q13 q14; exact ⟨q0, q1, q2, q3, q4, q5, q6, q7, q8, q9, q10, q11, q12, q13, q14⟩) (fun hHeld => ?_)
        clear hK K
        try simp only [Act.put, List.getElem_toArray, List.getElem_cons_succ, List.getElem_cons_zero, List.setIfInBounds_toArray, List.set_cons_zero, List.set_cons_succ]
        refine wpAnyH_ready (rs := [26]) (by kernel_rfl) (by simp) ?_
        refine (AllReadyH.cons rfl (fun K hK => ?_) AllReadyH.nil)
        try rw [if_pos (by kernel_rfl)]
        go_simp
        go_at_call 23
        refine (nsame_to rfl _ _ _ n1 n3 P1 P2).mono ?_
        rintro e w22 ⟨rfl, k22⟩
        have b0 := b0.below k22 b0.lt
        have b1 := b1.below k22 b1.lt
        have b2 := b2.below k22 b2.lt
        have b3 := b3.below k22 b3.lt
        have b4 := b4.below k22 b4.lt
        have n0 := n0.below k22
        have n1 := n1.below k22
        have n2 := n2.below k22
        have n3 := n3.below k22
        have n4 := n4.below k22
        have n5 := n5.below k22
        have n6 := n6.below k22
        have n7 := n7.below k22
        have n8 := n8.below k22
        have bel := hthen bel k22
        clear k22
        try dsimp only
        refine hK.out _ _ (by have q0 := b0.cell 0; have q1 := b0.cell 1; have q2 := b0.cell 2; have q3 := b1.cell 0; have q4 := b1.cell 1; have q5 := b1.cell 2; have q6 := b2.cell 0; have q7 := b2.cell 1; have q8 := b2.cell 2; have q9 := b3.cell 0; have q10 := b3.cell 1; have q11 := b3.cell 2; have q12 := b4.cell 0; have q13 := b4.cell 1; have q14 := b4.cell 2; simp at q0 q1 q2 q3 q4 q5 q6 q7 q8 q9 q10 q11 q12 q13 q14; exact ⟨q0, q1, q2, q3, q4, q5, q6, q7, q8, q9, q10, q11, q12, q13, q14⟩) (fun hHeld => ?_)
        clear hK K
        try simp only [Act.put, List.getElem_toArray, List.getElem_cons_succ, List.getElem_cons_zero, List.setIfInBounds_toArray, List.set_cons_zero, List.set_cons_succ]
        refine wpAnyH_take (i := 27) (oi := ⟨some 67, _, _, _, _, _⟩) (v := ?_) rfl (by kernel_rfl) (by kernel_rfl) (by kernel_rfl) (fun _ _ _ h => h) (Or.inl ⟨by kernel_rfl, ?_⟩) hHeld ?_
        rotate_left
        · (intro w hSw; (try dsimp only at hSw); go_simp; try with_reducible rfl)
        try simp only [Act.put, List.getElem_toArray, List.getElem_cons_succ, List.getElem_cons_zero, List.setIfInBounds_toArray, List.set_cons_zero, List.set_cons_succ]
        refine wpAnyH_take (i := 28) (oi := ⟨some 68, _, _, _, _, _⟩) (v := ?_) rfl (by kernel_rfl) (by kernel_rfl) (by kernel_rfl) (fun _ _ _ h => h) (Or.inl ⟨by kernel_rfl, ?_⟩) hHeld ?_
        rotate_left
        · (intro w hSw; (try dsimp only at hSw); go_simp; try with_reducible rfl)
        try simp only [Act.put, List.getElem_toArray, List.getElem_cons_succ, List.getElem_cons_zero, List.setIfInBounds_toArray, List.set_cons_zero, List.set_cons_succ]
        refine wpAnyH_take (i := 29) (oi := ⟨some 69, _, _, _, _, _⟩) (v := ?_) rfl (by kernel_rfl) (by kernel_rfl) (by kernel_rfl) (fun _ _ _ h => h) (Or.inl ⟨by kernel_rfl, ?_⟩) hHeld ?_
        rotate_left
        · (intro w hSw; (try dsimp only at hSw); go_simp; try with_reducible rfl)
        try simp only [Act.put, List.getElem_toArray, List.getElem_cons_succ, List.getElem_cons_zero, List.setIfInBounds_toArray, List.set_cons_zero, List.set_cons_succ]
        refine wpAnyH_take (i := 31) (oi := ⟨some 71, _, _, _, _, _⟩) (v := ?_) rfl (by kernel_rfl) (by kernel_rfl) (by kernel_rfl) (fun _ _ _ h => h) (Or.inl ⟨by kernel_rfl, ?_⟩) hHeld ?_
        rotate_left
        · (intro w hSw; (try dsimp only at hSw); go_simp; try with_reducible rfl)
        try simp only [Act.put, List.getElem_toArray, List.getElem_cons_succ, List.getElem_cons_zero, List.setIfInBounds_toArray, List.set_cons_zero, List.set_cons_succ]
        refine wpAnyH_ready (rs := [30]) (by kernel_rfl) (by simp) ?_
        refine (AllReadyH.cons rfl (fun K hK => ?_) AllReadyH.nil)
        try rw [if_pos (by kernel_rfl)]
        go_simp
        go_at_call 24
        refine (told_any _ Q _ n2).mono ?_
        rintro e w23 ⟨rfl, k23⟩
        have b0 := b0.below k23 b0.lt
        have b1 := b1.below k23 b1.lt
        have b2 := b2.below k23 b2.lt
        have b3 := b3.below k23 b3.lt
        have b4 := b4.below k23 b4.lt
        have n0 := n0.below k23
        have n1 := n1.below k23
        have n2 := n2.below k23
        have n3 := n3.below k23
        have n4 := n4.below k23
        have n5 := n5.below k23
        have n6 := n6.below k23
        have n7 := n7.below k23
        have n8 := n8.below k23
        have bel := hthen bel k23
        clear k23
        try dsimp only
        refine hK.out _ _ (by have q0 := b0.cell 0; have q1 := b0.cell 1; have q2 := b0.cell 2; have q3 := b1.cell 0; have q4 := b1.cell 1; have q5 := b1.cell 2; have q6 := b2.cell 0; have q7 := b2.cell 1; have q8 := b2.cell 2; have q9 := b3.cell 0; have q10 := b3.cell 1; have q11 := b3.cell 2; have q12 := b4.cell 0; have q13 := b4.cell 1; have q14 := b4.cell 2; simp at q0 q1 q2 q3 q4 q5 q6 q7 q8 q9 q10 q11 q12 q13 q14; exact ⟨q0, q1, q2, q3, q4, q5, q6, q7, q8, q9, q10, q11, q12, q13, q14⟩) (fun hHeld => ?_)
        clear hK K
        try simp only [Act.put, List.getElem_toArray, List.getElem_cons_succ, List.getElem_cons_zero, List.setIfInBounds_toArray, List.set_cons_zero, List.set_cons_succ]
        refine wpAnyH_ready (rs := [32]) (by kernel_rfl) (by simp) ?_
        refine (AllReadyH.cons rfl (fun K hK => ?_) AllReadyH.nil)
        try rw [if_pos (by kernel_rfl)]
        go_simp
        go_at_call 23
        refine (nsame_to rfl _ _ _ n2 n4 Q1 Q2).mono ?_
        rintro e w24 ⟨rfl, k24⟩
        have b0 := b0.below k24 b0.lt
        have b1 := b1.below k24 b1.lt
        have b2 := b2.below k24 b2.lt
        have b3 := b3.below k24 b3.lt
        have b4 := b4.below k24 b4.lt
        have n0 := n0.below k24
        have n1 := n1.below k24
        have n2 := n2.below k24
        have n3 := n3.below k24
        have n4 := n4.below k24
        have n5 := n5.below k24
        have n6 := n6.below k24
        have n7 := n7.below k24
        have n8 := n8.below k24
        have bel := hthen bel k24
        clear k24
        try dsimp only
        refine hK.out _ _ (by have q0 := b0.cell 0; have q1 := b0.cell 1; have q2 := b0.cell 2; have q3 := b1.cell 0; have q4 := b1.cell 1; have q5 := b1.cell 2; have q6 := b2.cell 0; have q7 := b2.cell 1; have q8 := b2.cell 2; have q9 := b3.cell 0; have q10 := b3.cell 1; have q11 := b3.cell 2; have q12 := b4.cell 0; have q13 := b4.cell 1; have q14 := b4.cell 2; simp at q0 q1 q2 q3 q4 q5 q6 q7 q8 q9 q10 q11 q12 q13 q14; exact ⟨q0, q1, q2, q3, q4, q5, q6, q7, q8, q9, q10, q11, q12, q13, q14⟩) (fun hHeld => ?_)
        clear hK K
        try simp only [Act.put, List.getElem_toArray, List.getElem_cons_succ, List.getElem_cons_zero, List.setIfInBounds_toArray, List.set_cons_zero, List.set_cons_succ]
        refine wpAnyH_take (i := 33) (oi := ⟨some 73, _, _, _, _, _⟩) (v := ?_) rfl (by kernel_rfl) (by kernel_rfl) (by kernel_rfl) (fun _ _ _ h => h) (Or.inl ⟨by kernel_rfl, ?_⟩) hHeld ?_
        rotate_left
        · (intro w hSw; (try dsimp only at hSw); go_simp; try with_reducible rfl)
        try simp only [Act.put, List.getElem_toArray, List.getElem_cons_succ, List.getElem_cons_zero, List.setIfInBounds_toArray, List.set_cons_zero, List.set_cons_succ]
        refine wpAnyH_take (i := 34) (oi := ⟨some 74, _, _, _, _, _⟩) (v := ?_) rfl (by kernel_rfl) (by kernel_rfl) (by kernel_rfl) (fun _ _ _ h => h) (Or.inl ⟨by kernel_rfl, ?_⟩) hHeld ?_
        rotate_left
        · (intro w hSw; (try dsimp only at hSw); go_simp; try with_reducible rfl)
        try simp only [Act.put, List.getElem_toArray, List.getElem_cons_succ, List.getElem_cons_zero, List.setIfInBounds_toArray, List.set_cons_zero, List.set_cons_succ]
        refine wpAnyH_take (i := 35) (oi := ⟨some 75, _, _, _, _, _⟩) (v := ?_) rfl (by kernel_rfl) (by kernel_rfl) (by kernel_rfl) (fun _ _ _ h => h) (Or.inl ⟨by kernel_rfl, ?_⟩) hHeld ?_
        rotate_left
        · (intro w hSw; (try dsimp only at hSw); go_simp; try with_reducible rfl)
        try simp only [Act.put, List.getElem_toArray, List.getElem_cons_succ, List.getElem_cons_zero, List.setIfInBounds_toArray, List.set_cons_zero, List.set_cons_succ]
        refine wpAnyH_take (i := 36) (oi := ⟨some 76, _, _, _, _, _⟩) (v := ?_) rfl (by kernel_rfl) (by kernel_rfl) (by kernel_rfl) (fun _ _ _ h => h) (Or.inl ⟨by kernel_rfl, ?_⟩) hHeld ?_
        rotate_left
        · (intro w hSw; (try dsimp only at hSw); go_simp; try with_reducible rfl)
        try simp only [Act.put, List.getElem_toArray, List.getElem_cons_succ, List.getElem_cons_zero, List.setIfInBounds_toArray, List.set_cons_zero, List.set_cons_succ]
        refine wpAnyH_take (i := 37) (oi := ⟨some 77, _, _, _, _, _⟩) (v := ?_) rfl (by kernel_rfl) (by kernel_rfl) (by kernel_rfl) (fun _ _ _ h => h) (Or.inl ⟨by kernel_rfl, ?_⟩) hHeld ?_
        rotate_left
        · (intro w hSw; (try dsimp only at hSw); go_simp; try with_reducible rfl)
        try simp only [Act.put, List.getElem_toArray, List.getElem_cons_succ, List.getElem_cons_zero, List.setIfInBounds_toArray, List.set_cons_zero, List.set_cons_succ]
        refine wpAnyH_take (i := 38) (oi := ⟨some 78, _, _, _, _, _⟩) (v := ?_) rfl (by kernel_rfl) (by kernel_rfl) (by kernel_rfl) (fun _ _ _ h => h) (Or.inl ⟨by kernel_rfl, ?_⟩) hHeld ?_
        rotate_left
        · (intro w hSw; (try dsimp only at hSw); go_simp; try with_reducible rfl)
        try simp only [Act.put, List.getElem_toArray, List.getElem_cons_succ, List.getElem_cons_zero, List.setIfInBounds_toArray, List.set_cons_zero, List.set_cons_succ]
        refine wpAnyH_take (i := 39) (oi := ⟨some 79, _, _, _, _, _⟩) (v := ?_) rfl (by kernel_rfl) (by kernel_rfl) (by kernel_rfl) (fun _ _ _ h => h) (Or.inl ⟨by kernel_rfl, ?_⟩) hHeld ?_
        rotate_left
        · (intro w hSw; (try dsimp only at hSw); go_simp; try with_reducible rfl)
        try simp only [Act.put, List.getElem_toArray, List.getElem_cons_succ, List.getElem_cons_zero, List.setIfInBounds_toArray, List.set_cons_zero, List.set_cons_succ]
        refine wpAnyH_ready (rs := [40]) (by kernel_rfl) (by simp) ?_
        refine (AllReadyH.cons rfl (fun K hK => ?_) AllReadyH.nil)
        try rw [if_pos (by kernel_rfl)]
        go_simp
        go_at_call 11
        refine (live_ok _).mono ?_
        rintro e w25 ⟨rfl, k25⟩
        have b0 := b0.below k25 b0.lt
        have b1 := b1.below k25 b1.lt
        have b2 := b2.below k25 b2.lt
        have b3 := b3.below k25 b3.lt
        have b4 := b4.below k25 b4.lt
        have n0 := n0.below k25
        have n1 := n1.below k25
        have n2 := n2.below k25
        have n3 := n3.below k25
        have n4 := n4.below k25
        have n5 := n5.below k25
        have n6 := n6.below k25
        have n7 := n7.below k25
        have n8 := n8.below k25
        have bel := hthen bel k25
        clear k25
        try dsimp only
        refine hK.out _ _ (by have q0 := b0.cell 0; have q1 := b0.cell 1; have q2 := b0.cell 2; have q3 := b1.cell 0; have q4 := b1.cell 1; have q5 := b1.cell 2; have q6 := b2.cell 0; have q7 := b2.cell 1; have q8 := b2.cell 2; have q9 := b3.cell 0; have q10 := b3.cell 1; have q11 := b3.cell 2; have q12 := b4.cell 0; have q13 := b4.cell 1; have q14 := b4.cell 2; simp at q0 q1 q2 q3 q4 q5 q6 q7 q8 q9 q10 q11 q12 q13 q14; exact ⟨q0, q1, q2, q3, q4, q5, q6, q7, q8, q9, q10, q11, q12, q13, q14⟩) (fun hHeld => ?_)
        clear hK K
        try simp only [Act.put, List.getElem_toArray, List.getElem_cons_succ, List.getElem_cons_zero, List.setIfInBounds_toArray, List.set_cons_zero, List.set_cons_succ]
        refine wpAnyH_take (i := 41) (oi := ⟨some 81, _, _, _, _, _⟩) (v := ?_) rfl (by kernel_rfl) (by kernel_rfl) (by kernel_rfl) (fun _ _ _ h => h) (Or.inl ⟨by kernel_rfl, ?_⟩) hHeld ?_
        rotate_left
        · (intro w hSw; (try dsimp only at hSw); go_simp; try with_reducible rfl)
        try simp only [Act.put, List.getElem_toArray, List.getElem_cons_succ, List.getElem_cons_zero, List.setIfInBounds_toArray, List.set_cons_zero, List.set_cons_succ]
        refine wpAnyH_take (i := 42) (oi := ⟨some 6, _, _, _, _, _⟩) (v := ?_) rfl (by kernel_rfl) (by kernel_rfl) (by kernel_rfl) (fun _ _ _ h => h) (Or.inl ⟨by kernel_rfl, ?_⟩) hHeld ?_
        rotate_left
        · (intro w hSw; (try dsimp only at hSw); go_simp; try with_reducible rfl)
        try simp only [Act.put, List.getElem_toArray, List.getElem_cons_succ, List.getElem_cons_zero, List.setIfInBounds_toArray, List.set_cons_zero, List.set_cons_succ]
        refine wpAnyH_done (by kernel_rfl) ?_ _
        refine NoPanic.normal ?_
        go_wp2
        go_ret
        exact ⟨rfl, bel⟩
end Go.Proofs.Ytiodeeliidhbgaa
