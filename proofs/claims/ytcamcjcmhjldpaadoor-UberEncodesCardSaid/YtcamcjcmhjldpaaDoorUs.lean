/- The walk of UberEncodes, UberBack. -/
import Derived.Test.YtcamcjcmhjldpaaDoorUm
import Derived.Test.YtcamcjcmhjldpaaDoorUr
namespace Go.Proofs.YtcamcjcmhjldpaaDoor
open Go Go.RowKit
set_option linter.unusedSimpArgs false
set_option linter.unnecessarySimpa false
set_option linter.unusedVariables false

theorem rdec_to {s : List UInt8} {u : Ub} {e0 : Int} (h : ubD s = (u, e0)) (hs : s.length ≤ 8000) (w : World) :
    Calls Tryd.prog 14 #[.string (bstr s)] w fun e w' => e = .returned (.tuple #[.agg #[.int .i64 u.txg, .string (bstr u.load)], .int .i64 e0]) ∧ Below w.heap.size w w' := by
  have := rdec_any s hs w
  rw [h] at this
  exact this

set_option maxRecDepth 100000 in
set_option maxHeartbeats 8000000 in
theorem uberEncodes_walk (w : World) (hR : RootsAt w) (a0 : D_permafrostref06_Uber) (h0_0 : (Lit.int .i64 a0.txg).wf = true) (h0_1 : a0.load.length ≤ 9223372036854775807) (a1 : List UInt8) (h1 : a1.length ≤ 140737488351232) :
    Calls Tryd.prog 3 #[.agg #[.int .i64 a0.txg, .string (bstr a0.load)], .string (bstr a1)] w fun e w' => e = .returned (.bool true) ∧ Below w.heap.size w w' := by
  obtain ⟨t, l⟩ := a0
  obtain ⟨s, rfl⟩ : ∃ s, a1 = s := ⟨_, rfl⟩
  simp only at h0_0 h0_1 ⊢
  have HRW := Lib.hid hR
  have bel : Below w.heap.size w w := Below.refl _ _
  have szl : (bstr l).size = l.length := by simp [bstr, ByteArray.size]
  have szs : (bstr a1).size = a1.length := by simp [bstr, ByteArray.size]
  by_cases g1 : 1100 < (l.length : Int)
  · have qg1 : decide ((l.length : Int) > 1100) = true := decide_eq_true (by omega)
    go_enter Tryd.func3, Tryd.ntmps3
    go_wp2_with fail
    obtain ⟨w1, hw1⟩ : ∃ x, w.alloc (.cells #[.int .i64 t, .string (bstr l)] 23) = x := ⟨_, rfl⟩
    obtain ⟨ib0, hib0⟩ : ∃ i, w.heap.size = i := ⟨_, rfl⟩
    have b0 : Blk w1 ib0 23 #[.int .i64 t, .string (bstr l)] := by rw [← hw1, ← hib0]; exact Blk.new _ _ _
    have k1 : Below w.heap.size w w1 := by rw [← hw1]; exact (Below.refl _ _).alloc (Nat.le_refl _) _
    have zb0 : w1.heap.size = ib0 + 1 := by rw [← hw1, ← hib0]; simp
    rw [hw1, hib0]
    have hR := hR.moved k1
    have bel := hthen bel k1
    clear k1
    clear hw1 hib0
    have b0c0 := b0.cell 0
    have b0c1 := b0.cell 1
    simp at b0c0 b0c1
    have b0lt := b0.lt
    try (go_wp2_with fail)
    refine (live_ok _ hR).mono ?_
    rintro e w2 ⟨rfl, k2⟩
    clear b0c0 b0c1 b0lt
    have b0 := b0.below k2 b0.lt
    have hR := hR.moved k2
    have bel := hthen bel k2
    clear k2
    go_wp2
    go_ret
    exact ⟨rfl, bel⟩
  have qg1 : decide ((l.length : Int) > 1100) = false := decide_eq_false (by omega)
  by_cases g2 : 1100 < (a1.length : Int)
  · have qg2 : decide ((a1.length : Int) > 1100) = true := decide_eq_true (by omega)
    go_enter Tryd.func3, Tryd.ntmps3
    go_wp2_with fail
    obtain ⟨w1, hw1⟩ : ∃ x, w.alloc (.cells #[.int .i64 t, .string (bstr l)] 23) = x := ⟨_, rfl⟩
    obtain ⟨ib0, hib0⟩ : ∃ i, w.heap.size = i := ⟨_, rfl⟩
    have b0 : Blk w1 ib0 23 #[.int .i64 t, .string (bstr l)] := by rw [← hw1, ← hib0]; exact Blk.new _ _ _
    have k1 : Below w.heap.size w w1 := by rw [← hw1]; exact (Below.refl _ _).alloc (Nat.le_refl _) _
    have zb0 : w1.heap.size = ib0 + 1 := by rw [← hw1, ← hib0]; simp
    rw [hw1, hib0]
    have hR := hR.moved k1
    have bel := hthen bel k1
    clear k1
    clear hw1 hib0
    have b0c0 := b0.cell 0
    have b0c1 := b0.cell 1
    simp at b0c0 b0c1
    have b0lt := b0.lt
    try (go_wp2_with fail)
    refine (live_ok _ hR).mono ?_
    rintro e w2 ⟨rfl, k2⟩
    clear b0c0 b0c1 b0lt
    have b0 := b0.below k2 b0.lt
    have hR := hR.moved k2
    have bel := hthen bel k2
    clear k2
    go_wp2
    go_ret
    exact ⟨rfl, bel⟩
  have qg2 : decide ((a1.length : Int) > 1100) = false := decide_eq_false (by omega)
  obtain ⟨q, hq⟩ : ∃ q, ubL ⟨t, l⟩ = q := ⟨_, rfl⟩
  obtain ⟨e0, he⟩ : ∃ q, ubE ⟨t, l⟩ = q := ⟨_, rfl⟩
  obtain ⟨SH, hSH⟩ : ∃ q, shaL a1 = q := ⟨_, rfl⟩
  have hsl : SH.length = 32 := by rw [← hSH, sha_len]
  obtain ⟨K, hK⟩ : ∃ q, a1 ++ SH = q := ⟨_, rfl⟩
  have hKl : K.length = a1.length + 32 := by rw [← hK, List.length_append, hsl]
  obtain ⟨⟨⟨T1, L1⟩, E1⟩, hD1⟩ : ∃ x, ubD a1 = x := ⟨_, rfl⟩
  obtain ⟨⟨⟨T2, L2⟩, E2⟩, hD2⟩ : ∃ x, ubD K = x := ⟨_, rfl⟩
  have hcat : ¬ 9223372036854775807 < a1.length + SH.length := by omega
  have HQ := Lib.hid hq
  have HE := Lib.hid he
  have HSH := Lib.hid hSH
  have HK := Lib.hid hK
  have HD1 := Lib.hid hD1
  have HD2 := Lib.hid hD2
  have HA : Hid (a1.length ≤ 8000) := Lib.hid (by omega)
  have HB : Hid (K.length ≤ 8000) := Lib.hid (by omega)
  have HLL : Hid ((⟨t, l⟩ : Ub).load.length ≤ 140737488351232) := Lib.hid (by show l.length ≤ _; omega)
  have r1 : (q == q) = true := by simp
  have r2 : (e0 == e0) = true := by simp
  have r3 : (E1 == E1) = true := by simp
  have r4 : (E2 == E2) = true := by simp
  clear hq he hSH hK hD1 hD2
  go_enter Tryd.func3, Tryd.ntmps3
  go_wp2_with fail
  obtain ⟨w1, hw1⟩ : ∃ x, w.alloc (.cells #[.int .i64 t, .string (bstr l)] 23) = x := ⟨_, rfl⟩
  obtain ⟨ib0, hib0⟩ : ∃ i, w.heap.size = i := ⟨_, rfl⟩
  have b0 : Blk w1 ib0 23 #[.int .i64 t, .string (bstr l)] := by rw [← hw1, ← hib0]; exact Blk.new _ _ _
  have k1 : Below w.heap.size w w1 := by rw [← hw1]; exact (Below.refl _ _).alloc (Nat.le_refl _) _
  have zb0 : w1.heap.size = ib0 + 1 := by rw [← hw1, ← hib0]; simp
  rw [hw1, hib0]
  have hR := hR.moved k1
  have bel := hthen bel k1
  clear k1
  clear hw1 hib0
  have b0c0 := b0.cell 0
  have b0c1 := b0.cell 1
  simp at b0c0 b0c1
  have b0lt := b0.lt
  try (go_wp2_with fail)
  refine (own_any t l _).mono ?_
  rintro e w2 ⟨rfl, k2⟩
  clear b0c0 b0c1 b0lt
  have b0 := b0.below k2 b0.lt
  have hR := hR.moved k2
  have bel := hthen bel k2
  clear k2
  have b0c0 := b0.cell 0
  have b0c1 := b0.cell 1
  simp at b0c0 b0c1
  have b0lt := b0.lt
  go_wp2_with fail
  refine (uenc_to (u := ⟨t, l⟩) HQ.out HE.out HLL.out _ hR).mono ?_
  rintro e w3 ⟨rfl, k3⟩
  clear b0c0 b0c1 b0lt
  have b0 := b0.below k3 b0.lt
  have hR := hR.moved k3
  have bel := hthen bel k3
  clear k3
  have b0c0 := b0.cell 0
  have b0c1 := b0.cell 1
  simp at b0c0 b0c1
  have b0lt := b0.lt
  go_wp2_with fail
  refine (renc_to (u := ⟨t, l⟩) HQ.out HE.out HLL.out _).mono ?_
  rintro e w4 ⟨rfl, k4⟩
  clear b0c0 b0c1 b0lt
  have b0 := b0.below k4 b0.lt
  have hR := hR.moved k4
  have bel := hthen bel k4
  clear k4
  have b0c0 := b0.cell 0
  have b0c1 := b0.cell 1
  simp at b0c0 b0c1
  have b0lt := b0.lt
  go_wp2_with fail
  refine (rof_to HSH.out HA.out _).mono ?_
  rintro e w5 ⟨rfl, k5⟩
  clear b0c0 b0c1 b0lt
  have b0 := b0.below k5 b0.lt
  have hR := hR.moved k5
  have bel := hthen bel k5
  clear k5
  have b0c0 := b0.cell 0
  have b0c1 := b0.cell 1
  simp at b0c0 b0c1
  have b0lt := b0.lt
  go_upto_region 6 with fail
  rw [HK.out]
  go_wp2_with fail
  refine (udec_to HD1.out (Nat.le_trans HA.out (by decide)) _ hR).mono ?_
  rintro e w6 ⟨rfl, k6⟩
  clear b0c0 b0c1 b0lt
  have b0 := b0.below k6 b0.lt
  have hR := hR.moved k6
  have bel := hthen bel k6
  clear k6
  have b0c0 := b0.cell 0
  have b0c1 := b0.cell 1
  simp at b0c0 b0c1
  have b0lt := b0.lt
  go_upto_region 6 with fail
  clear b0c0 b0c1 b0lt
  obtain ⟨w7, hw7⟩ : ∃ x, w6.alloc (.cells #[.int .i64 T1, .string (bstr L1)] 28) = x := ⟨_, rfl⟩
  obtain ⟨ib1, hib1⟩ : ∃ i, w6.heap.size = i := ⟨_, rfl⟩
  have b1 : Blk w7 ib1 28 #[.int .i64 T1, .string (bstr L1)] := by rw [← hw7, ← hib1]; exact Blk.new _ _ _
  have k7 : Below w6.heap.size w6 w7 := by rw [← hw7]; exact (Below.refl _ _).alloc (Nat.le_refl _) _
  have zb1 : w7.heap.size = ib1 + 1 := by rw [← hw7, ← hib1]; simp
  rw [hw7, hib1]
  have b0 := b0.below k7 b0.lt
  have hR := hR.moved k7
  have bel := hthen bel k7
  clear k7
  clear hw7 hib1
  have b0c0 := b0.cell 0
  have b0c1 := b0.cell 1
  simp at b0c0 b0c1
  have b0lt := b0.lt
  have b1c0 := b1.cell 0
  have b1c1 := b1.cell 1
  simp at b1c0 b1c1
  have b1lt := b1.lt
  try (go_wp2_with fail)
  refine (rdec_to HD1.out HA.out _).mono ?_
  rintro e w8 ⟨rfl, k8⟩
  clear b0c0 b0c1 b0lt b1c0 b1c1 b1lt
  have b0 := b0.below k8 b0.lt
  have b1 := b1.below k8 b1.lt
  have hR := hR.moved k8
  have bel := hthen bel k8
  clear k8
  have b0c0 := b0.cell 0
  have b0c1 := b0.cell 1
  simp at b0c0 b0c1
  have b0lt := b0.lt
  have b1c0 := b1.cell 0
  have b1c1 := b1.cell 1
  simp at b1c0 b1c1
  have b1lt := b1.lt
  go_upto_region 7 with fail
  clear b0c0 b0c1 b0lt b1c0 b1c1 b1lt
  obtain ⟨w9, hw9⟩ : ∃ x, w8.alloc (.cells #[.int .i64 T1, .string (bstr L1)] 23) = x := ⟨_, rfl⟩
  obtain ⟨ib2, hib2⟩ : ∃ i, w8.heap.size = i := ⟨_, rfl⟩
  have b2 : Blk w9 ib2 23 #[.int .i64 T1, .string (bstr L1)] := by rw [← hw9, ← hib2]; exact Blk.new _ _ _
  have k9 : Below w8.heap.size w8 w9 := by rw [← hw9]; exact (Below.refl _ _).alloc (Nat.le_refl _) _
  have zb2 : w9.heap.size = ib2 + 1 := by rw [← hw9, ← hib2]; simp
  rw [hw9, hib2]
  have b0 := b0.below k9 b0.lt
  have b1 := b1.below k9 b1.lt
  have hR := hR.moved k9
  have bel := hthen bel k9
  clear k9
  clear hw9 hib2
  have b0c0 := b0.cell 0
  have b0c1 := b0.cell 1
  simp at b0c0 b0c1
  have b0lt := b0.lt
  have b1c0 := b1.cell 0
  have b1c1 := b1.cell 1
  simp at b1c0 b1c1
  have b1lt := b1.lt
  have b2c0 := b2.cell 0
  have b2c1 := b2.cell 1
  simp at b2c0 b2c1
  have b2lt := b2.lt
  try (go_wp2_with fail)
  refine (udec_to HD2.out (Nat.le_trans HB.out (by decide)) _ hR).mono ?_
  rintro e w10 ⟨rfl, k10⟩
  clear b0c0 b0c1 b0lt b1c0 b1c1 b1lt b2c0 b2c1 b2lt
  have b0 := b0.below k10 b0.lt
  have b1 := b1.below k10 b1.lt
  have b2 := b2.below k10 b2.lt
  have hR := hR.moved k10
  have bel := hthen bel k10
  clear k10
  have b0c0 := b0.cell 0
  have b0c1 := b0.cell 1
  simp at b0c0 b0c1
  have b0lt := b0.lt
  have b1c0 := b1.cell 0
  have b1c1 := b1.cell 1
  simp at b1c0 b1c1
  have b1lt := b1.lt
  have b2c0 := b2.cell 0
  have b2c1 := b2.cell 1
  simp at b2c0 b2c1
  have b2lt := b2.lt
  go_upto_region 8 with fail
  clear b0c0 b0c1 b0lt b1c0 b1c1 b1lt b2c0 b2c1 b2lt
  obtain ⟨w11, hw11⟩ : ∃ x, w10.alloc (.cells #[.int .i64 T2, .string (bstr L2)] 28) = x := ⟨_, rfl⟩
  obtain ⟨ib3, hib3⟩ : ∃ i, w10.heap.size = i := ⟨_, rfl⟩
  have b3 : Blk w11 ib3 28 #[.int .i64 T2, .string (bstr L2)] := by rw [← hw11, ← hib3]; exact Blk.new _ _ _
  have k11 : Below w10.heap.size w10 w11 := by rw [← hw11]; exact (Below.refl _ _).alloc (Nat.le_refl _) _
  have zb3 : w11.heap.size = ib3 + 1 := by rw [← hw11, ← hib3]; simp
  rw [hw11, hib3]
  have b0 := b0.below k11 b0.lt
  have b1 := b1.below k11 b1.lt
  have b2 := b2.below k11 b2.lt
  have hR := hR.moved k11
  have bel := hthen bel k11
  clear k11
  clear hw11 hib3
  have b0c0 := b0.cell 0
  have b0c1 := b0.cell 1
  simp at b0c0 b0c1
  have b0lt := b0.lt
  have b1c0 := b1.cell 0
  have b1c1 := b1.cell 1
  simp at b1c0 b1c1
  have b1lt := b1.lt
  have b2c0 := b2.cell 0
  have b2c1 := b2.cell 1
  simp at b2c0 b2c1
  have b2lt := b2.lt
  have b3c0 := b3.cell 0
  have b3c1 := b3.cell 1
  simp at b3c0 b3c1
  have b3lt := b3.lt
  try (go_wp2_with fail)
  refine (rdec_to HD2.out HB.out _).mono ?_
  rintro e w12 ⟨rfl, k12⟩
  clear b0c0 b0c1 b0lt b1c0 b1c1 b1lt b2c0 b2c1 b2lt b3c0 b3c1 b3lt
  have b0 := b0.below k12 b0.lt
  have b1 := b1.below k12 b1.lt
  have b2 := b2.below k12 b2.lt
  have b3 := b3.below k12 b3.lt
  have hR := hR.moved k12
  have bel := hthen bel k12
  clear k12
  have b0c0 := b0.cell 0
  have b0c1 := b0.cell 1
  simp at b0c0 b0c1
  have b0lt := b0.lt
  have b1c0 := b1.cell 0
  have b1c1 := b1.cell 1
  simp at b1c0 b1c1
  have b1lt := b1.lt
  have b2c0 := b2.cell 0
  have b2c1 := b2.cell 1
  simp at b2c0 b2c1
  have b2lt := b2.lt
  have b3c0 := b3.cell 0
  have b3c1 := b3.cell 1
  simp at b3c0 b3c1
  have b3lt := b3.lt
  go_upto_region 9 with fail
  clear b0c0 b0c1 b0lt b1c0 b1c1 b1lt b2c0 b2c1 b2lt b3c0 b3c1 b3lt
  obtain ⟨w13, hw13⟩ : ∃ x, w12.alloc (.cells #[.int .i64 T2, .string (bstr L2)] 23) = x := ⟨_, rfl⟩
  obtain ⟨ib4, hib4⟩ : ∃ i, w12.heap.size = i := ⟨_, rfl⟩
  have b4 : Blk w13 ib4 23 #[.int .i64 T2, .string (bstr L2)] := by rw [← hw13, ← hib4]; exact Blk.new _ _ _
  have k13 : Below w12.heap.size w12 w13 := by rw [← hw13]; exact (Below.refl _ _).alloc (Nat.le_refl _) _
  have zb4 : w13.heap.size = ib4 + 1 := by rw [← hw13, ← hib4]; simp
  rw [hw13, hib4]
  have b0 := b0.below k13 b0.lt
  have b1 := b1.below k13 b1.lt
  have b2 := b2.below k13 b2.lt
  have b3 := b3.below k13 b3.lt
  have hR := hR.moved k13
  have bel := hthen bel k13
  clear k13
  clear hw13 hib4
  have b0c0 := b0.cell 0
  have b0c1 := b0.cell 1
  simp at b0c0 b0c1
  have b0lt := b0.lt
  have b1c0 := b1.cell 0
  have b1c1 := b1.cell 1
  simp at b1c0 b1c1
  have b1lt := b1.lt
  have b2c0 := b2.cell 0
  have b2c1 := b2.cell 1
  simp at b2c0 b2c1
  have b2lt := b2.lt
  have b3c0 := b3.cell 0
  have b3c1 := b3.cell 1
  simp at b3c0 b3c1
  have b3lt := b3.lt
  have b4c0 := b4.cell 0
  have b4c1 := b4.cell 1
  simp at b4c0 b4c1
  have b4lt := b4.lt
  try (go_wp2_with fail)
  clear b0c0 b0c1 b0lt b1c0 b1c1 b1lt b2c0 b2c1 b2lt b3c0 b3c1 b3lt b4c0 b4c1 b4lt
  have hR := hR.moved (Below.refl _ _).drew
  have bel := bel.drew
  have b0 := b0.drew
  have b1 := b1.drew
  have b2 := b2.drew
  have b3 := b3.drew
  have b4 := b4.drew
  refine wp_region_noPanic ?_
  refine wp_region_held_drew (S := (fun w' => w'.cell? ⟨ib1, 0, none⟩ = some (.int .i64 T1) ∧ w'.cell? ⟨ib1, 1, none⟩ = some (.string (bstr L1)) ∧ w'.cell? ⟨ib2, 0, none⟩ = some (.int .i64 T1) ∧ w'.cell? ⟨ib2, 1, none⟩ = some (.string (bstr L1)) ∧ w'.cell? ⟨ib3, 0, none⟩ = some (.int .i64 T2) ∧ w'.cell? ⟨ib3, 1, none⟩ = some (.string (bstr L2)) ∧ w'.cell? ⟨ib4, 0, none⟩ = some (.int .i64 T2) ∧ w'.cell? ⟨ib4, 1, none⟩ = some (.string (bstr L2)))) (by kernel_rfl) ?hS0 (fun hHeld => ?_)
  case hS0 => (have q0 := b1.cell 0; have q1 := b1.cell 1; have q2 := b2.cell 0; have q3 := b2.cell 1; have q4 := b3.cell 0; have q5 := b3.cell 1; have q6 := b4.cell 0; have q7 := b4.cell 1; simp at q0 q1 q2 q3 q4 q5 q6 q7; exact ⟨q0, q1, q2, q3, q4, q5, q6, q7⟩)
  generalize hZ : w13.drew = wd14 at *
  clear hZ
  refine wpAnyH_take (i := 0) (oi := ⟨some 63, _, _, _, _, _⟩) (v := ?_) rfl (by kernel_rfl) (by kernel_rfl) (by kernel_rfl) (fun _ _ _ h => h) (Or.inl ⟨by kernel_rfl, ?_⟩) hHeld ?_
  rotate_left
  · (intro w hSw; (try dsimp only at hSw); go_simp; try with_reducible rfl)
  try simp only [Act.put, List.getElem_toArray, List.getElem_cons_succ, List.getElem_cons_zero, List.setIfInBounds_toArray, List.set_cons_zero, List.set_cons_succ]
  refine wpAnyH_take (i := 1) (oi := ⟨some 64, _, _, _, _, _⟩) (v := ?_) rfl (by kernel_rfl) (by kernel_rfl) (by kernel_rfl) (fun _ _ _ h => h) (Or.inl ⟨by kernel_rfl, ?_⟩) hHeld ?_
  rotate_left
  · (intro w hSw; (try dsimp only at hSw); go_simp; try with_reducible rfl)
  try simp only [Act.put, List.getElem_toArray, List.getElem_cons_succ, List.getElem_cons_zero, List.setIfInBounds_toArray, List.set_cons_zero, List.set_cons_succ]
  refine wpAnyH_take (i := 2) (oi := ⟨some 65, _, _, _, _, _⟩) (v := ?_) rfl (by kernel_rfl) (by kernel_rfl) (by kernel_rfl) (fun _ _ _ h => h) (Or.inl ⟨by kernel_rfl, ?_⟩) hHeld ?_
  rotate_left
  · (intro w hSw; (try dsimp only at hSw); go_simp; try with_reducible rfl)
  try simp only [Act.put, List.getElem_toArray, List.getElem_cons_succ, List.getElem_cons_zero, List.setIfInBounds_toArray, List.set_cons_zero, List.set_cons_succ]
  refine wpAnyH_take (i := 3) (oi := ⟨some 66, _, _, _, _, _⟩) (v := ?_) rfl (by kernel_rfl) (by kernel_rfl) (by kernel_rfl) (fun _ _ _ h => h) (Or.inl ⟨by kernel_rfl, ?_⟩) hHeld ?_
  rotate_left
  · (intro w hSw; (try dsimp only at hSw); go_simp; try with_reducible rfl)
  try simp only [Act.put, List.getElem_toArray, List.getElem_cons_succ, List.getElem_cons_zero, List.setIfInBounds_toArray, List.set_cons_zero, List.set_cons_succ]
  refine wpAnyH_take (i := 4) (oi := ⟨some 67, _, _, _, _, _⟩) (v := ?_) rfl (by kernel_rfl) (by kernel_rfl) (by kernel_rfl) (fun _ _ _ h => h) (Or.inl ⟨by kernel_rfl, ?_⟩) hHeld ?_
  rotate_left
  · (intro w hSw; (try dsimp only at hSw); go_simp; try with_reducible rfl)
  try simp only [Act.put, List.getElem_toArray, List.getElem_cons_succ, List.getElem_cons_zero, List.setIfInBounds_toArray, List.set_cons_zero, List.set_cons_succ]
  refine wpAnyH_take (i := 5) (oi := ⟨some 68, _, _, _, _, _⟩) (v := ?_) rfl (by kernel_rfl) (by kernel_rfl) (by kernel_rfl) (fun _ _ _ h => h) (Or.inl ⟨by kernel_rfl, ?_⟩) hHeld ?_
  rotate_left
  · (intro w hSw; (try dsimp only at hSw); go_simp; try with_reducible rfl)
  try simp only [Act.put, List.getElem_toArray, List.getElem_cons_succ, List.getElem_cons_zero, List.setIfInBounds_toArray, List.set_cons_zero, List.set_cons_succ]
  refine wpAnyH_take (i := 6) (oi := ⟨some 69, _, _, _, _, _⟩) (v := ?_) rfl (by kernel_rfl) (by kernel_rfl) (by kernel_rfl) (fun _ _ _ h => h) (Or.inl ⟨by kernel_rfl, ?_⟩) hHeld ?_
  rotate_left
  · (intro w hSw; (try dsimp only at hSw); go_simp; try with_reducible rfl)
  try simp only [Act.put, List.getElem_toArray, List.getElem_cons_succ, List.getElem_cons_zero, List.setIfInBounds_toArray, List.set_cons_zero, List.set_cons_succ]
  refine wpAnyH_take (i := 7) (oi := ⟨some 70, _, _, _, _, _⟩) (v := ?_) rfl (by kernel_rfl) (by kernel_rfl) (by kernel_rfl) (fun _ _ _ h => h) (Or.inl ⟨by kernel_rfl, ?_⟩) hHeld ?_
  rotate_left
  · (intro w hSw; (try dsimp only at hSw); go_simp; try with_reducible rfl)
  try simp only [Act.put, List.getElem_toArray, List.getElem_cons_succ, List.getElem_cons_zero, List.setIfInBounds_toArray, List.set_cons_zero, List.set_cons_succ]
  refine wpAnyH_take (i := 8) (oi := ⟨some 71, _, _, _, _, _⟩) (v := ?_) rfl (by kernel_rfl) (by kernel_rfl) (by kernel_rfl) (fun _ _ _ h => h) (Or.inl ⟨by kernel_rfl, ?_⟩) hHeld ?_
  rotate_left
  · (intro w hSw; (try dsimp only at hSw); go_simp; try with_reducible rfl)
  try simp only [Act.put, List.getElem_toArray, List.getElem_cons_succ, List.getElem_cons_zero, List.setIfInBounds_toArray, List.set_cons_zero, List.set_cons_succ]
  refine wpAnyH_take (i := 9) (oi := ⟨some 72, _, _, _, _, _⟩) (v := ?_) rfl (by kernel_rfl) (by kernel_rfl) (by kernel_rfl) (fun _ _ _ h => h) (Or.inl ⟨by kernel_rfl, ?_⟩) hHeld ?_
  rotate_left
  · (intro w hSw; (try dsimp only at hSw); go_simp; try with_reducible rfl)
  try simp only [Act.put, List.getElem_toArray, List.getElem_cons_succ, List.getElem_cons_zero, List.setIfInBounds_toArray, List.set_cons_zero, List.set_cons_succ]
  refine wpAnyH_take (i := 11) (oi := ⟨some 74, _, _, _, _, _⟩) (v := ?_) rfl (by kernel_rfl) (by kernel_rfl) (by kernel_rfl) (fun _ _ _ h => h) (Or.inl ⟨by kernel_rfl, ?_⟩) hHeld ?_
  rotate_left
  · (intro w hSw; (try dsimp only at hSw); go_simp; try with_reducible rfl)
  try simp only [Act.put, List.getElem_toArray, List.getElem_cons_succ, List.getElem_cons_zero, List.setIfInBounds_toArray, List.set_cons_zero, List.set_cons_succ]
  refine wpAnyH_ready (rs := [10]) (by kernel_rfl) (by simp) ?_
  refine (AllReadyH.cons rfl (fun K hK => ?_) AllReadyH.nil)
  try rw [if_pos (by kernel_rfl)]
  go_simp
  go_at_call 15
  refine (told_any T1 L1 _).mono ?_
  rintro e w15 ⟨rfl, k15⟩
  have b0 := b0.below k15 b0.lt
  have b1 := b1.below k15 b1.lt
  have b2 := b2.below k15 b2.lt
  have b3 := b3.below k15 b3.lt
  have b4 := b4.below k15 b4.lt
  have hR := hR.moved k15
  have bel := hthen bel k15
  clear k15
  try dsimp only
  refine hK.out _ _ (by have q0 := b1.cell 0; have q1 := b1.cell 1; have q2 := b2.cell 0; have q3 := b2.cell 1; have q4 := b3.cell 0; have q5 := b3.cell 1; have q6 := b4.cell 0; have q7 := b4.cell 1; simp at q0 q1 q2 q3 q4 q5 q6 q7; exact ⟨q0, q1, q2, q3, q4, q5, q6, q7⟩) (fun hHeld => ?_)
  clear hK K
  try simp only [Act.put, List.getElem_toArray, List.getElem_cons_succ, List.getElem_cons_zero, List.setIfInBounds_toArray, List.set_cons_zero, List.set_cons_succ]
  refine wpAnyH_take (i := 12) (oi := ⟨some 75, _, _, _, _, _⟩) (v := ?_) rfl (by kernel_rfl) (by kernel_rfl) (by kernel_rfl) (fun _ _ _ h => h) (Or.inl ⟨by kernel_rfl, ?_⟩) hHeld ?_
  rotate_left
  · (intro w hSw; (try dsimp only at hSw); go_simp; try with_reducible rfl)
  try simp only [Act.put, List.getElem_toArray, List.getElem_cons_succ, List.getElem_cons_zero, List.setIfInBounds_toArray, List.set_cons_zero, List.set_cons_succ]
  refine wpAnyH_take (i := 13) (oi := ⟨some 76, _, _, _, _, _⟩) (v := ?_) rfl (by kernel_rfl) (by kernel_rfl) (by kernel_rfl) (fun _ _ _ h => h) (Or.inl ⟨by kernel_rfl, ?_⟩) hHeld ?_
  rotate_left
  · (intro w hSw; (try dsimp only at hSw); go_simp; try with_reducible rfl)
  try simp only [Act.put, List.getElem_toArray, List.getElem_cons_succ, List.getElem_cons_zero, List.setIfInBounds_toArray, List.set_cons_zero, List.set_cons_succ]
  refine wpAnyH_take (i := 14) (oi := ⟨some 77, _, _, _, _, _⟩) (v := ?_) rfl (by kernel_rfl) (by kernel_rfl) (by kernel_rfl) (fun _ _ _ h => h) (Or.inl ⟨by kernel_rfl, ?_⟩) hHeld ?_
  rotate_left
  · (intro w hSw; (try dsimp only at hSw); go_simp; try with_reducible rfl)
  try simp only [Act.put, List.getElem_toArray, List.getElem_cons_succ, List.getElem_cons_zero, List.setIfInBounds_toArray, List.set_cons_zero, List.set_cons_succ]
  refine wpAnyH_take (i := 15) (oi := ⟨some 78, _, _, _, _, _⟩) (v := ?_) rfl (by kernel_rfl) (by kernel_rfl) (by kernel_rfl) (fun _ _ _ h => h) (Or.inl ⟨by kernel_rfl, ?_⟩) hHeld ?_
  rotate_left
  · (intro w hSw; (try dsimp only at hSw); go_simp; try with_reducible rfl)
  try simp only [Act.put, List.getElem_toArray, List.getElem_cons_succ, List.getElem_cons_zero, List.setIfInBounds_toArray, List.set_cons_zero, List.set_cons_succ]
  refine wpAnyH_take (i := 16) (oi := ⟨some 79, _, _, _, _, _⟩) (v := ?_) rfl (by kernel_rfl) (by kernel_rfl) (by kernel_rfl) (fun _ _ _ h => h) (Or.inl ⟨by kernel_rfl, ?_⟩) hHeld ?_
  rotate_left
  · (intro w hSw; (try dsimp only at hSw); go_simp; try with_reducible rfl)
  try simp only [Act.put, List.getElem_toArray, List.getElem_cons_succ, List.getElem_cons_zero, List.setIfInBounds_toArray, List.set_cons_zero, List.set_cons_succ]
  refine wpAnyH_take (i := 17) (oi := ⟨some 80, _, _, _, _, _⟩) (v := ?_) rfl (by kernel_rfl) (by kernel_rfl) (by kernel_rfl) (fun _ _ _ h => h) (Or.inl ⟨by kernel_rfl, ?_⟩) hHeld ?_
  rotate_left
  · (intro w hSw; (try dsimp only at hSw); go_simp; try with_reducible rfl)
  try simp only [Act.put, List.getElem_toArray, List.getElem_cons_succ, List.getElem_cons_zero, List.setIfInBounds_toArray, List.set_cons_zero, List.set_cons_succ]
  refine wpAnyH_take (i := 18) (oi := ⟨some 81, _, _, _, _, _⟩) (v := ?_) rfl (by kernel_rfl) (by kernel_rfl) (by kernel_rfl) (fun _ _ _ h => h) (Or.inl ⟨by kernel_rfl, ?_⟩) hHeld ?_
  rotate_left
  · (intro w hSw; (try dsimp only at hSw); go_simp; try with_reducible rfl)
  try simp only [Act.put, List.getElem_toArray, List.getElem_cons_succ, List.getElem_cons_zero, List.setIfInBounds_toArray, List.set_cons_zero, List.set_cons_succ]
  refine wpAnyH_take (i := 19) (oi := ⟨some 82, _, _, _, _, _⟩) (v := ?_) rfl (by kernel_rfl) (by kernel_rfl) (by kernel_rfl) (fun _ _ _ h => h) (Or.inl ⟨by kernel_rfl, ?_⟩) hHeld ?_
  rotate_left
  · (intro w hSw; (try dsimp only at hSw); go_simp; try with_reducible rfl)
  try simp only [Act.put, List.getElem_toArray, List.getElem_cons_succ, List.getElem_cons_zero, List.setIfInBounds_toArray, List.set_cons_zero, List.set_cons_succ]
  refine wpAnyH_take (i := 20) (oi := ⟨some 83, _, _, _, _, _⟩) (v := ?_) rfl (by kernel_rfl) (by kernel_rfl) (by kernel_rfl) (fun _ _ _ h => h) (Or.inl ⟨by kernel_rfl, ?_⟩) hHeld ?_
  rotate_left
  · (intro w hSw; (try dsimp only at hSw); go_simp; try with_reducible rfl)
  try simp only [Act.put, List.getElem_toArray, List.getElem_cons_succ, List.getElem_cons_zero, List.setIfInBounds_toArray, List.set_cons_zero, List.set_cons_succ]
  refine wpAnyH_take (i := 22) (oi := ⟨some 85, _, _, _, _, _⟩) (v := ?_) rfl (by kernel_rfl) (by kernel_rfl) (by kernel_rfl) (fun _ _ _ h => h) (Or.inl ⟨by kernel_rfl, ?_⟩) hHeld ?_
  rotate_left
  · (intro w hSw; (try dsimp only at hSw); go_simp; try with_reducible rfl)
  try simp only [Act.put, List.getElem_toArray, List.getElem_cons_succ, List.getElem_cons_zero, List.setIfInBounds_toArray, List.set_cons_zero, List.set_cons_succ]
  refine wpAnyH_ready (rs := [21]) (by kernel_rfl) (by simp) ?_
  refine (AllReadyH.cons rfl (fun K hK => ?_) AllReadyH.nil)
  try rw [if_pos (by kernel_rfl)]
  go_simp
  go_at_call 15
  refine (told_any T2 L2 _).mono ?_
  rintro e w16 ⟨rfl, k16⟩
  have b0 := b0.below k16 b0.lt
  have b1 := b1.below k16 b1.lt
  have b2 := b2.below k16 b2.lt
  have b3 := b3.below k16 b3.lt
  have b4 := b4.below k16 b4.lt
  have hR := hR.moved k16
  have bel := hthen bel k16
  clear k16
  try dsimp only
  refine hK.out _ _ (by have q0 := b1.cell 0; have q1 := b1.cell 1; have q2 := b2.cell 0; have q3 := b2.cell 1; have q4 := b3.cell 0; have q5 := b3.cell 1; have q6 := b4.cell 0; have q7 := b4.cell 1; simp at q0 q1 q2 q3 q4 q5 q6 q7; exact ⟨q0, q1, q2, q3, q4, q5, q6, q7⟩) (fun hHeld => ?_)
  clear hK K
  try simp only [Act.put, List.getElem_toArray, List.getElem_cons_succ, List.getElem_cons_zero, List.setIfInBounds_toArray, List.set_cons_zero, List.set_cons_succ]
  refine wpAnyH_take (i := 23) (oi := ⟨some 86, _, _, _, _, _⟩) (v := ?_) rfl (by kernel_rfl) (by kernel_rfl) (by kernel_rfl) (fun _ _ _ h => h) (Or.inl ⟨by kernel_rfl, ?_⟩) hHeld ?_
  rotate_left
  · (intro w hSw; (try dsimp only at hSw); go_simp; try with_reducible rfl)
  try simp only [Act.put, List.getElem_toArray, List.getElem_cons_succ, List.getElem_cons_zero, List.setIfInBounds_toArray, List.set_cons_zero, List.set_cons_succ]
  refine wpAnyH_take (i := 24) (oi := ⟨some 87, _, _, _, _, _⟩) (v := ?_) rfl (by kernel_rfl) (by kernel_rfl) (by kernel_rfl) (fun _ _ _ h => h) (Or.inl ⟨by kernel_rfl, ?_⟩) hHeld ?_
  rotate_left
  · (intro w hSw; (try dsimp only at hSw); go_simp; try with_reducible rfl)
  try simp only [Act.put, List.getElem_toArray, List.getElem_cons_succ, List.getElem_cons_zero, List.setIfInBounds_toArray, List.set_cons_zero, List.set_cons_succ]
  refine wpAnyH_take (i := 25) (oi := ⟨some 88, _, _, _, _, _⟩) (v := ?_) rfl (by kernel_rfl) (by kernel_rfl) (by kernel_rfl) (fun _ _ _ h => h) (Or.inl ⟨by kernel_rfl, ?_⟩) hHeld ?_
  rotate_left
  · (intro w hSw; (try dsimp only at hSw); go_simp; try with_reducible rfl)
  try simp only [Act.put, List.getElem_toArray, List.getElem_cons_succ, List.getElem_cons_zero, List.setIfInBounds_toArray, List.set_cons_zero, List.set_cons_succ]
  refine wpAnyH_take (i := 26) (oi := ⟨some 89, _, _, _, _, _⟩) (v := ?_) rfl (by kernel_rfl) (by kernel_rfl) (by kernel_rfl) (fun _ _ _ h => h) (Or.inl ⟨by kernel_rfl, ?_⟩) hHeld ?_
  rotate_left
  · (intro w hSw; (try dsimp only at hSw); go_simp; try with_reducible rfl)
  try simp only [Act.put, List.getElem_toArray, List.getElem_cons_succ, List.getElem_cons_zero, List.setIfInBounds_toArray, List.set_cons_zero, List.set_cons_succ]
  refine wpAnyH_take (i := 27) (oi := ⟨some 90, _, _, _, _, _⟩) (v := ?_) rfl (by kernel_rfl) (by kernel_rfl) (by kernel_rfl) (fun _ _ _ h => h) (Or.inl ⟨by kernel_rfl, ?_⟩) hHeld ?_
  rotate_left
  · (intro w hSw; (try dsimp only at hSw); go_simp; try with_reducible rfl)
  try simp only [Act.put, List.getElem_toArray, List.getElem_cons_succ, List.getElem_cons_zero, List.setIfInBounds_toArray, List.set_cons_zero, List.set_cons_succ]
  refine wpAnyH_take (i := 28) (oi := ⟨some 91, _, _, _, _, _⟩) (v := ?_) rfl (by kernel_rfl) (by kernel_rfl) (by kernel_rfl) (fun _ _ _ h => h) (Or.inl ⟨by kernel_rfl, ?_⟩) hHeld ?_
  rotate_left
  · (intro w hSw; (try dsimp only at hSw); go_simp; try with_reducible rfl)
  try simp only [Act.put, List.getElem_toArray, List.getElem_cons_succ, List.getElem_cons_zero, List.setIfInBounds_toArray, List.set_cons_zero, List.set_cons_succ]
  refine wpAnyH_take (i := 29) (oi := ⟨some 92, _, _, _, _, _⟩) (v := ?_) rfl (by kernel_rfl) (by kernel_rfl) (by kernel_rfl) (fun _ _ _ h => h) (Or.inl ⟨by kernel_rfl, ?_⟩) hHeld ?_
  rotate_left
  · (intro w hSw; (try dsimp only at hSw); go_simp; try with_reducible rfl)
  try simp only [Act.put, List.getElem_toArray, List.getElem_cons_succ, List.getElem_cons_zero, List.setIfInBounds_toArray, List.set_cons_zero, List.set_cons_succ]
  refine wpAnyH_take (i := 30) (oi := ⟨some 93, _, _, _, _, _⟩) (v := ?_) rfl (by kernel_rfl) (by kernel_rfl) (by kernel_rfl) (fun _ _ _ h => h) (Or.inl ⟨by kernel_rfl, ?_⟩) hHeld ?_
  rotate_left
  · (intro w hSw; (try dsimp only at hSw); go_simp; try with_reducible rfl)
  try simp only [Act.put, List.getElem_toArray, List.getElem_cons_succ, List.getElem_cons_zero, List.setIfInBounds_toArray, List.set_cons_zero, List.set_cons_succ]
  refine wpAnyH_ready (rs := [31]) (by kernel_rfl) (by simp) ?_
  refine (AllReadyH.cons rfl (fun K hK => ?_) AllReadyH.nil)
  try rw [if_pos (by kernel_rfl)]
  go_simp
  go_at_call 8
  refine (live_ok _ hR).mono ?_
  rintro e w17 ⟨rfl, k17⟩
  have b0 := b0.below k17 b0.lt
  have b1 := b1.below k17 b1.lt
  have b2 := b2.below k17 b2.lt
  have b3 := b3.below k17 b3.lt
  have b4 := b4.below k17 b4.lt
  have hR := hR.moved k17
  have bel := hthen bel k17
  clear k17
  try dsimp only
  refine hK.out _ _ (by have q0 := b1.cell 0; have q1 := b1.cell 1; have q2 := b2.cell 0; have q3 := b2.cell 1; have q4 := b3.cell 0; have q5 := b3.cell 1; have q6 := b4.cell 0; have q7 := b4.cell 1; simp at q0 q1 q2 q3 q4 q5 q6 q7; exact ⟨q0, q1, q2, q3, q4, q5, q6, q7⟩) (fun hHeld => ?_)
  clear hK K
  try simp only [Act.put, List.getElem_toArray, List.getElem_cons_succ, List.getElem_cons_zero, List.setIfInBounds_toArray, List.set_cons_zero, List.set_cons_succ]
  refine wpAnyH_take (i := 32) (oi := ⟨some 95, _, _, _, _, _⟩) (v := ?_) rfl (by kernel_rfl) (by kernel_rfl) (by kernel_rfl) (fun _ _ _ h => h) (Or.inl ⟨by kernel_rfl, ?_⟩) hHeld ?_
  rotate_left
  · (intro w hSw; (try dsimp only at hSw); go_simp; try with_reducible rfl)
  try simp only [Act.put, List.getElem_toArray, List.getElem_cons_succ, List.getElem_cons_zero, List.setIfInBounds_toArray, List.set_cons_zero, List.set_cons_succ]
  refine wpAnyH_take (i := 33) (oi := ⟨some 4, _, _, _, _, _⟩) (v := ?_) rfl (by kernel_rfl) (by kernel_rfl) (by kernel_rfl) (fun _ _ _ h => h) (Or.inl ⟨by kernel_rfl, ?_⟩) hHeld ?_
  rotate_left
  · (intro w hSw; (try dsimp only at hSw); go_simp; try with_reducible rfl)
  try simp only [Act.put, List.getElem_toArray, List.getElem_cons_succ, List.getElem_cons_zero, List.setIfInBounds_toArray, List.set_cons_zero, List.set_cons_succ]
  refine wpAnyH_done (by kernel_rfl) ?_ _
  refine NoPanic.normal ?_
  go_wp2
  go_ret
  exact ⟨rfl, bel⟩
end Go.Proofs.YtcamcjcmhjldpaaDoor
