/- The walk of UberBack. -/
import Derived.Test.YtcamcjcmhjldpaaDoorUm
import Derived.Test.YtcamcjcmhjldpaaDoorUr
namespace Go.Proofs.YtcamcjcmhjldpaaDoor
open Go Go.RowKit
set_option linter.unusedSimpArgs false
set_option linter.unnecessarySimpa false
set_option linter.unusedVariables false

set_option maxRecDepth 100000 in
set_option maxHeartbeats 8000000 in
theorem uberBack_walk (w : World) (hR : RootsAt w) (a0 : D_permafrostref06_Uber) (h0_0 : (Lit.int .i64 a0.txg).wf = true) (h0_1 : a0.load.length ≤ 9223372036854775807) (a1 : List UInt8) (h1 : a1.length ≤ 140737488351232) :
    Calls Tryd.prog 5 #[.agg #[.int .i64 a0.txg, .string (bstr a0.load)], .string (bstr a1)] w fun e w' => e = .returned (.bool true) ∧ Below w.heap.size w w' := by
  obtain ⟨t, l⟩ := a0
  obtain ⟨s, rfl⟩ : ∃ s, a1 = s := ⟨_, rfl⟩
  simp only at h0_0 h0_1 ⊢
  have HRW := Lib.hid hR
  have bel : Below w.heap.size w w := Below.refl _ _
  have szl : (bstr l).size = l.length := by simp [bstr, ByteArray.size]
  have szs : (bstr a1).size = a1.length := by simp [bstr, ByteArray.size]
  by_cases g1 : 1000 < (l.length : Int)
  · have qg1 : decide ((l.length : Int) > 1000) = true := decide_eq_true (by omega)
    go_enter Tryd.func5, Tryd.ntmps5
    go_wp2_with fail
    obtain ⟨w1, hw1⟩ : ∃ x, w.alloc (.cells #[.int .i64 t, .string (bstr l)] 23) = x := ⟨_, rfl⟩
    obtain ⟨ib0, hib0⟩ : ∃ i, w.heap.size = i := ⟨_, rfl⟩
    have b0 : Blk w1 ib0 23 #[.int .i64 t, .string (bstr l)] := by rw [← hw1, ← hib0]; exact Blk.new _ _ _
    have k1 : Below w.heap.size w w1 := by rw [← hw1]; exact (Below.refl _ _).alloc (Nat.le_refl _) _
    have zb0 : w1.heap.size = ib0 + 1 := by rw [← hw1, ← hib0]; simp
    rw [hw1, hib0]
    have hR := hR.moved k1
    have bel := hthen bel k1
    clear k1
    clear hw1 hib0
    have b0c0 := b0.cell 0
    have b0c1 := b0.cell 1
    simp at b0c0 b0c1
    have b0lt := b0.lt
    try (go_wp2_with fail)
    refine (live_ok _ hR).mono ?_
    rintro e w2 ⟨rfl, k2⟩
    clear b0c0 b0c1 b0lt
    have b0 := b0.below k2 b0.lt
    have hR := hR.moved k2
    have bel := hthen bel k2
    clear k2
    go_wp2
    go_ret
    exact ⟨rfl, bel⟩
  have qg1 : decide ((l.length : Int) > 1000) = false := decide_eq_false (by omega)
  by_cases g2 : 1000 < (a1.length : Int)
  · have qg2 : decide ((a1.length : Int) > 1000) = true := decide_eq_true (by omega)
    go_enter Tryd.func5, Tryd.ntmps5
    go_wp2_with fail
    obtain ⟨w1, hw1⟩ : ∃ x, w.alloc (.cells #[.int .i64 t, .string (bstr l)] 23) = x := ⟨_, rfl⟩
    obtain ⟨ib0, hib0⟩ : ∃ i, w.heap.size = i := ⟨_, rfl⟩
    have b0 : Blk w1 ib0 23 #[.int .i64 t, .string (bstr l)] := by rw [← hw1, ← hib0]; exact Blk.new _ _ _
    have k1 : Below w.heap.size w w1 := by rw [← hw1]; exact (Below.refl _ _).alloc (Nat.le_refl _) _
    have zb0 : w1.heap.size = ib0 + 1 := by rw [← hw1, ← hib0]; simp
    rw [hw1, hib0]
    have hR := hR.moved k1
    have bel := hthen bel k1
    clear k1
    clear hw1 hib0
    have b0c0 := b0.cell 0
    have b0c1 := b0.cell 1
    simp at b0c0 b0c1
    have b0lt := b0.lt
    try (go_wp2_with fail)
    refine (live_ok _ hR).mono ?_
    rintro e w2 ⟨rfl, k2⟩
    clear b0c0 b0c1 b0lt
    have b0 := b0.below k2 b0.lt
    have hR := hR.moved k2
    have bel := hthen bel k2
    clear k2
    go_wp2
    go_ret
    exact ⟨rfl, bel⟩
  have qg2 : decide ((a1.length : Int) > 1000) = false := decide_eq_false (by omega)
  obtain ⟨SH, hSH⟩ : ∃ q, shaL a1 = q := ⟨_, rfl⟩
  have hsl : SH.length = 32 := by rw [← hSH, sha_len]
  obtain ⟨K, hK⟩ : ∃ q, a1 ++ SH = q := ⟨_, rfl⟩
  have hKl : K.length = a1.length + 32 := by rw [← hK, List.length_append, hsl]
  have hcat : ¬ 9223372036854775807 < a1.length + SH.length := by omega
  have HSH := Lib.hid hSH
  have HK := Lib.hid hK
  have HA : Hid (a1.length ≤ 8000) := Lib.hid (by omega)
  have HB : Hid (K.length ≤ 8000) := Lib.hid (by omega)
  have HLL : Hid ((⟨t, l⟩ : Ub).load.length ≤ 140737488351232) := Lib.hid (by show l.length ≤ _; omega)
  clear hSH hK
  by_cases he : ubE ⟨t, l⟩ = 0
  · obtain ⟨⟨⟨T2, L2⟩, E2⟩, hD2⟩ : ∃ x, ubD K = x := ⟨_, rfl⟩
    have HD2 := Lib.hid hD2
    clear hD2
    have HE := Lib.hid he
    have hql := ubL_len he
    obtain ⟨q, hq⟩ : ∃ q, ubL ⟨t, l⟩ = q := ⟨_, rfl⟩
    have hdq := ub_dec_enc he
    rw [hq] at hql hdq
    simp only at hql
    have HQ := Lib.hid hq
    have HDQ := Lib.hid hdq
    have w42 : wrap64 (42 + (l.length : Int)) = 42 + (l.length : Int) := IntWalk.wrap64_in _ ⟨by omega, by omega⟩
    have v42 : IntKind.i64.wrap (42 + (l.length : Int)) = 42 + (l.length : Int) := IntWalk.i64_in _ ⟨by omega, by omega⟩
    have c42 : ((q.length : Int) == 42 + (l.length : Int)) = true := by simp; omega
    clear he hq hdq
    go_enter Tryd.func5, Tryd.ntmps5
    go_wp2_with fail
    obtain ⟨w1, hw1⟩ : ∃ x, w.alloc (.cells #[.int .i64 t, .string (bstr l)] 23) = x := ⟨_, rfl⟩
    obtain ⟨ib0, hib0⟩ : ∃ i, w.heap.size = i := ⟨_, rfl⟩
    have b0 : Blk w1 ib0 23 #[.int .i64 t, .string (bstr l)] := by rw [← hw1, ← hib0]; exact Blk.new _ _ _
    have k1 : Below w.heap.size w w1 := by rw [← hw1]; exact (Below.refl _ _).alloc (Nat.le_refl _) _
    have zb0 : w1.heap.size = ib0 + 1 := by rw [← hw1, ← hib0]; simp
    rw [hw1, hib0]
    have hR := hR.moved k1
    have bel := hthen bel k1
    clear k1
    clear hw1 hib0
    have b0c0 := b0.cell 0
    have b0c1 := b0.cell 1
    simp at b0c0 b0c1
    have b0lt := b0.lt
    try (go_wp2_with fail)
    refine (own_any t l _).mono ?_
    rintro e w2 ⟨rfl, k2⟩
    clear b0c0 b0c1 b0lt
    have b0 := b0.below k2 b0.lt
    have hR := hR.moved k2
    have bel := hthen bel k2
    clear k2
    have b0c0 := b0.cell 0
    have b0c1 := b0.cell 1
    simp at b0c0 b0c1
    have b0lt := b0.lt
    go_wp2_with fail
    refine (uenc_to (u := ⟨t, l⟩) HQ.out HE.out HLL.out _ hR).mono ?_
    rintro e w3 ⟨rfl, k3⟩
    clear b0c0 b0c1 b0lt
    have b0 := b0.below k3 b0.lt
    have hR := hR.moved k3
    have bel := hthen bel k3
    clear k3
    have b0c0 := b0.cell 0
    have b0c1 := b0.cell 1
    simp at b0c0 b0c1
    have b0lt := b0.lt
    go_wp2_with fail
    refine (udec_to HDQ.out (by omega) _ hR).mono ?_
    rintro e w4 ⟨rfl, k4⟩
    clear b0c0 b0c1 b0lt
    have b0 := b0.below k4 b0.lt
    have hR := hR.moved k4
    have bel := hthen bel k4
    clear k4
    have b0c0 := b0.cell 0
    have b0c1 := b0.cell 1
    simp at b0c0 b0c1
    have b0lt := b0.lt
    go_upto_region 5 with fail
    clear b0c0 b0c1 b0lt
    obtain ⟨w5, hw5⟩ : ∃ x, w4.alloc (.cells #[.int .i64 t, .string (bstr l)] 28) = x := ⟨_, rfl⟩
    obtain ⟨ib1, hib1⟩ : ∃ i, w4.heap.size = i := ⟨_, rfl⟩
    have b1 : Blk w5 ib1 28 #[.int .i64 t, .string (bstr l)] := by rw [← hw5, ← hib1]; exact Blk.new _ _ _
    have k5 : Below w4.heap.size w4 w5 := by rw [← hw5]; exact (Below.refl _ _).alloc (Nat.le_refl _) _
    have zb1 : w5.heap.size = ib1 + 1 := by rw [← hw5, ← hib1]; simp
    rw [hw5, hib1]
    have b0 := b0.below k5 b0.lt
    have hR := hR.moved k5
    have bel := hthen bel k5
    clear k5
    clear hw5 hib1
    have b0c0 := b0.cell 0
    have b0c1 := b0.cell 1
    simp at b0c0 b0c1
    have b0lt := b0.lt
    have b1c0 := b1.cell 0
    have b1c1 := b1.cell 1
    simp at b1c0 b1c1
    have b1lt := b1.lt
    try (go_wp2_with fail)
    clear b0c0 b0c1 b0lt b1c0 b1c1 b1lt
    have hR := hR.moved (Below.refl _ _).drew
    have bel := bel.drew
    have b0 := b0.drew
    have b1 := b1.drew
    refine wp_region_noPanic ?_
    refine wp_region_held_drew (S := (fun w' => w'.cell? ⟨ib0, 0, none⟩ = some (.int .i64 t) ∧ w'.cell? ⟨ib0, 1, none⟩ = some (.string (bstr l)) ∧ w'.cell? ⟨ib1, 0, none⟩ = some (.int .i64 t) ∧ w'.cell? ⟨ib1, 1, none⟩ = some (.string (bstr l)))) (by kernel_rfl) ?hS0 (fun hHeld => ?_)
    case hS0 => (have q0 := b0.cell 0; have q1 := b0.cell 1; have q2 := b1.cell 0; have q3 := b1.cell 1; simp at q0 q1 q2 q3; exact ⟨q0, q1, q2, q3⟩)
    generalize hZ : w5.drew = wd6 at *
    clear hZ
    refine wpAnyH_take (i := 0) (oi := ⟨some 37, _, _, _, _, _⟩) (v := ?_) rfl (by kernel_rfl) (by kernel_rfl) (by kernel_rfl) (fun _ _ _ h => h) (Or.inl ⟨by kernel_rfl, ?_⟩) hHeld ?_
    rotate_left
    · (intro w hSw; (try dsimp only at hSw); go_simp; try with_reducible rfl)
    try simp only [Act.put, List.getElem_toArray, List.getElem_cons_succ, List.getElem_cons_zero, List.setIfInBounds_toArray, List.set_cons_zero, List.set_cons_succ]
    refine wpAnyH_take (i := 2) (oi := ⟨some 39, _, _, _, _, _⟩) (v := ?_) rfl (by kernel_rfl) (by kernel_rfl) (by kernel_rfl) (fun _ _ _ h => h) (Or.inl ⟨by kernel_rfl, ?_⟩) hHeld ?_
    rotate_left
    · (intro w hSw; (try dsimp only at hSw); go_simp; try with_reducible rfl)
    try simp only [Act.put, List.getElem_toArray, List.getElem_cons_succ, List.getElem_cons_zero, List.setIfInBounds_toArray, List.set_cons_zero, List.set_cons_succ]
    refine wpAnyH_ready (rs := [1]) (by kernel_rfl) (by simp) ?_
    refine (AllReadyH.cons rfl (fun K hK => ?_) AllReadyH.nil)
    try rw [if_pos (by kernel_rfl)]
    go_simp
    go_at_call 15
    refine (told_any t l _).mono ?_
    rintro e w7 ⟨rfl, k7⟩
    have b0 := b0.below k7 b0.lt
    have b1 := b1.below k7 b1.lt
    have hR := hR.moved k7
    have bel := hthen bel k7
    clear k7
    try dsimp only
    refine hK.out _ _ (by have q0 := b0.cell 0; have q1 := b0.cell 1; have q2 := b1.cell 0; have q3 := b1.cell 1; simp at q0 q1 q2 q3; exact ⟨q0, q1, q2, q3⟩) (fun hHeld => ?_)
    clear hK K
    try simp only [Act.put, List.getElem_toArray, List.getElem_cons_succ, List.getElem_cons_zero, List.setIfInBounds_toArray, List.set_cons_zero, List.set_cons_succ]
    refine wpAnyH_take (i := 3) (oi := ⟨some 40, _, _, _, _, _⟩) (v := ?_) rfl (by kernel_rfl) (by kernel_rfl) (by kernel_rfl) (fun _ _ _ h => h) (Or.inl ⟨by kernel_rfl, ?_⟩) hHeld ?_
    rotate_left
    · (intro w hSw; (try dsimp only at hSw); go_simp; try with_reducible rfl)
    try simp only [Act.put, List.getElem_toArray, List.getElem_cons_succ, List.getElem_cons_zero, List.setIfInBounds_toArray, List.set_cons_zero, List.set_cons_succ]
    refine wpAnyH_take (i := 4) (oi := ⟨some 41, _, _, _, _, _⟩) (v := ?_) rfl (by kernel_rfl) (by kernel_rfl) (by kernel_rfl) (fun _ _ _ h => h) (Or.inl ⟨by kernel_rfl, ?_⟩) hHeld ?_
    rotate_left
    · (intro w hSw; (try dsimp only at hSw); go_simp; try with_reducible rfl)
    try simp only [Act.put, List.getElem_toArray, List.getElem_cons_succ, List.getElem_cons_zero, List.setIfInBounds_toArray, List.set_cons_zero, List.set_cons_succ]
    refine wpAnyH_take (i := 5) (oi := ⟨some 42, _, _, _, _, _⟩) (v := ?_) rfl (by kernel_rfl) (by kernel_rfl) (by kernel_rfl) (fun _ _ _ h => h) (Or.inl ⟨by kernel_rfl, ?_⟩) hHeld ?_
    rotate_left
    · (intro w hSw; (try dsimp only at hSw); go_simp; try with_reducible rfl)
    try simp only [Act.put, List.getElem_toArray, List.getElem_cons_succ, List.getElem_cons_zero, List.setIfInBounds_toArray, List.set_cons_zero, List.set_cons_succ]
    refine wpAnyH_take (i := 6) (oi := ⟨some 43, _, _, _, _, _⟩) (v := ?_) rfl (by kernel_rfl) (by kernel_rfl) (by kernel_rfl) (fun _ _ _ h => h) (Or.inl ⟨by kernel_rfl, ?_⟩) hHeld ?_
    rotate_left
    · (intro w hSw; (try dsimp only at hSw); go_simp; try with_reducible rfl)
    try simp only [Act.put, List.getElem_toArray, List.getElem_cons_succ, List.getElem_cons_zero, List.setIfInBounds_toArray, List.set_cons_zero, List.set_cons_succ]
    refine wpAnyH_take (i := 7) (oi := ⟨some 44, _, _, _, _, _⟩) (v := ?_) rfl (by kernel_rfl) (by kernel_rfl) (by kernel_rfl) (fun _ _ _ h => h) (Or.inl ⟨by kernel_rfl, ?_⟩) hHeld ?_
    rotate_left
    · (intro w hSw; (try dsimp only at hSw); go_simp; try with_reducible rfl)
    try simp only [Act.put, List.getElem_toArray, List.getElem_cons_succ, List.getElem_cons_zero, List.setIfInBounds_toArray, List.set_cons_zero, List.set_cons_succ]
    refine wpAnyH_take (i := 8) (oi := ⟨some 45, _, _, _, _, _⟩) (v := ?_) rfl (by kernel_rfl) (by kernel_rfl) (by kernel_rfl) (fun _ _ _ h => h) (Or.inl ⟨by kernel_rfl, ?_⟩) hHeld ?_
    rotate_left
    · (intro w hSw; (try dsimp only at hSw); go_simp; try with_reducible rfl)
    try simp only [Act.put, List.getElem_toArray, List.getElem_cons_succ, List.getElem_cons_zero, List.setIfInBounds_toArray, List.set_cons_zero, List.set_cons_succ]
    refine wpAnyH_take (i := 9) (oi := ⟨some 46, _, _, _, _, _⟩) (v := ?_) rfl (by kernel_rfl) (by kernel_rfl) (by kernel_rfl) (fun _ _ _ h => h) (Or.inl ⟨by kernel_rfl, ?_⟩) hHeld ?_
    rotate_left
    · (intro w hSw; (try dsimp only at hSw); go_simp; try with_reducible rfl)
    try simp only [Act.put, List.getElem_toArray, List.getElem_cons_succ, List.getElem_cons_zero, List.setIfInBounds_toArray, List.set_cons_zero, List.set_cons_succ]
    refine wpAnyH_take (i := 10) (oi := ⟨some 47, _, _, _, _, _⟩) (v := ?_) rfl (by kernel_rfl) (by kernel_rfl) (by kernel_rfl) (fun _ _ _ h => h) (Or.inl ⟨by kernel_rfl, ?_⟩) hHeld ?_
    rotate_left
    · (intro w hSw; (try dsimp only at hSw); go_simp; try with_reducible rfl)
    try simp only [Act.put, List.getElem_toArray, List.getElem_cons_succ, List.getElem_cons_zero, List.setIfInBounds_toArray, List.set_cons_zero, List.set_cons_succ]
    refine wpAnyH_take (i := 11) (oi := ⟨some 48, _, _, _, _, _⟩) (v := ?_) rfl (by kernel_rfl) (by kernel_rfl) (by kernel_rfl) (fun _ _ _ h => h) (Or.inl ⟨by kernel_rfl, ?_⟩) hHeld ?_
    rotate_left
    · (intro w hSw; (try dsimp only at hSw); go_simp; try with_reducible rfl)
    try simp only [Act.put, List.getElem_toArray, List.getElem_cons_succ, List.getElem_cons_zero, List.setIfInBounds_toArray, List.set_cons_zero, List.set_cons_succ]
    refine wpAnyH_take (i := 12) (oi := ⟨some 49, _, _, _, _, _⟩) (v := ?_) rfl (by kernel_rfl) (by kernel_rfl) (by kernel_rfl) (fun _ _ _ h => h) (Or.inl ⟨by kernel_rfl, ?_⟩) hHeld ?_
    rotate_left
    · (intro w hSw; (try dsimp only at hSw); go_simp; try with_reducible rfl)
    try simp only [Act.put, List.getElem_toArray, List.getElem_cons_succ, List.getElem_cons_zero, List.setIfInBounds_toArray, List.set_cons_zero, List.set_cons_succ]
    refine wpAnyH_take (i := 13) (oi := ⟨some 50, _, _, _, _, _⟩) (v := ?_) rfl (by kernel_rfl) (by kernel_rfl) (by kernel_rfl) (fun _ _ _ h => h) (Or.inl ⟨by kernel_rfl, ?_⟩) hHeld ?_
    rotate_left
    · (intro w hSw; (try dsimp only at hSw); go_simp; try with_reducible rfl)
    try simp only [Act.put, List.getElem_toArray, List.getElem_cons_succ, List.getElem_cons_zero, List.setIfInBounds_toArray, List.set_cons_zero, List.set_cons_succ]
    refine wpAnyH_take (i := 14) (oi := ⟨some 51, _, _, _, _, _⟩) (v := ?_) rfl (by kernel_rfl) (by kernel_rfl) (by kernel_rfl) (fun _ _ _ h => h) (Or.inl ⟨by kernel_rfl, ?_⟩) hHeld ?_
    rotate_left
    · (intro w hSw; (try dsimp only at hSw); go_simp; try with_reducible rfl)
    try simp only [Act.put, List.getElem_toArray, List.getElem_cons_succ, List.getElem_cons_zero, List.setIfInBounds_toArray, List.set_cons_zero, List.set_cons_succ]
    refine wpAnyH_take (i := 15) (oi := ⟨some 52, _, _, _, _, _⟩) (v := ?_) rfl (by kernel_rfl) (by kernel_rfl) (by kernel_rfl) (fun _ _ _ h => h) (Or.inl ⟨by kernel_rfl, ?_⟩) hHeld ?_
    rotate_left
    · (intro w hSw; (try dsimp only at hSw); go_simp; try with_reducible rfl)
    try simp only [Act.put, List.getElem_toArray, List.getElem_cons_succ, List.getElem_cons_zero, List.setIfInBounds_toArray, List.set_cons_zero, List.set_cons_succ]
    refine wpAnyH_take (i := 16) (oi := ⟨some 53, _, _, _, _, _⟩) (v := ?_) rfl (by kernel_rfl) (by kernel_rfl) (by kernel_rfl) (fun _ _ _ h => h) (Or.inl ⟨by kernel_rfl, ?_⟩) hHeld ?_
    rotate_left
    · (intro w hSw; (try dsimp only at hSw); go_simp; try with_reducible rfl)
    try simp only [Act.put, List.getElem_toArray, List.getElem_cons_succ, List.getElem_cons_zero, List.setIfInBounds_toArray, List.set_cons_zero, List.set_cons_succ]
    refine wpAnyH_done (by kernel_rfl) ?_ _
    refine NoPanic.normal ?_
    have b0c0 := b0.cell 0
    have b0c1 := b0.cell 1
    simp at b0c0 b0c1
    have b0lt := b0.lt
    have b1c0 := b1.cell 0
    have b1c1 := b1.cell 1
    simp at b1c0 b1c1
    have b1lt := b1.lt
    go_wp2_with fail
    by_cases hE2 : E2 = 0
    · subst hE2
      obtain ⟨oe, ol⟩ := ub_enc_dec HD2.out
      have HOE := Lib.hid oe
      have HOL := Lib.hid ol
      have HVL : Hid ((⟨T2, L2⟩ : Ub).load.length ≤ 140737488351232) := Lib.hid (by have := (ubE_ok oe).2.2; omega)
      have rk : (K == K) = true := by simp
      clear oe ol
      refine (rof_to HSH.out HA.out _).mono ?_
      rintro e w8 ⟨rfl, k8⟩
      clear b0c0 b0c1 b0lt b1c0 b1c1 b1lt
      have b0 := b0.below k8 b0.lt
      have b1 := b1.below k8 b1.lt
      have hR := hR.moved k8
      have bel := hthen bel k8
      clear k8
      have b0c0 := b0.cell 0
      have b0c1 := b0.cell 1
      simp at b0c0 b0c1
      have b0lt := b0.lt
      have b1c0 := b1.cell 0
      have b1c1 := b1.cell 1
      simp at b1c0 b1c1
      have b1lt := b1.lt
      go_upto_region 9 with fail
      rw [HK.out]
      go_wp2_with fail
      refine (udec_to HD2.out (Nat.le_trans HB.out (by decide)) _ hR).mono ?_
      rintro e w9 ⟨rfl, k9⟩
      clear b0c0 b0c1 b0lt b1c0 b1c1 b1lt
      have b0 := b0.below k9 b0.lt
      have b1 := b1.below k9 b1.lt
      have hR := hR.moved k9
      have bel := hthen bel k9
      clear k9
      have b0c0 := b0.cell 0
      have b0c1 := b0.cell 1
      simp at b0c0 b0c1
      have b0lt := b0.lt
      have b1c0 := b1.cell 0
      have b1c1 := b1.cell 1
      simp at b1c0 b1c1
      have b1lt := b1.lt
      go_upto_region 9 with fail
      clear b0c0 b0c1 b0lt b1c0 b1c1 b1lt
      obtain ⟨w10, hw10⟩ : ∃ x, w9.alloc (.cells #[.int .i64 T2, .string (bstr L2)] 28) = x := ⟨_, rfl⟩
      obtain ⟨ib3, hib3⟩ : ∃ i, w9.heap.size = i := ⟨_, rfl⟩
      have b3 : Blk w10 ib3 28 #[.int .i64 T2, .string (bstr L2)] := by rw [← hw10, ← hib3]; exact Blk.new _ _ _
      have k10 : Below w9.heap.size w9 w10 := by rw [← hw10]; exact (Below.refl _ _).alloc (Nat.le_refl _) _
      have zb3 : w10.heap.size = ib3 + 1 := by rw [← hw10, ← hib3]; simp
      rw [hw10, hib3]
      have b0 := b0.below k10 b0.lt
      have b1 := b1.below k10 b1.lt
      have hR := hR.moved k10
      have bel := hthen bel k10
      clear k10
      clear hw10 hib3
      have b0c0 := b0.cell 0
      have b0c1 := b0.cell 1
      simp at b0c0 b0c1
      have b0lt := b0.lt
      have b1c0 := b1.cell 0
      have b1c1 := b1.cell 1
      simp at b1c0 b1c1
      have b1lt := b1.lt
      have b3c0 := b3.cell 0
      have b3c1 := b3.cell 1
      simp at b3c0 b3c1
      have b3lt := b3.lt
      try (go_wp2_with fail)
      refine (uenc_to (u := ⟨T2, L2⟩) HOL.out HOE.out HVL.out _ hR).mono ?_
      rintro e w11 ⟨rfl, k11⟩
      clear b0c0 b0c1 b0lt b1c0 b1c1 b1lt b3c0 b3c1 b3lt
      have b0 := b0.below k11 b0.lt
      have b1 := b1.below k11 b1.lt
      have b3 := b3.below k11 b3.lt
      have hR := hR.moved k11
      have bel := hthen bel k11
      clear k11
      have b0c0 := b0.cell 0
      have b0c1 := b0.cell 1
      simp at b0c0 b0c1
      have b0lt := b0.lt
      have b1c0 := b1.cell 0
      have b1c1 := b1.cell 1
      simp at b1c0 b1c1
      have b1lt := b1.lt
      have b3c0 := b3.cell 0
      have b3c1 := b3.cell 1
      simp at b3c0 b3c1
      have b3lt := b3.lt
      go_wp2_with fail
      refine (live_ok _ hR).mono ?_
      rintro e w12 ⟨rfl, k12⟩
      clear b0c0 b0c1 b0lt b1c0 b1c1 b1lt b3c0 b3c1 b3lt
      have b0 := b0.below k12 b0.lt
      have b1 := b1.below k12 b1.lt
      have b3 := b3.below k12 b3.lt
      have hR := hR.moved k12
      have bel := hthen bel k12
      clear k12
      go_wp2
      go_ret
      exact ⟨rfl, bel⟩
    · obtain ⟨eq1, _⟩ := ub_err HD2.out hE2
      cases eq1
      have q9 : (E2 == 0) = false := beq_eq_false_iff_ne.2 hE2
      refine (rof_to HSH.out HA.out _).mono ?_
      rintro e w8 ⟨rfl, k8⟩
      clear b0c0 b0c1 b0lt b1c0 b1c1 b1lt
      have b0 := b0.below k8 b0.lt
      have b1 := b1.below k8 b1.lt
      have hR := hR.moved k8
      have bel := hthen bel k8
      clear k8
      have b0c0 := b0.cell 0
      have b0c1 := b0.cell 1
      simp at b0c0 b0c1
      have b0lt := b0.lt
      have b1c0 := b1.cell 0
      have b1c1 := b1.cell 1
      simp at b1c0 b1c1
      have b1lt := b1.lt
      go_upto_region 9 with fail
      rw [HK.out]
      go_wp2_with fail
      refine (udec_to HD2.out (Nat.le_trans HB.out (by decide)) _ hR).mono ?_
      rintro e w9 ⟨rfl, k9⟩
      clear b0c0 b0c1 b0lt b1c0 b1c1 b1lt
      have b0 := b0.below k9 b0.lt
      have b1 := b1.below k9 b1.lt
      have hR := hR.moved k9
      have bel := hthen bel k9
      clear k9
      have b0c0 := b0.cell 0
      have b0c1 := b0.cell 1
      simp at b0c0 b0c1
      have b0lt := b0.lt
      have b1c0 := b1.cell 0
      have b1c1 := b1.cell 1
      simp at b1c0 b1c1
      have b1lt := b1.lt
      go_upto_region 9 with fail
      clear b0c0 b0c1 b0lt b1c0 b1c1 b1lt
      obtain ⟨w10, hw10⟩ : ∃ x, w9.alloc (.cells #[.int .i64 0, .string (bstr [])] 28) = x := ⟨_, rfl⟩
      obtain ⟨ib3, hib3⟩ : ∃ i, w9.heap.size = i := ⟨_, rfl⟩
      have b3 : Blk w10 ib3 28 #[.int .i64 0, .string (bstr [])] := by rw [← hw10, ← hib3]; exact Blk.new _ _ _
      have k10 : Below w9.heap.size w9 w10 := by rw [← hw10]; exact (Below.refl _ _).alloc (Nat.le_refl _) _
      have zb3 : w10.heap.size = ib3 + 1 := by rw [← hw10, ← hib3]; simp
      rw [hw10, hib3]
      have b0 := b0.below k10 b0.lt
      have b1 := b1.below k10 b1.lt
      have hR := hR.moved k10
      have bel := hthen bel k10
      clear k10
      clear hw10 hib3
      have b0c0 := b0.cell 0
      have b0c1 := b0.cell 1
      simp at b0c0 b0c1
      have b0lt := b0.lt
      have b1c0 := b1.cell 0
      have b1c1 := b1.cell 1
      simp at b1c0 b1c1
      have b1lt := b1.lt
      have b3c0 := b3.cell 0
      have b3c1 := b3.cell 1
      simp at b3c0 b3c1
      have b3lt := b3.lt
      try (go_wp2_with fail)
      refine (live_ok _ hR).mono ?_
      rintro e w11 ⟨rfl, k11⟩
      clear b0c0 b0c1 b0lt b1c0 b1c1 b1lt b3c0 b3c1 b3lt
      have b0 := b0.below k11 b0.lt
      have b1 := b1.below k11 b1.lt
      have b3 := b3.below k11 b3.lt
      have hR := hR.moved k11
      have bel := hthen bel k11
      clear k11
      go_wp2
      go_ret
      exact ⟨rfl, bel⟩
  · obtain ⟨⟨⟨T2, L2⟩, E2⟩, hD2⟩ : ∃ x, ubD K = x := ⟨_, rfl⟩
    have HD2 := Lib.hid hD2
    clear hD2
    have he1 : ubE ⟨t, l⟩ = 1 := by unfold ubE at he ⊢; split <;> simp_all
    have HE := Lib.hid he1
    have HQ : Hid (ubL ⟨t, l⟩ = []) := Lib.hid (by unfold ubL; rw [if_neg he])
    clear he he1
    go_enter Tryd.func5, Tryd.ntmps5
    go_wp2_with fail
    obtain ⟨w1, hw1⟩ : ∃ x, w.alloc (.cells #[.int .i64 t, .string (bstr l)] 23) = x := ⟨_, rfl⟩
    obtain ⟨ib0, hib0⟩ : ∃ i, w.heap.size = i := ⟨_, rfl⟩
    have b0 : Blk w1 ib0 23 #[.int .i64 t, .string (bstr l)] := by rw [← hw1, ← hib0]; exact Blk.new _ _ _
    have k1 : Below w.heap.size w w1 := by rw [← hw1]; exact (Below.refl _ _).alloc (Nat.le_refl _) _
    have zb0 : w1.heap.size = ib0 + 1 := by rw [← hw1, ← hib0]; simp
    rw [hw1, hib0]
    have hR := hR.moved k1
    have bel := hthen bel k1
    clear k1
    clear hw1 hib0
    have b0c0 := b0.cell 0
    have b0c1 := b0.cell 1
    simp at b0c0 b0c1
    have b0lt := b0.lt
    try (go_wp2_with fail)
    refine (own_any t l _).mono ?_
    rintro e w2 ⟨rfl, k2⟩
    clear b0c0 b0c1 b0lt
    have b0 := b0.below k2 b0.lt
    have hR := hR.moved k2
    have bel := hthen bel k2
    clear k2
    have b0c0 := b0.cell 0
    have b0c1 := b0.cell 1
    simp at b0c0 b0c1
    have b0lt := b0.lt
    go_wp2_with fail
    refine (uenc_to (u := ⟨t, l⟩) HQ.out HE.out HLL.out _ hR).mono ?_
    rintro e w3 ⟨rfl, k3⟩
    clear b0c0 b0c1 b0lt
    have b0 := b0.below k3 b0.lt
    have hR := hR.moved k3
    have bel := hthen bel k3
    clear k3
    have b0c0 := b0.cell 0
    have b0c1 := b0.cell 1
    simp at b0c0 b0c1
    have b0lt := b0.lt
    go_wp2_with fail
    by_cases hE2 : E2 = 0
    · subst hE2
      obtain ⟨oe, ol⟩ := ub_enc_dec HD2.out
      have HOE := Lib.hid oe
      have HOL := Lib.hid ol
      have HVL : Hid ((⟨T2, L2⟩ : Ub).load.length ≤ 140737488351232) := Lib.hid (by have := (ubE_ok oe).2.2; omega)
      have rk : (K == K) = true := by simp
      clear oe ol
      refine (rof_to HSH.out HA.out _).mono ?_
      rintro e w4 ⟨rfl, k4⟩
      clear b0c0 b0c1 b0lt
      have b0 := b0.below k4 b0.lt
      have hR := hR.moved k4
      have bel := hthen bel k4
      clear k4
      have b0c0 := b0.cell 0
      have b0c1 := b0.cell 1
      simp at b0c0 b0c1
      have b0lt := b0.lt
      go_upto_region 9 with fail
      rw [HK.out]
      go_wp2_with fail
      refine (udec_to HD2.out (Nat.le_trans HB.out (by decide)) _ hR).mono ?_
      rintro e w5 ⟨rfl, k5⟩
      clear b0c0 b0c1 b0lt
      have b0 := b0.below k5 b0.lt
      have hR := hR.moved k5
      have bel := hthen bel k5
      clear k5
      have b0c0 := b0.cell 0
      have b0c1 := b0.cell 1
      simp at b0c0 b0c1
      have b0lt := b0.lt
      go_upto_region 9 with fail
      clear b0c0 b0c1 b0lt
      obtain ⟨w6, hw6⟩ : ∃ x, w5.alloc (.cells #[.int .i64 T2, .string (bstr L2)] 28) = x := ⟨_, rfl⟩
      obtain ⟨ib3, hib3⟩ : ∃ i, w5.heap.size = i := ⟨_, rfl⟩
      have b3 : Blk w6 ib3 28 #[.int .i64 T2, .string (bstr L2)] := by rw [← hw6, ← hib3]; exact Blk.new _ _ _
      have k6 : Below w5.heap.size w5 w6 := by rw [← hw6]; exact (Below.refl _ _).alloc (Nat.le_refl _) _
      have zb3 : w6.heap.size = ib3 + 1 := by rw [← hw6, ← hib3]; simp
      rw [hw6, hib3]
      have b0 := b0.below k6 b0.lt
      have hR := hR.moved k6
      have bel := hthen bel k6
      clear k6
      clear hw6 hib3
      have b0c0 := b0.cell 0
      have b0c1 := b0.cell 1
      simp at b0c0 b0c1
      have b0lt := b0.lt
      have b3c0 := b3.cell 0
      have b3c1 := b3.cell 1
      simp at b3c0 b3c1
      have b3lt := b3.lt
      try (go_wp2_with fail)
      refine (uenc_to (u := ⟨T2, L2⟩) HOL.out HOE.out HVL.out _ hR).mono ?_
      rintro e w7 ⟨rfl, k7⟩
      clear b0c0 b0c1 b0lt b3c0 b3c1 b3lt
      have b0 := b0.below k7 b0.lt
      have b3 := b3.below k7 b3.lt
      have hR := hR.moved k7
      have bel := hthen bel k7
      clear k7
      have b0c0 := b0.cell 0
      have b0c1 := b0.cell 1
      simp at b0c0 b0c1
      have b0lt := b0.lt
      have b3c0 := b3.cell 0
      have b3c1 := b3.cell 1
      simp at b3c0 b3c1
      have b3lt := b3.lt
      go_wp2_with fail
      refine (live_ok _ hR).mono ?_
      rintro e w8 ⟨rfl, k8⟩
      clear b0c0 b0c1 b0lt b3c0 b3c1 b3lt
      have b0 := b0.below k8 b0.lt
      have b3 := b3.below k8 b3.lt
      have hR := hR.moved k8
      have bel := hthen bel k8
      clear k8
      go_wp2
      go_ret
      exact ⟨rfl, bel⟩
    · obtain ⟨eq1, _⟩ := ub_err HD2.out hE2
      cases eq1
      have q9 : (E2 == 0) = false := beq_eq_false_iff_ne.2 hE2
      refine (rof_to HSH.out HA.out _).mono ?_
      rintro e w4 ⟨rfl, k4⟩
      clear b0c0 b0c1 b0lt
      have b0 := b0.below k4 b0.lt
      have hR := hR.moved k4
      have bel := hthen bel k4
      clear k4
      have b0c0 := b0.cell 0
      have b0c1 := b0.cell 1
      simp at b0c0 b0c1
      have b0lt := b0.lt
      go_upto_region 9 with fail
      rw [HK.out]
      go_wp2_with fail
      refine (udec_to HD2.out (Nat.le_trans HB.out (by decide)) _ hR).mono ?_
      rintro e w5 ⟨rfl, k5⟩
      clear b0c0 b0c1 b0lt
      have b0 := b0.below k5 b0.lt
      have hR := hR.moved k5
      have bel := hthen bel k5
      clear k5
      have b0c0 := b0.cell 0
      have b0c1 := b0.cell 1
      simp at b0c0 b0c1
      have b0lt := b0.lt
      go_upto_region 9 with fail
      clear b0c0 b0c1 b0lt
      obtain ⟨w6, hw6⟩ : ∃ x, w5.alloc (.cells #[.int .i64 0, .string (bstr [])] 28) = x := ⟨_, rfl⟩
      obtain ⟨ib3, hib3⟩ : ∃ i, w5.heap.size = i := ⟨_, rfl⟩
      have b3 : Blk w6 ib3 28 #[.int .i64 0, .string (bstr [])] := by rw [← hw6, ← hib3]; exact Blk.new _ _ _
      have k6 : Below w5.heap.size w5 w6 := by rw [← hw6]; exact (Below.refl _ _).alloc (Nat.le_refl _) _
      have zb3 : w6.heap.size = ib3 + 1 := by rw [← hw6, ← hib3]; simp
      rw [hw6, hib3]
      have b0 := b0.below k6 b0.lt
      have hR := hR.moved k6
      have bel := hthen bel k6
      clear k6
      clear hw6 hib3
      have b0c0 := b0.cell 0
      have b0c1 := b0.cell 1
      simp at b0c0 b0c1
      have b0lt := b0.lt
      have b3c0 := b3.cell 0
      have b3c1 := b3.cell 1
      simp at b3c0 b3c1
      have b3lt := b3.lt
      try (go_wp2_with fail)
      refine (live_ok _ hR).mono ?_
      rintro e w7 ⟨rfl, k7⟩
      clear b0c0 b0c1 b0lt b3c0 b3c1 b3lt
      have b0 := b0.below k7 b0.lt
      have b3 := b3.below k7 b3.lt
      have hR := hR.moved k7
      have bel := hthen bel k7
      clear k7
      go_wp2
      go_ret
      exact ⟨rfl, bel⟩
end Go.Proofs.YtcamcjcmhjldpaaDoor
