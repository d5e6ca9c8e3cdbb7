/- The walk of NodeBack. -/
import Derived.Test.YtiodeeliidhbgaaNq
import Derived.Test.YtiodeeliidhbgaaTy
namespace Go.Proofs.Ytiodeeliidhbgaa
open Go Go.RowKit
set_option linter.unusedSimpArgs false
set_option linter.unnecessarySimpa false
set_option linter.unusedVariables false

theorem ss_arg {w : World} {v : Value} {l : List (List UInt8)} (h : SlAt w.heap.size w IsStr 1 [v] l) : SsAt w v l ∧ l.length ≤ maxLen := by
  obtain ⟨A, n, c, e, rfl, hc, hm, hx⟩ := h
  simp only [List.cons.injEq, and_true] at e
  refine ⟨⟨A, c, e, fun j hj => ?_⟩, by unfold maxLen at *; omega⟩
  obtain ⟨ad, rfl, had, hcell⟩ := hx (by omega)
  obtain ⟨es, hl, ⟨rfl, k1⟩, hu⟩ := hcell j l[j] (List.getElem?_eq_getElem hj)
  have := hu 0 _ rfl
  simp at this
  exact ⟨ad, rfl, by rw [this]; simp [List.getD_eq_getElem?_getD, hj]⟩
theorem small_to {n : Nd} {b : Bool} (hb : smallB n = b) (v : Value) (w : World) (h : NdV w v n) (hk : n.keys.length ≤ maxLen) (hv : n.vals.length ≤ maxLen) :
    Calls Try.prog 10 #[v] w fun e w' => e = .returned (.bool b) ∧ Below w.heap.size w w' := hb ▸ small_any v n w h hk hv
theorem small_len {n : Nd} (h : smallB n = true) : n.keys.length ≤ 260 ∧ n.vals.length ≤ 260 := by
  unfold smallB at h
  simp only [Bool.and_eq_true, decide_eq_true_eq] at h
  omega

set_option maxRecDepth 100000 in
set_option maxHeartbeats 4000000 in
theorem nodeBack_walk (w : World) (a0 : D_permafrostref09_Node) (v0_1 v0_2 : Value) (h0_0 : SlAt w.heap.size w IsStr 1 [v0_1] a0.keys) (h0_1 : SlAt w.heap.size w IsStr 1 [v0_2] a0.vals) (a1 : List UInt8) (h1 : a1.length ≤ 140737488351232) :
    Calls Try.prog 6 #[.agg #[.bool a0.leaf, v0_1, v0_2], .string (bstr a1)] w fun e w' => e = .returned (.bool true) ∧ Below w.heap.size w w' := by
  obtain ⟨leaf, ks, vs⟩ := a0
  simp only at h0_0 h0_1 ⊢
  obtain ⟨s1, l1⟩ := ss_arg h0_0
  obtain ⟨s2, l2⟩ := ss_arg h0_1
  obtain ⟨A, c, rfl⟩ := s1.form
  obtain ⟨C, d, rfl⟩ := s2.form
  clear h0_0 h0_1
  have n0 : NdV w (.agg #[.bool leaf, .slice A ks.length c, .slice C vs.length d]) ⟨leaf, ks, vs⟩ := ⟨_, _, rfl, s1, s2⟩
  have bel : Below w.heap.size w w := Below.refl _ _
  have hsz : (bstr a1).size = a1.length := by simp [bstr, ByteArray.size]
  clear s1 s2
  cases hs : smallB ⟨leaf, ks, vs⟩
  · have HS := Lib.hid hs
    clear hs
    go_enter Try.func6, Try.ntmps6
    go_wp2_with fail
    obtain ⟨w1, hw1⟩ : ∃ x, w.alloc (.cells #[.bool leaf, .slice A ks.length c, .slice C vs.length d] 24) = x := ⟨_, rfl⟩
    obtain ⟨ib0, hib0⟩ : ∃ i, w.heap.size = i := ⟨_, rfl⟩
    have b0 : Blk w1 ib0 24 #[.bool leaf, .slice A ks.length c, .slice C vs.length d] := by rw [← hw1, ← hib0]; exact Blk.new _ _ _
    have k1 : Below w.heap.size w w1 := by rw [← hw1]; exact (Below.refl _ _).alloc (Nat.le_refl _) _
    have zb0 : w1.heap.size = ib0 + 1 := by rw [← hw1, ← hib0]; simp
    rw [hw1, hib0]
    have n0 := n0.below k1
    have bel := hthen bel k1
    clear k1 hw1 hib0
    have b0c0 := b0.cell 0
    have b0c1 := b0.cell 1
    have b0c2 := b0.cell 2
    simp at b0c0 b0c1 b0c2
    have b0lt := b0.lt
    try (go_wp2_with fail)
    refine (small_to HS.out _ _ n0 l1 l2).mono ?_
    rintro e w2 ⟨rfl, k2⟩
    clear b0c0 b0c1 b0c2 b0lt
    have b0 := b0.below k2 b0.lt
    have n0 := n0.below k2
    have bel := hthen bel k2
    clear k2
    have b0c0 := b0.cell 0
    have b0c1 := b0.cell 1
    have b0c2 := b0.cell 2
    simp at b0c0 b0c1 b0c2
    have b0lt := b0.lt
    go_wp2_with fail
    refine (live_ok _).mono ?_
    rintro e w3 ⟨rfl, k3⟩
    clear b0c0 b0c1 b0c2 b0lt
    have b0 := b0.below k3 b0.lt
    have n0 := n0.below k3
    have bel := hthen bel k3
    clear k3
    go_wp2
    go_ret
    exact ⟨rfl, bel⟩
  · obtain ⟨m1, m2⟩ := small_len hs
    simp only at m1 m2
    have HS := Lib.hid hs
    clear hs
    by_cases hl : 1100 < a1.length
    · have q0 : decide ((a1.length : Int) > 1100) = true := decide_eq_true (by omega)
      go_enter Try.func6, Try.ntmps6
      go_wp2_with fail
      obtain ⟨w1, hw1⟩ : ∃ x, w.alloc (.cells #[.bool leaf, .slice A ks.length c, .slice C vs.length d] 24) = x := ⟨_, rfl⟩
      obtain ⟨ib0, hib0⟩ : ∃ i, w.heap.size = i := ⟨_, rfl⟩
      have b0 : Blk w1 ib0 24 #[.bool leaf, .slice A ks.length c, .slice C vs.length d] := by rw [← hw1, ← hib0]; exact Blk.new _ _ _
      have k1 : Below w.heap.size w w1 := by rw [← hw1]; exact (Below.refl _ _).alloc (Nat.le_refl _) _
      have zb0 : w1.heap.size = ib0 + 1 := by rw [← hw1, ← hib0]; simp
      rw [hw1, hib0]
      have n0 := n0.below k1
      have bel := hthen bel k1
      clear k1 hw1 hib0
      have b0c0 := b0.cell 0
      have b0c1 := b0.cell 1
      have b0c2 := b0.cell 2
      simp at b0c0 b0c1 b0c2
      have b0lt := b0.lt
      try (go_wp2_with fail)
      refine (small_to HS.out _ _ n0 l1 l2).mono ?_
      rintro e w2 ⟨rfl, k2⟩
      clear b0c0 b0c1 b0c2 b0lt
      have b0 := b0.below k2 b0.lt
      have n0 := n0.below k2
      have bel := hthen bel k2
      clear k2
      have b0c0 := b0.cell 0
      have b0c1 := b0.cell 1
      have b0c2 := b0.cell 2
      simp at b0c0 b0c1 b0c2
      have b0lt := b0.lt
      go_wp2_with fail
      refine (live_ok _).mono ?_
      rintro e w3 ⟨rfl, k3⟩
      clear b0c0 b0c1 b0c2 b0lt
      have b0 := b0.below k3 b0.lt
      have n0 := n0.below k3
      have bel := hthen bel k3
      clear k3
      go_wp2
      go_ret
      exact ⟨rfl, bel⟩
    · have q0 : decide ((a1.length : Int) > 1100) = false := decide_eq_false (by omega)
      have M1 : ks.length ≤ 1000000 := by omega
      have M2 : vs.length ≤ 1000000 := by omega
      obtain ⟨⟨m, f⟩, hd⟩ : ∃ p, decD a1 = p := ⟨_, rfl⟩
      have HD := Lib.hid hd
      by_cases hc : checkN ⟨leaf, ks, vs⟩ = 0
      · have hdn := dec_enc hc
        have hlen := nodeL_len (check_may hc)
        have hen : nencL ⟨leaf, ks, vs⟩ = nodeL ⟨leaf, ks, vs⟩ := by unfold nencL; rw [if_pos hc]
        have h960 : sizeN ⟨leaf, ks, vs⟩ ≤ 960 := by
          rcases Nat.lt_or_ge 960 (sizeN ⟨leaf, ks, vs⟩) with h | h
          · rw [check_big (check_may hc) h] at hc; cases hc
          · exact h
        obtain ⟨T, hT⟩ : ∃ T, nodeL ⟨leaf, ks, vs⟩ = T := ⟨_, rfl⟩
        obtain ⟨Z, hZ⟩ : ∃ Z, sizeN ⟨leaf, ks, vs⟩ = Z := ⟨_, rfl⟩
        rw [hT] at hdn hlen hen
        rw [hZ] at hlen h960
        have HC := Lib.hid hc
        have HDN := Lib.hid hdn
        have HEN := Lib.hid hen
        have HZ := Lib.hid hZ
        have HLEN := Lib.hid hlen
        have szT : (bstr T).size = Z := by rw [← hlen]; simp [bstr, ByteArray.size]
        have qz : decide ((Z : Int) > 960) = false := decide_eq_false (by omega)
        have hT9 : T.length ≤ 960 := by omega
        clear hc hdn hen hT hZ
        go_enter Try.func6, Try.ntmps6
        go_wp2_with fail
        obtain ⟨w1, hw1⟩ : ∃ x, w.alloc (.cells #[.bool leaf, .slice A ks.length c, .slice C vs.length d] 24) = x := ⟨_, rfl⟩
        obtain ⟨ib0, hib0⟩ : ∃ i, w.heap.size = i := ⟨_, rfl⟩
        have b0 : Blk w1 ib0 24 #[.bool leaf, .slice A ks.length c, .slice C vs.length d] := by rw [← hw1, ← hib0]; exact Blk.new _ _ _
        have k1 : Below w.heap.size w w1 := by rw [← hw1]; exact (Below.refl _ _).alloc (Nat.le_refl _) _
        have zb0 : w1.heap.size = ib0 + 1 := by rw [← hw1, ← hib0]; simp
        rw [hw1, hib0]
        have n0 := n0.below k1
        have bel := hthen bel k1
        clear k1 hw1 hib0
        have b0c0 := b0.cell 0
        have b0c1 := b0.cell 1
        have b0c2 := b0.cell 2
        simp at b0c0 b0c1 b0c2
        have b0lt := b0.lt
        try (go_wp2_with fail)
        refine (small_to HS.out _ _ n0 l1 l2).mono ?_
        rintro e w2 ⟨rfl, k2⟩
        clear b0c0 b0c1 b0c2 b0lt
        have b0 := b0.below k2 b0.lt
        have n0 := n0.below k2
        have bel := hthen bel k2
        clear k2
        have b0c0 := b0.cell 0
        have b0c1 := b0.cell 1
        have b0c2 := b0.cell 2
        simp at b0c0 b0c1 b0c2
        have b0lt := b0.lt
        go_wp2_with fail
        refine (own_any _ ⟨leaf, ks, vs⟩ _ n0).mono ?_
        rintro e w3 ⟨rfl, k3⟩
        clear b0c0 b0c1 b0c2 b0lt
        have b0 := b0.below k3 b0.lt
        have n0 := n0.below k3
        have bel := hthen bel k3
        clear k3
        have b0c0 := b0.cell 0
        have b0c1 := b0.cell 1
        have b0c2 := b0.cell 2
        simp at b0c0 b0c1 b0c2
        have b0lt := b0.lt
        go_wp2_with fail
        refine (enc_to HEN.out HC.out _ _ n0 M1 M2).mono ?_
        rintro e w4 ⟨rfl, k4⟩
        clear b0c0 b0c1 b0c2 b0lt
        have b0 := b0.below k4 b0.lt
        have n0 := n0.below k4
        have bel := hthen bel k4
        clear k4
        have b0c0 := b0.cell 0
        have b0c1 := b0.cell 1
        have b0c2 := b0.cell 2
        simp at b0c0 b0c1 b0c2
        have b0lt := b0.lt
        go_wp2_with fail
        refine (dec_to HDN.out (by omega) _).mono ?_
        rintro e w5 ⟨u3, rfl, n3, k5⟩
        clear b0c0 b0c1 b0c2 b0lt
        have b0 := b0.below k5 b0.lt
        have n0 := n0.below k5
        have bel := hthen bel k5
        clear k5
        obtain ⟨A3, c3, C3, d3, rfl⟩ := n3.form
        have b0c0 := b0.cell 0
        have b0c1 := b0.cell 1
        have b0c2 := b0.cell 2
        simp at b0c0 b0c1 b0c2
        have b0lt := b0.lt
        go_wp2_with fail
        clear b0c0 b0c1 b0c2 b0lt
        obtain ⟨w6, hw6⟩ : ∃ x, w5.alloc (.cells #[.bool leaf, .slice A3 ks.length c3, .slice C3 vs.length d3] 30) = x := ⟨_, rfl⟩
        obtain ⟨ib3, hib3⟩ : ∃ i, w5.heap.size = i := ⟨_, rfl⟩
        have b3 : Blk w6 ib3 30 #[.bool leaf, .slice A3 ks.length c3, .slice C3 vs.length d3] := by rw [← hw6, ← hib3]; exact Blk.new _ _ _
        have k6 : Below w5.heap.size w5 w6 := by rw [← hw6]; exact (Below.refl _ _).alloc (Nat.le_refl _) _
        have zb3 : w6.heap.size = ib3 + 1 := by rw [← hw6, ← hib3]; simp
        rw [hw6, hib3]
        have b0 := b0.below k6 b0.lt
        have n0 := n0.below k6
        have n3 := n3.below k6
        have bel := hthen bel k6
        clear k6 hw6 hib3
        have b0c0 := b0.cell 0
        have b0c1 := b0.cell 1
        have b0c2 := b0.cell 2
        simp at b0c0 b0c1 b0c2
        have b0lt := b0.lt
        have b3c0 := b3.cell 0
        have b3c1 := b3.cell 1
        have b3c2 := b3.cell 2
        simp at b3c0 b3c1 b3c2
        have b3lt := b3.lt
        try (go_wp2_with fail)
        have tl : (T.length : Int) = Z := by rw [HLEN.out]
        clear b0c0 b0c1 b0c2 b0lt b3c0 b3c1 b3c2 b3lt
        have n0 := n0.below (Below.refl _ _).drew
        have n3 := n3.below (Below.refl _ _).drew
        have bel := bel.drew
        have b0 := b0.drew
        have b3 := b3.drew
        refine wp_region_noPanic ?_
        refine wp_region_held_drew (S := (fun w' => w'.cell? ⟨ib0, 0, none⟩ = some (.bool leaf) ∧ w'.cell? ⟨ib0, 1, none⟩ = some (.slice A ks.length c) ∧ w'.cell? ⟨ib0, 2, none⟩ = some (.slice C vs.length d) ∧ w'.cell? ⟨ib3, 0, none⟩ = some (.bool leaf) ∧ w'.cell? ⟨ib3, 1, none⟩ = some (.slice A3 ks.length c3) ∧ w'.cell? ⟨ib3, 2, none⟩ = some (.slice C3 vs.length d3))) (by kernel_rfl) ?hS0 (fun hHeld => ?_)
        case hS0 => (have a0 := b0.cell 0; have a1 := b0.cell 1; have a2 := b0.cell 2; have a3 := b3.cell 0; have a4 := b3.cell 1; have a5 := b3.cell 2; simp at a0 a1 a2 a3 a4 a5; exact ⟨a0, a1, a2, a3, a4, a5⟩)
        refine wpAnyH_take (i := 0) (oi := ⟨some 35, _, _, _, _, _⟩) (v := ?_) rfl (by kernel_rfl) (by kernel_rfl) (by kernel_rfl) (fun _ _ _ h => h) (Or.inl ⟨by kernel_rfl, ?_⟩) hHeld ?_
        rotate_left
        · (intro w hSw; (try dsimp only at hSw); go_simp; try with_reducible rfl)
        try simp only [Act.put, List.getElem_toArray, List.getElem_cons_succ, List.getElem_cons_zero, List.setIfInBounds_toArray, List.set_cons_zero, List.set_cons_succ]
        refine wpAnyH_take (i := 2) (oi := ⟨some 37, _, _, _, _, _⟩) (v := ?_) rfl (by kernel_rfl) (by kernel_rfl) (by kernel_rfl) (fun _ _ _ h => h) (Or.inl ⟨by kernel_rfl, ?_⟩) hHeld ?_
        rotate_left
        · (intro w hSw; (try dsimp only at hSw); go_simp; try with_reducible rfl)
        try simp only [Act.put, List.getElem_toArray, List.getElem_cons_succ, List.getElem_cons_zero, List.setIfInBounds_toArray, List.set_cons_zero, List.set_cons_succ]
        refine wpAnyH_ready (rs := [1]) (by kernel_rfl) (by simp) ?_
        refine (AllReadyH.cons rfl (fun K hK => ?_) AllReadyH.nil)
        try rw [if_pos (by kernel_rfl)]
        go_simp
        go_at_call 24
        refine (told_any _ ⟨leaf, ks, vs⟩ _ n3).mono ?_
        rintro e y1 ⟨rfl, kk⟩
        have n0 := n0.below kk
        have n3 := n3.below kk
        have bel := hthen bel kk
        have b0 := b0.below kk b0.lt
        have b3 := b3.below kk b3.lt
        clear kk
        try dsimp only
        refine hK.out _ _ (by have a0 := b0.cell 0; have a1 := b0.cell 1; have a2 := b0.cell 2; have a3 := b3.cell 0; have a4 := b3.cell 1; have a5 := b3.cell 2; simp at a0 a1 a2 a3 a4 a5; exact ⟨a0, a1, a2, a3, a4, a5⟩) (fun hHeld => ?_)
        clear hK K
        try simp only [Act.put, List.getElem_toArray, List.getElem_cons_succ, List.getElem_cons_zero, List.setIfInBounds_toArray, List.set_cons_zero, List.set_cons_succ]
        refine wpAnyH_ready (rs := [3]) (by kernel_rfl) (by simp) ?_
        refine (AllReadyH.cons rfl (fun K hK => ?_) AllReadyH.nil)
        try rw [if_pos (by kernel_rfl)]
        go_simp
        go_at_call 23
        refine (nsame_to rfl _ _ _ n3 n0 M1 M2).mono ?_
        rintro e y2 ⟨rfl, kk⟩
        have n0 := n0.below kk
        have n3 := n3.below kk
        have bel := hthen bel kk
        have b0 := b0.below kk b0.lt
        have b3 := b3.below kk b3.lt
        clear kk
        try dsimp only
        refine hK.out _ _ (by have a0 := b0.cell 0; have a1 := b0.cell 1; have a2 := b0.cell 2; have a3 := b3.cell 0; have a4 := b3.cell 1; have a5 := b3.cell 2; simp at a0 a1 a2 a3 a4 a5; exact ⟨a0, a1, a2, a3, a4, a5⟩) (fun hHeld => ?_)
        clear hK K
        try simp only [Act.put, List.getElem_toArray, List.getElem_cons_succ, List.getElem_cons_zero, List.setIfInBounds_toArray, List.set_cons_zero, List.set_cons_succ]
        refine wpAnyH_take (i := 4) (oi := ⟨some 39, _, _, _, _, _⟩) (v := ?_) rfl (by kernel_rfl) (by kernel_rfl) (by kernel_rfl) (fun _ _ _ h => h) (Or.inl ⟨by kernel_rfl, ?_⟩) hHeld ?_
        rotate_left
        · (intro w hSw; (try dsimp only at hSw); go_simp; try with_reducible rfl)
        try simp only [Act.put, List.getElem_toArray, List.getElem_cons_succ, List.getElem_cons_zero, List.setIfInBounds_toArray, List.set_cons_zero, List.set_cons_succ]
        refine wpAnyH_take (i := 5) (oi := ⟨some 40, _, _, _, _, _⟩) (v := ?_) rfl (by kernel_rfl) (by kernel_rfl) (by kernel_rfl) (fun _ _ _ h => h) (Or.inl ⟨by kernel_rfl, ?_⟩) hHeld ?_
        rotate_left
        · (intro w hSw; (try dsimp only at hSw); go_simp; try with_reducible rfl)
        try simp only [Act.put, List.getElem_toArray, List.getElem_cons_succ, List.getElem_cons_zero, List.setIfInBounds_toArray, List.set_cons_zero, List.set_cons_succ]
        refine wpAnyH_take (i := 6) (oi := ⟨some 41, _, _, _, _, _⟩) (v := ?_) rfl (by kernel_rfl) (by kernel_rfl) (by kernel_rfl) (fun _ _ _ h => h) (Or.inl ⟨by kernel_rfl, ?_⟩) hHeld ?_
        rotate_left
        · (intro w hSw; (try dsimp only at hSw); go_simp; try with_reducible rfl)
        try simp only [Act.put, List.getElem_toArray, List.getElem_cons_succ, List.getElem_cons_zero, List.setIfInBounds_toArray, List.set_cons_zero, List.set_cons_succ]
        refine wpAnyH_take (i := 7) (oi := ⟨some 42, _, _, _, _, _⟩) (v := ?_) rfl (by kernel_rfl) (by kernel_rfl) (by kernel_rfl) (fun _ _ _ h => h) (Or.inl ⟨by kernel_rfl, ?_⟩) hHeld ?_
        rotate_left
        · (intro w hSw; (try dsimp only at hSw); go_simp; try with_reducible rfl)
        try simp only [Act.put, List.getElem_toArray, List.getElem_cons_succ, List.getElem_cons_zero, List.setIfInBounds_toArray, List.set_cons_zero, List.set_cons_succ]
        refine wpAnyH_take (i := 8) (oi := ⟨some 43, _, _, _, _, _⟩) (v := ?_) rfl (by kernel_rfl) (by kernel_rfl) (by kernel_rfl) (fun _ _ _ h => h) (Or.inl ⟨by kernel_rfl, ?_⟩) hHeld ?_
        rotate_left
        · (intro w hSw; (try dsimp only at hSw); go_simp; try with_reducible rfl)
        try simp only [Act.put, List.getElem_toArray, List.getElem_cons_succ, List.getElem_cons_zero, List.setIfInBounds_toArray, List.set_cons_zero, List.set_cons_succ]
        refine wpAnyH_take (i := 9) (oi := ⟨some 44, _, _, _, _, _⟩) (v := ?_) rfl (by kernel_rfl) (by kernel_rfl) (by kernel_rfl) (fun _ _ _ h => h) (Or.inl ⟨by kernel_rfl, ?_⟩) hHeld ?_
        rotate_left
        · (intro w hSw; (try dsimp only at hSw); go_simp; try with_reducible rfl)
        try simp only [Act.put, List.getElem_toArray, List.getElem_cons_succ, List.getElem_cons_zero, List.setIfInBounds_toArray, List.set_cons_zero, List.set_cons_succ]
        refine wpAnyH_take (i := 10) (oi := ⟨some 45, _, _, _, _, _⟩) (v := ?_) rfl (by kernel_rfl) (by kernel_rfl) (by kernel_rfl) (fun _ _ _ h => h) (Or.inl ⟨by kernel_rfl, ?_⟩) hHeld ?_
        rotate_left
        · (intro w hSw; (try dsimp only at hSw); go_simp; try with_reducible rfl)
        try simp only [Act.put, List.getElem_toArray, List.getElem_cons_succ, List.getElem_cons_zero, List.setIfInBounds_toArray, List.set_cons_zero, List.set_cons_succ]
        refine wpAnyH_take (i := 11) (oi := ⟨some 46, _, _, _, _, _⟩) (v := ?_) rfl (by kernel_rfl) (by kernel_rfl) (by kernel_rfl) (fun _ _ _ h => h) (Or.inl ⟨by kernel_rfl, ?_⟩) hHeld ?_
        rotate_left
        · (intro w hSw; (try dsimp only at hSw); go_simp; try with_reducible rfl)
        try simp only [Act.put, List.getElem_toArray, List.getElem_cons_succ, List.getElem_cons_zero, List.setIfInBounds_toArray, List.set_cons_zero, List.set_cons_succ]
        refine wpAnyH_take (i := 12) (oi := ⟨some 47, _, _, _, _, _⟩) (v := ?_) rfl (by kernel_rfl) (by kernel_rfl) (by kernel_rfl) (fun _ _ _ h => h) (Or.inl ⟨by kernel_rfl, ?_⟩) hHeld ?_
        rotate_left
        · (intro w hSw; (try dsimp only at hSw); go_simp; try with_reducible rfl)
        try simp only [Act.put, List.getElem_toArray, List.getElem_cons_succ, List.getElem_cons_zero, List.setIfInBounds_toArray, List.set_cons_zero, List.set_cons_succ]
        refine wpAnyH_ready (rs := [13]) (by kernel_rfl) (by simp) ?_
        refine (AllReadyH.cons rfl (fun K hK => ?_) AllReadyH.nil)
        try rw [if_pos (by kernel_rfl)]
        go_simp
        go_at_call 13
        refine (own_any _ ⟨leaf, ks, vs⟩ _ n0).mono ?_
        rintro e y3 ⟨rfl, kk⟩
        have n0 := n0.below kk
        have n3 := n3.below kk
        have bel := hthen bel kk
        have b0 := b0.below kk b0.lt
        have b3 := b3.below kk b3.lt
        clear kk
        try dsimp only
        refine hK.out _ _ (by have a0 := b0.cell 0; have a1 := b0.cell 1; have a2 := b0.cell 2; have a3 := b3.cell 0; have a4 := b3.cell 1; have a5 := b3.cell 2; simp at a0 a1 a2 a3 a4 a5; exact ⟨a0, a1, a2, a3, a4, a5⟩) (fun hHeld => ?_)
        clear hK K
        try simp only [Act.put, List.getElem_toArray, List.getElem_cons_succ, List.getElem_cons_zero, List.setIfInBounds_toArray, List.set_cons_zero, List.set_cons_succ]
        refine wpAnyH_ready (rs := [14]) (by kernel_rfl) (by simp) ?_
        refine (AllReadyH.cons rfl (fun K hK => ?_) AllReadyH.nil)
        try rw [if_pos (by kernel_rfl)]
        go_simp
        go_at_call 19
        refine (size_to HZ.out _ _ n0 M1 M2).mono ?_
        rintro e y4 ⟨rfl, kk⟩
        have n0 := n0.below kk
        have n3 := n3.below kk
        have bel := hthen bel kk
        have b0 := b0.below kk b0.lt
        have b3 := b3.below kk b3.lt
        clear kk
        try dsimp only
        refine hK.out _ _ (by have a0 := b0.cell 0; have a1 := b0.cell 1; have a2 := b0.cell 2; have a3 := b3.cell 0; have a4 := b3.cell 1; have a5 := b3.cell 2; simp at a0 a1 a2 a3 a4 a5; exact ⟨a0, a1, a2, a3, a4, a5⟩) (fun hHeld => ?_)
        clear hK K
        try simp only [Act.put, List.getElem_toArray, List.getElem_cons_succ, List.getElem_cons_zero, List.setIfInBounds_toArray, List.set_cons_zero, List.set_cons_succ]
        refine wpAnyH_take (i := 15) (oi := ⟨some 50, _, _, _, _, _⟩) (v := ?_) rfl (by kernel_rfl) (by kernel_rfl) (by kernel_rfl) (fun _ _ _ h => h) (Or.inl ⟨by kernel_rfl, ?_⟩) hHeld ?_
        rotate_left
        · (intro w hSw; (try dsimp only at hSw); go_simp; try with_reducible rfl)
        try simp only [Act.put, List.getElem_toArray, List.getElem_cons_succ, List.getElem_cons_zero, List.setIfInBounds_toArray, List.set_cons_zero, List.set_cons_succ]
        refine wpAnyH_take (i := 16) (oi := ⟨some 51, _, _, _, _, _⟩) (v := ?_) rfl (by kernel_rfl) (by kernel_rfl) (by kernel_rfl) (fun _ _ _ h => h) (Or.inl ⟨by kernel_rfl, ?_⟩) hHeld ?_
        rotate_left
        · (intro w hSw; (try dsimp only at hSw); go_simp; try with_reducible rfl)
        try simp only [Act.put, List.getElem_toArray, List.getElem_cons_succ, List.getElem_cons_zero, List.setIfInBounds_toArray, List.set_cons_zero, List.set_cons_succ]
        refine wpAnyH_take (i := 17) (oi := ⟨some 52, _, _, _, _, _⟩) (v := ?_) rfl (by kernel_rfl) (by kernel_rfl) (by kernel_rfl) (fun _ _ _ h => h) (Or.inl ⟨by kernel_rfl, ?_⟩) hHeld ?_
        rotate_left
        · (intro w hSw; (try dsimp only at hSw); go_simp; try with_reducible rfl)
        try simp only [Act.put, List.getElem_toArray, List.getElem_cons_succ, List.getElem_cons_zero, List.setIfInBounds_toArray, List.set_cons_zero, List.set_cons_succ]
        refine wpAnyH_take (i := 18) (oi := ⟨some 53, _, _, _, _, _⟩) (v := ?_) rfl (by kernel_rfl) (by kernel_rfl) (by kernel_rfl) (fun _ _ _ h => h) (Or.inl ⟨by kernel_rfl, ?_⟩) hHeld ?_
        rotate_left
        · (intro w hSw; (try dsimp only at hSw); go_simp; try with_reducible rfl)
        try simp only [Act.put, List.getElem_toArray, List.getElem_cons_succ, List.getElem_cons_zero, List.setIfInBounds_toArray, List.set_cons_zero, List.set_cons_succ]
        refine wpAnyH_take (i := 19) (oi := ⟨some 54, _, _, _, _, _⟩) (v := ?_) rfl (by kernel_rfl) (by kernel_rfl) (by kernel_rfl) (fun _ _ _ h => h) (Or.inl ⟨by kernel_rfl, ?_⟩) hHeld ?_
        rotate_left
        · (intro w hSw; (try dsimp only at hSw); go_simp; try with_reducible rfl)
        try simp only [Act.put, List.getElem_toArray, List.getElem_cons_succ, List.getElem_cons_zero, List.setIfInBounds_toArray, List.set_cons_zero, List.set_cons_succ]
        refine wpAnyH_take (i := 20) (oi := ⟨some 55, _, _, _, _, _⟩) (v := ?_) rfl (by kernel_rfl) (by kernel_rfl) (by kernel_rfl) (fun _ _ _ h => h) (Or.inl ⟨by kernel_rfl, ?_⟩) hHeld ?_
        rotate_left
        · (intro w hSw; (try dsimp only at hSw); go_simp; try with_reducible rfl)
        try simp only [Act.put, List.getElem_toArray, List.getElem_cons_succ, List.getElem_cons_zero, List.setIfInBounds_toArray, List.set_cons_zero, List.set_cons_succ]
        refine wpAnyH_take (i := 21) (oi := ⟨some 56, _, _, _, _, _⟩) (v := ?_) rfl (by kernel_rfl) (by kernel_rfl) (by kernel_rfl) (fun _ _ _ h => h) (Or.inl ⟨by kernel_rfl, ?_⟩) hHeld ?_
        rotate_left
        · (intro w hSw; (try dsimp only at hSw); go_simp; try with_reducible rfl)
        try simp only [Act.put, List.getElem_toArray, List.getElem_cons_succ, List.getElem_cons_zero, List.setIfInBounds_toArray, List.set_cons_zero, List.set_cons_succ]
        refine wpAnyH_done (by kernel_rfl) ?_ _
        refine NoPanic.normal ?_
        have b0c0 := b0.cell 0
        have b0c1 := b0.cell 1
        have b0c2 := b0.cell 2
        simp at b0c0 b0c1 b0c2
        have b0lt := b0.lt
        have b3c0 := b3.cell 0
        have b3c1 := b3.cell 1
        have b3c2 := b3.cell 2
        simp at b3c0 b3c1 b3c2
        have b3lt := b3.lt
        go_wp2_with fail
        refine (dec_to HD.out (by omega) _).mono ?_
        rintro e w7 ⟨u5, rfl, n5, k7⟩
        clear b0c0 b0c1 b0c2 b0lt b3c0 b3c1 b3c2 b3lt
        have b0 := b0.below k7 b0.lt
        have b3 := b3.below k7 b3.lt
        have n0 := n0.below k7
        have n3 := n3.below k7
        have bel := hthen bel k7
        clear k7
        by_cases hf : f ≠ 0
        · have hme := dec_err hd hf
          subst hme
          obtain ⟨A5, c5, C5, d5, rfl⟩ := n5.form2 (a := 0) (b := 0) rfl rfl
          rw [show emptyN.leaf = false from rfl]
          have qf : (f != 0) = true := bne_iff_ne.2 hf
          have HF := Lib.hid hf
          clear hf hd n5
          have b0c0 := b0.cell 0
          have b0c1 := b0.cell 1
          have b0c2 := b0.cell 2
          simp at b0c0 b0c1 b0c2
          have b0lt := b0.lt
          have b3c0 := b3.cell 0
          have b3c1 := b3.cell 1
          have b3c2 := b3.cell 2
          simp at b3c0 b3c1 b3c2
          have b3lt := b3.lt
          go_wp2_with fail
          clear b0c0 b0c1 b0c2 b0lt b3c0 b3c1 b3c2 b3lt
          obtain ⟨w8, hw8⟩ : ∃ x, w7.alloc (.cells #[.bool false, .slice A5 0 c5, .slice C5 0 d5] 30) = x := ⟨_, rfl⟩
          obtain ⟨ib5, hib5⟩ : ∃ i, w7.heap.size = i := ⟨_, rfl⟩
          have b5 : Blk w8 ib5 30 #[.bool false, .slice A5 0 c5, .slice C5 0 d5] := by rw [← hw8, ← hib5]; exact Blk.new _ _ _
          have k8 : Below w7.heap.size w7 w8 := by rw [← hw8]; exact (Below.refl _ _).alloc (Nat.le_refl _) _
          have zb5 : w8.heap.size = ib5 + 1 := by rw [← hw8, ← hib5]; simp
          rw [hw8, hib5]
          have b0 := b0.below k8 b0.lt
          have b3 := b3.below k8 b3.lt
          have n0 := n0.below k8
          have n3 := n3.below k8
          have bel := hthen bel k8
          clear k8 hw8 hib5
          have b0c0 := b0.cell 0
          have b0c1 := b0.cell 1
          have b0c2 := b0.cell 2
          simp at b0c0 b0c1 b0c2
          have b0lt := b0.lt
          have b3c0 := b3.cell 0
          have b3c1 := b3.cell 1
          have b3c2 := b3.cell 2
          simp at b3c0 b3c1 b3c2
          have b3lt := b3.lt
          have b5c0 := b5.cell 0
          have b5c1 := b5.cell 1
          have b5c2 := b5.cell 2
          simp at b5c0 b5c1 b5c2
          have b5lt := b5.lt
          try (go_wp2_with fail)
          refine (live_ok _).mono ?_
          rintro e w9 ⟨rfl, k9⟩
          clear b0c0 b0c1 b0c2 b0lt b3c0 b3c1 b3c2 b3lt b5c0 b5c1 b5c2 b5lt
          have b0 := b0.below k9 b0.lt
          have b3 := b3.below k9 b3.lt
          have b5 := b5.below k9 b5.lt
          have n0 := n0.below k9
          have n3 := n3.below k9
          have bel := hthen bel k9
          clear k9
          go_wp2
          go_ret
          exact ⟨rfl, bel⟩
        · have hf : f = 0 := by omega
          subst hf
          obtain ⟨hck, hen⟩ := enc_dec hd
          have hen2 : nencL m = a1 := by unfold nencL; rw [if_pos hck]; exact hen
          have HE := Lib.hid hen2
          have HC := Lib.hid hck
          obtain ⟨x1, x2⟩ := may_small (check_may hck)
          have X1 : m.keys.length ≤ 1000000 := by omega
          have X2 : m.vals.length ≤ 1000000 := by omega
          clear hd hck hen hen2 x1 x2
          obtain ⟨A5, c5, C5, d5, rfl⟩ := n5.form
          have b0c0 := b0.cell 0
          have b0c1 := b0.cell 1
          have b0c2 := b0.cell 2
          simp at b0c0 b0c1 b0c2
          have b0lt := b0.lt
          have b3c0 := b3.cell 0
          have b3c1 := b3.cell 1
          have b3c2 := b3.cell 2
          simp at b3c0 b3c1 b3c2
          have b3lt := b3.lt
          go_wp2_with fail
          clear b0c0 b0c1 b0c2 b0lt b3c0 b3c1 b3c2 b3lt
          obtain ⟨w8, hw8⟩ : ∃ x, w7.alloc (.cells #[.bool m.leaf, .slice A5 m.keys.length c5, .slice C5 m.vals.length d5] 30) = x := ⟨_, rfl⟩
          obtain ⟨ib5, hib5⟩ : ∃ i, w7.heap.size = i := ⟨_, rfl⟩
          have b5 : Blk w8 ib5 30 #[.bool m.leaf, .slice A5 m.keys.length c5, .slice C5 m.vals.length d5] := by rw [← hw8, ← hib5]; exact Blk.new _ _ _
          have k8 : Below w7.heap.size w7 w8 := by rw [← hw8]; exact (Below.refl _ _).alloc (Nat.le_refl _) _
          have zb5 : w8.heap.size = ib5 + 1 := by rw [← hw8, ← hib5]; simp
          rw [hw8, hib5]
          have b0 := b0.below k8 b0.lt
          have b3 := b3.below k8 b3.lt
          have n0 := n0.below k8
          have n3 := n3.below k8
          have n5 := n5.below k8
          have bel := hthen bel k8
          clear k8 hw8 hib5
          have b0c0 := b0.cell 0
          have b0c1 := b0.cell 1
          have b0c2 := b0.cell 2
          simp at b0c0 b0c1 b0c2
          have b0lt := b0.lt
          have b3c0 := b3.cell 0
          have b3c1 := b3.cell 1
          have b3c2 := b3.cell 2
          simp at b3c0 b3c1 b3c2
          have b3lt := b3.lt
          have b5c0 := b5.cell 0
          have b5c1 := b5.cell 1
          have b5c2 := b5.cell 2
          simp at b5c0 b5c1 b5c2
          have b5lt := b5.lt
          try (go_wp2_with fail)
          refine (enc_to HE.out HC.out _ _ n5 X1 X2).mono ?_
          rintro e w9 ⟨rfl, k9⟩
          clear b0c0 b0c1 b0c2 b0lt b3c0 b3c1 b3c2 b3lt b5c0 b5c1 b5c2 b5lt
          have b0 := b0.below k9 b0.lt
          have b3 := b3.below k9 b3.lt
          have b5 := b5.below k9 b5.lt
          have n0 := n0.below k9
          have n3 := n3.below k9
          have n5 := n5.below k9
          have bel := hthen bel k9
          clear k9
          have qs : (a1 == a1) = true := by simp
          have b0c0 := b0.cell 0
          have b0c1 := b0.cell 1
          have b0c2 := b0.cell 2
          simp at b0c0 b0c1 b0c2
          have b0lt := b0.lt
          have b3c0 := b3.cell 0
          have b3c1 := b3.cell 1
          have b3c2 := b3.cell 2
          simp at b3c0 b3c1 b3c2
          have b3lt := b3.lt
          have b5c0 := b5.cell 0
          have b5c1 := b5.cell 1
          have b5c2 := b5.cell 2
          simp at b5c0 b5c1 b5c2
          have b5lt := b5.lt
          go_wp2_with fail
          refine (live_ok _).mono ?_
          rintro e w10 ⟨rfl, k10⟩
          clear b0c0 b0c1 b0c2 b0lt b3c0 b3c1 b3c2 b3lt b5c0 b5c1 b5c2 b5lt
          have b0 := b0.below k10 b0.lt
          have b3 := b3.below k10 b3.lt
          have b5 := b5.below k10 b5.lt
          have n0 := n0.below k10
          have n3 := n3.below k10
          have n5 := n5.below k10
          have bel := hthen bel k10
          clear k10
          go_wp2
          go_ret
          exact ⟨rfl, bel⟩
      · obtain ⟨E, hE⟩ : ∃ E, checkN ⟨leaf, ks, vs⟩ = E := ⟨_, rfl⟩
        rw [hE] at hc
        have qc : (E == 0) = false := beq_eq_false_iff_ne.2 hc
        have HE0 := Lib.hid hE
        clear hc hE
        go_enter Try.func6, Try.ntmps6
        go_wp2_with fail
        obtain ⟨w1, hw1⟩ : ∃ x, w.alloc (.cells #[.bool leaf, .slice A ks.length c, .slice C vs.length d] 24) = x := ⟨_, rfl⟩
        obtain ⟨ib0, hib0⟩ : ∃ i, w.heap.size = i := ⟨_, rfl⟩
        have b0 : Blk w1 ib0 24 #[.bool leaf, .slice A ks.length c, .slice C vs.length d] := by rw [← hw1, ← hib0]; exact Blk.new _ _ _
        have k1 : Below w.heap.size w w1 := by rw [← hw1]; exact (Below.refl _ _).alloc (Nat.le_refl _) _
        have zb0 : w1.heap.size = ib0 + 1 := by rw [← hw1, ← hib0]; simp
        rw [hw1, hib0]
        have n0 := n0.below k1
        have bel := hthen bel k1
        clear k1 hw1 hib0
        have b0c0 := b0.cell 0
        have b0c1 := b0.cell 1
        have b0c2 := b0.cell 2
        simp at b0c0 b0c1 b0c2
        have b0lt := b0.lt
        try (go_wp2_with fail)
        refine (small_to HS.out _ _ n0 l1 l2).mono ?_
        rintro e w2 ⟨rfl, k2⟩
        clear b0c0 b0c1 b0c2 b0lt
        have b0 := b0.below k2 b0.lt
        have n0 := n0.below k2
        have bel := hthen bel k2
        clear k2
        have b0c0 := b0.cell 0
        have b0c1 := b0.cell 1
        have b0c2 := b0.cell 2
        simp at b0c0 b0c1 b0c2
        have b0lt := b0.lt
        go_wp2_with fail
        refine (own_any _ ⟨leaf, ks, vs⟩ _ n0).mono ?_
        rintro e w3 ⟨rfl, k3⟩
        clear b0c0 b0c1 b0c2 b0lt
        have b0 := b0.below k3 b0.lt
        have n0 := n0.below k3
        have bel := hthen bel k3
        clear k3
        have b0c0 := b0.cell 0
        have b0c1 := b0.cell 1
        have b0c2 := b0.cell 2
        simp at b0c0 b0c1 b0c2
        have b0lt := b0.lt
        go_wp2_with fail
        refine (enc_to rfl HE0.out _ _ n0 M1 M2).mono ?_
        rintro e w4 ⟨rfl, k4⟩
        clear b0c0 b0c1 b0c2 b0lt
        have b0 := b0.below k4 b0.lt
        have n0 := n0.below k4
        have bel := hthen bel k4
        clear k4
        have b0c0 := b0.cell 0
        have b0c1 := b0.cell 1
        have b0c2 := b0.cell 2
        simp at b0c0 b0c1 b0c2
        have b0lt := b0.lt
        go_wp2_with fail
        refine (dec_to HD.out (by omega) _).mono ?_
        rintro e w5 ⟨u5, rfl, n5, k5⟩
        clear b0c0 b0c1 b0c2 b0lt
        have b0 := b0.below k5 b0.lt
        have n0 := n0.below k5
        have bel := hthen bel k5
        clear k5
        by_cases hf : f ≠ 0
        · have hme := dec_err hd hf
          subst hme
          obtain ⟨A5, c5, C5, d5, rfl⟩ := n5.form2 (a := 0) (b := 0) rfl rfl
          rw [show emptyN.leaf = false from rfl]
          have qf : (f != 0) = true := bne_iff_ne.2 hf
          have HF := Lib.hid hf
          clear hf hd n5
          have b0c0 := b0.cell 0
          have b0c1 := b0.cell 1
          have b0c2 := b0.cell 2
          simp at b0c0 b0c1 b0c2
          have b0lt := b0.lt
          go_wp2_with fail
          clear b0c0 b0c1 b0c2 b0lt
          obtain ⟨w6, hw6⟩ : ∃ x, w5.alloc (.cells #[.bool false, .slice A5 0 c5, .slice C5 0 d5] 30) = x := ⟨_, rfl⟩
          obtain ⟨ib5, hib5⟩ : ∃ i, w5.heap.size = i := ⟨_, rfl⟩
          have b5 : Blk w6 ib5 30 #[.bool false, .slice A5 0 c5, .slice C5 0 d5] := by rw [← hw6, ← hib5]; exact Blk.new _ _ _
          have k6 : Below w5.heap.size w5 w6 := by rw [← hw6]; exact (Below.refl _ _).alloc (Nat.le_refl _) _
          have zb5 : w6.heap.size = ib5 + 1 := by rw [← hw6, ← hib5]; simp
          rw [hw6, hib5]
          have b0 := b0.below k6 b0.lt
          have n0 := n0.below k6
          have bel := hthen bel k6
          clear k6 hw6 hib5
          have b0c0 := b0.cell 0
          have b0c1 := b0.cell 1
          have b0c2 := b0.cell 2
          simp at b0c0 b0c1 b0c2
          have b0lt := b0.lt
          have b5c0 := b5.cell 0
          have b5c1 := b5.cell 1
          have b5c2 := b5.cell 2
          simp at b5c0 b5c1 b5c2
          have b5lt := b5.lt
          try (go_wp2_with fail)
          refine (live_ok _).mono ?_
          rintro e w7 ⟨rfl, k7⟩
          clear b0c0 b0c1 b0c2 b0lt b5c0 b5c1 b5c2 b5lt
          have b0 := b0.below k7 b0.lt
          have b5 := b5.below k7 b5.lt
          have n0 := n0.below k7
          have bel := hthen bel k7
          clear k7
          go_wp2
          go_ret
          exact ⟨rfl, bel⟩
        · have hf : f = 0 := by omega
          subst hf
          obtain ⟨hck, hen⟩ := enc_dec hd
          have hen2 : nencL m = a1 := by unfold nencL; rw [if_pos hck]; exact hen
          have HE := Lib.hid hen2
          have HC := Lib.hid hck
          obtain ⟨x1, x2⟩ := may_small (check_may hck)
          have X1 : m.keys.length ≤ 1000000 := by omega
          have X2 : m.vals.length ≤ 1000000 := by omega
          clear hd hck hen hen2 x1 x2
          obtain ⟨A5, c5, C5, d5, rfl⟩ := n5.form
          have b0c0 := b0.cell 0
          have b0c1 := b0.cell 1
          have b0c2 := b0.cell 2
          simp at b0c0 b0c1 b0c2
          have b0lt := b0.lt
          go_wp2_with fail
          clear b0c0 b0c1 b0c2 b0lt
          obtain ⟨w6, hw6⟩ : ∃ x, w5.alloc (.cells #[.bool m.leaf, .slice A5 m.keys.length c5, .slice C5 m.vals.length d5] 30) = x := ⟨_, rfl⟩
          obtain ⟨ib5, hib5⟩ : ∃ i, w5.heap.size = i := ⟨_, rfl⟩
          have b5 : Blk w6 ib5 30 #[.bool m.leaf, .slice A5 m.keys.length c5, .slice C5 m.vals.length d5] := by rw [← hw6, ← hib5]; exact Blk.new _ _ _
          have k6 : Below w5.heap.size w5 w6 := by rw [← hw6]; exact (Below.refl _ _).alloc (Nat.le_refl _) _
          have zb5 : w6.heap.size = ib5 + 1 := by rw [← hw6, ← hib5]; simp
          rw [hw6, hib5]
          have b0 := b0.below k6 b0.lt
          have n0 := n0.below k6
          have n5 := n5.below k6
          have bel := hthen bel k6
          clear k6 hw6 hib5
          have b0c0 := b0.cell 0
          have b0c1 := b0.cell 1
          have b0c2 := b0.cell 2
          simp at b0c0 b0c1 b0c2
          have b0lt := b0.lt
          have b5c0 := b5.cell 0
          have b5c1 := b5.cell 1
          have b5c2 := b5.cell 2
          simp at b5c0 b5c1 b5c2
          have b5lt := b5.lt
          try (go_wp2_with fail)
          refine (enc_to HE.out HC.out _ _ n5 X1 X2).mono ?_
          rintro e w7 ⟨rfl, k7⟩
          clear b0c0 b0c1 b0c2 b0lt b5c0 b5c1 b5c2 b5lt
          have b0 := b0.below k7 b0.lt
          have b5 := b5.below k7 b5.lt
          have n0 := n0.below k7
          have n5 := n5.below k7
          have bel := hthen bel k7
          clear k7
          have qs : (a1 == a1) = true := by simp
          have b0c0 := b0.cell 0
          have b0c1 := b0.cell 1
          have b0c2 := b0.cell 2
          simp at b0c0 b0c1 b0c2
          have b0lt := b0.lt
          have b5c0 := b5.cell 0
          have b5c1 := b5.cell 1
          have b5c2 := b5.cell 2
          simp at b5c0 b5c1 b5c2
          have b5lt := b5.lt
          go_wp2_with fail
          refine (live_ok _).mono ?_
          rintro e w8 ⟨rfl, k8⟩
          clear b0c0 b0c1 b0c2 b0lt b5c0 b5c1 b5c2 b5lt
          have b0 := b0.below k8 b0.lt
          have b5 := b5.below k8 b5.lt
          have n0 := n0.below k8
          have n5 := n5.below k8
          have bel := hthen bel k8
          clear k8
          go_wp2
          go_ret
          exact ⟨rfl, bel⟩
end Go.Proofs.Ytiodeeliidhbgaa
