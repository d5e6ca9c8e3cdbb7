/- Encode of the reference 09: contracts. -/
import Derived.Test.YtiodeeliidhbgaaNdT
import Derived.Test.YtiodeeliidhbgaaNs
import Derived.Test.YtiodeeliidhbgaaFr
namespace Go.Proofs.Ytiodeeliidhbgaa
open Go Go.RowKit
set_option linter.unusedSimpArgs false
set_option linter.unnecessarySimpa false
set_option linter.unusedVariables false


theorem rcheck_to {n : Nd} {e : Int} (he : checkN n = e) (v : Value) (w : World) (h : NdV w v n) (hk : n.keys.length ≤ 1000000) (hv : n.vals.length ≤ 1000000) :
    Calls Try.prog 18 #[v] w fun e' w' => e' = .returned (.int .i64 e) ∧ Below w.heap.size w w' := he ▸ rcheck_any v n w h hk hv
set_option maxRecDepth 100000 in
set_option maxHeartbeats 4000000 in
theorem renc_any (v : Value) (n : Nd) (w : World) (h : NdV w v n) (hk : n.keys.length ≤ 1000000) (hv : n.vals.length ≤ 1000000) :
    Calls Try.prog 14 #[v] w fun e w' => e = .returned (.tuple #[.string (bstr (nencL n)), .int .i64 (checkN n)]) ∧ Below w.heap.size w w' := by
  obtain ⟨vk, vv, rfl, h1, h2⟩ := h
  obtain ⟨A, c, rfl⟩ := h1.form
  obtain ⟨C, d, rfl⟩ := h2.form
  obtain ⟨leaf, ks, vs⟩ := n
  simp only at h1 h2 hk hv ⊢
  have n0 : NdV w (.agg #[.bool leaf, .slice A ks.length c, .slice C vs.length d]) ⟨leaf, ks, vs⟩ := ⟨_, _, rfl, h1, h2⟩
  have bel : Below w.heap.size w w := Below.refl _ _
  clear h1 h2
  by_cases hc : checkN ⟨leaf, ks, vs⟩ = 0
  · have hm := check_may hc
    obtain ⟨hs1, hs2⟩ := may_small hm
    simp only at hs1 hs2
    obtain ⟨R, hR⟩ : ∃ R, nencL ⟨leaf, ks, vs⟩ = R := ⟨_, rfl⟩
    have hE : R = (if leaf then 76 else 73) :: (putL ks.length 1 ++ entsL ks vs ks.length) := by rw [← hR]; unfold nencL; rw [if_pos hc]; rfl
    have HC := Lib.hid hc
    have HM := Lib.hid hm
    have HL := Lib.hid hs2
    have HEL : Hid (∀ k, k ≤ ks.length → (entsL ks vs k).length ≤ 440 * k) := Lib.hid (fun k hk => ents_len hm k hk)
    have hpl := putL_len ks.length 1
    rw [hR, hc]
    obtain ⟨P, hP⟩ : ∃ P, putL ks.length 1 = P := ⟨_, rfl⟩
    rw [hP] at hpl hE
    have HP := Lib.hid hP
    have HE := Lib.hid hE
    have np : ¬ 9223372036854775807 < 1 + P.length := by omega
    clear hc hm hs2 hP hR hE
    cases leaf
    · go_enter Try.func14, Try.ntmps14
      go_wp2_with fail
      obtain ⟨w1, hw1⟩ : ∃ x, w.alloc (.cells #[.bool false, .slice A ks.length c, .slice C vs.length d] 24) = x := ⟨_, rfl⟩
      obtain ⟨ib0, hib0⟩ : ∃ i, w.heap.size = i := ⟨_, rfl⟩
      have b0 : Blk w1 ib0 24 #[.bool false, .slice A ks.length c, .slice C vs.length d] := by rw [← hw1, ← hib0]; exact Blk.new _ _ _
      have k1 : Below w.heap.size w w1 := by rw [← hw1]; exact (Below.refl _ _).alloc (Nat.le_refl _) _
      have zb0 : w1.heap.size = ib0 + 1 := by rw [← hw1, ← hib0]; simp
      rw [hw1, hib0]
      have n0 := n0.below k1
      have bel := hthen bel k1
      clear k1
      clear hw1 hib0
      have b0c0 := b0.cell 0
      have b0c1 := b0.cell 1
      have b0c2 := b0.cell 2
      simp at b0c0 b0c1 b0c2
      have b0lt := b0.lt
      try (go_wp2_with fail)
      refine (rcheck_to HC.out _ _ n0 hk hv).mono ?_
      rintro e w2 ⟨rfl, k2⟩
      clear b0c0 b0c1 b0c2 b0lt
      have b0 := b0.below k2 b0.lt
      have n0 := n0.below k2
      have bel := hthen bel k2
      clear k2
      have b0c0 := b0.cell 0
      have b0c1 := b0.cell 1
      have b0c2 := b0.cell 2
      simp at b0c0 b0c1 b0c2
      have b0lt := b0.lt
      go_wp2_with fail
      refine (rput_to HP.out _).mono ?_
      rintro e w3 ⟨rfl, k3⟩
      clear b0c0 b0c1 b0c2 b0lt
      have b0 := b0.below k3 b0.lt
      have n0 := n0.below k3
      have bel := hthen bel k3
      clear k3
      have b0c0 := b0.cell 0
      have b0c1 := b0.cell 1
      have b0c2 := b0.cell 2
      simp at b0c0 b0c1 b0c2
      have b0lt := b0.lt
      go_wp2_with fail
      clear b0c0 b0c1 b0c2 b0lt
      go_loopw [5, 6] (fun s i wr => ∃ k : Nat, k ≤ ks.length ∧ i = .int .i64 k ∧ s = .string (bstr (73 :: (P ++ entsL ks vs k))) ∧ Below w.heap.size w wr ∧ Blk wr ib0 24 #[.bool false, .slice A ks.length c, .slice C vs.length d] ∧ NdV wr (.agg #[.bool false, .slice A ks.length c, .slice C vs.length d]) ⟨false, ks, vs⟩) (fun _ i _ => ks.length - (intOf i).toNat)
      case atStart => exact ⟨0, Nat.zero_le _, rfl, by simp [entsL], bel, b0, n0⟩
      case round =>
        clear bel b0 n0
        obtain ⟨k, hkn, rfl, rfl, bel, b0, n0⟩ := hrel
        by_cases hlt : k < ks.length
        · have q1 : decide ((k : Int) < ks.length) = true := decide_eq_true (by omega)
          have T0 : (0 : Int) ≤ k := by omega
          have T1 : (k : Int) < ks.length := by omega
          have T2 : (k : Int) < vs.length := by rw [HL.out]; omega
          obtain ⟨l1, l2, _⟩ := may_at HM.out hlt
          simp only at l1 l2
          have n1 := n0
          obtain ⟨_, _, eN, s1, s2⟩ := n1
          cases eN
          simp only at s1 s2
          obtain ⟨ad, rfl, c1⟩ := s1.cell (Below.refl _ _) hlt
          obtain ⟨bd, rfl, c2⟩ := s2.cell (Below.refl _ _) (show k < vs.length by rw [HL.out]; exact hlt)
          have hel := HEL.out k hkn
          have hnx : entsL ks vs (k + 1) = entsL ks vs k ++ (textL (ks.getD k []) 2 ++ textL (vs.getD k []) 1) := rfl
          have hx2 := text_len (ks.getD k []) 2
          have hy2 := text_len (vs.getD k []) 1
          obtain ⟨X, hX⟩ : ∃ y, ks.getD k [] = y := ⟨_, rfl⟩
          obtain ⟨Y, hY⟩ : ∃ y, vs.getD k [] = y := ⟨_, rfl⟩
          rw [hX] at c1 l1 hnx hx2
          rw [hY] at c2 l2 hnx hy2
          obtain ⟨TX, hTX⟩ : ∃ y, textL X 2 = y := ⟨_, rfl⟩
          obtain ⟨TY, hTY⟩ : ∃ y, textL Y 1 = y := ⟨_, rfl⟩
          rw [hTX] at hnx hx2
          rw [hTY] at hnx hy2
          have HTX := Lib.hid hTX
          have HTY := Lib.hid hTY
          obtain ⟨L, hLL⟩ : ∃ y, 73 :: (P ++ entsL ks vs k) = y := ⟨_, rfl⟩
          have hlen : L.length ≤ 8 + 440 * k := by rw [← hLL, List.length_cons, List.length_append]; omega
          have hnx2 : 73 :: (P ++ entsL ks vs (k + 1)) = L ++ (TX ++ TY) := by rw [← hLL, hnx]; simp
          rw [hLL]
          have HNX := Lib.hid hnx2
          have nb1 : ¬ 9223372036854775807 < L.length + TX.length := by omega
          have nb2 : ¬ 9223372036854775807 < L.length + TX.length + TY.length := by omega
          have nb3 : ¬ 9223372036854775807 < L.length + (TX.length + TY.length) := by omega
          clear s1 s2 hX hY hTX hTY hLL hnx hnx2
          have b0c0 := b0.cell 0
          have b0c1 := b0.cell 1
          have b0c2 := b0.cell 2
          simp at b0c0 b0c1 b0c2
          have b0lt := b0.lt
          go_wp2_with fail
          clear b0c0 b0c1 b0c2 b0lt
          have n0 := n0.below (Below.refl _ _).drew
          have bel := bel.drew
          have b0 := b0.drew
          have c1 := ((show Below wr.heap.size wr wr.drew from (Below.refl _ _).drew).cell (acell_lt c1)).trans c1
          have c2 := ((show Below wr.heap.size wr wr.drew from (Below.refl _ _).drew).cell (acell_lt c2)).trans c2
          refine wp_region_noPanic ?_
          refine wp_region_held_drew (S := (fun w' => w'.cell? ⟨ib0, 0, none⟩ = some (.bool false) ∧ w'.cell? ⟨ib0, 1, none⟩ = some (.slice (some ad) ks.length c) ∧ w'.cell? ⟨ib0, 2, none⟩ = some (.slice (some bd) vs.length d) ∧ w'.cell? (ad.add k) = some (.string (bstr X)) ∧ w'.cell? (bd.add k) = some (.string (bstr Y)))) (by kernel_rfl) ?hS0 (fun hHeld => ?_)
          case hS0 => (have q0 := b0.cell 0; have q1 := b0.cell 1; have q2 := b0.cell 2; simp at q0 q1 q2; exact ⟨q0, q1, q2, c1, c2⟩)
          generalize hZ : wr.drew = wd21 at *
          clear hZ
          refine wpAnyH_take (i := 0) (oi := ⟨some 27, _, _, _, _, _⟩) (v := ?_) rfl (by kernel_rfl) (by kernel_rfl) (by kernel_rfl) (fun _ _ _ h => h) (Or.inl ⟨by kernel_rfl, ?_⟩) hHeld ?_
          rotate_left
          · (intro w hSw; (try dsimp only at hSw); go_simp; try with_reducible rfl)
          try simp only [Act.put, List.getElem_toArray, List.getElem_cons_succ, List.getElem_cons_zero, List.setIfInBounds_toArray, List.set_cons_zero, List.set_cons_succ]
          refine wpAnyH_take (i := 1) (oi := ⟨some 28, _, _, _, _, _⟩) (v := ?_) rfl (by kernel_rfl) (by kernel_rfl) (by kernel_rfl) (fun _ _ _ h => h) (Or.inl ⟨by kernel_rfl, ?_⟩) hHeld ?_
          rotate_left
          · (intro w hSw; (try dsimp only at hSw); go_simp; try with_reducible rfl)
          try simp only [Act.put, List.getElem_toArray, List.getElem_cons_succ, List.getElem_cons_zero, List.setIfInBounds_toArray, List.set_cons_zero, List.set_cons_succ]
          refine wpAnyH_take (i := 2) (oi := ⟨some 29, _, _, _, _, _⟩) (v := ?_) rfl (by kernel_rfl) (by kernel_rfl) (by kernel_rfl) (fun _ _ _ h => h) (Or.inl ⟨by kernel_rfl, ?_⟩) hHeld ?_
          rotate_left
          · (intro w hSw; (try dsimp only at hSw); go_simp; try with_reducible rfl)
          try simp only [Act.put, List.getElem_toArray, List.getElem_cons_succ, List.getElem_cons_zero, List.setIfInBounds_toArray, List.set_cons_zero, List.set_cons_succ]
          refine wpAnyH_take (i := 3) (oi := ⟨some 30, _, _, _, _, _⟩) (v := ?_) rfl (by kernel_rfl) (by kernel_rfl) (by kernel_rfl) (fun _ _ _ h => h) (Or.inl ⟨by kernel_rfl, ?_⟩) hHeld ?_
          rotate_left
          · (intro w hSw; (try dsimp only at hSw); go_simp; try with_reducible rfl)
          try simp only [Act.put, List.getElem_toArray, List.getElem_cons_succ, List.getElem_cons_zero, List.setIfInBounds_toArray, List.set_cons_zero, List.set_cons_succ]
          refine wpAnyH_take (i := 4) (oi := ⟨some 31, _, _, _, _, _⟩) (v := ?_) rfl (by kernel_rfl) (by kernel_rfl) (by kernel_rfl) (fun _ _ _ h => h) (Or.inl ⟨by kernel_rfl, ?_⟩) hHeld ?_
          rotate_left
          · (intro w hSw; (try dsimp only at hSw); go_simp; try with_reducible rfl)
          try simp only [Act.put, List.getElem_toArray, List.getElem_cons_succ, List.getElem_cons_zero, List.setIfInBounds_toArray, List.set_cons_zero, List.set_cons_succ]
          refine wpAnyH_take (i := 5) (oi := ⟨some 32, _, _, _, _, _⟩) (v := ?_) rfl (by kernel_rfl) (by kernel_rfl) (by kernel_rfl) (fun _ _ _ h => h) (Or.inl ⟨by kernel_rfl, ?_⟩) hHeld ?_
          rotate_left
          · (intro w hSw; (try dsimp only at hSw); go_simp; try with_reducible rfl)
          try simp only [Act.put, List.getElem_toArray, List.getElem_cons_succ, List.getElem_cons_zero, List.setIfInBounds_toArray, List.set_cons_zero, List.set_cons_succ]
          refine wpAnyH_take (i := 8) (oi := ⟨some 35, _, _, _, _, _⟩) (v := ?_) rfl (by kernel_rfl) (by kernel_rfl) (by kernel_rfl) (fun _ _ _ h => h) (Or.inl ⟨by kernel_rfl, ?_⟩) hHeld ?_
          rotate_left
          · (intro w hSw; (try dsimp only at hSw); go_simp; try with_reducible rfl)
          try simp only [Act.put, List.getElem_toArray, List.getElem_cons_succ, List.getElem_cons_zero, List.setIfInBounds_toArray, List.set_cons_zero, List.set_cons_succ]
          refine wpAnyH_take (i := 9) (oi := ⟨some 36, _, _, _, _, _⟩) (v := ?_) rfl (by kernel_rfl) (by kernel_rfl) (by kernel_rfl) (fun _ _ _ h => h) (Or.inl ⟨by kernel_rfl, ?_⟩) hHeld ?_
          rotate_left
          · (intro w hSw; (try dsimp only at hSw); go_simp; try with_reducible rfl)
          try simp only [Act.put, List.getElem_toArray, List.getElem_cons_succ, List.getElem_cons_zero, List.setIfInBounds_toArray, List.set_cons_zero, List.set_cons_succ]
          refine wpAnyH_take (i := 10) (oi := ⟨some 37, _, _, _, _, _⟩) (v := ?_) rfl (by kernel_rfl) (by kernel_rfl) (by kernel_rfl) (fun _ _ _ h => h) (Or.inl ⟨by kernel_rfl, ?_⟩) hHeld ?_
          rotate_left
          · (intro w hSw; (try dsimp only at hSw); go_simp; try with_reducible rfl)
          try simp only [Act.put, List.getElem_toArray, List.getElem_cons_succ, List.getElem_cons_zero, List.setIfInBounds_toArray, List.set_cons_zero, List.set_cons_succ]
          refine wpAnyH_take (i := 11) (oi := ⟨some 38, _, _, _, _, _⟩) (v := ?_) rfl (by kernel_rfl) (by kernel_rfl) (by kernel_rfl) (fun _ _ _ h => h) (Or.inl ⟨by kernel_rfl, ?_⟩) hHeld ?_
          rotate_left
          · (intro w hSw; (try dsimp only at hSw); go_simp; try with_reducible rfl)
          try simp only [Act.put, List.getElem_toArray, List.getElem_cons_succ, List.getElem_cons_zero, List.setIfInBounds_toArray, List.set_cons_zero, List.set_cons_succ]
          refine wpAnyH_take (i := 12) (oi := ⟨some 39, _, _, _, _, _⟩) (v := ?_) rfl (by kernel_rfl) (by kernel_rfl) (by kernel_rfl) (fun _ _ _ h => h) (Or.inl ⟨by kernel_rfl, ?_⟩) hHeld ?_
          rotate_left
          · (intro w hSw; (try dsimp only at hSw); go_simp; try with_reducible rfl)
          try simp only [Act.put, List.getElem_toArray, List.getElem_cons_succ, List.getElem_cons_zero, List.setIfInBounds_toArray, List.set_cons_zero, List.set_cons_succ]
          refine wpAnyH_ready (rs := [6]) (by kernel_rfl) (by simp) ?_
          refine (AllReadyH.cons rfl (fun K hK => ?_) AllReadyH.nil)
          try rw [if_pos (by kernel_rfl)]
          go_simp
          go_at_call 39
          refine (ent_to HTX.out _ (by omega)).mono ?_
          rintro e w22 ⟨rfl, k22⟩
          have b0 := b0.below k22 b0.lt
          have n0 := n0.below k22
          have bel := hthen bel k22
          have c1 := (k22.cell (acell_lt c1)).trans c1
          have c2 := (k22.cell (acell_lt c2)).trans c2
          clear k22
          try dsimp only
          refine hK.out _ _ (by have q0 := b0.cell 0; have q1 := b0.cell 1; have q2 := b0.cell 2; simp at q0 q1 q2; exact ⟨q0, q1, q2, c1, c2⟩) (fun hHeld => ?_)
          clear hK K
          try simp only [Act.put, List.getElem_toArray, List.getElem_cons_succ, List.getElem_cons_zero, List.setIfInBounds_toArray, List.set_cons_zero, List.set_cons_succ]
          refine wpAnyH_take (i := 7) (oi := ⟨some 34, _, _, _, _, _⟩) (v := ?_) rfl (by kernel_rfl) (by kernel_rfl) (by kernel_rfl) (fun _ _ _ h => h) (Or.inl ⟨by kernel_rfl, ?_⟩) hHeld ?_
          rotate_left
          · (intro w hSw; (try dsimp only at hSw); go_simp; try with_reducible rfl)
          try simp only [Act.put, List.getElem_toArray, List.getElem_cons_succ, List.getElem_cons_zero, List.setIfInBounds_toArray, List.set_cons_zero, List.set_cons_succ]
          refine wpAnyH_ready (rs := [13]) (by kernel_rfl) (by simp) ?_
          refine (AllReadyH.cons rfl (fun K hK => ?_) AllReadyH.nil)
          try rw [if_pos (by kernel_rfl)]
          go_simp
          go_at_call 39
          refine (ent_to HTY.out _ (by omega)).mono ?_
          rintro e w23 ⟨rfl, k23⟩
          have b0 := b0.below k23 b0.lt
          have n0 := n0.below k23
          have bel := hthen bel k23
          have c1 := (k23.cell (acell_lt c1)).trans c1
          have c2 := (k23.cell (acell_lt c2)).trans c2
          clear k23
          try dsimp only
          refine hK.out _ _ (by have q0 := b0.cell 0; have q1 := b0.cell 1; have q2 := b0.cell 2; simp at q0 q1 q2; exact ⟨q0, q1, q2, c1, c2⟩) (fun hHeld => ?_)
          clear hK K
          try simp only [Act.put, List.getElem_toArray, List.getElem_cons_succ, List.getElem_cons_zero, List.setIfInBounds_toArray, List.set_cons_zero, List.set_cons_succ]
          refine wpAnyH_take (i := 14) (oi := ⟨some 41, _, _, _, _, _⟩) (v := ?_) rfl (by kernel_rfl) (by kernel_rfl) (by kernel_rfl) (fun _ _ _ h => h) (Or.inl ⟨by kernel_rfl, ?_⟩) hHeld ?_
          rotate_left
          · (intro w hSw; (try dsimp only at hSw); go_simp; try with_reducible rfl)
          try simp only [Act.put, List.getElem_toArray, List.getElem_cons_succ, List.getElem_cons_zero, List.setIfInBounds_toArray, List.set_cons_zero, List.set_cons_succ]
          refine wpAnyH_take (i := 15) (oi := ⟨some 5, _, _, _, _, _⟩) (v := ?_) rfl (by kernel_rfl) (by kernel_rfl) (by kernel_rfl) (fun _ _ _ h => h) (Or.inl ⟨by kernel_rfl, ?_⟩) hHeld ?_
          rotate_left
          · (intro w hSw; (try dsimp only at hSw); go_simp; try with_reducible rfl)
          try simp only [Act.put, List.getElem_toArray, List.getElem_cons_succ, List.getElem_cons_zero, List.setIfInBounds_toArray, List.set_cons_zero, List.set_cons_succ]
          refine wpAnyH_done (by kernel_rfl) ?_ _
          refine NoPanic.normal ?_
          go_wp2
          go_roundw
          case rel => exact ⟨k + 1, by omega, by go_num, by rw [HNX.out], bel, b0, n0⟩
          case measure => simp [intOf]; omega

        · obtain rfl : k = ks.length := by omega
          have q1 : decide ((ks.length : Int) < ks.length) = false := by simp
          have b0c0 := b0.cell 0
          have b0c1 := b0.cell 1
          have b0c2 := b0.cell 2
          simp at b0c0 b0c1 b0c2
          have b0lt := b0.lt
          go_wp2
          go_ret2
          exact ⟨by rw [HE.out]; rfl, bel⟩

    · go_enter Try.func14, Try.ntmps14
      go_wp2_with fail
      obtain ⟨w1, hw1⟩ : ∃ x, w.alloc (.cells #[.bool true, .slice A ks.length c, .slice C vs.length d] 24) = x := ⟨_, rfl⟩
      obtain ⟨ib0, hib0⟩ : ∃ i, w.heap.size = i := ⟨_, rfl⟩
      have b0 : Blk w1 ib0 24 #[.bool true, .slice A ks.length c, .slice C vs.length d] := by rw [← hw1, ← hib0]; exact Blk.new _ _ _
      have k1 : Below w.heap.size w w1 := by rw [← hw1]; exact (Below.refl _ _).alloc (Nat.le_refl _) _
      have zb0 : w1.heap.size = ib0 + 1 := by rw [← hw1, ← hib0]; simp
      rw [hw1, hib0]
      have n0 := n0.below k1
      have bel := hthen bel k1
      clear k1
      clear hw1 hib0
      have b0c0 := b0.cell 0
      have b0c1 := b0.cell 1
      have b0c2 := b0.cell 2
      simp at b0c0 b0c1 b0c2
      have b0lt := b0.lt
      try (go_wp2_with fail)
      refine (rcheck_to HC.out _ _ n0 hk hv).mono ?_
      rintro e w2 ⟨rfl, k2⟩
      clear b0c0 b0c1 b0c2 b0lt
      have b0 := b0.below k2 b0.lt
      have n0 := n0.below k2
      have bel := hthen bel k2
      clear k2
      have b0c0 := b0.cell 0
      have b0c1 := b0.cell 1
      have b0c2 := b0.cell 2
      simp at b0c0 b0c1 b0c2
      have b0lt := b0.lt
      go_wp2_with fail
      refine (rput_to HP.out _).mono ?_
      rintro e w3 ⟨rfl, k3⟩
      clear b0c0 b0c1 b0c2 b0lt
      have b0 := b0.below k3 b0.lt
      have n0 := n0.below k3
      have bel := hthen bel k3
      clear k3
      have b0c0 := b0.cell 0
      have b0c1 := b0.cell 1
      have b0c2 := b0.cell 2
      simp at b0c0 b0c1 b0c2
      have b0lt := b0.lt
      go_wp2_with fail
      clear b0c0 b0c1 b0c2 b0lt
      go_loopw [5, 6] (fun s i wr => ∃ k : Nat, k ≤ ks.length ∧ i = .int .i64 k ∧ s = .string (bstr (76 :: (P ++ entsL ks vs k))) ∧ Below w.heap.size w wr ∧ Blk wr ib0 24 #[.bool true, .slice A ks.length c, .slice C vs.length d] ∧ NdV wr (.agg #[.bool true, .slice A ks.length c, .slice C vs.length d]) ⟨true, ks, vs⟩) (fun _ i _ => ks.length - (intOf i).toNat)
      case atStart => exact ⟨0, Nat.zero_le _, rfl, by simp [entsL], bel, b0, n0⟩
      case round =>
        clear bel b0 n0
        obtain ⟨k, hkn, rfl, rfl, bel, b0, n0⟩ := hrel
        by_cases hlt : k < ks.length
        · have q1 : decide ((k : Int) < ks.length) = true := decide_eq_true (by omega)
          have T0 : (0 : Int) ≤ k := by omega
          have T1 : (k : Int) < ks.length := by omega
          have T2 : (k : Int) < vs.length := by rw [HL.out]; omega
          obtain ⟨l1, l2, _⟩ := may_at HM.out hlt
          simp only at l1 l2
          have n1 := n0
          obtain ⟨_, _, eN, s1, s2⟩ := n1
          cases eN
          simp only at s1 s2
          obtain ⟨ad, rfl, c1⟩ := s1.cell (Below.refl _ _) hlt
          obtain ⟨bd, rfl, c2⟩ := s2.cell (Below.refl _ _) (show k < vs.length by rw [HL.out]; exact hlt)
          have hel := HEL.out k hkn
          have hnx : entsL ks vs (k + 1) = entsL ks vs k ++ (textL (ks.getD k []) 2 ++ textL (vs.getD k []) 1) := rfl
          have hx2 := text_len (ks.getD k []) 2
          have hy2 := text_len (vs.getD k []) 1
          obtain ⟨X, hX⟩ : ∃ y, ks.getD k [] = y := ⟨_, rfl⟩
          obtain ⟨Y, hY⟩ : ∃ y, vs.getD k [] = y := ⟨_, rfl⟩
          rw [hX] at c1 l1 hnx hx2
          rw [hY] at c2 l2 hnx hy2
          obtain ⟨TX, hTX⟩ : ∃ y, textL X 2 = y := ⟨_, rfl⟩
          obtain ⟨TY, hTY⟩ : ∃ y, textL Y 1 = y := ⟨_, rfl⟩
          rw [hTX] at hnx hx2
          rw [hTY] at hnx hy2
          have HTX := Lib.hid hTX
          have HTY := Lib.hid hTY
          obtain ⟨L, hLL⟩ : ∃ y, 76 :: (P ++ entsL ks vs k) = y := ⟨_, rfl⟩
          have hlen : L.length ≤ 8 + 440 * k := by rw [← hLL, List.length_cons, List.length_append]; omega
          have hnx2 : 76 :: (P ++ entsL ks vs (k + 1)) = L ++ (TX ++ TY) := by rw [← hLL, hnx]; simp
          rw [hLL]
          have HNX := Lib.hid hnx2
          have nb1 : ¬ 9223372036854775807 < L.length + TX.length := by omega
          have nb2 : ¬ 9223372036854775807 < L.length + TX.length + TY.length := by omega
          have nb3 : ¬ 9223372036854775807 < L.length + (TX.length + TY.length) := by omega
          clear s1 s2 hX hY hTX hTY hLL hnx hnx2
          have b0c0 := b0.cell 0
          have b0c1 := b0.cell 1
          have b0c2 := b0.cell 2
          simp at b0c0 b0c1 b0c2
          have b0lt := b0.lt
          go_wp2_with fail
          clear b0c0 b0c1 b0c2 b0lt
          have n0 := n0.below (Below.refl _ _).drew
          have bel := bel.drew
          have b0 := b0.drew
          have c1 := ((show Below wr.heap.size wr wr.drew from (Below.refl _ _).drew).cell (acell_lt c1)).trans c1
          have c2 := ((show Below wr.heap.size wr wr.drew from (Below.refl _ _).drew).cell (acell_lt c2)).trans c2
          refine wp_region_noPanic ?_
          refine wp_region_held_drew (S := (fun w' => w'.cell? ⟨ib0, 0, none⟩ = some (.bool true) ∧ w'.cell? ⟨ib0, 1, none⟩ = some (.slice (some ad) ks.length c) ∧ w'.cell? ⟨ib0, 2, none⟩ = some (.slice (some bd) vs.length d) ∧ w'.cell? (ad.add k) = some (.string (bstr X)) ∧ w'.cell? (bd.add k) = some (.string (bstr Y)))) (by kernel_rfl) ?hS0 (fun hHeld => ?_)
          case hS0 => (have q0 := b0.cell 0; have q1 := b0.cell 1; have q2 := b0.cell 2; simp at q0 q1 q2; exact ⟨q0, q1, q2, c1, c2⟩)
          generalize hZ : wr.drew = wd21 at *
          clear hZ
          refine wpAnyH_take (i := 0) (oi := ⟨some 27, _, _, _, _, _⟩) (v := ?_) rfl (by kernel_rfl) (by kernel_rfl) (by kernel_rfl) (fun _ _ _ h => h) (Or.inl ⟨by kernel_rfl, ?_⟩) hHeld ?_
          rotate_left
          · (intro w hSw; (try dsimp only at hSw); go_simp; try with_reducible rfl)
          try simp only [Act.put, List.getElem_toArray, List.getElem_cons_succ, List.getElem_cons_zero, List.setIfInBounds_toArray, List.set_cons_zero, List.set_cons_succ]
          refine wpAnyH_take (i := 1) (oi := ⟨some 28, _, _, _, _, _⟩) (v := ?_) rfl (by kernel_rfl) (by kernel_rfl) (by kernel_rfl) (fun _ _ _ h => h) (Or.inl ⟨by kernel_rfl, ?_⟩) hHeld ?_
          rotate_left
          · (intro w hSw; (try dsimp only at hSw); go_simp; try with_reducible rfl)
          try simp only [Act.put, List.getElem_toArray, List.getElem_cons_succ, List.getElem_cons_zero, List.setIfInBounds_toArray, List.set_cons_zero, List.set_cons_succ]
          refine wpAnyH_take (i := 2) (oi := ⟨some 29, _, _, _, _, _⟩) (v := ?_) rfl (by kernel_rfl) (by kernel_rfl) (by kernel_rfl) (fun _ _ _ h => h) (Or.inl ⟨by kernel_rfl, ?_⟩) hHeld ?_
          rotate_left
          · (intro w hSw; (try dsimp only at hSw); go_simp; try with_reducible rfl)
          try simp only [Act.put, List.getElem_toArray, List.getElem_cons_succ, List.getElem_cons_zero, List.setIfInBounds_toArray, List.set_cons_zero, List.set_cons_succ]
          refine wpAnyH_take (i := 3) (oi := ⟨some 30, _, _, _, _, _⟩) (v := ?_) rfl (by kernel_rfl) (by kernel_rfl) (by kernel_rfl) (fun _ _ _ h => h) (Or.inl ⟨by kernel_rfl, ?_⟩) hHeld ?_
          rotate_left
          · (intro w hSw; (try dsimp only at hSw); go_simp; try with_reducible rfl)
          try simp only [Act.put, List.getElem_toArray, List.getElem_cons_succ, List.getElem_cons_zero, List.setIfInBounds_toArray, List.set_cons_zero, List.set_cons_succ]
          refine wpAnyH_take (i := 4) (oi := ⟨some 31, _, _, _, _, _⟩) (v := ?_) rfl (by kernel_rfl) (by kernel_rfl) (by kernel_rfl) (fun _ _ _ h => h) (Or.inl ⟨by kernel_rfl, ?_⟩) hHeld ?_
          rotate_left
          · (intro w hSw; (try dsimp only at hSw); go_simp; try with_reducible rfl)
          try simp only [Act.put, List.getElem_toArray, List.getElem_cons_succ, List.getElem_cons_zero, List.setIfInBounds_toArray, List.set_cons_zero, List.set_cons_succ]
          refine wpAnyH_take (i := 5) (oi := ⟨some 32, _, _, _, _, _⟩) (v := ?_) rfl (by kernel_rfl) (by kernel_rfl) (by kernel_rfl) (fun _ _ _ h => h) (Or.inl ⟨by kernel_rfl, ?_⟩) hHeld ?_
          rotate_left
          · (intro w hSw; (try dsimp only at hSw); go_simp; try with_reducible rfl)
          try simp only [Act.put, List.getElem_toArray, List.getElem_cons_succ, List.getElem_cons_zero, List.setIfInBounds_toArray, List.set_cons_zero, List.set_cons_succ]
          refine wpAnyH_take (i := 8) (oi := ⟨some 35, _, _, _, _, _⟩) (v := ?_) rfl (by kernel_rfl) (by kernel_rfl) (by kernel_rfl) (fun _ _ _ h => h) (Or.inl ⟨by kernel_rfl, ?_⟩) hHeld ?_
          rotate_left
          · (intro w hSw; (try dsimp only at hSw); go_simp; try with_reducible rfl)
          try simp only [Act.put, List.getElem_toArray, List.getElem_cons_succ, List.getElem_cons_zero, List.setIfInBounds_toArray, List.set_cons_zero, List.set_cons_succ]
          refine wpAnyH_take (i := 9) (oi := ⟨some 36, _, _, _, _, _⟩) (v := ?_) rfl (by kernel_rfl) (by kernel_rfl) (by kernel_rfl) (fun _ _ _ h => h) (Or.inl ⟨by kernel_rfl, ?_⟩) hHeld ?_
          rotate_left
          · (intro w hSw; (try dsimp only at hSw); go_simp; try with_reducible rfl)
          try simp only [Act.put, List.getElem_toArray, List.getElem_cons_succ, List.getElem_cons_zero, List.setIfInBounds_toArray, List.set_cons_zero, List.set_cons_succ]
          refine wpAnyH_take (i := 10) (oi := ⟨some 37, _, _, _, _, _⟩) (v := ?_) rfl (by kernel_rfl) (by kernel_rfl) (by kernel_rfl) (fun _ _ _ h => h) (Or.inl ⟨by kernel_rfl, ?_⟩) hHeld ?_
          rotate_left
          · (intro w hSw; (try dsimp only at hSw); go_simp; try with_reducible rfl)
          try simp only [Act.put, List.getElem_toArray, List.getElem_cons_succ, List.getElem_cons_zero, List.setIfInBounds_toArray, List.set_cons_zero, List.set_cons_succ]
          refine wpAnyH_take (i := 11) (oi := ⟨some 38, _, _, _, _, _⟩) (v := ?_) rfl (by kernel_rfl) (by kernel_rfl) (by kernel_rfl) (fun _ _ _ h => h) (Or.inl ⟨by kernel_rfl, ?_⟩) hHeld ?_
          rotate_left
          · (intro w hSw; (try dsimp only at hSw); go_simp; try with_reducible rfl)
          try simp only [Act.put, List.getElem_toArray, List.getElem_cons_succ, List.getElem_cons_zero, List.setIfInBounds_toArray, List.set_cons_zero, List.set_cons_succ]
          refine wpAnyH_take (i := 12) (oi := ⟨some 39, _, _, _, _, _⟩) (v := ?_) rfl (by kernel_rfl) (by kernel_rfl) (by kernel_rfl) (fun _ _ _ h => h) (Or.inl ⟨by kernel_rfl, ?_⟩) hHeld ?_
          rotate_left
          · (intro w hSw; (try dsimp only at hSw); go_simp; try with_reducible rfl)
          try simp only [Act.put, List.getElem_toArray, List.getElem_cons_succ, List.getElem_cons_zero, List.setIfInBounds_toArray, List.set_cons_zero, List.set_cons_succ]
          refine wpAnyH_ready (rs := [6]) (by kernel_rfl) (by simp) ?_
          refine (AllReadyH.cons rfl (fun K hK => ?_) AllReadyH.nil)
          try rw [if_pos (by kernel_rfl)]
          go_simp
          go_at_call 39
          refine (ent_to HTX.out _ (by omega)).mono ?_
          rintro e w22 ⟨rfl, k22⟩
          have b0 := b0.below k22 b0.lt
          have n0 := n0.below k22
          have bel := hthen bel k22
          have c1 := (k22.cell (acell_lt c1)).trans c1
          have c2 := (k22.cell (acell_lt c2)).trans c2
          clear k22
          try dsimp only
          refine hK.out _ _ (by have q0 := b0.cell 0; have q1 := b0.cell 1; have q2 := b0.cell 2; simp at q0 q1 q2; exact ⟨q0, q1, q2, c1, c2⟩) (fun hHeld => ?_)
          clear hK K
          try simp only [Act.put, List.getElem_toArray, List.getElem_cons_succ, List.getElem_cons_zero, List.setIfInBounds_toArray, List.set_cons_zero, List.set_cons_succ]
          refine wpAnyH_take (i := 7) (oi := ⟨some 34, _, _, _, _, _⟩) (v := ?_) rfl (by kernel_rfl) (by kernel_rfl) (by kernel_rfl) (fun _ _ _ h => h) (Or.inl ⟨by kernel_rfl, ?_⟩) hHeld ?_
          rotate_left
          · (intro w hSw; (try dsimp only at hSw); go_simp; try with_reducible rfl)
          try simp only [Act.put, List.getElem_toArray, List.getElem_cons_succ, List.getElem_cons_zero, List.setIfInBounds_toArray, List.set_cons_zero, List.set_cons_succ]
          refine wpAnyH_ready (rs := [13]) (by kernel_rfl) (by simp) ?_
          refine (AllReadyH.cons rfl (fun K hK => ?_) AllReadyH.nil)
          try rw [if_pos (by kernel_rfl)]
          go_simp
          go_at_call 39
          refine (ent_to HTY.out _ (by omega)).mono ?_
          rintro e w23 ⟨rfl, k23⟩
          have b0 := b0.below k23 b0.lt
          have n0 := n0.below k23
          have bel := hthen bel k23
          have c1 := (k23.cell (acell_lt c1)).trans c1
          have c2 := (k23.cell (acell_lt c2)).trans c2
          clear k23
          try dsimp only
          refine hK.out _ _ (by have q0 := b0.cell 0; have q1 := b0.cell 1; have q2 := b0.cell 2; simp at q0 q1 q2; exact ⟨q0, q1, q2, c1, c2⟩) (fun hHeld => ?_)
          clear hK K
          try simp only [Act.put, List.getElem_toArray, List.getElem_cons_succ, List.getElem_cons_zero, List.setIfInBounds_toArray, List.set_cons_zero, List.set_cons_succ]
          refine wpAnyH_take (i := 14) (oi := ⟨some 41, _, _, _, _, _⟩) (v := ?_) rfl (by kernel_rfl) (by kernel_rfl) (by kernel_rfl) (fun _ _ _ h => h) (Or.inl ⟨by kernel_rfl, ?_⟩) hHeld ?_
          rotate_left
          · (intro w hSw; (try dsimp only at hSw); go_simp; try with_reducible rfl)
          try simp only [Act.put, List.getElem_toArray, List.getElem_cons_succ, List.getElem_cons_zero, List.setIfInBounds_toArray, List.set_cons_zero, List.set_cons_succ]
          refine wpAnyH_take (i := 15) (oi := ⟨some 5, _, _, _, _, _⟩) (v := ?_) rfl (by kernel_rfl) (by kernel_rfl) (by kernel_rfl) (fun _ _ _ h => h) (Or.inl ⟨by kernel_rfl, ?_⟩) hHeld ?_
          rotate_left
          · (intro w hSw; (try dsimp only at hSw); go_simp; try with_reducible rfl)
          try simp only [Act.put, List.getElem_toArray, List.getElem_cons_succ, List.getElem_cons_zero, List.setIfInBounds_toArray, List.set_cons_zero, List.set_cons_succ]
          refine wpAnyH_done (by kernel_rfl) ?_ _
          refine NoPanic.normal ?_
          go_wp2
          go_roundw
          case rel => exact ⟨k + 1, by omega, by go_num, by rw [HNX.out], bel, b0, n0⟩
          case measure => simp [intOf]; omega

        · obtain rfl : k = ks.length := by omega
          have q1 : decide ((ks.length : Int) < ks.length) = false := by simp
          have b0c0 := b0.cell 0
          have b0c1 := b0.cell 1
          have b0c2 := b0.cell 2
          simp at b0c0 b0c1 b0c2
          have b0lt := b0.lt
          go_wp2
          go_ret2
          exact ⟨by rw [HE.out]; rfl, bel⟩
  · have hcb : (checkN ⟨leaf, ks, vs⟩ != 0) = true := bne_iff_ne.2 hc
    have HE : Hid (nencL ⟨leaf, ks, vs⟩ = []) := Lib.hid (by unfold nencL; rw [if_neg hc])
    obtain ⟨E, hE⟩ : ∃ E, checkN ⟨leaf, ks, vs⟩ = E := ⟨_, rfl⟩
    rw [hE] at hcb ⊢
    have HC := Lib.hid hE
    clear hc hE
    rw [HE.out]
    go_enter Try.func14, Try.ntmps14
    go_wp2_with fail
    obtain ⟨w1, hw1⟩ : ∃ x, w.alloc (.cells #[.bool leaf, .slice A ks.length c, .slice C vs.length d] 24) = x := ⟨_, rfl⟩
    obtain ⟨ib0, hib0⟩ : ∃ i, w.heap.size = i := ⟨_, rfl⟩
    have b0 : Blk w1 ib0 24 #[.bool leaf, .slice A ks.length c, .slice C vs.length d] := by rw [← hw1, ← hib0]; exact Blk.new _ _ _
    have k1 : Below w.heap.size w w1 := by rw [← hw1]; exact (Below.refl _ _).alloc (Nat.le_refl _) _
    have zb0 : w1.heap.size = ib0 + 1 := by rw [← hw1, ← hib0]; simp
    rw [hw1, hib0]
    have n0 := n0.below k1
    have bel := hthen bel k1
    clear k1
    clear hw1 hib0
    have b0c0 := b0.cell 0
    have b0c1 := b0.cell 1
    have b0c2 := b0.cell 2
    simp at b0c0 b0c1 b0c2
    have b0lt := b0.lt
    try (go_wp2_with fail)
    refine (rcheck_to HC.out _ _ n0 hk hv).mono ?_
    rintro e w2 ⟨rfl, k2⟩
    clear b0c0 b0c1 b0c2 b0lt
    have b0 := b0.below k2 b0.lt
    have n0 := n0.below k2
    have bel := hthen bel k2
    clear k2
    have b0c0 := b0.cell 0
    have b0c1 := b0.cell 1
    have b0c2 := b0.cell 2
    simp at b0c0 b0c1 b0c2
    have b0lt := b0.lt
    go_wp2_with fail
    go_ret2
    exact ⟨rfl, bel⟩
end Go.Proofs.Ytiodeeliidhbgaa
