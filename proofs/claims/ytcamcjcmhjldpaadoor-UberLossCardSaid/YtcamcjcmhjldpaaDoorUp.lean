/- The walk of UberLoss. -/
import Derived.Test.YtcamcjcmhjldpaaDoorUm
namespace Go.Proofs.YtcamcjcmhjldpaaDoor
open Go Go.RowKit
set_option linter.unusedSimpArgs false
set_option linter.unnecessarySimpa false
set_option linter.unusedVariables false

def usL (l : List (List UInt8)) (i : Nat) : Ub := ⟨i, l.getD i []⟩
theorem usL_ok {l : List (List UInt8)} {n : Nat} (hn : n ≤ 12) (h : ∀ i, i < n → (l.getD i []).length ≤ 900) : ∀ i, i < n → ubE (usL l i) = 0 ∧ (usL l i).txg = i := fun i hi => ⟨ubE_of (by simp [usL]) (by simp [usL]; omega) (by have := h i hi; simp only [usL]; omega), rfl⟩

set_option maxRecDepth 100000 in
set_option maxHeartbeats 8000000 in
theorem uberLoss_walk (w : World) (hR : RootsAt w) (v0 : Value) (a0 : List (List UInt8)) (h0 : SlAt w.heap.size w IsStr 1 [v0] a0) (a1 : Int) (h1 : (Lit.int .i64 a1).wf = true) :
    Calls Tryd.prog 7 #[v0, .int .i64 a1] w fun e w' => e = .returned (.bool true) ∧ Below w.heap.size w w' := by
  have HRW := Lib.hid hR
  have bel : Below w.heap.size w w := Below.refl _ _
  obtain ⟨A, c, rfl, hl⟩ := sl_form h0
  have hl2 : a0.length ≤ 9223372036854775807 := by unfold maxLen at hl; omega
  by_cases g1 : (a0.length : Int) < 1
  · have qg1 : decide ((a0.length : Int) < 1) = true := decide_eq_true (by omega)
    go_enter Tryd.func7, Tryd.ntmps7
    go_wp2_with fail
    refine (live_ok _ hR).mono ?_
    rintro e w1 ⟨rfl, k1⟩
    have hR := hR.moved k1
    have bel := hthen bel k1
    clear k1
    go_wp2
    go_ret
    exact ⟨rfl, bel⟩
  have qg1 : decide ((a0.length : Int) < 1) = false := decide_eq_false (by omega)
  by_cases g2 : 10 < (a0.length : Int)
  · have qg2 : decide ((a0.length : Int) > 10) = true := decide_eq_true (by omega)
    go_enter Tryd.func7, Tryd.ntmps7
    go_wp2_with fail
    refine (live_ok _ hR).mono ?_
    rintro e w1 ⟨rfl, k1⟩
    have hR := hR.moved k1
    have bel := hthen bel k1
    clear k1
    go_wp2
    go_ret
    exact ⟨rfl, bel⟩
  have qg2 : decide ((a0.length : Int) > 10) = false := decide_eq_false (by omega)
  by_cases g3 : a1 < 0
  · have qg3 : decide (a1 < 0) = true := decide_eq_true (by omega)
    go_enter Tryd.func7, Tryd.ntmps7
    go_wp2_with fail
    refine (live_ok _ hR).mono ?_
    rintro e w1 ⟨rfl, k1⟩
    have hR := hR.moved k1
    have bel := hthen bel k1
    clear k1
    go_wp2
    go_ret
    exact ⟨rfl, bel⟩
  have qg3 : decide (a1 < 0) = false := decide_eq_false (by omega)
  by_cases g4 : 1 < a1
  · have qg4 : decide (a1 > 1) = true := decide_eq_true (by omega)
    go_enter Tryd.func7, Tryd.ntmps7
    go_wp2_with fail
    refine (live_ok _ hR).mono ?_
    rintro e w1 ⟨rfl, k1⟩
    have hR := hR.moved k1
    have bel := hthen bel k1
    clear k1
    go_wp2
    go_ret
    exact ⟨rfl, bel⟩
  have qg4 : decide (a1 > 1) = false := decide_eq_false (by omega)
  obtain ⟨Q, rfl⟩ : ∃ N : Nat, a1 = N := ⟨a1.toNat, by omega⟩
  obtain ⟨ad, rfl, -⟩ := str_cell h0 bel (j := 0) (by omega)
  have cells : ∀ W, Below w.heap.size w W → ∀ j, j < a0.length → W.cell? (ad.add j) = some (.string (bstr (a0.getD j []))) := fun W hW j hj => by
    obtain ⟨ad', e, hc⟩ := str_cell h0 hW hj
    cases e
    exact hc
  have CL := Lib.hid cells
  obtain ⟨N, hN⟩ : ∃ N, a0.length = N := ⟨_, rfl⟩
  rw [hN] at CL g1 g2 qg1 qg2 ⊢
  have hN1 : 1 ≤ N := by omega
  have hN2 : N ≤ 10 := by omega
  have hQ : Q < 2 := by omega
  clear h0 h1 g1 g2 g3 g4 cells hl hl2 hN
  go_enter Tryd.func7, Tryd.ntmps7
  go_wp2_with fail
  refine (newL 9 9 (by decide) (by decide) (by decide) (by decide) w _ bel).mono ?_
  rintro e w1 ⟨g, S1, rfl, lv, hS0, k0⟩
  have hR := hR.moved k0
  have bel := hthen bel k0
  clear k0
  clear hS0
  go_wp2_with fail
  have lv : Lv w _ _ g (clD (secsN (usL a0) 0) (secsN (usL a0) 0)) := lv
  go_loopw [6] (fun i wr => ∃ (k : Nat) (S : Nat → Prop), k ≤ N ∧ i = .int .i64 k ∧ (∀ i, i < k → (a0.getD i []).length ≤ 900) ∧ Lv w wr S g (clD (secsN (usL a0) k) (secsN (usL a0) k)) ∧ Below w.heap.size w wr) (fun i _ => N - (intOf i).toNat)
  case atStart => exact ⟨0, S1, by omega, rfl, fun i hi => absurd hi (Nat.not_lt_zero _), lv, bel⟩
  case round =>
    clear lv bel
    obtain ⟨k, S, hk, rfl, hs9, lv, bel⟩ := hrel
    have hR := HRW.out.moved bel
    by_cases hlt : k < N
    · have q1 : decide ((k : Int) < N) = true := decide_eq_true (by omega)
      have T0 : (0 : Int) ≤ k := by omega
      have T1 : (k : Int) < N := by omega
      have CLK : Hid (∀ W, Below w.heap.size w W → W.cell? (ad.add k) = some (.string (bstr (a0.getD k [])))) := Lib.hid (fun W hW => CL.out W hW k hlt)
      have hus : (a0.getD k []).length ≤ 900 → ubE (usL a0 k) = 0 := fun h => (usL_ok (n := k + 1) (by omega) (fun i hi => (Nat.lt_succ_iff_lt_or_eq.1 hi).elim (fun e => hs9 i e) (fun e => by rw [e]; exact h)) k (by omega)).1
      have HUS := Lib.hid hus
      have hur : usL a0 k = ⟨k, a0.getD k []⟩ := rfl
      obtain ⟨s, hs⟩ : ∃ s, a0.getD k [] = s := ⟨_, rfl⟩
      rw [hs] at CLK HUS hur
      have HUR := Lib.hid hur
      have HS9 := Lib.hid hs9
      have HSK := Lib.hid hs
      have cl := CLK.out _ bel
      have szs : (bstr s).size = s.length := by simp [bstr, ByteArray.size]
      clear hus hs9 hur hs
      by_cases hb9 : 900 < s.length
      · have q2 : decide ((s.length : Int) > 900) = true := decide_eq_true (by omega)
        go_wp2_with fail
        refine (live_ok _ hR).mono ?_
        rintro e w31 ⟨rfl, k31⟩
        have hR := hR.moved k31
        have lv := lv.below k31
        have bel := hthen bel k31
        clear k31
        go_wp2
        go_ret
        exact ⟨rfl, bel⟩
      have q2 : decide ((s.length : Int) > 900) = false := decide_eq_false (by omega)
      have hE := HUS.out (by omega)
      have HU := Lib.hid (secs_flush (usL a0) hE)
      rw [HUR.out] at hE HU
      have HE := Lib.hid hE
      have HP : Hid ((⟨(k : Int), s⟩ : Ub).txg % 4 = (k % 4 : Nat)) := Lib.hid (by simp only; omega)
      clear hE
      go_wp2_with fail
      refine (uwriteC S g (secsN (usL a0) k) (secsN (usL a0) k) (by rw [secs_len]; omega) (by rw [secs_len]; omega) ⟨(k : Int), s⟩ (k % 4) (by omega) HE.out HP.out w _ bel hR lv).mono ?_
      rintro e w31 ⟨rfl, S31, lv, gS, kS, bel⟩
      have hR := HRW.out.moved bel
      clear gS kS
      go_wp2_with fail
      refine (flushL S31 g _ (uw_ws _ _ _ _) w _ bel lv).mono ?_
      rintro e w32 ⟨rfl, S32, lv, gS, kS, bel⟩
      have hR := HRW.out.moved bel
      clear gS kS
      rw [HU.out] at lv
      go_wp2
      go_roundw
      case rel => exact ⟨k + 1, S32, by omega, by go_num, fun i hi => (Nat.lt_succ_iff_lt_or_eq.1 hi).elim (fun e => HS9.out i e) (fun e => by rw [e, HSK.out]; omega), lv, bel⟩
      case measure => simp [intOf]; omega
    · obtain rfl : k = N := by omega
      have q1 : decide ((k : Int) < k) = false := by simp
      have hbst := loss_best (usL a0) (n := k) (which := Q) hN1 hQ (usL_ok (by omega) hs9)
      have lens := ring_small_lost (a := secsN (usL a0) k) (b := secsN (usL a0) k) (by rw [secs_len]; omega) (by rw [secs_len]; omega) (secs_small k (fun j hj => (usL_ok (by omega) hs9 j hj).1)) (secs_small k (fun j hj => (usL_ok (by omega) hs9 j hj).1)) hQ
      have cells : ∀ W, Below w.heap.size w W → W.cell? (ad.add (k - 1)) = some (.string (bstr (a0.getD (k - 1) []))) := fun W hW => CL.out W hW (k - 1) (by omega)
      rw [show usL a0 (k - 1) = ⟨(k : Int) - 1, a0.getD (k - 1) []⟩ by unfold usL; rw [show ((k - 1 : Nat) : Int) = (k : Int) - 1 by omega]] at hbst
      obtain ⟨s, hs⟩ : ∃ s, a0.getD (k - 1) [] = s := ⟨_, rfl⟩
      rw [hs] at hbst cells
      obtain ⟨m, hm⟩ : ∃ m, k - 1 = m := ⟨_, rfl⟩
      rw [hm] at cells
      have HB := Lib.hid hbst
      have LN := Lib.hid lens
      have CLK := Lib.hid cells
      have w3 : wrap64 ((k : Int) - 1) = (k : Int) - 1 := IntWalk.wrap64_in _ ⟨by omega, by omega⟩
      have w4 : IntKind.i64.wrap ((k : Int) - 1) = (k : Int) - 1 := IntWalk.i64_in _ ⟨by omega, by omega⟩
      have T0 : (0 : Int) ≤ (k : Int) - 1 := by omega
      have T3 : (1 : Int) ≤ (k : Int) := by omega
      have T1 : (k : Int) - 1 < k := by omega
      have T2 : ((k : Int) - 1).toNat = m := by omega
      have HL : Hid ((if isB (Q : Int) then (0 : Int) else 1) = 0) := Lib.hid (by rcases (show Q = 0 ∨ Q = 1 by omega) with rfl | rfl <;> rfl)
      clear hbst lens cells hs hm hs9
      go_wp2_with fail
      refine (loseL (e0 := 0) S g (clD (secsN (usL a0) k) (secsN (usL a0) k)) Q HL.out (by simp [clD]) w _ bel lv).mono ?_
      rintro e w61 ⟨rfl, S61, lv, gS, kS, bel⟩
      have hR := HRW.out.moved bel
      clear gS kS
      go_wp2_with fail
      refine (ubestT (S := S61) HB.out (by rw [lose_ws]; simp) LN.out w _ hR lv).mono ?_
      rintro e w62 ⟨rfl, k62⟩
      have hR := hR.moved k62
      have lv := lv.below k62
      have bel := hthen bel k62
      clear k62
      go_upto_region 14 with fail
      obtain ⟨w63, hw63⟩ : ∃ x, w62.alloc (.cells #[.int .i64 ((k : Int) - 1), .string (bstr s)] 28) = x := ⟨_, rfl⟩
      obtain ⟨ibu, hibu⟩ : ∃ i, w62.heap.size = i := ⟨_, rfl⟩
      have bu : Blk w63 ibu 28 #[.int .i64 ((k : Int) - 1), .string (bstr s)] := by rw [← hw63, ← hibu]; exact Blk.new _ _ _
      have k63 : Below w62.heap.size w62 w63 := by rw [← hw63]; exact (Below.refl _ _).alloc (Nat.le_refl _) _
      have zbu : w63.heap.size = ibu + 1 := by rw [← hw63, ← hibu]; simp
      rw [hw63, hibu]
      have nSbu : ¬ S61 ibu := fun e => by have := lv.o.lt _ e; omega
      have hR := hR.moved k63
      have lv := lv.below k63
      have bel := hthen bel k63
      clear k63
      clear hw63 hibu
      have buc0 := bu.cell 0
      have buc1 := bu.cell 1
      simp at buc0 buc1
      have bult := bu.lt
      go_wp2_with fail
      clear buc0 buc1 bult
      have cl := CLK.out _ bel
      have hR := hR.moved (Below.refl _ _).drew
      have lv := lv.below (Below.refl _ _).drew
      have bel := bel.drew
      have bu := bu.drew
      have cl : _ = some (Value.string (bstr s)) := CLK.out _ bel
      refine wp_region_noPanic ?_
      refine wp_region_held_drew (S := (fun w' => w'.cell? ⟨ibu, 0, none⟩ = some (.int .i64 ((k : Int) - 1)) ∧ w'.cell? ⟨ibu, 1, none⟩ = some (.string (bstr s)) ∧ w'.cell? (ad.add m) = some (.string (bstr s)))) (by kernel_rfl) ?hS0 (fun hHeld => ?_)
      case hS0 => (have q0 := bu.cell 0; have q1 := bu.cell 1; simp at q0 q1; exact ⟨q0, q1, cl⟩)
      generalize hZ : w63.drew = wd64 at *
      clear hZ
      refine wpAnyH_take (i := 0) (oi := ⟨some 60, _, _, _, _, _⟩) (v := ?_) rfl (by kernel_rfl) (by kernel_rfl) (by kernel_rfl) (fun _ _ _ h => h) (Or.inl ⟨by kernel_rfl, ?_⟩) hHeld ?_
      rotate_left
      · (intro w hSw; (try dsimp only at hSw); go_simp; try with_reducible rfl)
      try simp only [Act.put, List.getElem_toArray, List.getElem_cons_succ, List.getElem_cons_zero, List.setIfInBounds_toArray, List.set_cons_zero, List.set_cons_succ]
      refine wpAnyH_take (i := 1) (oi := ⟨some 61, _, _, _, _, _⟩) (v := ?_) rfl (by kernel_rfl) (by kernel_rfl) (by kernel_rfl) (fun _ _ _ h => h) (Or.inl ⟨by kernel_rfl, ?_⟩) hHeld ?_
      rotate_left
      · (intro w hSw; (try dsimp only at hSw); go_simp; try with_reducible rfl)
      try simp only [Act.put, List.getElem_toArray, List.getElem_cons_succ, List.getElem_cons_zero, List.setIfInBounds_toArray, List.set_cons_zero, List.set_cons_succ]
      refine wpAnyH_take (i := 2) (oi := ⟨some 62, _, _, _, _, _⟩) (v := ?_) rfl (by kernel_rfl) (by kernel_rfl) (by kernel_rfl) (fun _ _ _ h => h) (Or.inl ⟨by kernel_rfl, ?_⟩) hHeld ?_
      rotate_left
      · (intro w hSw; (try dsimp only at hSw); go_simp; try with_reducible rfl)
      try simp only [Act.put, List.getElem_toArray, List.getElem_cons_succ, List.getElem_cons_zero, List.setIfInBounds_toArray, List.set_cons_zero, List.set_cons_succ]
      refine wpAnyH_take (i := 3) (oi := ⟨some 63, _, _, _, _, _⟩) (v := ?_) rfl (by kernel_rfl) (by kernel_rfl) (by kernel_rfl) (fun _ _ _ h => h) (Or.inl ⟨by kernel_rfl, ?_⟩) hHeld ?_
      rotate_left
      · (intro w hSw; (try dsimp only at hSw); go_simp; try with_reducible rfl)
      try simp only [Act.put, List.getElem_toArray, List.getElem_cons_succ, List.getElem_cons_zero, List.setIfInBounds_toArray, List.set_cons_zero, List.set_cons_succ]
      refine wpAnyH_take (i := 4) (oi := ⟨some 64, _, _, _, _, _⟩) (v := ?_) rfl (by kernel_rfl) (by kernel_rfl) (by kernel_rfl) (fun _ _ _ h => h) (Or.inl ⟨by kernel_rfl, ?_⟩) hHeld ?_
      rotate_left
      · (intro w hSw; (try dsimp only at hSw); go_simp; try with_reducible rfl)
      try simp only [Act.put, List.getElem_toArray, List.getElem_cons_succ, List.getElem_cons_zero, List.setIfInBounds_toArray, List.set_cons_zero, List.set_cons_succ]
      refine wpAnyH_take (i := 5) (oi := ⟨some 65, _, _, _, _, _⟩) (v := ?_) rfl (by kernel_rfl) (by kernel_rfl) (by kernel_rfl) (fun _ _ _ h => h) (Or.inl ⟨by kernel_rfl, ?_⟩) hHeld ?_
      rotate_left
      · (intro w hSw; (try dsimp only at hSw); go_simp; try with_reducible rfl)
      try simp only [Act.put, List.getElem_toArray, List.getElem_cons_succ, List.getElem_cons_zero, List.setIfInBounds_toArray, List.set_cons_zero, List.set_cons_succ]
      refine wpAnyH_take (i := 6) (oi := ⟨some 66, _, _, _, _, _⟩) (v := ?_) rfl (by kernel_rfl) (by kernel_rfl) (by kernel_rfl) (fun _ _ _ h => h) (Or.inl ⟨by kernel_rfl, ?_⟩) hHeld ?_
      rotate_left
      · (intro w hSw; (try dsimp only at hSw); go_simp; try with_reducible rfl)
      try simp only [Act.put, List.getElem_toArray, List.getElem_cons_succ, List.getElem_cons_zero, List.setIfInBounds_toArray, List.set_cons_zero, List.set_cons_succ]
      refine wpAnyH_take (i := 7) (oi := ⟨some 67, _, _, _, _, _⟩) (v := ?_) rfl (by kernel_rfl) (by kernel_rfl) (by kernel_rfl) (fun _ _ _ h => h) (Or.inl ⟨by kernel_rfl, ?_⟩) hHeld ?_
      rotate_left
      · (intro w hSw; (try dsimp only at hSw); go_simp; try with_reducible rfl)
      try simp only [Act.put, List.getElem_toArray, List.getElem_cons_succ, List.getElem_cons_zero, List.setIfInBounds_toArray, List.set_cons_zero, List.set_cons_succ]
      refine wpAnyH_take (i := 8) (oi := ⟨some 68, _, _, _, _, _⟩) (v := ?_) rfl (by kernel_rfl) (by kernel_rfl) (by kernel_rfl) (fun _ _ _ h => h) (Or.inl ⟨by kernel_rfl, ?_⟩) hHeld ?_
      rotate_left
      · (intro w hSw; (try dsimp only at hSw); go_simp; try with_reducible rfl)
      try simp only [Act.put, List.getElem_toArray, List.getElem_cons_succ, List.getElem_cons_zero, List.setIfInBounds_toArray, List.set_cons_zero, List.set_cons_succ]
      refine wpAnyH_take (i := 9) (oi := ⟨some 69, _, _, _, _, _⟩) (v := ?_) rfl (by kernel_rfl) (by kernel_rfl) (by kernel_rfl) (fun _ _ _ h => h) (Or.inl ⟨by kernel_rfl, ?_⟩) hHeld ?_
      rotate_left
      · (intro w hSw; (try dsimp only at hSw); go_simp; try with_reducible rfl)
      try simp only [Act.put, List.getElem_toArray, List.getElem_cons_succ, List.getElem_cons_zero, List.setIfInBounds_toArray, List.set_cons_zero, List.set_cons_succ]
      refine wpAnyH_take (i := 10) (oi := ⟨some 70, _, _, _, _, _⟩) (v := ?_) rfl (by kernel_rfl) (by kernel_rfl) (by kernel_rfl) (fun _ _ _ h => h) (Or.inl ⟨by kernel_rfl, ?_⟩) hHeld ?_
      rotate_left
      · (intro w hSw; (try dsimp only at hSw); go_simp; try with_reducible rfl)
      try simp only [Act.put, List.getElem_toArray, List.getElem_cons_succ, List.getElem_cons_zero, List.setIfInBounds_toArray, List.set_cons_zero, List.set_cons_succ]
      refine wpAnyH_take (i := 11) (oi := ⟨some 71, _, _, _, _, _⟩) (v := ?_) rfl (by kernel_rfl) (by kernel_rfl) (by kernel_rfl) (fun _ _ _ h => h) (Or.inl ⟨by kernel_rfl, ?_⟩) hHeld ?_
      rotate_left
      · (intro w hSw; (try dsimp only at hSw); go_simp; try with_reducible rfl)
      try simp only [Act.put, List.getElem_toArray, List.getElem_cons_succ, List.getElem_cons_zero, List.setIfInBounds_toArray, List.set_cons_zero, List.set_cons_succ]
      refine wpAnyH_take (i := 12) (oi := ⟨some 72, _, _, _, _, _⟩) (v := ?_) rfl (by kernel_rfl) (by kernel_rfl) (by kernel_rfl) (fun _ _ _ h => h) (Or.inl ⟨by kernel_rfl, ?_⟩) hHeld ?_
      rotate_left
      · (intro w hSw; (try dsimp only at hSw); go_simp; try with_reducible rfl)
      try simp only [Act.put, List.getElem_toArray, List.getElem_cons_succ, List.getElem_cons_zero, List.setIfInBounds_toArray, List.set_cons_zero, List.set_cons_succ]
      refine wpAnyH_take (i := 13) (oi := ⟨some 73, _, _, _, _, _⟩) (v := ?_) rfl (by kernel_rfl) (by kernel_rfl) (by kernel_rfl) (fun _ _ _ h => h) (Or.inl ⟨by kernel_rfl, ?_⟩) hHeld ?_
      rotate_left
      · (intro w hSw; (try dsimp only at hSw); go_simp; try with_reducible rfl)
      try simp only [Act.put, List.getElem_toArray, List.getElem_cons_succ, List.getElem_cons_zero, List.setIfInBounds_toArray, List.set_cons_zero, List.set_cons_succ]
      refine wpAnyH_take (i := 14) (oi := ⟨some 74, _, _, _, _, _⟩) (v := ?_) rfl (by kernel_rfl) (by kernel_rfl) (by kernel_rfl) (fun _ _ _ h => h) (Or.inl ⟨by kernel_rfl, ?_⟩) hHeld ?_
      rotate_left
      · (intro w hSw; (try dsimp only at hSw); go_simp; try with_reducible rfl)
      try simp only [Act.put, List.getElem_toArray, List.getElem_cons_succ, List.getElem_cons_zero, List.setIfInBounds_toArray, List.set_cons_zero, List.set_cons_succ]
      refine wpAnyH_take (i := 15) (oi := ⟨some 75, _, _, _, _, _⟩) (v := ?_) rfl (by kernel_rfl) (by kernel_rfl) (by kernel_rfl) (fun _ _ _ h => h) (Or.inl ⟨by kernel_rfl, ?_⟩) hHeld ?_
      rotate_left
      · (intro w hSw; (try dsimp only at hSw); go_simp; try with_reducible rfl)
      try simp only [Act.put, List.getElem_toArray, List.getElem_cons_succ, List.getElem_cons_zero, List.setIfInBounds_toArray, List.set_cons_zero, List.set_cons_succ]
      refine wpAnyH_ready (rs := [16]) (by kernel_rfl) (by simp) ?_
      refine (AllReadyH.cons rfl (fun K hK => ?_) AllReadyH.nil)
      try rw [if_pos (by kernel_rfl)]
      go_simp
      go_at_call 8
      refine (live_ok _ hR).mono ?_
      rintro e w65 ⟨rfl, k65⟩
      have bu := bu.below k65 bu.lt
      have hR := hR.moved k65
      have lv := lv.below k65
      have bel := hthen bel k65
      have cl : _ = some (Value.string (bstr s)) := CLK.out _ bel
      clear k65
      try dsimp only
      refine hK.out _ _ (by have q0 := bu.cell 0; have q1 := bu.cell 1; simp at q0 q1; exact ⟨q0, q1, cl⟩) (fun hHeld => ?_)
      clear hK K
      try simp only [Act.put, List.getElem_toArray, List.getElem_cons_succ, List.getElem_cons_zero, List.setIfInBounds_toArray, List.set_cons_zero, List.set_cons_succ]
      refine wpAnyH_take (i := 17) (oi := ⟨some 77, _, _, _, _, _⟩) (v := ?_) rfl (by kernel_rfl) (by kernel_rfl) (by kernel_rfl) (fun _ _ _ h => h) (Or.inl ⟨by kernel_rfl, ?_⟩) hHeld ?_
      rotate_left
      · (intro w hSw; (try dsimp only at hSw); go_simp; try with_reducible rfl)
      try simp only [Act.put, List.getElem_toArray, List.getElem_cons_succ, List.getElem_cons_zero, List.setIfInBounds_toArray, List.set_cons_zero, List.set_cons_succ]
      refine wpAnyH_take (i := 18) (oi := ⟨some 4, _, _, _, _, _⟩) (v := ?_) rfl (by kernel_rfl) (by kernel_rfl) (by kernel_rfl) (fun _ _ _ h => h) (Or.inl ⟨by kernel_rfl, ?_⟩) hHeld ?_
      rotate_left
      · (intro w hSw; (try dsimp only at hSw); go_simp; try with_reducible rfl)
      try simp only [Act.put, List.getElem_toArray, List.getElem_cons_succ, List.getElem_cons_zero, List.setIfInBounds_toArray, List.set_cons_zero, List.set_cons_succ]
      refine wpAnyH_done (by kernel_rfl) ?_ _
      refine NoPanic.normal ?_
      go_wp2
      go_ret
      exact ⟨rfl, bel⟩
end Go.Proofs.YtcamcjcmhjldpaaDoor
