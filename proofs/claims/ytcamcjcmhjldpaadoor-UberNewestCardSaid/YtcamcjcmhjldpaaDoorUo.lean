/- The walk of UberNewest. -/
import Derived.Test.YtcamcjcmhjldpaaDoorUm
namespace Go.Proofs.YtcamcjcmhjldpaaDoor
open Go Go.RowKit
set_option linter.unusedSimpArgs false
set_option linter.unnecessarySimpa false
set_option linter.unusedVariables false

def usX (i : Nat) : Ub := ⟨i, [120]⟩
theorem usX_ok {n : Nat} (hn : n ≤ 12) : ∀ i, i < n → ubE (usX i) = 0 ∧ (usX i).txg = i := fun i hi => ⟨ubE_of (by simp [usX]) (by simp [usX]; omega) (by simp [usX]), rfl⟩
theorem sp_mayE0 (us : Nat → Ub) (n s p : Nat) (hp : p < 4) : mayE (clD (spN us n s) (spN us n s)) ⟨0, p⟩ junkT = 0 := mayE_cl rfl rfl (.inl rfl) (by simp [Dv.sec, clD, sp_len]; omega) (by decide)
theorem sp_mayE1 (us : Nat → Ub) (n s p : Nat) (hp : p < 4) : mayE ((clD (spN us n s) (spN us n s)).spoilAt ⟨0, p⟩ junkT) ⟨1, p⟩ junkT = 0 := by
  rw [spoil_cl0 (by rw [sp_len]; omega) (by decide)]
  exact mayE_cl rfl rfl (.inr rfl) (by simp [Dv.sec, clD, sp_len]; omega) (by decide)
theorem sp_ws1 (us : Nat → Ub) (n s p : Nat) (hp : p < 4) : ((clD (spN us n s) (spN us n s)).spoilAt ⟨0, p⟩ junkT).ws.length ≤ 100000 := by
  rw [spoil_cl0 (by rw [sp_len]; omega) (by decide)]
  exact Nat.zero_le _
theorem rem4i {n m p : Nat} (h : n = m) (hp : m % 4 = p) : ((n : Int)).tmod 4 = p := by subst h; subst hp; rw [Int.tmod_eq_emod_of_nonneg (by omega)]; omega

set_option maxRecDepth 100000 in
set_option maxHeartbeats 8000000 in
theorem uberNewest_walk (w : World) (hR : RootsAt w) (a0 : Int) (h0 : (Lit.int .i64 a0).wf = true) (a1 : Int) (h1 : (Lit.int .i64 a1).wf = true) :
    Calls Tryd.prog 6 #[.int .i64 a0, .int .i64 a1] w fun e w' => e = .returned (.bool true) ∧ Below w.heap.size w w' := by
  have HRW := Lib.hid hR
  have bel : Below w.heap.size w w := Below.refl _ _
  by_cases g1 : a0 < 1
  · have qg1 : decide (a0 < 1) = true := decide_eq_true (by omega)
    go_enter Tryd.func6, Tryd.ntmps6
    go_wp2_with fail
    refine (live_ok _ hR).mono ?_
    rintro e w1 ⟨rfl, k1⟩
    have hR := hR.moved k1
    have bel := hthen bel k1
    clear k1
    go_wp2
    go_ret
    exact ⟨rfl, bel⟩
  have qg1 : decide (a0 < 1) = false := decide_eq_false (by omega)
  by_cases g2 : 12 < a0
  · have qg2 : decide (a0 > 12) = true := decide_eq_true (by omega)
    go_enter Tryd.func6, Tryd.ntmps6
    go_wp2_with fail
    refine (live_ok _ hR).mono ?_
    rintro e w1 ⟨rfl, k1⟩
    have hR := hR.moved k1
    have bel := hthen bel k1
    clear k1
    go_wp2
    go_ret
    exact ⟨rfl, bel⟩
  have qg2 : decide (a0 > 12) = false := decide_eq_false (by omega)
  by_cases g3 : a1 < 0
  · have qg3 : decide (a1 < 0) = true := decide_eq_true (by omega)
    go_enter Tryd.func6, Tryd.ntmps6
    go_wp2_with fail
    refine (live_ok _ hR).mono ?_
    rintro e w1 ⟨rfl, k1⟩
    have hR := hR.moved k1
    have bel := hthen bel k1
    clear k1
    go_wp2
    go_ret
    exact ⟨rfl, bel⟩
  have qg3 : decide (a1 < 0) = false := decide_eq_false (by omega)
  by_cases g4 : 6 < a1
  · have qg4 : decide (a1 > 6) = true := decide_eq_true (by omega)
    go_enter Tryd.func6, Tryd.ntmps6
    go_wp2_with fail
    refine (live_ok _ hR).mono ?_
    rintro e w1 ⟨rfl, k1⟩
    have hR := hR.moved k1
    have bel := hthen bel k1
    clear k1
    go_wp2
    go_ret
    exact ⟨rfl, bel⟩
  have qg4 : decide (a1 > 6) = false := decide_eq_false (by omega)
  obtain ⟨N, rfl⟩ : ∃ N : Nat, a0 = N := ⟨a0.toNat, by omega⟩
  obtain ⟨Q, rfl⟩ : ∃ N : Nat, a1 = N := ⟨a1.toNat, by omega⟩
  have hN1 : 1 ≤ N := by omega
  have hN : N ≤ 12 := by omega
  have hQ : Q ≤ 6 := by omega
  clear h0 h1 g1 g2 g3 g4
  go_enter Tryd.func6, Tryd.ntmps6
  go_wp2_with fail
  refine (newL 9 9 (by decide) (by decide) (by decide) (by decide) w _ bel).mono ?_
  rintro e w1 ⟨g, S1, rfl, lv, hS0, k0⟩
  have hR := hR.moved k0
  have bel := hthen bel k0
  clear k0
  clear hS0
  go_wp2_with fail
  have lv : Lv w _ _ g (clD (secsN usX 0) (secsN usX 0)) := lv
  go_loopw [6] (fun i wr => ∃ (k : Nat) (S : Nat → Prop), k ≤ N ∧ i = .int .i64 k ∧ Lv w wr S g (clD (secsN usX k) (secsN usX k)) ∧ Below w.heap.size w wr) (fun i _ => N - (intOf i).toNat)
  case atStart => exact ⟨0, S1, by omega, rfl, lv, bel⟩
  case round =>
    clear lv bel
    obtain ⟨k, S, hk, rfl, lv, bel⟩ := hrel
    have hR := HRW.out.moved bel
    by_cases hlt : k < N
    · have q1 : decide ((k : Int) < N) = true := decide_eq_true (by omega)
      obtain ⟨eU, eT⟩ := usX_ok hN k hlt
      have pU : (usX k).txg % 4 = (k % 4 : Nat) := by rw [eT]; omega
      have HU := Lib.hid (secs_flush usX eU)
      have HE := Lib.hid eU
      have HP := Lib.hid pU
      clear eU eT pU
      go_wp2_with fail
      refine (uwriteC S g (secsN usX k) (secsN usX k) (by rw [secs_len]; omega) (by rw [secs_len]; omega) (usX k) (k % 4) (by omega) HE.out HP.out w _ bel hR lv).mono ?_
      rintro e w31 ⟨rfl, S31, lv, gS, kS, bel⟩
      have hR := HRW.out.moved bel
      clear gS kS
      go_wp2_with fail
      refine (flushL S31 g _ (uw_ws _ _ _ _) w _ bel lv).mono ?_
      rintro e w32 ⟨rfl, S32, lv, gS, kS, bel⟩
      have hR := HRW.out.moved bel
      clear gS kS
      rw [HU.out] at lv
      go_wp2
      go_roundw
      case rel => exact ⟨k + 1, S32, by omega, by go_num, lv, bel⟩
      case measure => simp [intOf]; omega
    · obtain rfl : k = N := by omega
      have q1 : decide ((k : Int) < k) = false := by simp
      have lv : Lv w _ _ g (clD (spN usX k 0) (spN usX k 0)) := lv
      go_wp2_with fail
      go_loopw [7] (fun i wr => ∃ (j : Nat) (S : Nat → Prop), j ≤ Q ∧ j ≤ k ∧ i = .int .i64 j ∧ Lv w wr S g (clD (spN usX k j) (spN usX k j)) ∧ Below w.heap.size w wr) (fun i _ => Q - (intOf i).toNat)
      case atStart => exact ⟨0, S, by omega, by omega, rfl, lv, bel⟩
      case round =>
        clear lv bel hR
        obtain ⟨j, S, hj, hjk, rfl, lv, bel⟩ := hrel
        have hR := HRW.out.moved bel
        have w1 : IntKind.i64.wrap ((k : Int) - 1) = (k : Int) - 1 := IntWalk.i64_in _ ⟨by omega, by omega⟩
        have w2 : IntKind.i64.wrap ((k : Int) - 1 - j) = (k : Int) - 1 - j := IntWalk.i64_in _ ⟨by omega, by omega⟩
        have w3 : wrap64 ((k : Int) - 1) = (k : Int) - 1 := IntWalk.wrap64_in _ ⟨by omega, by omega⟩
        have w4 : wrap64 ((k : Int) - 1 - j) = (k : Int) - 1 - j := IntWalk.wrap64_in _ ⟨by omega, by omega⟩
        by_cases hlt : j < Q ∧ j < k
        · have q2 : decide ((j : Int) < Q) = true := decide_eq_true (by omega)
          have q3 : decide ((k : Int) - 1 - j ≥ 0) = true := decide_eq_true (by omega)
          obtain ⟨p, hp⟩ : ∃ p, (k - 1 - j) % 4 = p := ⟨_, rfl⟩
          have hp4 : p < 4 := by omega
          have w5 : ((k : Int) - 1 - j).tmod 4 = p := by rw [Int.tmod_eq_emod_of_nonneg (by omega)]; omega
          have HSP := Lib.hid (sp_spoil usX k j)
          rw [hp] at HSP
          clear hp
          go_wp2_with fail
          refine (spoilL (e0 := 0) S g (clD (spN usX k j) (spN usX k j)) ⟨0, p⟩ junkT (sp_mayE0 _ _ _ _ hp4) (by simp [clD]) w _ bel lv).mono ?_
          rintro e w81 ⟨rfl, S81, lv, gS, kS, bel⟩
          have hR := HRW.out.moved bel
          clear gS kS
          go_wp2_with fail
          refine (spoilL (e0 := 0) S81 g _ ⟨1, p⟩ junkT (sp_mayE1 _ _ _ _ hp4) (sp_ws1 _ _ _ _ hp4) w _ bel lv).mono ?_
          rintro e w82 ⟨rfl, S82, lv, gS, kS, bel⟩
          have hR := HRW.out.moved bel
          clear gS kS
          rw [HSP.out] at lv
          go_wp2
          go_roundw
          case rel => exact ⟨j + 1, S82, by omega, by omega, by go_num, lv, bel⟩
          case measure => simp [intOf]; omega
        · by_cases hA : j = Q
          · by_cases hk4 : (k : Int) - Q < 1
            · have q2 : decide ((j : Int) < Q) = false := decide_eq_false (by omega)
              have w6 : IntKind.i64.wrap ((k : Int) - Q) = (k : Int) - Q := IntWalk.i64_in _ ⟨by omega, by omega⟩
              have w7 : wrap64 ((k : Int) - Q) = (k : Int) - Q := IntWalk.wrap64_in _ ⟨by omega, by omega⟩
              have w8 : wrap64 ((k : Int) - Q - 1) = (k : Int) - Q - 1 := IntWalk.wrap64_in _ ⟨by omega, by omega⟩
              have w9 : IntKind.i64.wrap ((k : Int) - Q - 1) = (k : Int) - Q - 1 := IntWalk.i64_in _ ⟨by omega, by omega⟩
              clear w1 w2 w3 w4
              have q4 : decide ((k : Int) - Q < 1) = true := decide_eq_true (by omega)
              have lens := ring_small (a := spN usX k j) (b := spN usX k j) (by rw [sp_len]; omega) (by rw [sp_len]; omega) (sp_small (fun i hi => (usX_ok hN i hi).1) j) (sp_small (fun i hi => (usX_ok hN i hi).1) j)
              have LN := Lib.hid lens
              clear lens
              have hbst : bestR (clD (spN usX k j) (spN usX k j)) = (⟨0, []⟩, false) := newest_none usX (by omega) (by omega)
              have HB := Lib.hid hbst
              clear hbst
              go_wp2_with fail
              refine (ubestT (S := S) HB.out (by simp [clD]) LN.out w _ hR lv).mono ?_
              rintro e w101 ⟨rfl, k101⟩
              have hR := hR.moved k101
              have lv := lv.below k101
              have bel := hthen bel k101
              clear k101
              go_upto_region 16 with fail
              obtain ⟨w102, hw102⟩ : ∃ x, w101.alloc (.cells #[.int .i64 0, .string (bstr [])] 28) = x := ⟨_, rfl⟩
              obtain ⟨ibu, hibu⟩ : ∃ i, w101.heap.size = i := ⟨_, rfl⟩
              have bu : Blk w102 ibu 28 #[.int .i64 0, .string (bstr [])] := by rw [← hw102, ← hibu]; exact Blk.new _ _ _
              have k102 : Below w101.heap.size w101 w102 := by rw [← hw102]; exact (Below.refl _ _).alloc (Nat.le_refl _) _
              have zbu : w102.heap.size = ibu + 1 := by rw [← hw102, ← hibu]; simp
              rw [hw102, hibu]
              have nSbu : ¬ S ibu := fun e => by have := lv.o.lt _ e; omega
              have hR := hR.moved k102
              have lv := lv.below k102
              have bel := hthen bel k102
              clear k102
              clear hw102 hibu
              have buc0 := bu.cell 0
              have buc1 := bu.cell 1
              simp at buc0 buc1
              have bult := bu.lt
              go_wp2_with fail
              refine (live_ok _ hR).mono ?_
              rintro e w103 ⟨rfl, k103⟩
              clear buc0 buc1 bult
              have bu := bu.below k103 bu.lt
              have hR := hR.moved k103
              have lv := lv.below k103
              have bel := hthen bel k103
              clear k103
              go_wp2
              go_ret
              exact ⟨rfl, bel⟩
            · by_cases h3 : 3 < Q
              · have q2 : decide ((j : Int) < Q) = false := decide_eq_false (by omega)
                have w6 : IntKind.i64.wrap ((k : Int) - Q) = (k : Int) - Q := IntWalk.i64_in _ ⟨by omega, by omega⟩
                have w7 : wrap64 ((k : Int) - Q) = (k : Int) - Q := IntWalk.wrap64_in _ ⟨by omega, by omega⟩
                have w8 : wrap64 ((k : Int) - Q - 1) = (k : Int) - Q - 1 := IntWalk.wrap64_in _ ⟨by omega, by omega⟩
                have w9 : IntKind.i64.wrap ((k : Int) - Q - 1) = (k : Int) - Q - 1 := IntWalk.i64_in _ ⟨by omega, by omega⟩
                clear w1 w2 w3 w4
                have q4 : decide ((k : Int) - Q < 1) = false := decide_eq_false (by omega)
                have q5 : decide ((Q : Int) > 3) = true := decide_eq_true (by omega)
                have lens := ring_small (a := spN usX k j) (b := spN usX k j) (by rw [sp_len]; omega) (by rw [sp_len]; omega) (sp_small (fun i hi => (usX_ok hN i hi).1) j) (sp_small (fun i hi => (usX_ok hN i hi).1) j)
                have LN := Lib.hid lens
                clear lens
                have hbst : bestR (clD (spN usX k j) (spN usX k j)) = (⟨0, []⟩, false) := newest_none usX (by omega) (by omega)
                have HB := Lib.hid hbst
                clear hbst
                go_wp2_with fail
                refine (ubestT (S := S) HB.out (by simp [clD]) LN.out w _ hR lv).mono ?_
                rintro e w101 ⟨rfl, k101⟩
                have hR := hR.moved k101
                have lv := lv.below k101
                have bel := hthen bel k101
                clear k101
                go_upto_region 16 with fail
                obtain ⟨w102, hw102⟩ : ∃ x, w101.alloc (.cells #[.int .i64 0, .string (bstr [])] 28) = x := ⟨_, rfl⟩
                obtain ⟨ibu, hibu⟩ : ∃ i, w101.heap.size = i := ⟨_, rfl⟩
                have bu : Blk w102 ibu 28 #[.int .i64 0, .string (bstr [])] := by rw [← hw102, ← hibu]; exact Blk.new _ _ _
                have k102 : Below w101.heap.size w101 w102 := by rw [← hw102]; exact (Below.refl _ _).alloc (Nat.le_refl _) _
                have zbu : w102.heap.size = ibu + 1 := by rw [← hw102, ← hibu]; simp
                rw [hw102, hibu]
                have nSbu : ¬ S ibu := fun e => by have := lv.o.lt _ e; omega
                have hR := hR.moved k102
                have lv := lv.below k102
                have bel := hthen bel k102
                clear k102
                clear hw102 hibu
                have buc0 := bu.cell 0
                have buc1 := bu.cell 1
                simp at buc0 buc1
                have bult := bu.lt
                go_wp2_with fail
                refine (live_ok _ hR).mono ?_
                rintro e w103 ⟨rfl, k103⟩
                clear buc0 buc1 bult
                have bu := bu.below k103 bu.lt
                have hR := hR.moved k103
                have lv := lv.below k103
                have bel := hthen bel k103
                clear k103
                go_wp2
                go_ret
                exact ⟨rfl, bel⟩
              · have q2 : decide ((j : Int) < Q) = false := decide_eq_false (by omega)
                have w6 : IntKind.i64.wrap ((k : Int) - Q) = (k : Int) - Q := IntWalk.i64_in _ ⟨by omega, by omega⟩
                have w7 : wrap64 ((k : Int) - Q) = (k : Int) - Q := IntWalk.wrap64_in _ ⟨by omega, by omega⟩
                have w8 : wrap64 ((k : Int) - Q - 1) = (k : Int) - Q - 1 := IntWalk.wrap64_in _ ⟨by omega, by omega⟩
                have w9 : IntKind.i64.wrap ((k : Int) - Q - 1) = (k : Int) - Q - 1 := IntWalk.i64_in _ ⟨by omega, by omega⟩
                clear w1 w2 w3 w4
                have q4 : decide ((k : Int) - Q < 1) = false := decide_eq_false (by omega)
                have q5 : decide ((Q : Int) > 3) = false := decide_eq_false (by omega)
                have lens := ring_small (a := spN usX k j) (b := spN usX k j) (by rw [sp_len]; omega) (by rw [sp_len]; omega) (sp_small (fun i hi => (usX_ok hN i hi).1) j) (sp_small (fun i hi => (usX_ok hN i hi).1) j)
                have LN := Lib.hid lens
                clear lens
                have hbst : bestR (clD (spN usX k j) (spN usX k j)) = (⟨(k : Int) - Q - 1, [120]⟩, true) := (newest_some usX (by omega) (by omega) (usX_ok hN)).trans (by unfold usX; rw [show ((k - 1 - j : Nat) : Int) = (k : Int) - Q - 1 by omega])
                have HB := Lib.hid hbst
                clear hbst
                go_wp2_with fail
                refine (ubestT (S := S) HB.out (by simp [clD]) LN.out w _ hR lv).mono ?_
                rintro e w101 ⟨rfl, k101⟩
                have hR := hR.moved k101
                have lv := lv.below k101
                have bel := hthen bel k101
                clear k101
                go_upto_region 16 with fail
                obtain ⟨w102, hw102⟩ : ∃ x, w101.alloc (.cells #[.int .i64 ((k : Int) - Q - 1), .string (bstr [120])] 28) = x := ⟨_, rfl⟩
                obtain ⟨ibu, hibu⟩ : ∃ i, w101.heap.size = i := ⟨_, rfl⟩
                have bu : Blk w102 ibu 28 #[.int .i64 ((k : Int) - Q - 1), .string (bstr [120])] := by rw [← hw102, ← hibu]; exact Blk.new _ _ _
                have k102 : Below w101.heap.size w101 w102 := by rw [← hw102]; exact (Below.refl _ _).alloc (Nat.le_refl _) _
                have zbu : w102.heap.size = ibu + 1 := by rw [← hw102, ← hibu]; simp
                rw [hw102, hibu]
                have nSbu : ¬ S ibu := fun e => by have := lv.o.lt _ e; omega
                have hR := hR.moved k102
                have lv := lv.below k102
                have bel := hthen bel k102
                clear k102
                clear hw102 hibu
                have buc0 := bu.cell 0
                have buc1 := bu.cell 1
                simp at buc0 buc1
                have bult := bu.lt
                go_wp2_with fail
                refine (live_ok _ hR).mono ?_
                rintro e w103 ⟨rfl, k103⟩
                clear buc0 buc1 bult
                have bu := bu.below k103 bu.lt
                have hR := hR.moved k103
                have lv := lv.below k103
                have bel := hthen bel k103
                clear k103
                go_wp2
                go_ret
                exact ⟨rfl, bel⟩
          · obtain rfl : j = k := by omega
            have q2 : decide ((j : Int) < Q) = true := decide_eq_true (by omega)
            have q3 : decide ((j : Int) - 1 - j ≥ 0) = false := decide_eq_false (by omega)
            have w1' := w1
            have w2' := w2
            have w3' := w3
            have w4' := w4
            have w6 : IntKind.i64.wrap ((j : Int) - Q) = (j : Int) - Q := IntWalk.i64_in _ ⟨by omega, by omega⟩
            have w7 : wrap64 ((j : Int) - Q) = (j : Int) - Q := IntWalk.wrap64_in _ ⟨by omega, by omega⟩
            have w8 : wrap64 ((j : Int) - Q - 1) = (j : Int) - Q - 1 := IntWalk.wrap64_in _ ⟨by omega, by omega⟩
            have w9 : IntKind.i64.wrap ((j : Int) - Q - 1) = (j : Int) - Q - 1 := IntWalk.i64_in _ ⟨by omega, by omega⟩
            clear w1 w2 w3 w4
            have q4 : decide ((j : Int) - Q < 1) = true := decide_eq_true (by omega)
            have lens := ring_small (a := spN usX j j) (b := spN usX j j) (by rw [sp_len]; omega) (by rw [sp_len]; omega) (sp_small (fun i hi => (usX_ok hN i hi).1) j) (sp_small (fun i hi => (usX_ok hN i hi).1) j)
            have LN := Lib.hid lens
            clear lens
            have hbst : bestR (clD (spN usX j j) (spN usX j j)) = (⟨0, []⟩, false) := newest_none usX (by omega) (by omega)
            have HB := Lib.hid hbst
            clear hbst
            go_wp2_with fail
            refine (ubestT (S := S) HB.out (by simp [clD]) LN.out w _ hR lv).mono ?_
            rintro e w101 ⟨rfl, k101⟩
            have hR := hR.moved k101
            have lv := lv.below k101
            have bel := hthen bel k101
            clear k101
            go_upto_region 16 with fail
            obtain ⟨w102, hw102⟩ : ∃ x, w101.alloc (.cells #[.int .i64 0, .string (bstr [])] 28) = x := ⟨_, rfl⟩
            obtain ⟨ibu, hibu⟩ : ∃ i, w101.heap.size = i := ⟨_, rfl⟩
            have bu : Blk w102 ibu 28 #[.int .i64 0, .string (bstr [])] := by rw [← hw102, ← hibu]; exact Blk.new _ _ _
            have k102 : Below w101.heap.size w101 w102 := by rw [← hw102]; exact (Below.refl _ _).alloc (Nat.le_refl _) _
            have zbu : w102.heap.size = ibu + 1 := by rw [← hw102, ← hibu]; simp
            rw [hw102, hibu]
            have nSbu : ¬ S ibu := fun e => by have := lv.o.lt _ e; omega
            have hR := hR.moved k102
            have lv := lv.below k102
            have bel := hthen bel k102
            clear k102
            clear hw102 hibu
            have buc0 := bu.cell 0
            have buc1 := bu.cell 1
            simp at buc0 buc1
            have bult := bu.lt
            go_wp2_with fail
            refine (live_ok _ hR).mono ?_
            rintro e w103 ⟨rfl, k103⟩
            clear buc0 buc1 bult
            have bu := bu.below k103 bu.lt
            have hR := hR.moved k103
            have lv := lv.below k103
            have bel := hthen bel k103
            clear k103
            go_wp2
            go_ret
            exact ⟨rfl, bel⟩
end Go.Proofs.YtcamcjcmhjldpaaDoor
