/- The reference of package sum: above. -/
import Derived.Test.YtppckmfaidpliaaDoorRs2
namespace Go.Proofs.YtppckmfaidpliaaDoor
open Go.RowKit
set_option linter.unusedSimpArgs false
set_option linter.unnecessarySimpa false
set_option linter.unusedVariables false

/-- a slice of these numbers, to be read -/
def NumsAt (w : World) (v : Value) (l : List Nat) : Prop := ∃ g c, v = .slice (some ⟨g, 0, none⟩) l.length c ∧ ∀ j, j < l.length → w.cell? ⟨g, j, none⟩ = some (.int .i64 (l.getD j 0 : Nat))
def aboveN (a b : List Nat) : Nat → Bool
  | 0 => false
  | i + 1 => if a.getD i 0 ≠ b.getD i 0 then decide (b.getD i 0 < a.getD i 0) else aboveN a b i

set_option maxHeartbeats 2000000 in
theorem above_any (a b : List Nat) (va vb : Value) (ha : a.length ≤ 1000) (hb : b.length ≤ 1000) (w : World) (h1 : NumsAt w va a) (h2 : NumsAt w vb b) :
    Calls Tryd.prog 30 #[va, vb] w fun e w' => e = .returned (.bool (aboveN a b (max a.length b.length))) ∧ w' = w := by
  obtain ⟨g, c, rfl, hA⟩ := h1
  obtain ⟨g', c', rfl, hB⟩ := h2
  have HA := Lib.hid hA
  have HB := Lib.hid hB
  clear hA hB
  obtain ⟨m, hm⟩ : ∃ m, max a.length b.length = m := ⟨_, rfl⟩
  have hml : m ≤ 1000 := by omega
  have hmx : (if (a.length : Int) < b.length then (b.length : Int) else a.length) = m := by split <;> omega
  have hmx2 : max (a.length : Int) (b.length : Int) = m := by omega
  rw [hm]
  have HM := Lib.hid hm
  clear hm
  go_enter Tryd.func30, Tryd.ntmps30
  go_wp2_with fail
  go_loopw [5] (fun i wr => ∃ k : Nat, ∃ z : Int, k ≤ m ∧ z = (k : Int) - 1 ∧ i = .int .i64 z ∧ aboveN a b k = aboveN a b m ∧ wr = w) (fun i _ => (intOf i + 1).toNat)
  case atStart => exact ⟨m, _, Nat.le_refl _, rfl, by go_num, rfl, rfl⟩
  case round =>
    obtain ⟨k, z, hk, hz, rfl, hR, rfl⟩ := hrel
    have HR := Lib.hid hR
    clear hR
    cases k with
    | zero =>
      obtain rfl : z = -1 := by omega
      clear hz
      have hR2 : aboveN a b m = false := by rw [← HR.out]; rfl
      have HR2 := Lib.hid hR2
      clear hR2
      go_wp2
      go_ret
      exact ⟨by rw [HR2.out]; first | rfl | (simp [Int.ofNat_lt]; done) | simp, rfl⟩
    | succ j =>
      obtain rfl : z = (j : Int) := by omega
      clear hz
      have hj0 : (0 : Int) ≤ j := by omega
      have q1 : decide ((j : Int) ≥ 0) = true := decide_eq_true (by omega)
      obtain ⟨X, hX⟩ : ∃ X, a.getD j 0 = X := ⟨_, rfl⟩
      obtain ⟨Y, hY⟩ : ∃ Y, b.getD j 0 = Y := ⟨_, rfl⟩
      have HX := Lib.hid hX
      have HY := Lib.hid hY
      by_cases ja : j < a.length
      · have q2 : decide ((j : Int) < a.length) = true := decide_eq_true (by omega)
        have cA := HA.out j ja
        rw [hX] at cA
        by_cases jb : j < b.length
        · have q3 : decide ((j : Int) < b.length) = true := decide_eq_true (by omega)
          have cB := HB.out j jb
          rw [hY] at cB
          clear hX hY
          by_cases hne : (X : Int) = Y
          · have q4 : ((X : Int) != Y) = false := bne_eq_false_iff_eq.2 hne
            have hR2 : aboveN a b j = aboveN a b m := by rw [← HR.out, aboveN, HX.out, HY.out, if_neg (by omega)]
            have HR2 := Lib.hid hR2
            clear hR2
            go_wp2
            go_round
            case rel => exact ⟨j, (j : Int) - 1, by omega, rfl, by go_num, HR2.out, by first | rfl | trivial⟩
            case measure => simp [intOf] <;> omega
          · have q4 : ((X : Int) != Y) = true := bne_iff_ne.2 hne
            have hR2 : aboveN a b m = decide ((Y : Int) < X) := by
              rw [← HR.out, aboveN, HX.out, HY.out, if_pos (by omega)]
              exact decide_eq_decide.2 (by omega)
            have HR2 := Lib.hid hR2
            clear hR2
            go_wp2
            go_ret
            exact ⟨by rw [HR2.out]; first | rfl | (simp [Int.ofNat_lt]; done) | simp, rfl⟩
        · have q3 : decide ((j : Int) < b.length) = false := decide_eq_false (by omega)
          obtain rfl : Y = 0 := by rw [← hY]; simp [List.getD, Nat.le_of_not_lt jb]
          clear hX hY
          by_cases hne : (X : Int) = 0
          · have q4 : ((X : Int) != 0) = false := bne_eq_false_iff_eq.2 hne
            have hR2 : aboveN a b j = aboveN a b m := by rw [← HR.out, aboveN, HX.out, HY.out, if_neg (by omega)]
            have HR2 := Lib.hid hR2
            clear hR2
            go_wp2
            go_round
            case rel => exact ⟨j, (j : Int) - 1, by omega, rfl, by go_num, HR2.out, by first | rfl | trivial⟩
            case measure => simp [intOf] <;> omega
          · have q4 : ((X : Int) != 0) = true := bne_iff_ne.2 hne
            have hR2 : aboveN a b m = decide ((0 : Int) < X) := by
              rw [← HR.out, aboveN, HX.out, HY.out, if_pos (by omega)]
              exact decide_eq_decide.2 (by omega)
            have HR2 := Lib.hid hR2
            clear hR2
            go_wp2
            go_ret
            exact ⟨by rw [HR2.out]; first | rfl | (simp [Int.ofNat_lt]; done) | simp, rfl⟩
      · have q2 : decide ((j : Int) < a.length) = false := decide_eq_false (by omega)
        obtain rfl : X = 0 := by rw [← hX]; simp [List.getD, Nat.le_of_not_lt ja]
        by_cases jb : j < b.length
        · have q3 : decide ((j : Int) < b.length) = true := decide_eq_true (by omega)
          have cB := HB.out j jb
          rw [hY] at cB
          clear hX hY
          by_cases hne : (0 : Int) = Y
          · have q4 : ((0 : Int) != Y) = false := bne_eq_false_iff_eq.2 hne
            have hR2 : aboveN a b j = aboveN a b m := by rw [← HR.out, aboveN, HX.out, HY.out, if_neg (by omega)]
            have HR2 := Lib.hid hR2
            clear hR2
            go_wp2
            go_round
            case rel => exact ⟨j, (j : Int) - 1, by omega, rfl, by go_num, HR2.out, by first | rfl | trivial⟩
            case measure => simp [intOf] <;> omega
          · have q4 : ((0 : Int) != Y) = true := bne_iff_ne.2 hne
            have hR2 : aboveN a b m = decide ((Y : Int) < 0) := by
              rw [← HR.out, aboveN, HX.out, HY.out, if_pos (by omega)]
              exact decide_eq_decide.2 (by omega)
            have HR2 := Lib.hid hR2
            clear hR2
            go_wp2
            go_ret
            exact ⟨by rw [HR2.out]; first | rfl | (simp [Int.ofNat_lt]; done) | simp, rfl⟩
        · exact absurd HM.out (by omega)
end Go.Proofs.YtppckmfaidpliaaDoor
