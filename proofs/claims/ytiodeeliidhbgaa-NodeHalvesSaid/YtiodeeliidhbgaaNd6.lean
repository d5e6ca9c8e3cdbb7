/- slices.BinarySearch at strings: what it finds in a list in order; Find of package node, and of the reference 09: contracts. -/
import Derived.Test.YtiodeeliidhbgaaNd5
import Derived.Deep.LoopGhost
import Derived.WalkLawsBesides
namespace Go.Proofs.Ytiodeeliidhbgaa
open Go Go.RowKit
set_option linter.unusedSimpArgs false
set_option linter.unnecessarySimpa false
set_option linter.unusedVariables false

theorem cnan_any (x : ByteArray) (w : World) : Calls Try.prog 66 #[.string x] w fun e w' => e = .returned (.bool false) ∧ w' = w := by
  go_enter Try.func66, Try.ntmps66
  go_wp2
  go_ret
  exact ⟨by simp, rfl⟩
theorem snan_any (x : ByteArray) (w : World) : Calls Try.prog 60 #[.string x] w fun e w' => e = .returned (.bool false) ∧ w' = w := by
  go_enter Try.func60, Try.ntmps60
  go_wp2
  go_ret
  exact ⟨by simp, rfl⟩
theorem cless_any (x y : List UInt8) (w : World) : Calls Try.prog 59 #[.string (bstr x), .string (bstr y)] w fun e w' => e = .returned (.bool (Op.bytesLess x y)) ∧ w' = w := by
  go_enter Try.func59, Try.ntmps59
  go_wp2_with (go_at_call 66; refine (cnan_any _ _).mono ?_; rintro e w' ⟨rfl, rfl⟩)
  go_ret
  exact ⟨rfl, rfl⟩
theorem cless_to {x y : List UInt8} {b : Bool} (h : Op.bytesLess x y = b) (w : World) : Calls Try.prog 59 #[.string (bstr x), .string (bstr y)] w fun e w' => e = .returned (.bool b) ∧ w' = w := h ▸ cless_any x y w

/-- place p parts what lies below a key from the rest -/
structure Parts (ks : List (List UInt8)) (key : List UInt8) (p : Nat) : Prop where
  le : p ≤ ks.length
  lo : ∀ j, j < p → Op.bytesLess (ks.getD j []) key = true
  hi : ∀ j, p ≤ j → j < ks.length → Op.bytesLess (ks.getD j []) key = false
def isAt (ks : List (List UInt8)) (key : List UInt8) (p : Nat) : Bool := decide (p < ks.length ∧ ks.getD p [] = key)

set_option maxRecDepth 100000 in
set_option maxHeartbeats 2000000 in
theorem bs_any (v : Value) (ks : List (List UInt8)) (key : List UInt8) (p : Nat) (hp : Parts ks key p) (hn : ks.length ≤ 1000000) (w : World) (h : SsAt w v ks) :
    Calls Try.prog 41 #[v, .string (bstr key)] w fun e w' => e = .returned (.tuple #[.int .i64 (p : Nat), .bool (isAt ks key p)]) ∧ w' = w := by
  obtain ⟨A, c, rfl⟩ := h.form
  have H := Lib.hid h
  have HP := Lib.hid hp
  have hple := hp.le
  clear h hp
  go_enter Try.func41, Try.ntmps41
  go_wp2_with fail
  go_loop [7, 8] (fun i j => ∃ lo hi : Nat, i = .int .i64 lo ∧ j = .int .i64 hi ∧ lo ≤ p ∧ p ≤ hi ∧ hi ≤ ks.length) (fun i j => (intOf j).toNat - (intOf i).toNat)
  case atStart => exact ⟨0, ks.length, rfl, rfl, Nat.zero_le _, hple, Nat.le_refl _⟩
  case round =>
    obtain ⟨lo, hi, rfl, rfl, h1, h2, h3⟩ := hrel
    by_cases hlt : lo < hi
    · have q1 : decide ((lo : Int) < hi) = true := decide_eq_true (by omega)
      obtain ⟨m, hm⟩ : ∃ m : Nat, ((lo : Int) + hi) / 2 = m := ⟨(lo + hi) / 2, by omega⟩
      have hm1 : m < hi := by omega
      have hm2 : lo ≤ m := by omega
      have T0 : (0 : Int) ≤ m := by omega
      have T1 : (m : Int) < ks.length := by omega
      obtain ⟨ad, rfl, c1⟩ := H.out.cell (Below.refl _ _) (j := m) (by omega)
      have hlo := HP.out.lo m
      have hhi := fun e => HP.out.hi m e (by omega)
      obtain ⟨X, hX⟩ : ∃ y, ks.getD m [] = y := ⟨_, rfl⟩
      rw [hX] at c1 hlo hhi
      clear hX
      cases hls : Op.bytesLess X key
      · have hpm : p ≤ m := by
          refine Nat.le_of_not_lt fun e => ?_
          rw [hlo e] at hls
          cases hls
        have HLS := Lib.hid hls
        clear hlo hhi hls
        go_wp2_with (go_at_call 59; refine (cless_to HLS.out _).mono ?_; rintro e w' ⟨rfl, rfl⟩)
        go_round
        case rel => exact ⟨lo, m, rfl, rfl, h1, hpm, by omega⟩
        case measure => simp [intOf]; omega
      · have hpm : m + 1 ≤ p := by
          refine Nat.lt_of_not_le fun e => ?_
          rw [hhi e] at hls
          cases hls
        have HLS := Lib.hid hls
        clear hlo hhi hls
        go_wp2_with (go_at_call 59; refine (cless_to HLS.out _).mono ?_; rintro e w' ⟨rfl, rfl⟩)
        go_round
        case rel => exact ⟨m + 1, hi, by go_num, rfl, hpm, h2, by omega⟩
        case measure => simp [intOf]; omega
    · obtain rfl : lo = p := by omega
      obtain rfl : hi = lo := by omega
      have q1 : decide ((hi : Int) < hi) = false := by simp
      by_cases hl : hi < ks.length
      · have q2 : decide ((hi : Int) < ks.length) = true := decide_eq_true (by omega)
        have T0 : (0 : Int) ≤ hi := by omega
        have T1 : (hi : Int) < ks.length := by omega
        obtain ⟨ad, rfl, c1⟩ := H.out.cell (Below.refl _ _) hl
        have hat : isAt ks key hi = decide (ks.getD hi [] = key) := by unfold isAt; simp [hl]
        obtain ⟨X, hX⟩ : ∃ y, ks.getD hi [] = y := ⟨_, rfl⟩
        rw [hX] at c1 hat
        clear hX
        by_cases hx : X = key
        · subst hx
          have HAT : Hid (isAt ks X hi = true) := Lib.hid (by rw [hat]; simp)
          have q3 : (X == X) = true := by simp
          clear hat
          go_wp2
          go_ret2
          exact ⟨by rw [HAT.out]; rfl, rfl⟩
        · have HAT : Hid (isAt ks key hi = false) := Lib.hid (by rw [hat]; exact decide_eq_false hx)
          have q3 : (X == key) = false := beq_eq_false_iff_ne.2 hx
          clear hat
          go_wp2_with (go_at_call 60; refine (snan_any _ _).mono ?_; rintro e w' ⟨rfl, rfl⟩)
          go_ret2
          exact ⟨by rw [HAT.out]; rfl, rfl⟩
      · have q2 : decide ((hi : Int) < ks.length) = false := decide_eq_false (by omega)
        have HAT : Hid (isAt ks key hi = false) := Lib.hid (by unfold isAt; exact decide_eq_false fun e => hl e.1)
        go_wp2
        go_ret2
        exact ⟨by rw [HAT.out]; rfl, rfl⟩
end Go.Proofs.Ytiodeeliidhbgaa
