/- The laws of package sum that reach the program alone: SumShape, SumHex. -/
import Derived.Test.YtppckmfaidpliaaDoorLaws02
import Derived.IntWalk
namespace Go.Proofs.YtppckmfaidpliaaDoor
open Go.RowKit
set_option linter.unusedSimpArgs false
set_option linter.unnecessarySimpa false
set_option linter.unusedVariables false

theorem shaL_len (s : List UInt8) : (shaL s).length = 32 := by
  rw [shaL, Sw.digest, H8.bytes, flat_len]
  rfl
theorem hexL_append (a b : List UInt8) : hexL (a ++ b) = hexL a ++ hexL b := by simp [hexL]
def unh (c : UInt8) : Nat := if c.toNat < 58 then c.toNat - 48 else c.toNat - 87
theorem unh_hex (n : Nat) (h : n < 16) : unh (hexD n) = n := by
  have : ∀ n : Fin 16, unh (hexD n.val) = n.val := by decide
  exact this ⟨n, h⟩
theorem hexB_inj {b c : UInt8} (h : hexB b = hexB c) : b = c := by
  simp only [hexB, List.cons.injEq, and_true] at h
  have hb := b.toNat_lt
  have hc := c.toNat_lt
  have h1 := congrArg unh h.1
  have h2 := congrArg unh h.2
  rw [unh_hex _ (by omega), unh_hex _ (by omega)] at h1
  rw [unh_hex _ (by omega), unh_hex _ (by omega)] at h2
  exact UInt8.toNat_inj.1 (by omega)
theorem hexL_inj : ∀ {a b : List UInt8}, hexL a = hexL b → a = b
  | [], [], _ => rfl
  | [], c :: b, h => by have := congrArg List.length h; rw [hexL_len, hexL_len] at this; simp at this
  | c :: a, [], h => by have := congrArg List.length h; rw [hexL_len, hexL_len] at this; simp at this
  | c :: a, d :: b, h => by
    have e : ∀ x l, hexL (x :: l) = hexB x ++ hexL l := fun _ _ => rfl
    rw [e, e] at h
    obtain ⟨h1, h2⟩ := List.append_inj h rfl
    rw [hexB_inj h1, hexL_inj h2]
theorem hexL_beq (a b : List UInt8) : (hexL a == hexL b) = (a == b) := by
  by_cases h : a = b
  · subst h; simp
  · have h' : hexL a ≠ hexL b := fun e => h (hexL_inj e)
    rw [beq_eq_false_iff_ne.2 h, beq_eq_false_iff_ne.2 h']

set_option maxRecDepth 100000 in
set_option maxHeartbeats 2000000 in
theorem sumShape_walk (w : World) (hR : RootsAt w) (a0 : List UInt8) (h0 : a0.length ≤ 140737488351232) :
    Calls Tryd.prog 7 #[.string (bstr a0)] w fun e w' => e = .returned (.bool true) ∧ Below w.heap.size w w' := by
  by_cases hl : 300 < a0.length
  · have hi : (300 : Int) < a0.length := by omega
    go_enter Tryd.func7, Tryd.ntmps7
    go_wp2_with fail
    refine (live_ok w hR).mono ?_
    rintro e w3 ⟨rfl, hb3⟩
    go_wp2
    go_ret
    exact ⟨rfl, hb3⟩
  · have hi : ¬ (300 : Int) < a0.length := by omega
    go_enter Tryd.func7, Tryd.ntmps7
    go_wp2_with fail
    refine (of_any a0 (by omega) w hR).mono ?_
    rintro e w1 ⟨rfl, hb1⟩
    have hd := shaL_len a0
    obtain ⟨D, hD⟩ : ∃ D, shaL a0 = D := ⟨_, rfl⟩
    rw [hD] at hd ⊢
    have HD := Lib.hid hD
    clear hD
    go_wp2_with fail
    refine (of_any a0 (by omega) w1 (hR.below hb1 hR.1)).mono ?_
    rintro e w2 ⟨rfl, hb2⟩
    have hb2' := below_then hb1 hb2
    rw [HD.out]
    go_wp2_with fail
    refine (hex_any D (by omega) w2).mono ?_
    rintro e w3 ⟨rfl, hb3⟩
    have hb3' := below_then hb2' hb3
    have hxl : (hexL D).length = 64 := by rw [hexL_len, hd]
    go_wp2_with fail
    refine (live_ok w3 (hR.below hb3' hR.1)).mono ?_
    rintro e w4 ⟨rfl, hb4⟩
    have hb4' := below_then hb3' hb4
    go_wp2
    go_ret
    exact ⟨rfl, hb4'⟩

set_option maxRecDepth 100000 in
set_option maxHeartbeats 2000000 in
theorem sumHex_walk (w : World) (hR : RootsAt w) (a0 : List UInt8) (h0 : a0.length ≤ 140737488351232) (a1 : List UInt8) (h1 : a1.length ≤ 140737488351232) :
    Calls Tryd.prog 8 #[.string (bstr a0), .string (bstr a1)] w fun e w' => e = .returned (.bool true) ∧ Below w.heap.size w w' := by
  by_cases hl : 300 < a0.length
  · have hi : (300 : Int) < a0.length := by omega
    go_enter Tryd.func8, Tryd.ntmps8
    go_wp2_with fail
    refine (live_ok w hR).mono ?_
    rintro e w3 ⟨rfl, hb3⟩
    go_wp2
    go_ret
    exact ⟨rfl, hb3⟩
  · have hi : ¬ (300 : Int) < a0.length := by omega
    by_cases hl1 : 300 < a1.length
    · have hi1 : (300 : Int) < a1.length := by omega
      go_enter Tryd.func8, Tryd.ntmps8
      go_wp2_with fail
      refine (live_ok w hR).mono ?_
      rintro e w3 ⟨rfl, hb3⟩
      go_wp2
      go_ret
      exact ⟨rfl, hb3⟩
    · have hi1 : ¬ (300 : Int) < a1.length := by omega
      have hc1 : ¬ 9223372036854775807 < a0.length + a1.length := by omega
      have hx0 := hexL_len a0
      have hx1 := hexL_len a1
      have hbe := hexL_beq a0 a1
      have hap := hexL_append a0 a1
      obtain ⟨X0, e0⟩ : ∃ X, hexL a0 = X := ⟨_, rfl⟩
      obtain ⟨X1, e1⟩ : ∃ X, hexL a1 = X := ⟨_, rfl⟩
      rw [e0] at hx0 hbe hap
      rw [e1] at hx1 hbe hap
      have E0 := Lib.hid e0
      have E1 := Lib.hid e1
      have HAP := Lib.hid hap
      have hc2 : ¬ 9223372036854775807 < X0.length + X1.length := by omega
      have hc3 : ¬ 9223372036854775807 < 2 * a0.length + 2 * a1.length := by omega
      have hw2 : IntKind.i64.wrap (2 * (a0.length : Int)) = 2 * (a0.length : Int) := IntWalk.i64_in _ ⟨by omega, by omega⟩
      clear e0 e1 hap
      go_enter Tryd.func8, Tryd.ntmps8
      go_wp2_with fail
      refine (hex_any (a0 ++ a1) (by rw [List.length_append]; omega) w).mono ?_
      rintro e w1 ⟨rfl, hb1⟩
      rw [HAP.out]
      go_wp2_with fail
      refine (hex_any a0 (by omega) w1).mono ?_
      rintro e w2 ⟨rfl, hb2⟩
      have hb2' := below_then hb1 hb2
      rw [E0.out]
      go_wp2_with fail
      refine (hex_any a1 (by omega) w2).mono ?_
      rintro e w3 ⟨rfl, hb3⟩
      have hb3' := below_then hb2' hb3
      rw [E1.out]
      go_wp2_with fail
      refine (hex_any a0 (by omega) w3).mono ?_
      rintro e w4 ⟨rfl, hb4⟩
      have hb4' := below_then hb3' hb4
      rw [E0.out]
      go_wp2_with fail
      refine (hex_any a0 (by omega) w4).mono ?_
      rintro e w5 ⟨rfl, hb5⟩
      have hb5' := below_then hb4' hb5
      rw [E0.out]
      go_wp2_with fail
      refine (hex_any a1 (by omega) w5).mono ?_
      rintro e w6 ⟨rfl, hb6⟩
      have hb6' := below_then hb5' hb6
      rw [E1.out]
      go_wp2_with fail
      refine (live_ok w6 (hR.below hb6' hR.1)).mono ?_
      rintro e w7 ⟨rfl, hb7⟩
      have hb7' := below_then hb6' hb7
      go_wp2
      go_ret
      exact ⟨rfl, hb7'⟩
end Go.Proofs.YtppckmfaidpliaaDoor
