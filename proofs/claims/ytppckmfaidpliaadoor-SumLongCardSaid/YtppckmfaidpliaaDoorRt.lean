/- The reference of package sum: Pad: its contract. Written by wip/gen_pad.py. -/
import Derived.Test.YtppckmfaidpliaaDoorRs
import Derived.Test.YtppckmfaidpliaaDoorSm4
namespace Go.Proofs.YtppckmfaidpliaaDoor
open Go.RowKit
set_option linter.unusedSimpArgs false
set_option linter.unnecessarySimpa false
set_option linter.unusedVariables false

def padL (s : List UInt8) : List UInt8 := s ++ 128 :: (List.replicate ((119 - s.length % 64) % 64) 0 ++ lenB s.length 8)
set_option maxRecDepth 100000 in
set_option maxHeartbeats 4000000 in
theorem pad_any (s : List UInt8) (hs : s.length ≤ 1000) (w : World) :
    Calls Tryd.prog 20 #[.string (bstr s)] w fun e w' => e = .returned (.string (bstr (padL s))) ∧ Below w.heap.size w w' := by
  obtain ⟨n, hn⟩ : ∃ n, s.length = n := ⟨_, rfl⟩
  obtain ⟨m, hm⟩ : ∃ m, (119 - s.length % 64) % 64 = m := ⟨_, rfl⟩
  have hml : m < 64 := by omega
  have hP : padL s = s ++ 128 :: (List.replicate m 0 ++ lenB n 8) := by rw [padL, hm, hn]
  have HP := Lib.hid hP
  clear hP
  have hm2 : m = (119 - n % 64) % 64 := by omega
  have HM := Lib.hid hm2
  clear hm hm2
  rw [hn] at hs
  have hcat0 : ¬ 9223372036854775807 < s.length + 1 := by omega
  have h81 : bstr s ++ (ByteArray.mk #[128]) = bstr (s ++ [128]) := bstr_append s [128]
  have w8 : IntKind.i64.wrap (8 * (n : Int)) = 8 * (n : Int) := IntWalk.i64_in _ ⟨by omega, by omega⟩
  go_enter Tryd.func20, Tryd.ntmps20
  go_wp2_with fail
  go_loopw [0] (fun t wr => ∃ k : Nat, k ≤ m ∧ t = .string (bstr (s ++ 128 :: List.replicate k 0)) ∧ wr = w) (fun t _ => n + 65 - slen t)
  case atStart => exact ⟨0, by omega, rfl, rfl⟩
  case round =>
    obtain ⟨k, hk, rfl, rfl⟩ := hrel
    obtain ⟨t, ht⟩ : ∃ t, s ++ 128 :: List.replicate k 0 = t := ⟨_, rfl⟩
    have htl : t.length = n + 1 + k := by rw [← ht]; simp; omega
    have HT := Lib.hid ht
    rw [ht]
    clear ht
    obtain ⟨L, hL⟩ : ∃ L, t.length = L := ⟨_, rfl⟩
    have hcat : ¬ 9223372036854775807 < L + 1 := by omega
    have HL := Lib.hid (show L = n + 1 + k by omega)
    clear htl
    by_cases hlt : k < m
    · have hc : (L : Int) % 64 ≠ 56 := by
        have := HM.out
        have := HL.out
        omega
      have q1 : ((L : Int) % 64 != 56) = true := bne_iff_ne.2 hc
      have hap : t ++ [0] = s ++ 128 :: List.replicate (k + 1) 0 := by
        rw [← HT.out, List.replicate_succ']
        simp
      have HA := Lib.hid hap
      clear hap hc
      go_wp2
      go_round
      case rel => exact ⟨k + 1, by omega, by rw [← HA.out], by first | rfl | trivial⟩
      case measure => first | (simp [slen_bstr]; have := HL.out; omega) | (simp [slen_bstr] <;> omega)
    · have hc : (L : Int) % 64 = 56 := by
        have := HM.out
        have := HL.out
        omega
      have q1 : ((L : Int) % 64 != 56) = false := bne_eq_false_iff_eq.2 hc
      obtain rfl : k = m := by omega
      have HT2 := Lib.hid (show s ++ 128 :: (List.replicate k 0 ++ lenB n 0) = t by rw [← HT.out]; simp [lenB])
      go_wp2_with fail
      go_loopw [0, 4] (fun t i wv => ∃ q : Nat, ∃ z : Int, q ≤ 8 ∧ z = 7 - q ∧ i = .int .i64 z ∧ t = .string (bstr (s ++ 128 :: (List.replicate k 0 ++ lenB n q))) ∧ Below wr.heap.size wr wv) (fun _ i _ => (intOf i + 8).toNat)
      case atStart => exact ⟨0, 7, by omega, by omega, rfl, by rw [HT2.out], Below.refl _ _⟩
      case round =>
        clear HT2 HT q1 hc hL hcat
        obtain ⟨q, z, hq, hz, rfl, rfl, hb⟩ := hrel
        obtain ⟨t, ht⟩ : ∃ t, s ++ 128 :: (List.replicate k 0 ++ lenB n q) = t := ⟨_, rfl⟩
        have htl : t.length ≤ n + 80 := by rw [← ht]; simp [lenB_len]; omega
        have hcat : ¬ 9223372036854775807 < t.length + 1 := by omega
        have HT := Lib.hid ht
        rw [ht]
        clear ht
        have hN1 : (0 : Int) ≤ n := by omega
        have : q = 0 ∨ q = 1 ∨ q = 2 ∨ q = 3 ∨ q = 4 ∨ q = 5 ∨ q = 6 ∨ q = 7 ∨ q = 8 := by omega
        rcases this with rfl | rfl | rfl | rfl | rfl | rfl | rfl | rfl | rfl
        · obtain rfl : z = 7 := by omega
          clear hz
          have hcv := run_byte_one_new (P := Tryd.prog) wr Tryd.underlying33 Tryd.underlying5 Tryd.underlying9 (8 * (n : Int) / 72057594037927936) (UInt8.ofNat (8 * n / 72057594037927936 % 256)) (by simp <;> omega)
          have hto : t ++ [UInt8.ofNat (8 * n / 72057594037927936 % 256)] = s ++ 128 :: (List.replicate k 0 ++ lenB n 1) := by rw [← HT.out]; simp [lenB]
          have HTO := Lib.hid hto
          clear hto
          go_wp2
          go_round
          case rel => exact ⟨1, 6, by omega, by omega, rfl, by rw [← HTO.out], hb.alloc hb.size _⟩
          case measure => simp [intOf]
        · obtain rfl : z = 6 := by omega
          clear hz
          have hcv := run_byte_one_new (P := Tryd.prog) wr Tryd.underlying33 Tryd.underlying5 Tryd.underlying9 (8 * (n : Int) / 281474976710656) (UInt8.ofNat (8 * n / 281474976710656 % 256)) (by simp <;> omega)
          have hto : t ++ [UInt8.ofNat (8 * n / 281474976710656 % 256)] = s ++ 128 :: (List.replicate k 0 ++ lenB n 2) := by rw [← HT.out]; simp [lenB]
          have HTO := Lib.hid hto
          clear hto
          go_wp2
          go_round
          case rel => exact ⟨2, 5, by omega, by omega, rfl, by rw [← HTO.out], hb.alloc hb.size _⟩
          case measure => simp [intOf]
        · obtain rfl : z = 5 := by omega
          clear hz
          have hcv := run_byte_one_new (P := Tryd.prog) wr Tryd.underlying33 Tryd.underlying5 Tryd.underlying9 (8 * (n : Int) / 1099511627776) (UInt8.ofNat (8 * n / 1099511627776 % 256)) (by simp <;> omega)
          have hto : t ++ [UInt8.ofNat (8 * n / 1099511627776 % 256)] = s ++ 128 :: (List.replicate k 0 ++ lenB n 3) := by rw [← HT.out]; simp [lenB]
          have HTO := Lib.hid hto
          clear hto
          go_wp2
          go_round
          case rel => exact ⟨3, 4, by omega, by omega, rfl, by rw [← HTO.out], hb.alloc hb.size _⟩
          case measure => simp [intOf]
        · obtain rfl : z = 4 := by omega
          clear hz
          have hcv := run_byte_one_new (P := Tryd.prog) wr Tryd.underlying33 Tryd.underlying5 Tryd.underlying9 (8 * (n : Int) / 4294967296) (UInt8.ofNat (8 * n / 4294967296 % 256)) (by simp <;> omega)
          have hto : t ++ [UInt8.ofNat (8 * n / 4294967296 % 256)] = s ++ 128 :: (List.replicate k 0 ++ lenB n 4) := by rw [← HT.out]; simp [lenB]
          have HTO := Lib.hid hto
          clear hto
          go_wp2
          go_round
          case rel => exact ⟨4, 3, by omega, by omega, rfl, by rw [← HTO.out], hb.alloc hb.size _⟩
          case measure => simp [intOf]
        · obtain rfl : z = 3 := by omega
          clear hz
          have hcv := run_byte_one_new (P := Tryd.prog) wr Tryd.underlying33 Tryd.underlying5 Tryd.underlying9 (8 * (n : Int) / 16777216) (UInt8.ofNat (8 * n / 16777216 % 256)) (by simp <;> omega)
          have hto : t ++ [UInt8.ofNat (8 * n / 16777216 % 256)] = s ++ 128 :: (List.replicate k 0 ++ lenB n 5) := by rw [← HT.out]; simp [lenB]
          have HTO := Lib.hid hto
          clear hto
          go_wp2
          go_round
          case rel => exact ⟨5, 2, by omega, by omega, rfl, by rw [← HTO.out], hb.alloc hb.size _⟩
          case measure => simp [intOf]
        · obtain rfl : z = 2 := by omega
          clear hz
          have hcv := run_byte_one_new (P := Tryd.prog) wr Tryd.underlying33 Tryd.underlying5 Tryd.underlying9 (8 * (n : Int) / 65536) (UInt8.ofNat (8 * n / 65536 % 256)) (by simp <;> omega)
          have hto : t ++ [UInt8.ofNat (8 * n / 65536 % 256)] = s ++ 128 :: (List.replicate k 0 ++ lenB n 6) := by rw [← HT.out]; simp [lenB]
          have HTO := Lib.hid hto
          clear hto
          go_wp2
          go_round
          case rel => exact ⟨6, 1, by omega, by omega, rfl, by rw [← HTO.out], hb.alloc hb.size _⟩
          case measure => simp [intOf]
        · obtain rfl : z = 1 := by omega
          clear hz
          have hcv := run_byte_one_new (P := Tryd.prog) wr Tryd.underlying33 Tryd.underlying5 Tryd.underlying9 (8 * (n : Int) / 256) (UInt8.ofNat (8 * n / 256 % 256)) (by simp <;> omega)
          have hto : t ++ [UInt8.ofNat (8 * n / 256 % 256)] = s ++ 128 :: (List.replicate k 0 ++ lenB n 7) := by rw [← HT.out]; simp [lenB]
          have HTO := Lib.hid hto
          clear hto
          go_wp2
          go_round
          case rel => exact ⟨7, 0, by omega, by omega, rfl, by rw [← HTO.out], hb.alloc hb.size _⟩
          case measure => simp [intOf]
        · obtain rfl : z = 0 := by omega
          clear hz
          have hcv := run_byte_one_new (P := Tryd.prog) wr Tryd.underlying33 Tryd.underlying5 Tryd.underlying9 (8 * (n : Int) % 256) (UInt8.ofNat (8 * n % 256)) (by simp <;> omega)
          have hto : t ++ [UInt8.ofNat (8 * n % 256)] = s ++ 128 :: (List.replicate k 0 ++ lenB n 8) := by rw [← HT.out]; simp [lenB]
          have HTO := Lib.hid hto
          clear hto
          go_wp2
          go_round
          case rel => exact ⟨8, -1, by omega, by omega, rfl, by rw [← HTO.out], hb.alloc hb.size _⟩
          case measure => simp [intOf]
        · obtain rfl : z = -1 := by omega
          clear hz
          have HF := Lib.hid (show padL s = t by rw [HP.out, HT.out])
          go_wp2
          go_ret
          exact ⟨by rw [HF.out]; rfl, hb⟩
end Go.Proofs.YtppckmfaidpliaaDoor
