/- Several texts in one. A digest of parts: plain part. The reference of package sum: Pad: its contract. Written by wip/gen_pad.py. The reference of package sum: one: words; turn and word leave the world as it is. The reference of package sum: Hex: its contract; append of several elements at once. The reference of package sum: one: its contract. The reference of package sum: Of: plain part. Written by a line of Python: the list of primes. The reference of package sum: Of: its contract. -/
import Derived.Test.YtmdjbmhjnajpgaaDoorSm5
import Derived.Test.YtmdjbmhjnajpgaaDoorRs9b
import Derived.StillTailTactics
import Derived.Test.YtmdjbmhjnajpgaaDoorStl
namespace Go.Proofs.YtmdjbmhjnajpgaaDoor
open Go.RowKit
set_option linter.unusedSimpArgs false
set_option linter.unnecessarySimpa false
set_option linter.unusedVariables false

theorem feed_app : ∀ (k m : Nat) (h : H8) (X : List UInt8), H8.feed (k + m) h X = H8.feed m (H8.feed k h X) (X.drop (64 * k))
  | 0, m, h, X => by rw [Nat.zero_add, H8.feed, Nat.mul_zero, List.drop_zero]
  | k + 1, m, h, X => by
    rw [show k + 1 + m = (k + m) + 1 by omega, H8.feed, H8.feed, feed_app k m, List.drop_drop, show 64 * (k + 1) = 64 + 64 * k by omega]
theorem feed_more : ∀ (k : Nat) (h : H8) (X Y : List UInt8), 64 * k ≤ X.length → H8.feed k h (X ++ Y) = H8.feed k h X
  | 0, h, X, Y, _ => rfl
  | k + 1, h, X, Y, hk => by
    rw [H8.feed, H8.feed, List.take_append_of_le_length (by omega), List.drop_append_of_le_length (by omega), feed_more k _ _ _ (by rw [List.length_drop]; omega)]
theorem write_write (d : Sw) (s t : List UInt8) : (d.write s).write t = d.write (s ++ t) := by
  obtain ⟨h, r, n⟩ := d
  simp only [Sw.write, ← List.append_assoc]
  obtain ⟨R, hR⟩ : ∃ R, r ++ s = R := ⟨_, rfl⟩
  rw [hR]
  obtain ⟨k, hk⟩ : ∃ k, R.length / 64 = k := ⟨_, rfl⟩
  rw [hk]
  have hkl : 64 * k ≤ R.length := by omega
  have hd : R.drop (k * 64) ++ t = (R ++ t).drop (64 * k) := by rw [List.drop_append_of_le_length hkl, Nat.mul_comm]
  rw [hd]
  obtain ⟨m, hm⟩ : ∃ m, ((R ++ t).drop (64 * k)).length / 64 = m := ⟨_, rfl⟩
  rw [hm]
  have hkm : (R ++ t).length / 64 = k + m := by
    rw [List.length_drop] at hm
    simp only [List.length_append] at hm ⊢
    omega
  rw [hkm, feed_app, feed_more k h R t hkl, List.drop_drop, show 64 * k + m * 64 = (k + m) * 64 by omega]
  simp [Nat.add_assoc]
end Go.Proofs.YtmdjbmhjnajpgaaDoor
namespace Go.Proofs.YtmdjbmhjnajpgaaDoor
open Go.RowKit
set_option linter.unusedSimpArgs false
set_option linter.unnecessarySimpa false
set_option linter.unusedVariables false

def padL (s : List UInt8) : List UInt8 := s ++ 128 :: (List.replicate ((119 - s.length % 64) % 64) 0 ++ lenB s.length 8)
set_option maxRecDepth 100000 in
set_option maxHeartbeats 4000000 in
theorem pad_any (s : List UInt8) (hs : s.length ≤ 8000) (w : World) :
    Calls Tryd.prog 45 #[.string (bstr s)] w fun e w' => e = .returned (.string (bstr (padL s))) ∧ Below w.heap.size w w' := by
  obtain ⟨n, hn⟩ : ∃ n, s.length = n := ⟨_, rfl⟩
  obtain ⟨m, hm⟩ : ∃ m, (119 - s.length % 64) % 64 = m := ⟨_, rfl⟩
  have hml : m < 64 := by omega
  have hP : padL s = s ++ 128 :: (List.replicate m 0 ++ lenB n 8) := by rw [padL, hm, hn]
  have HP := Lib.hid hP
  clear hP
  have hm2 : m = (119 - n % 64) % 64 := by omega
  have HM := Lib.hid hm2
  clear hm hm2
  rw [hn] at hs
  have hcat0 : ¬ 9223372036854775807 < s.length + 1 := by omega
  have h81 : bstr s ++ (ByteArray.mk #[128]) = bstr (s ++ [128]) := bstr_append s [128]
  have w8 : IntKind.i64.wrap (8 * (n : Int)) = 8 * (n : Int) := IntWalk.i64_in _ ⟨by omega, by omega⟩
  go_enter Tryd.func45, Tryd.ntmps45
  go_wp2_with fail
  go_loopw [0] (fun t wr => ∃ k : Nat, k ≤ m ∧ t = .string (bstr (s ++ 128 :: List.replicate k 0)) ∧ wr = w) (fun t _ => n + 65 - slen t)
  case atStart => exact ⟨0, by omega, rfl, rfl⟩
  case round =>
    obtain ⟨k, hk, rfl, rfl⟩ := hrel
    obtain ⟨t, ht⟩ : ∃ t, s ++ 128 :: List.replicate k 0 = t := ⟨_, rfl⟩
    have htl : t.length = n + 1 + k := by rw [← ht]; simp; omega
    have HT := Lib.hid ht
    rw [ht]
    clear ht
    obtain ⟨L, hL⟩ : ∃ L, t.length = L := ⟨_, rfl⟩
    have hcat : ¬ 9223372036854775807 < L + 1 := by omega
    have HL := Lib.hid (show L = n + 1 + k by omega)
    clear htl
    by_cases hlt : k < m
    · have hc : (L : Int) % 64 ≠ 56 := by
        have := HM.out
        have := HL.out
        omega
      have q1 : ((L : Int) % 64 != 56) = true := bne_iff_ne.2 hc
      have hap : t ++ [0] = s ++ 128 :: List.replicate (k + 1) 0 := by
        rw [← HT.out, List.replicate_succ']
        simp
      have HA := Lib.hid hap
      clear hap hc
      go_wp2
      go_round
      case rel => exact ⟨k + 1, by omega, by rw [← HA.out], by first | rfl | trivial⟩
      case measure => first | (simp [slen_bstr]; have := HL.out; omega) | (simp [slen_bstr] <;> omega)
    · have hc : (L : Int) % 64 = 56 := by
        have := HM.out
        have := HL.out
        omega
      have q1 : ((L : Int) % 64 != 56) = false := bne_eq_false_iff_eq.2 hc
      obtain rfl : k = m := by omega
      have HT2 := Lib.hid (show s ++ 128 :: (List.replicate k 0 ++ lenB n 0) = t by rw [← HT.out]; simp [lenB])
      go_wp2_with fail
      go_loopw [0, 4] (fun t i wv => ∃ q : Nat, ∃ z : Int, q ≤ 8 ∧ z = 7 - q ∧ i = .int .i64 z ∧ t = .string (bstr (s ++ 128 :: (List.replicate k 0 ++ lenB n q))) ∧ Below wr.heap.size wr wv) (fun _ i _ => (intOf i + 8).toNat)
      case atStart => exact ⟨0, 7, by omega, by omega, rfl, by rw [HT2.out], Below.refl _ _⟩
      case round =>
        clear HT2 HT q1 hc hL hcat
        obtain ⟨q, z, hq, hz, rfl, rfl, hb⟩ := hrel
        obtain ⟨t, ht⟩ : ∃ t, s ++ 128 :: (List.replicate k 0 ++ lenB n q) = t := ⟨_, rfl⟩
        have htl : t.length ≤ n + 80 := by rw [← ht]; simp [lenB_len]; omega
        have hcat : ¬ 9223372036854775807 < t.length + 1 := by omega
        have HT := Lib.hid ht
        rw [ht]
        clear ht
        have hN1 : (0 : Int) ≤ n := by omega
        have : q = 0 ∨ q = 1 ∨ q = 2 ∨ q = 3 ∨ q = 4 ∨ q = 5 ∨ q = 6 ∨ q = 7 ∨ q = 8 := by omega
        rcases this with rfl | rfl | rfl | rfl | rfl | rfl | rfl | rfl | rfl
        · obtain rfl : z = 7 := by omega
          clear hz
          have hcv := run_byte_one_new (P := Tryd.prog) wr Tryd.underlying84 Tryd.underlying5 Tryd.underlying9 (8 * (n : Int) / 72057594037927936) (UInt8.ofNat (8 * n / 72057594037927936 % 256)) (by simp <;> omega)
          have hto : t ++ [UInt8.ofNat (8 * n / 72057594037927936 % 256)] = s ++ 128 :: (List.replicate k 0 ++ lenB n 1) := by rw [← HT.out]; simp [lenB]
          have HTO := Lib.hid hto
          clear hto
          go_wp2
          go_round
          case rel => exact ⟨1, 6, by omega, by omega, rfl, by rw [← HTO.out], hb.alloc hb.size _⟩
          case measure => simp [intOf]
        · obtain rfl : z = 6 := by omega
          clear hz
          have hcv := run_byte_one_new (P := Tryd.prog) wr Tryd.underlying84 Tryd.underlying5 Tryd.underlying9 (8 * (n : Int) / 281474976710656) (UInt8.ofNat (8 * n / 281474976710656 % 256)) (by simp <;> omega)
          have hto : t ++ [UInt8.ofNat (8 * n / 281474976710656 % 256)] = s ++ 128 :: (List.replicate k 0 ++ lenB n 2) := by rw [← HT.out]; simp [lenB]
          have HTO := Lib.hid hto
          clear hto
          go_wp2
          go_round
          case rel => exact ⟨2, 5, by omega, by omega, rfl, by rw [← HTO.out], hb.alloc hb.size _⟩
          case measure => simp [intOf]
        · obtain rfl : z = 5 := by omega
          clear hz
          have hcv := run_byte_one_new (P := Tryd.prog) wr Tryd.underlying84 Tryd.underlying5 Tryd.underlying9 (8 * (n : Int) / 1099511627776) (UInt8.ofNat (8 * n / 1099511627776 % 256)) (by simp <;> omega)
          have hto : t ++ [UInt8.ofNat (8 * n / 1099511627776 % 256)] = s ++ 128 :: (List.replicate k 0 ++ lenB n 3) := by rw [← HT.out]; simp [lenB]
          have HTO := Lib.hid hto
          clear hto
          go_wp2
          go_round
          case rel => exact ⟨3, 4, by omega, by omega, rfl, by rw [← HTO.out], hb.alloc hb.size _⟩
          case measure => simp [intOf]
        · obtain rfl : z = 4 := by omega
          clear hz
          have hcv := run_byte_one_new (P := Tryd.prog) wr Tryd.underlying84 Tryd.underlying5 Tryd.underlying9 (8 * (n : Int) / 4294967296) (UInt8.ofNat (8 * n / 4294967296 % 256)) (by simp <;> omega)
          have hto : t ++ [UInt8.ofNat (8 * n / 4294967296 % 256)] = s ++ 128 :: (List.replicate k 0 ++ lenB n 4) := by rw [← HT.out]; simp [lenB]
          have HTO := Lib.hid hto
          clear hto
          go_wp2
          go_round
          case rel => exact ⟨4, 3, by omega, by omega, rfl, by rw [← HTO.out], hb.alloc hb.size _⟩
          case measure => simp [intOf]
        · obtain rfl : z = 3 := by omega
          clear hz
          have hcv := run_byte_one_new (P := Tryd.prog) wr Tryd.underlying84 Tryd.underlying5 Tryd.underlying9 (8 * (n : Int) / 16777216) (UInt8.ofNat (8 * n / 16777216 % 256)) (by simp <;> omega)
          have hto : t ++ [UInt8.ofNat (8 * n / 16777216 % 256)] = s ++ 128 :: (List.replicate k 0 ++ lenB n 5) := by rw [← HT.out]; simp [lenB]
          have HTO := Lib.hid hto
          clear hto
          go_wp2
          go_round
          case rel => exact ⟨5, 2, by omega, by omega, rfl, by rw [← HTO.out], hb.alloc hb.size _⟩
          case measure => simp [intOf]
        · obtain rfl : z = 2 := by omega
          clear hz
          have hcv := run_byte_one_new (P := Tryd.prog) wr Tryd.underlying84 Tryd.underlying5 Tryd.underlying9 (8 * (n : Int) / 65536) (UInt8.ofNat (8 * n / 65536 % 256)) (by simp <;> omega)
          have hto : t ++ [UInt8.ofNat (8 * n / 65536 % 256)] = s ++ 128 :: (List.replicate k 0 ++ lenB n 6) := by rw [← HT.out]; simp [lenB]
          have HTO := Lib.hid hto
          clear hto
          go_wp2
          go_round
          case rel => exact ⟨6, 1, by omega, by omega, rfl, by rw [← HTO.out], hb.alloc hb.size _⟩
          case measure => simp [intOf]
        · obtain rfl : z = 1 := by omega
          clear hz
          have hcv := run_byte_one_new (P := Tryd.prog) wr Tryd.underlying84 Tryd.underlying5 Tryd.underlying9 (8 * (n : Int) / 256) (UInt8.ofNat (8 * n / 256 % 256)) (by simp <;> omega)
          have hto : t ++ [UInt8.ofNat (8 * n / 256 % 256)] = s ++ 128 :: (List.replicate k 0 ++ lenB n 7) := by rw [← HT.out]; simp [lenB]
          have HTO := Lib.hid hto
          clear hto
          go_wp2
          go_round
          case rel => exact ⟨7, 0, by omega, by omega, rfl, by rw [← HTO.out], hb.alloc hb.size _⟩
          case measure => simp [intOf]
        · obtain rfl : z = 0 := by omega
          clear hz
          have hcv := run_byte_one_new (P := Tryd.prog) wr Tryd.underlying84 Tryd.underlying5 Tryd.underlying9 (8 * (n : Int) % 256) (UInt8.ofNat (8 * n % 256)) (by simp <;> omega)
          have hto : t ++ [UInt8.ofNat (8 * n % 256)] = s ++ 128 :: (List.replicate k 0 ++ lenB n 8) := by rw [← HT.out]; simp [lenB]
          have HTO := Lib.hid hto
          clear hto
          go_wp2
          go_round
          case rel => exact ⟨8, -1, by omega, by omega, rfl, by rw [← HTO.out], hb.alloc hb.size _⟩
          case measure => simp [intOf]
        · obtain rfl : z = -1 := by omega
          clear hz
          have HF := Lib.hid (show padL s = t by rw [HP.out, HT.out])
          go_wp2
          go_ret
          exact ⟨by rw [HF.out]; rfl, hb⟩
end Go.Proofs.YtmdjbmhjnajpgaaDoor
namespace Go.Proofs.YtmdjbmhjnajpgaaDoor
open Go.RowKit
set_option linter.unusedSimpArgs false
set_option linter.unnecessarySimpa false
set_option linter.unusedVariables false

set_option maxHeartbeats 1000000 in
theorem word_still (n : Int) (x : BitVec 32) (h0 : 0 ≤ n) (h : n % 4294967296 = u x) (w : World) :
    Calls Tryd.prog 59 #[.int .i64 n] w fun e w' => e = .returned (.int .i64 (u x)) ∧ w' = w := by
  have ht : n.tmod 4294967296 = u x := by rw [Int.tmod_eq_emod_of_nonneg h0, h]
  have hl := u_lo x
  have hh := u_hi x
  go_enter Tryd.func59, Tryd.ntmps59
  go_wp2
  go_ret
  exact ⟨rfl, rfl⟩

set_option maxHeartbeats 1000000 in
theorem turn_still (x : BitVec 32) (k : Nat) (h2 : 2 ≤ k) (hk : k ≤ 32) (w : World) :
    Calls Tryd.prog 60 #[.int .i64 (u x), .int .i64 k] w fun e w' => e = .returned (.int .i64 (u (rotr x k))) ∧ w' = w := by
  have h0 := u_lo x
  have h1 := u_hi x
  have e1 := u_shr x k
  have e2 := u_shl x (32 - k)
  have hp : (2 : Int) ^ (32 - k) ≤ 1073741824 := by
    have : (2 : Nat) ^ (32 - k) ≤ 1073741824 := Nat.pow_le_pow_right (n := 2) (j := 30) (by decide) (by omega)
    have h3 : ((2 ^ (32 - k) : Nat) : Int) ≤ 1073741824 := Int.ofNat_le.2 this
    rwa [Int.natCast_pow] at h3
  have hp0 : (0 : Int) < 2 ^ (32 - k) := by
    have : ((0 : Nat) : Int) < ((2 ^ (32 - k) : Nat) : Int) := Int.ofNat_lt.2 (Nat.pow_pos (by decide))
    rwa [Int.natCast_pow] at this
  have hm0 : 0 ≤ u x * (2 : Int) ^ (32 - k) := Int.mul_nonneg h0 (Int.le_of_lt hp0)
  have hm1 : u x * (2 : Int) ^ (32 - k) ≤ 4294967296 * 1073741824 := Int.mul_le_mul (Int.le_of_lt h1) hp (Int.le_of_lt hp0) (by decide)
  have e5 : IntKind.i64.wrap (u x * (2 : Int) ^ (32 - k)) = u x * (2 : Int) ^ (32 - k) := IntWalk.i64_in _ ⟨by omega, by omega⟩
  have e6 : (u x * (2 : Int) ^ (32 - k)).tmod 4294967296 = u (x <<< (32 - k)) := by rw [Int.tmod_eq_emod_of_nonneg hm0, e2]
  have e3 := x_or (x >>> k) (x <<< (32 - k))
  have e4 : ((32 : Int) - k).toNat = 32 - k := by omega
  have e7 : (k : Int) % 18446744073709551616 = k := by omega
  have e8 : ((32 : Int) - k) % 18446744073709551616 = 32 - k := by omega
  have e9 : IntKind.i64.wrap ((32 : Int) - k) = 32 - k := IntWalk.i64_in _ ⟨by omega, by omega⟩
  go_enter Tryd.func60, Tryd.ntmps60
  go_wp2
  go_ret
  exact ⟨rfl, rfl⟩

/-- cells of words, in numbers of 64 bits -/
def xv (l : List (BitVec 32)) : List Value := l.map fun x => Value.int .i64 (u x)
theorem xv_append (l : List (BitVec 32)) (x : BitVec 32) : xv l ++ [Value.int .i64 (u x)] = xv (l ++ [x]) := by simp [xv]
theorem xv_one (l : List (BitVec 32)) : ∀ v ∈ xv l, v.oneCell' = true := by
  intro v h
  simp only [xv, List.mem_map] at h
  obtain ⟨z, _, rfl⟩ := h
  rfl
theorem xv_len (l : List (BitVec 32)) : (xv l).length = l.length := by simp [xv]
/-- a slice of these words, to be read -/
def WordsAt (w : World) (v : Value) (l : List (BitVec 32)) : Prop := ∃ g c, v = .slice (some ⟨g, 0, none⟩) l.length c ∧ ∀ j, j < l.length → w.cell? ⟨g, j, none⟩ = some (.int .i64 (u (l.getD j 0)))
theorem words_own {w : World} {base n : Nat} {v : Value} {l : List (BitVec 32)} (h : w.ownsRow base 3 1 v n (xv l)) (hn : 0 < n) : WordsAt w v l := by
  have hl : l.length = n := by have := h.1; simpa [xv] using this
  have h0 := h
  rcases h.2 with ⟨rfl, hn⟩ | ⟨g, cap, cur, rfl, hg, hc, hr⟩
  · omega
  · refine ⟨g, cap, by rw [hl], fun j hj => ?_⟩
    rw [World.ownsRow.cellAt h0 j (by omega)]
    simp [xv, List.getD, hj]
theorem WordsAt.all {w w' : World} {v : Value} {l : List (BitVec 32)} (h : WordsAt w v l) (hb : Below w.heap.size w w') : WordsAt w' v l := by
  obtain ⟨g, c, rfl, hA⟩ := h
  exact ⟨g, c, rfl, fun j hj => by rw [hb.cell (p := ⟨g, j, none⟩) (cell_lt (hA j hj))]; exact hA j hj⟩
theorem byte_shl (b : UInt8) (k : Nat) (hk : k ≤ 24) : (b.toNat : Int) * 2 ^ k = u (byteW b <<< k) := by
  have hb := b.toNat_lt
  have h2 : (2 : Nat) ^ k ≤ 2 ^ 24 := Nat.pow_le_pow_right (by decide) hk
  have h3 : b.toNat * 2 ^ k ≤ 255 * 2 ^ 24 := Nat.mul_le_mul (by omega) h2
  have h4 : (255 : Nat) * 2 ^ 24 < 4294967296 := by decide
  have := u_shl (byteW b) k
  rw [← u_byte] at this
  rw [← this]
  have e : (b.toNat : Int) * 2 ^ k = ((b.toNat * 2 ^ k : Nat) : Int) := by rw [Int.natCast_mul, Int.natCast_pow]; rfl
  rw [e]
  omega
/-- four bytes are a word -/
theorem join_four (b0 b1 b2 b3 : UInt8) : bits .or .i64 (bits .or .i64 (bits .or .i64 ((b0.toNat : Int) * 16777216) ((b1.toNat : Int) * 65536)) ((b2.toNat : Int) * 256)) (b3.toNat : Int) = u (((((((0 : BitVec 32) <<< 8) ||| byteW b0) <<< 8) ||| byteW b1) <<< 8 ||| byteW b2) <<< 8 ||| byteW b3) := by
  have e0 := byte_shl b0 24 (by omega)
  have e1 := byte_shl b1 16 (by omega)
  have e2 := byte_shl b2 8 (by omega)
  have n0 : (2 : Int) ^ 24 = 16777216 := by decide
  have n1 : (2 : Int) ^ 16 = 65536 := by decide
  have n2 : (2 : Int) ^ 8 = 256 := by decide
  rw [n0] at e0
  rw [n1] at e1
  rw [n2] at e2
  rw [e0, e1, e2, u_byte b3, x_or, x_or, x_or]
  congr 1
  apply BitVec.eq_of_getLsbD_eq
  intro i hi
  have : i < 32 := hi
  simp only [BitVec.getLsbD_or, BitVec.getLsbD_shiftLeft, BitVec.getLsbD_zero, Bool.false_or, Bool.and_false, Bool.and_or_distrib_left]
  simp only [show i - 8 - 8 = i - 16 by omega, show i - 16 - 8 = i - 24 by omega, show i - 8 - 8 - 8 = i - 24 by omega]
  by_cases h1 : i < 8
  · simp [h1, show i < 16 by omega, show i < 24 by omega]
  · by_cases h2 : i < 16
    · simp [h1, h2, show i < 24 by omega, show i - 8 < 8 by omega, show i < 32 by omega, show i - 8 < 32 by omega]
    · by_cases h3 : i < 24
      · simp [h1, h2, h3, this, show ¬ i - 8 < 8 by omega, show i - 16 < 8 by omega, show i - 8 < 32 by omega, show i - 16 < 32 by omega]
      · simp [h1, h2, h3, this, show ¬ i - 8 < 8 by omega, show ¬ i - 16 < 8 by omega, show i - 8 < 32 by omega, show i - 16 < 32 by omega, show i - 24 < 32 by omega]
theorem join_to (s : List UInt8) (k : Nat) : joinW s k 4 = (((((((0 : BitVec 32) <<< 8) ||| byteW (s.getD k 0)) <<< 8) ||| byteW (s.getD (k + 1) 0)) <<< 8 ||| byteW (s.getD (k + 2) 0)) <<< 8 ||| byteW (s.getD (k + 3) 0)) := rfl
end Go.Proofs.YtmdjbmhjnajpgaaDoor
namespace Go.Proofs.YtmdjbmhjnajpgaaDoor
open Go.RowKit
set_option linter.unusedSimpArgs false
set_option linter.unnecessarySimpa false
set_option linter.unusedVariables false

/-- append of m elements that have just been laid -/
theorem wpList_appm {P : Program} {ops : Array Oper} {rest : List Oper} {o : Oper} {a : Act} {Q : Exit → Act → World → Prop} (w : World) (hg : o.guard = none) (s x : Operand) (t : TypeId)
    (hop : o.op = .call { callee := .builtin .append, args := #[s, x], argTypes := #[t, t] })
    (B : Nat) (e : TypeId) (z : Value) (size bytes : Nat) (hu : P.underlying t = some (.slice e)) (hi : (P.info? e).map (fun i => (i.zero, i.size, i.bytes)) = some (some z, size, bytes))
    (hzs : z.cells.size = size) (hsz : 0 < size) (v : Value) (n m : Nat) (xs : List Value) (hs : a.eval s = v) (hown : w.ownsRow B e size v n xs)
    (us : List Value) (hx : a.eval x = .slice (some ⟨w.heap.size, 0, none⟩) m m) (hl : us.length = m * size) (h1 : ∀ u ∈ us, u.oneCell' = true)
    (hm : 0 < m) (h63 : n + m ≤ maxLen) (hbytes : (n + m) * bytes ≤ 140737488355328) (hB : B ≤ w.heap.size)
    (h : ∀ v' w', w'.ownsRow B e size v' (n + m) (xs ++ us) → (w.alloc (.cells us.toArray e)).grownBy w' v.ownBlock → Below B w w' → wpList P ops Q rest (a.put o.dst v') w') :
    wpList P ops Q (o :: rest) a (w.alloc (.cells us.toArray e)) := by
  obtain ⟨i0, hi0, hz0, hz1, hz2⟩ := info_parts hi
  have hb := Blk.new w e us.toArray
  refine wpList_append_own (P := P) _ hg s x t hop B e i0 z size bytes hu hi0 hz0 hz1 hz2 hzs hsz v n xs hs (hown.alloc _) ⟨w.heap.size, 0, none⟩ m m us hx hl ?_ h1 h63 hbytes (by simp; omega) ?_
  · intro j u hj
    have : (⟨w.heap.size, 0, none⟩ : Addr).add j = ⟨w.heap.size, j, none⟩ := by unfold Addr.add; split <;> simp_all
    rw [this, hb.cell]
    simpa using hj
  · intro v' w' hown' hgrow _
    refine h v' w' hown' hgrow ?_
    refine ((Below.refl B w).alloc hB _).grown hgrow (by simp; omega) ?_
    intro k hk
    exact (hown.lt k hk).1
theorem drow {w : World} {base : Nat} {e : TypeId} {size n : Nat} {v : Value} {xs : List Value} (h : w.ownsRow base e size v n xs) : w.drew.ownsRow base e size v n xs := h
theorem run_byte_at (s : List UInt8) (k : Nat) (hk : k < s.length) (z : Int) (hz : z = k) (w : World) : (Instr.index 9 (.string (bstr s)) (.int .i64 z)).run Tryd.prog w = .ok (.int .u8 ((s.getD k 0).toNat : Int)) w := by
  subst hz
  simp [Instr.index, run_underlying Tryd.underlying9, asIntOf, go_sem, part, bstr, hk, List.getD]

end Go.Proofs.YtmdjbmhjnajpgaaDoor
namespace Go.Proofs.YtmdjbmhjnajpgaaDoor
open Go.RowKit
set_option linter.unusedSimpArgs false
set_option linter.unnecessarySimpa false
set_option linter.unusedVariables false

theorem run_byte (s : List UInt8) (k : Nat) (hk : k < s.length) (z : Int) (hz : z = k) (w : World) : (Instr.index 9 (.string (bstr s)) (.int .i64 z)).run Tryd.prog w = .ok (.int .u8 ((s.getD k 0).toNat : Int)) w := by
  subst hz
  simp [Instr.index, run_underlying Tryd.underlying9, asIntOf, go_sem, part, bstr, hk, List.getD]
theorem shr_to (x : BitVec 32) (k : Nat) (d : Int) (hd : (2 : Int) ^ k = d) : u x / d = u (x >>> k) := by rw [← hd]; exact u_shr x k
theorem sum4_mod (a b c d : BitVec 32) : (u a + u b + u c + u d) % 4294967296 = u (a + b + c + d) := by
  unfold u
  simp only [BitVec.toNat_add]
  omega
theorem sum5_mod (a b c d e : BitVec 32) : (u a + u b + u c + u d + u e) % 4294967296 = u (a + b + c + d + e) := by
  unfold u
  simp only [BitVec.toNat_add]
  omega
theorem row_up {w : World} {base base' : Nat} {e : TypeId} {size n : Nat} {v : Value} {xs : List Value} (h : w.ownsRow base e size v n xs) (hb : base' ≤ base) : w.ownsRow base' e size v n xs := by
  rcases h.2 with h0 | ⟨g, cap, cur, rfl, h1, h2⟩
  · exact ⟨h.1, .inl h0⟩
  · exact ⟨h.1, .inr ⟨g, cap, cur, rfl, Nat.le_trans hb h1, h2⟩⟩
/-- a slice of these eight words, to be read -/
def Words8 (w : World) (v : Value) (y : H8) : Prop := ∃ g c, v = .slice (some ⟨g, 0, none⟩) 8 c ∧ w.cell? ⟨g, 0, none⟩ = some (.int .i64 (u y.a)) ∧ w.cell? ⟨g, 1, none⟩ = some (.int .i64 (u y.b)) ∧ w.cell? ⟨g, 2, none⟩ = some (.int .i64 (u y.c)) ∧ w.cell? ⟨g, 3, none⟩ = some (.int .i64 (u y.d)) ∧
  w.cell? ⟨g, 4, none⟩ = some (.int .i64 (u y.e)) ∧ w.cell? ⟨g, 5, none⟩ = some (.int .i64 (u y.f)) ∧ w.cell? ⟨g, 6, none⟩ = some (.int .i64 (u y.g)) ∧ w.cell? ⟨g, 7, none⟩ = some (.int .i64 (u y.h))
theorem words8 {w : World} {v : Value} {y : H8} (h : WordsAt w v y.l) : Words8 w v y := by
  obtain ⟨g, c, rfl, hA⟩ := h
  exact ⟨g, c, rfl, hA 0 (show 0 < 8 by decide), hA 1 (show 1 < 8 by decide), hA 2 (show 2 < 8 by decide), hA 3 (show 3 < 8 by decide), hA 4 (show 4 < 8 by decide), hA 5 (show 5 < 8 by decide), hA 6 (show 6 < 8 by decide), hA 7 (show 7 < 8 by decide)⟩
theorem Words8.at {w : World} {v : Value} {y : H8} (h : Words8 w v y) : WordsAt w v y.l := by
  obtain ⟨g, c, rfl, h0, h1, h2, h3, h4, h5, h6, h7⟩ := h
  refine ⟨g, c, rfl, fun j hj => ?_⟩
  have : j < 8 := hj
  have : j = 0 ∨ j = 1 ∨ j = 2 ∨ j = 3 ∨ j = 4 ∨ j = 5 ∨ j = 6 ∨ j = 7 := by omega
  rcases this with rfl | rfl | rfl | rfl | rfl | rfl | rfl | rfl <;> assumption
theorem words8_blk {w : World} {g : Nat} {y : H8} (h : Blk w g 3 #[.int .i64 (u y.a), .int .i64 (u y.b), .int .i64 (u y.c), .int .i64 (u y.d), .int .i64 (u y.e), .int .i64 (u y.f), .int .i64 (u y.g), .int .i64 (u y.h)]) : Words8 w (.slice (some ⟨g, 0, none⟩) 8 8) y :=
  ⟨g, 8, rfl, h.cell 0, h.cell 1, h.cell 2, h.cell 3, h.cell 4, h.cell 5, h.cell 6, h.cell 7⟩
theorem add_l (x y : H8) : (x.add y).l = [x.a + y.a, x.b + y.b, x.c + y.c, x.d + y.d, x.e + y.e, x.f + y.f, x.g + y.g, x.h + y.h] := rfl
theorem add_take (x y : H8) (j : Nat) (hj : j < 8) : (x.add y).l.take (j + 1) = (x.add y).l.take j ++ [x.l.getD j 0 + y.l.getD j 0] := by
  have : j = 0 ∨ j = 1 ∨ j = 2 ∨ j = 3 ∨ j = 4 ∨ j = 5 ∨ j = 6 ∨ j = 7 := by omega
  rcases this with rfl | rfl | rfl | rfl | rfl | rfl | rfl | rfl <;> rfl
theorem drew_row {w : World} {base : Nat} {e : TypeId} {size n : Nat} {v : Value} {xs : List Value} (h : w.ownsRow base e size v n xs) : w.drew.ownsRow base e size v n xs := h
set_option maxRecDepth 100000 in
set_option maxHeartbeats 4000000 in
theorem one_any (x : H8) (s : List UInt8) (hs : s.length = 64) (hv kv : Value) (w : World) (h1 : WordsAt w hv x.l) (h2 : WordsAt w kv rootsW) :
    Calls Tryd.prog 46 #[hv, .string (bstr s), kv] w fun e w' => ∃ v, e = .returned v ∧ w'.ownsRow w.heap.size 3 1 v 8 (xv (x.behind s).l) ∧ Below w.heap.size w w' := by
  go_enter Tryd.func46, Tryd.ntmps46
  go_wp2_with fail
  go_loopw [7, 8] (fun v i wr => ∃ t : Nat, t ≤ 64 ∧ i = .int .i64 t ∧ wr.ownsRow w.heap.size 3 1 v t (xv (schedW s t)) ∧ Below w.heap.size w wr) (fun _ i _ => 64 - (intOf i).toNat)
  case atStart => exact ⟨0, by omega, rfl, World.ownsRow_nil _ _ _ _, Below.refl _ _⟩
  case round =>
    obtain ⟨t, ht, rfl, hown, hbl⟩ := hrel
    by_cases hlt : t < 64
    · have q1 : decide ((t : Int) < 64) = true := decide_eq_true (by omega)
      by_cases hl16 : t < 16
      · have q2 : decide ((t : Int) < 16) = true := decide_eq_true (by omega)
        have hnx : schedW s (t + 1) = schedW s t ++ [joinW s (4 * t) 4] := by rw [schedW, if_pos hl16]
        rw [join_to] at hnx
        have r0 := run_byte s (4 * t) (by omega) (4 * (t : Int)) (by omega)
        have r1 := run_byte s (4 * t + 1) (by omega) (4 * (t : Int) + 1) (by omega)
        have r2 := run_byte s (4 * t + 2) (by omega) (4 * (t : Int) + 2) (by omega)
        have r3 := run_byte s (4 * t + 3) (by omega) (4 * (t : Int) + 3) (by omega)
        obtain ⟨b0, h0⟩ : ∃ b, s.getD (4 * t) 0 = b := ⟨_, rfl⟩
        obtain ⟨b1, h1⟩ : ∃ b, s.getD (4 * t + 1) 0 = b := ⟨_, rfl⟩
        obtain ⟨b2, h2⟩ : ∃ b, s.getD (4 * t + 2) 0 = b := ⟨_, rfl⟩
        obtain ⟨b3, h3⟩ : ∃ b, s.getD (4 * t + 3) 0 = b := ⟨_, rfl⟩
        rw [h0, h1, h2, h3] at hnx
        rw [h0] at r0
        rw [h1] at r1
        rw [h2] at r2
        rw [h3] at r3
        have l0 := b0.toNat_lt
        have l1 := b1.toNat_lt
        have l2 := b2.toNat_lt
        have l3 := b3.toNat_lt
        have w0 : IntKind.i64.wrap (4 * (t : Int)) = 4 * t := IntWalk.i64_in _ ⟨by omega, by omega⟩
        have w1 : IntKind.i64.wrap (4 * (t : Int) + 1) = 4 * t + 1 := IntWalk.i64_in _ ⟨by omega, by omega⟩
        have w2 : IntKind.i64.wrap (4 * (t : Int) + 2) = 4 * t + 2 := IntWalk.i64_in _ ⟨by omega, by omega⟩
        have w3 : IntKind.i64.wrap (4 * (t : Int) + 3) = 4 * t + 3 := IntWalk.i64_in _ ⟨by omega, by omega⟩
        have v0 : IntKind.i64.wrap ((b0.toNat : Int) * 16777216) = b0.toNat * 16777216 := IntWalk.i64_in _ ⟨by omega, by omega⟩
        have v1 : IntKind.i64.wrap ((b1.toNat : Int) * 65536) = b1.toNat * 65536 := IntWalk.i64_in _ ⟨by omega, by omega⟩
        have v2 : IntKind.i64.wrap ((b2.toNat : Int) * 256) = b2.toNat * 256 := IntWalk.i64_in _ ⟨by omega, by omega⟩
        have v3 : IntKind.i64.wrap (b3.toNat : Int) = b3.toNat := IntWalk.i64_in _ ⟨by omega, by omega⟩
        have hjo := join_four b0 b1 b2 b3
        have HNX := Lib.hid hnx
        have y0 : IntKind.i64.wrap (b0.toNat : Int) = b0.toNat := IntWalk.i64_in _ ⟨by omega, by omega⟩
        have y1 : IntKind.i64.wrap (b1.toNat : Int) = b1.toNat := IntWalk.i64_in _ ⟨by omega, by omega⟩
        have y2 : IntKind.i64.wrap (b2.toNat : Int) = b2.toNat := IntWalk.i64_in _ ⟨by omega, by omega⟩
        obtain ⟨X, hX⟩ : ∃ X, (((((((0 : BitVec 32) <<< 8) ||| byteW b0) <<< 8) ||| byteW b1) <<< 8 ||| byteW b2) <<< 8 ||| byteW b3) = X := ⟨_, rfl⟩
        rw [hX] at hjo
        have hnx2 : xv (schedW s t) ++ [Value.int .i64 (u X)] = xv (schedW s (t + 1)) := by rw [HNX.out, hX, xv_append]
        have HN2 := Lib.hid hnx2
        have F1 := Lib.hid (show t + 1 ≤ maxLen by unfold maxLen; omega)
        have F2 := Lib.hid (show (t + 1) * 8 ≤ 140737488355328 by omega)
        clear h0 h1 h2 h3 hnx hX hnx2
        go_wp2_with fail
        have hod := drew_row hown
        have hbd := hbl.drew
        obtain ⟨wd, hwd⟩ : ∃ y, wr.drew = y := ⟨_, rfl⟩
        rw [hwd] at hod hbd
        have hsz := hbd.size
        clear hown hbl
        refine wp_region_lag 30 (by kernel_rfl) (by kernel_rfl) rfl (.inl ⟨rfl, fun _ => rfl⟩) (fun _ _ _ h => h) ?_
        simp only [List.take_succ_cons, List.take_zero, List.drop_succ_cons, List.drop_zero]
        go_simp
        try rw [hwd]
        clear hwd
        repeat still_step
        refine wpStill_nil ?_
        go_wp2_with (at_builtin; refine wpList_app (P := Tryd.prog) _ rfl _ _ 80 rfl w.heap.size 3 (.int .i64 0) 1 8 Tryd.underlying80 int_info rfl (by decide) _ t _ rfl hod _ rfl rfl ?c1 F1.out F2.out hsz ?_)
        case c1 => intro u hu; simp at hu; subst hu; rfl
        intro v' w1 hown1 _ hb1
        rw [HN2.out] at hown1
        have hb9 := hbd.trans hb1
        go_wp2
        go_roundw
        case rel => exact ⟨t + 1, by omega, by go_num, hown1, hb9⟩
        case measure => simp [intOf] <;> omega
      · have q2 : decide ((t : Int) < 16) = false := decide_eq_false (by omega)
        have hnx : schedW s (t + 1) = schedW s t ++ [nextW (schedW s t) t] := by rw [schedW, if_neg hl16]
        obtain ⟨g, c, hv', hA⟩ := words_own hown (by omega)
        rw [schedW_len] at hv' hA
        subst hv'
        obtain ⟨m, hm⟩ : ∃ m, schedW s t = m := ⟨_, rfl⟩
        rw [hm] at hnx hown hA
        unfold nextW at hnx
        obtain ⟨j15, hj15⟩ : ∃ j, t - 15 = j := ⟨_, rfl⟩
        obtain ⟨j2, hj2⟩ : ∃ j, t - 2 = j := ⟨_, rfl⟩
        obtain ⟨j7, hj7⟩ : ∃ j, t - 7 = j := ⟨_, rfl⟩
        obtain ⟨j16, hj16⟩ : ∃ j, t - 16 = j := ⟨_, rfl⟩
        rw [hj15, hj2, hj7, hj16] at hnx
        have b15 : j15 < t := by omega
        have b2 : j2 < t := by omega
        have b7 : j7 < t := by omega
        have b16 : j16 < t := by omega
        have e15 : IntKind.i64.wrap ((t : Int) - 15) = j15 := by rw [IntWalk.i64_in _ ⟨by omega, by omega⟩]; omega
        have e2 : IntKind.i64.wrap ((t : Int) - 2) = j2 := by rw [IntWalk.i64_in _ ⟨by omega, by omega⟩]; omega
        have e7 : IntKind.i64.wrap ((t : Int) - 7) = j7 := by rw [IntWalk.i64_in _ ⟨by omega, by omega⟩]; omega
        have e16 : IntKind.i64.wrap ((t : Int) - 16) = j16 := by rw [IntWalk.i64_in _ ⟨by omega, by omega⟩]; omega
        have c15 := hA j15 b15
        have c2 := hA j2 b2
        have c7 := hA j7 b7
        have c16 := hA j16 b16
        obtain ⟨X15, hX15⟩ : ∃ y, m.getD j15 0 = y := ⟨_, rfl⟩
        obtain ⟨X2, hX2⟩ : ∃ y, m.getD j2 0 = y := ⟨_, rfl⟩
        obtain ⟨X7, hX7⟩ : ∃ y, m.getD j7 0 = y := ⟨_, rfl⟩
        obtain ⟨X16, hX16⟩ : ∃ y, m.getD j16 0 = y := ⟨_, rfl⟩
        rw [hX15] at c15
        rw [hX2] at c2
        rw [hX7] at c7
        rw [hX16] at c16
        rw [hX15, hX2, hX7, hX16] at hnx
        have hod := drew_row hown
        have hbd := hbl.drew
        obtain ⟨wd, hwd⟩ : ∃ y, wr.drew = y := ⟨_, rfl⟩
        have d7 : wd.cell? ⟨g, j7, none⟩ = some (.int .i64 (u X7)) := by rw [← hwd]; exact c7
        have d16 : wd.cell? ⟨g, j16, none⟩ = some (.int .i64 (u X16)) := by rw [← hwd]; exact c16
        rw [hwd] at hod hbd
        have hsz := hbd.size
        obtain ⟨S1, hS1⟩ : ∃ y, (rotr X2 17 ^^^ rotr X2 19) ^^^ (X2 >>> 10) = y := ⟨_, rfl⟩
        obtain ⟨S0, hS0⟩ : ∃ y, (rotr X15 7 ^^^ rotr X15 18) ^^^ (X15 >>> 3) = y := ⟨_, rfl⟩
        obtain ⟨R, hRR⟩ : ∃ y, S1 + X7 + S0 + X16 = y := ⟨_, rfl⟩
        rw [hS1, hS0, hRR] at hnx
        have T17 : Calls Tryd.prog 60 #[.int .i64 (u X2), .int .i64 17] wd fun e w' => e = .returned (.int .i64 (u (rotr X2 17))) ∧ w' = wd := turn_still X2 17 (by omega) (by omega) wd
        have T19 : Calls Tryd.prog 60 #[.int .i64 (u X2), .int .i64 19] wd fun e w' => e = .returned (.int .i64 (u (rotr X2 19))) ∧ w' = wd := turn_still X2 19 (by omega) (by omega) wd
        have T7 : Calls Tryd.prog 60 #[.int .i64 (u X15), .int .i64 7] wd fun e w' => e = .returned (.int .i64 (u (rotr X15 7))) ∧ w' = wd := turn_still X15 7 (by omega) (by omega) wd
        have T18 : Calls Tryd.prog 60 #[.int .i64 (u X15), .int .i64 18] wd fun e w' => e = .returned (.int .i64 (u (rotr X15 18))) ∧ w' = wd := turn_still X15 18 (by omega) (by omega) wd
        have sh10 := shr_to X2 10 1024 (by decide)
        have sh3 := shr_to X15 3 8 (by decide)
        have x1 := x_xor (rotr X2 17) (rotr X2 19)
        have x2 := x_xor (rotr X2 17 ^^^ rotr X2 19) (X2 >>> 10)
        have x3 := x_xor (rotr X15 7) (rotr X15 18)
        have x4 := x_xor (rotr X15 7 ^^^ rotr X15 18) (X15 >>> 3)
        rw [hS1] at x2
        rw [hS0] at x4
        have l1 := u_lo S1
        have h1' := u_hi S1
        have l2 := u_lo X7
        have h2' := u_hi X7
        have l3 := u_lo S0
        have h3' := u_hi S0
        have l4 := u_lo X16
        have h4' := u_hi X16
        have w1e : IntKind.i64.wrap (u S1 + u X7) = u S1 + u X7 := IntWalk.i64_in _ ⟨by omega, by omega⟩
        have w2e : IntKind.i64.wrap (u S1 + u X7 + u S0) = u S1 + u X7 + u S0 := IntWalk.i64_in _ ⟨by omega, by omega⟩
        have w3e : IntKind.i64.wrap (u S1 + u X7 + u S0 + u X16) = u S1 + u X7 + u S0 + u X16 := IntWalk.i64_in _ ⟨by omega, by omega⟩
        have hmod := sum4_mod S1 X7 S0 X16
        rw [hRR] at hmod
        have WD := word_still (u S1 + u X7 + u S0 + u X16) R (by omega) hmod wd
        have hnx2 : xv m ++ [Value.int .i64 (u R)] = xv (schedW s (t + 1)) := by rw [hnx, xv_append]
        have HN2 := Lib.hid hnx2
        have F1 := Lib.hid (show t + 1 ≤ maxLen by unfold maxLen; omega)
        have F2 := Lib.hid (show (t + 1) * 8 ≤ 140737488355328 by omega)
        clear hX15 hX2 hX7 hX16 hnx hnx2 hm hA hown hbl hmod hRR hS1 hS0 hj15 hj2 hj7 hj16
        go_wp2_with fail
        refine wp_region_lag 31 (by kernel_rfl) (by kernel_rfl) rfl (.inl ⟨rfl, fun _ => rfl⟩) (fun _ _ _ h => h) ?_
        simp only [List.take_succ_cons, List.take_zero, List.drop_succ_cons, List.drop_zero]
        go_simp
        try rw [hwd]
        clear hwd
        repeat still_step
        still_call T17
        repeat still_step
        still_call T19
        repeat still_step
        still_call T7
        repeat still_step
        still_call T18
        repeat still_step
        still_call WD
        repeat still_step
        refine wpStill_nil ?_
        go_wp2_with (at_builtin; refine wpList_app (P := Tryd.prog) _ rfl _ _ 80 rfl w.heap.size 3 (.int .i64 0) 1 8 Tryd.underlying80 int_info rfl (by decide) _ t _ rfl hod _ rfl rfl ?c1 F1.out F2.out hsz ?_)
        case c1 => intro u hu; simp at hu; subst hu; rfl
        intro v' w1 hown1 _ hb1
        rw [HN2.out] at hown1
        have hb9 := hbd.trans hb1
        go_wp2
        go_roundw
        case rel => exact ⟨t + 1, by omega, by go_num, hown1, hb9⟩
        case measure => simp [intOf] <;> omega
    · obtain rfl : t = 64 := by omega
      have q1 : decide ((64 : Int) < 64) = false := by decide
      have hS := words_own hown (by omega)
      have hH := h1.all hbl
      have hK := h2.all hbl
      obtain ⟨M, hM⟩ : ∃ M, schedW s 64 = M := ⟨_, rfl⟩
      have hMl : M.length = 64 := by rw [← hM, schedW_len]
      rw [hM] at hS
      have hbeh : x.behind s = x.add (x.rounds M 64) := by rw [H8.behind, hM]
      have HB := Lib.hid hbeh
      clear hbeh hM hown
      obtain ⟨gh, ch, hhv, hHA⟩ := hH
      obtain ⟨gs, csx, hsv, hSA⟩ := hS
      obtain ⟨gk, ck, hkv, hKA⟩ := hK
      rw [show x.l.length = 8 from rfl] at hhv
      rw [hMl] at hsv hSA
      rw [show rootsW.length = 64 from rfl] at hkv hKA
      subst hhv
      subst hsv
      subst hkv
      have HHA := Lib.hid hHA
      have HSA := Lib.hid hSA
      have HKA := Lib.hid hKA
      have hsz := hbl.size
      clear hHA hSA hKA h1 h2
      obtain ⟨i0, hi0, hz0, hz1, hz2⟩ := info_parts int_info
      go_wp2_with (at_builtin; refine wpList_append_own (P := Tryd.prog) _ rfl _ _ 80 rfl wr.heap.size 3 i0 (.int .i64 0) 1 8 Tryd.underlying80 hi0 hz0 hz1 hz2 rfl (by decide) _ 0 [] rfl (World.ownsRow_nil _ _ _ _) ⟨gh, 0, none⟩ 8 ch (xv x.l) rfl rfl ?c1 (xv_one _) (by unfold maxLen; omega) (by omega) (Nat.le_refl _) ?_)
      case c1 =>
        intro j y hj
        have hj2 : j < 8 := by
          rw [List.getElem?_eq_some_iff] at hj
          exact hj.1
        have : (⟨gh, 0, none⟩ : Addr).add j = ⟨gh, j, none⟩ := by unfold Addr.add; split <;> simp_all
        rw [this, HHA.out j hj2, ← hj]
        simp [xv, List.getD, show j < x.l.length from hj2]
      intro v2 w2 hown2 hgr2 _
      have hW2 := (words8 (words_own hown2 (by omega)))
      have hb2 : Below wr.heap.size wr w2 := (Below.refl _ _).grown hgr2 (Nat.le_refl _) (fun k hk => by cases hk)
      have hbl2 := bthen hbl hb2
      have HW2 := Lib.hid hW2
      clear hown2 hgr2 hW2
      go_wp2_with fail
      go_loopw [11, 12] (fun v i wv => ∃ t : Nat, t ≤ 64 ∧ i = .int .i64 t ∧ Words8 wv v (x.rounds M t) ∧ Below w2.heap.size w2 wv) (fun _ i _ => 64 - (intOf i).toNat)
      case atStart => exact ⟨0, by omega, rfl, HW2.out, Below.refl _ _⟩
      case round =>
        obtain ⟨t, ht, rfl, hW, hb⟩ := hrel
        by_cases hlt : t < 64
        · have q2 : decide ((t : Int) < 64) = true := decide_eq_true (by omega)
          obtain ⟨Y, hY⟩ : ∃ Y, x.rounds M t = Y := ⟨_, rfl⟩
          have hnx : x.rounds M (t + 1) = Y.round (rootsW.getD t 0) (M.getD t 0) := by rw [H8.rounds, hY]
          rw [hY] at hW
          have hbb := bthen hb2 hb
          have kc : wr.cell? ⟨gk, t, none⟩ = some (.int .i64 (u (rootsW.getD t 0))) := by rw [hbb.cell (p := ⟨gk, t, none⟩) (cell_lt (HKA.out t hlt))]; exact HKA.out t hlt
          have sc : wr.cell? ⟨gs, t, none⟩ = some (.int .i64 (u (M.getD t 0))) := by rw [hbb.cell (p := ⟨gs, t, none⟩) (cell_lt (HSA.out t hlt))]; exact HSA.out t hlt
          obtain ⟨KK, hKK⟩ : ∃ y, rootsW.getD t 0 = y := ⟨_, rfl⟩
          obtain ⟨SS, hSS⟩ : ∃ y, M.getD t 0 = y := ⟨_, rfl⟩
          rw [hKK] at kc hnx
          rw [hSS] at sc hnx
          clear hY hKK hSS
          obtain ⟨g, c, rfl, v0, v1, v2, v3, v4, v5, v6, v7⟩ := hW
          obtain ⟨A, B, C, D, E, F, G, H⟩ := Y
          simp only at v0 v1 v2 v3 v4 v5 v6 v7
          obtain ⟨SE, hSE⟩ : ∃ y, (rotr E 6 ^^^ rotr E 11) ^^^ rotr E 25 = y := ⟨_, rfl⟩
          obtain ⟨SA, hSA⟩ : ∃ y, (rotr A 2 ^^^ rotr A 13) ^^^ rotr A 22 = y := ⟨_, rfl⟩
          obtain ⟨CH, hCH⟩ : ∃ y, (E &&& F) ^^^ (~~~ E &&& G) = y := ⟨_, rfl⟩
          obtain ⟨MJ, hMJ⟩ : ∃ y, ((A &&& B) ^^^ (A &&& C)) ^^^ (B &&& C) = y := ⟨_, rfl⟩
          obtain ⟨T1, hT1⟩ : ∃ y, H + SE + CH + KK + SS = y := ⟨_, rfl⟩
          obtain ⟨T2, hT2⟩ : ∃ y, SA + MJ = y := ⟨_, rfl⟩
          have hnx2 : x.rounds M (t + 1) = ⟨T1 + T2, A, B, C, D + T1, E, F, G⟩ := by
            rw [hnx, H8.round, H8.t1, H8.t2]
            simp only [hSE, hSA, hCH, hMJ, hT1, hT2]
          have HNX := Lib.hid hnx2
          have T6 : ∀ w, Calls Tryd.prog 60 #[.int .i64 (u E), .int .i64 6] w fun e w' => e = .returned (.int .i64 (u (rotr E 6))) ∧ w' = w := fun w => turn_still E 6 (by omega) (by omega) w
          have T11 : ∀ w, Calls Tryd.prog 60 #[.int .i64 (u E), .int .i64 11] w fun e w' => e = .returned (.int .i64 (u (rotr E 11))) ∧ w' = w := fun w => turn_still E 11 (by omega) (by omega) w
          have T25 : ∀ w, Calls Tryd.prog 60 #[.int .i64 (u E), .int .i64 25] w fun e w' => e = .returned (.int .i64 (u (rotr E 25))) ∧ w' = w := fun w => turn_still E 25 (by omega) (by omega) w
          have T2' : ∀ w, Calls Tryd.prog 60 #[.int .i64 (u A), .int .i64 2] w fun e w' => e = .returned (.int .i64 (u (rotr A 2))) ∧ w' = w := fun w => turn_still A 2 (by omega) (by omega) w
          have T13 : ∀ w, Calls Tryd.prog 60 #[.int .i64 (u A), .int .i64 13] w fun e w' => e = .returned (.int .i64 (u (rotr A 13))) ∧ w' = w := fun w => turn_still A 13 (by omega) (by omega) w
          have T22 : ∀ w, Calls Tryd.prog 60 #[.int .i64 (u A), .int .i64 22] w fun e w' => e = .returned (.int .i64 (u (rotr A 22))) ∧ w' = w := fun w => turn_still A 22 (by omega) (by omega) w
          have x1 := x_xor (rotr E 6) (rotr E 11)
          have x2 := x_xor (rotr E 6 ^^^ rotr E 11) (rotr E 25)
          have x3 := x_xor (rotr A 2) (rotr A 13)
          have x4 := x_xor (rotr A 2 ^^^ rotr A 13) (rotr A 22)
          rw [hSE] at x2
          rw [hSA] at x4
          have n1 := x_and E F
          have n2 := x_and (~~~ E) G
          have n3 := x_and A B
          have n4 := x_and A C
          have n5 := x_and B C
          have o1 := x_or (E &&& F) (~~~ E &&& G)
          rw [ch_or, hCH] at o1
          have o2 := x_or (A &&& B) (A &&& C)
          have o3 := x_or ((A &&& B) ||| (A &&& C)) (B &&& C)
          rw [maj_or, hMJ] at o3
          have lE := u_lo E
          have hE := u_hi E
          have nE : IntKind.i64.wrap (4294967295 - u E) = u (~~~ E) := by rw [← x_not]; exact IntWalk.i64_in _ ⟨by omega, by omega⟩
          have l1 := u_lo H
          have g1 := u_hi H
          have l2 := u_lo SE
          have g2 := u_hi SE
          have l3 := u_lo CH
          have g3 := u_hi CH
          have l4 := u_lo KK
          have g4 := u_hi KK
          have l5 := u_lo SS
          have g5 := u_hi SS
          have l6 := u_lo SA
          have g6 := u_hi SA
          have l7 := u_lo MJ
          have g7 := u_hi MJ
          have l8 := u_lo T1
          have g8 := u_hi T1
          have l9 := u_lo T2
          have g9 := u_hi T2
          have l0 := u_lo D
          have g0 := u_hi D
          have w1e : IntKind.i64.wrap (u H + u SE) = u H + u SE := IntWalk.i64_in _ ⟨by omega, by omega⟩
          have w2e : IntKind.i64.wrap (u H + u SE + u CH) = u H + u SE + u CH := IntWalk.i64_in _ ⟨by omega, by omega⟩
          have w3e : IntKind.i64.wrap (u H + u SE + u CH + u KK) = u H + u SE + u CH + u KK := IntWalk.i64_in _ ⟨by omega, by omega⟩
          have w4e : IntKind.i64.wrap (u H + u SE + u CH + u KK + u SS) = u H + u SE + u CH + u KK + u SS := IntWalk.i64_in _ ⟨by omega, by omega⟩
          have w5e : IntKind.i64.wrap (u SA + u MJ) = u SA + u MJ := IntWalk.i64_in _ ⟨by omega, by omega⟩
          have w6e : IntKind.i64.wrap (u T1 + u T2) = u T1 + u T2 := IntWalk.i64_in _ ⟨by omega, by omega⟩
          have w7e : IntKind.i64.wrap (u D + u T1) = u D + u T1 := IntWalk.i64_in _ ⟨by omega, by omega⟩
          have m1 := sum5_mod H SE CH KK SS
          rw [hT1] at m1
          have m2 := u_add' SA MJ
          rw [hT2] at m2
          have m3 := u_add' T1 T2
          have m4 := u_add' D T1
          have W1 := word_still (u H + u SE + u CH + u KK + u SS) T1 (by omega) m1
          have W2 := word_still (u SA + u MJ) T2 (by omega) m2
          have W3 := word_still (u T1 + u T2) (T1 + T2) (by omega) m3
          have W4 := word_still (u D + u T1) (D + T1) (by omega) m4
          have T0 : (0 : Int) ≤ t := by omega
          have T64 : (t : Int) < 64 := by omega
          clear m1 m2 m3 m4 hSE hSA hCH hMJ hT1 hT2 hnx hnx2
          go_wp2_with fail
          refine wp_region_quiet (by kernel_rfl) (by kernel_rfl) ?_
          repeat still_step
          refine wpStill_nil ?_
          go_wp2_with fail
          refine wp_region_quiet (by kernel_rfl) (by kernel_rfl) ?_
          repeat still_step
          refine wpStill_nil ?_
          go_wp2_with fail
          refine wp_region_quiet (by kernel_rfl) (by kernel_rfl) ?_
          repeat still_step
          refine wpStill_nil ?_
          go_wp2_with fail
          refine wp_region_quiet (by kernel_rfl) (by kernel_rfl) ?_
          repeat still_step
          still_call (T6 _)
          repeat still_step
          still_call (T11 _)
          repeat still_step
          still_call (T25 _)
          repeat still_step
          still_call (W1 _)
          repeat still_step
          refine wpStill_nil ?_
          go_wp2_with fail
          refine (T2' _).mono ?_
          rintro e w5 ⟨rfl, rfl⟩
          go_wp2_with fail
          refine (T13 _).mono ?_
          rintro e w5 ⟨rfl, rfl⟩
          go_wp2_with fail
          refine (T22 _).mono ?_
          rintro e w5 ⟨rfl, rfl⟩
          go_wp2_with fail
          refine (W2 _).mono ?_
          rintro e w5 ⟨rfl, rfl⟩
          go_wp2_with fail
          refine wp_region_tail 24 (by kernel_rfl) (by kernel_rfl) ?_
          simp only [List.take_succ_cons, List.take_zero, List.drop_succ_cons, List.drop_zero]
          repeat still_step
          still_call (W3 _)
          repeat still_step
          still_call (W4 _)
          repeat still_step
          refine wpStill_nil ?_
          go_wp2
          go_roundw
          case rel =>
            refine ⟨t + 1, by omega, by go_num, ?_, ?_⟩
            · rw [HNX.out]
              exact words8_blk (((((blk_at rfl).drew).drew).drew).drew).drew
            · exact (((((hb.alloc hb.size _).drew).drew).drew).drew).drew
          case measure => simp [intOf] <;> omega
        · obtain rfl : t = 64 := by omega
          have q2 : decide ((64 : Int) < 64) = false := by decide
          obtain ⟨V, hV⟩ : ∃ V, x.rounds M 64 = V := ⟨_, rfl⟩
          have hfin : x.behind s = x.add V := by rw [HB.out, hV]
          rw [hV] at hW
          have HF := Lib.hid hfin
          clear hfin hV
          obtain ⟨g, c, rfl, hVA⟩ := hW.at
          rw [show V.l.length = 8 from rfl] at hVA ⊢
          have hbb := bthen hb2 hb
          have hfb := bthen hbl hbb
          have hHB : ∀ j, j < 8 → wr.cell? ⟨gh, j, none⟩ = some (.int .i64 (u (x.l.getD j 0))) := fun j hj => by rw [hbb.cell (p := ⟨gh, j, none⟩) (cell_lt (HHA.out j hj))]; exact HHA.out j hj
          have HVA := Lib.hid hVA
          have HHB := Lib.hid hHB
          have HSZ := Lib.hid hfb.size
          clear hVA hHB hW hsz
          go_wp2_with fail
          go_loopw [19, 20] (fun v i wv => ∃ j : Nat, j ≤ 8 ∧ i = .int .i64 j ∧ wv.ownsRow wr.heap.size 3 1 v j (xv ((x.add V).l.take j)) ∧ Below wr.heap.size wr wv) (fun _ i _ => 8 - (intOf i).toNat)
          case atStart => exact ⟨0, by omega, rfl, World.ownsRow_nil _ _ _ _, Below.refl _ _⟩
          case round =>
            obtain ⟨j, hj, rfl, hown, hb3⟩ := hrel
            by_cases hlt : j < 8
            · have q3 : decide ((j : Int) < 8) = true := decide_eq_true (by omega)
              have T0 : (0 : Int) ≤ j := by omega
              have T8 : (j : Int) < 8 := by omega
              have kc : wr.cell? ⟨gh, j, none⟩ = some (.int .i64 (u (x.l.getD j 0))) := by rw [hb3.cell (p := ⟨gh, j, none⟩) (cell_lt (HHB.out j hlt))]; exact HHB.out j hlt
              have vc : wr.cell? ⟨g, j, none⟩ = some (.int .i64 (u (V.l.getD j 0))) := by rw [hb3.cell (p := ⟨g, j, none⟩) (cell_lt (HVA.out j hlt))]; exact HVA.out j hlt
              have hnx := add_take x V j hlt
              obtain ⟨A, hA⟩ : ∃ y, x.l.getD j 0 = y := ⟨_, rfl⟩
              obtain ⟨B, hB⟩ : ∃ y, V.l.getD j 0 = y := ⟨_, rfl⟩
              rw [hA] at kc hnx
              rw [hB] at vc hnx
              clear hA hB
              obtain ⟨ol, hol⟩ : ∃ y, (x.add V).l.take j = y := ⟨_, rfl⟩
              rw [hol] at hown hnx
              have hnx2 : xv ol ++ [Value.int .i64 (u (A + B))] = xv ((x.add V).l.take (j + 1)) := by rw [hnx, xv_append]
              have HN2 := Lib.hid hnx2
              have l1 := u_lo A
              have g1 := u_hi A
              have l2 := u_lo B
              have g2 := u_hi B
              have w1e : IntKind.i64.wrap (u A + u B) = u A + u B := IntWalk.i64_in _ ⟨by omega, by omega⟩
              have W1 := word_still (u A + u B) (A + B) (by omega) (u_add' A B)
              have F1 := Lib.hid (show j + 1 ≤ maxLen by unfold maxLen; omega)
              have F2 := Lib.hid (show (j + 1) * 8 ≤ 140737488355328 by omega)
              have hod := drew_row hown
              have hbd := hb3.drew
              obtain ⟨wd, hwd⟩ : ∃ y, wr.drew = y := ⟨_, rfl⟩
              have kd : wd.cell? ⟨gh, j, none⟩ = some (.int .i64 (u A)) := by rw [← hwd]; exact kc
              have vd : wd.cell? ⟨g, j, none⟩ = some (.int .i64 (u B)) := by rw [← hwd]; exact vc
              rw [hwd] at hod hbd
              have hsz := hbd.size
              clear hnx hnx2 hol hown hb3
              go_wp2_with fail
              refine wp_region_lag 11 (by kernel_rfl) (by kernel_rfl) rfl (.inl ⟨rfl, fun _ => rfl⟩) (fun _ _ _ h => h) ?_
              simp only [List.take_succ_cons, List.take_zero, List.drop_succ_cons, List.drop_zero]
              go_simp
              try rw [hwd]
              clear hwd
              repeat still_step
              still_call (W1 _)
              repeat still_step
              refine wpStill_nil ?_
              go_wp2_with (at_builtin; refine wpList_app (P := Tryd.prog) _ rfl _ _ 80 rfl _ 3 (.int .i64 0) 1 8 Tryd.underlying80 int_info rfl (by decide) _ j _ rfl hod _ rfl rfl ?c1 F1.out F2.out hsz ?_)
              case c1 => intro u hu; simp at hu; subst hu; rfl
              intro v' w1 hown1 _ hb1
              rw [HN2.out] at hown1
              have hb9 := hbd.trans hb1
              go_wp2
              go_roundw
              case rel =>
                refine ⟨_, _, _, _, _, _, _, _, _, _, _, _, _, _, _, _, _, _, _, ?_, rfl⟩
                exact ⟨j + 1, by omega, by go_num, hown1, hb9⟩
              case measure => simp [intOf] <;> omega
            · obtain rfl : j = 8 := by omega
              have q3 : decide ((8 : Int) < 8) = false := by decide
              have hfb2 := bthen hfb hb3
              have HOW := Lib.hid (row_up hown HSZ.out)
              clear hown
              go_wp2
              go_ret
              exact ⟨_, rfl, by rw [HF.out]; exact HOW.out, hfb2⟩
end Go.Proofs.YtmdjbmhjnajpgaaDoor
namespace Go.Proofs.YtmdjbmhjnajpgaaDoor
open Go.RowKit
set_option linter.unusedSimpArgs false
set_option linter.unnecessarySimpa false
set_option linter.unusedVariables false

theorem primes_list : prL 310 = [2, 3, 5, 7, 11, 13, 17, 19, 23, 29, 31, 37, 41, 43, 47, 53, 59, 61, 67, 71, 73, 79, 83, 89, 97, 101, 103, 107, 109, 113, 127, 131, 137, 139, 149, 151, 157, 163, 167, 173, 179, 181, 191, 193, 197, 199, 211, 223, 227, 229, 233, 239, 241, 251, 257, 263, 269, 271, 277, 281, 283, 293, 307, 311] := by decide +kernel
theorem cubes : (prL 310).map (fun p => rootN p 3 41 % 4294967296) = rootsW.map BitVec.toNat := by
  rw [primes_list]
  simp only [List.map_cons, List.map_nil, cube_2, cube_3, cube_5, cube_7, cube_11, cube_13, cube_17, cube_19, cube_23, cube_29, cube_31, cube_37, cube_41, cube_43, cube_47, cube_53, cube_59, cube_61, cube_67, cube_71, cube_73, cube_79, cube_83, cube_89, cube_97, cube_101, cube_103, cube_107, cube_109, cube_113, cube_127, cube_131, cube_137, cube_139, cube_149, cube_151, cube_157, cube_163, cube_167, cube_173, cube_179, cube_181, cube_191, cube_193, cube_197, cube_199, cube_211, cube_223, cube_227, cube_229, cube_233, cube_239, cube_241, cube_251, cube_257, cube_263, cube_269, cube_271, cube_277, cube_281, cube_283, cube_293, cube_307, cube_311]
  decide +kernel
theorem map_getD {α β : Type} (f : α → β) (l : List α) (i : Nat) (d : α) (d' : β) (h : i < l.length) : (l.map f).getD i d' = f (l.getD i d) := by simp [List.getD, h]
theorem cube_at (i : Nat) (h : i < 64) : rootN ((prL 310).getD i 0) 3 41 % 4294967296 = (rootsW.getD i 0).toNat := by
  have h1 : i < (prL 310).length := by rw [pr310]; exact h
  have h2 : i < rootsW.length := h
  have := congrArg (fun l => l.getD i 0) cubes
  have a := map_getD (fun p => rootN p 3 41 % 4294967296) _ i 0 0 h1
  have b := map_getD BitVec.toNat _ i 0 0 h2
  exact a.symm.trans (this.trans b)
theorem square_at (i : Nat) (h : i < 8) : rootN ((prL 310).getD i 0) 2 41 % 4294967296 = (H8.begin0.l.getD i 0).toNat := by
  have h1 : i < ((prL 310).take 8).length := by rw [List.length_take, pr310]; omega
  have h2 : i < H8.begin0.l.length := h
  have := congrArg (fun l => l.getD i 0) roots_two
  have a := map_getD (fun p => rootN p 2 41 % 4294967296) _ i 0 0 h1
  have b := map_getD BitVec.toNat _ i 0 0 h2
  have e : ((prL 310).take 8).getD i 0 = (prL 310).getD i 0 := by simp [List.getD, List.getElem?_take, h]
  rw [e] at a
  exact a.symm.trans (this.trans b)
theorem prime_le (i : Nat) (h : i < 64) : (prL 310).getD i 0 ≤ 1000 := by
  have h1 : i < (prL 310).length := by rw [pr310]; exact h
  have := prL_pos 310 (prL 310)[i] (List.getElem_mem h1)
  simp [List.getD, h1]
  omega
theorem root3_to (i : Nat) (h : i < 64) (w : World) :
    Calls Tryd.prog 44 #[.int .i64 ((prL 310).getD i 0 : Nat), .int .i64 3] w fun e w' => e = .returned (.int .i64 (u (rootsW.getD i 0))) ∧ Below w.heap.size w w' := by
  have := root3_any ((prL 310).getD i 0) (prime_le i h) w
  rw [cube_at i h] at this
  exact this
theorem root2_to (i : Nat) (h : i < 8) (w : World) :
    Calls Tryd.prog 44 #[.int .i64 ((prL 310).getD i 0 : Nat), .int .i64 2] w fun e w' => e = .returned (.int .i64 (u (H8.begin0.l.getD i 0))) ∧ Below w.heap.size w w' := by
  have := root2_any ((prL 310).getD i 0) (prime_le i (by omega)) w
  rw [square_at i h] at this
  exact this
theorem pad_len (s : List UInt8) : (padL s).length % 64 = 0 ∧ (padL s).length ≤ s.length + 72 := by
  rw [padL]
  simp only [List.length_append, List.length_cons, List.length_replicate, lenB_len]
  omega
theorem sha_feed (s : List UInt8) : shaL s = (H8.feed ((padL s).length / 64) H8.begin0 (padL s)).bytes := by
  have hr : (Sw.new.write s).rest.length = s.length % 64 := by
    simp only [Sw.write, Sw.new, List.nil_append, List.length_drop]
    omega
  have hn : (Sw.new.write s).n = s.length := by simp [Sw.write, Sw.new]
  have ht : s ++ (Sw.new.write s).tail = padL s := by rw [Sw.tail, hr, hn, padL]
  rw [shaL, Sw.digest, write_write, ht]
  simp only [Sw.write, Sw.new, List.nil_append]
theorem feed_step (q : Nat) (P : List UInt8) : H8.feed (q + 1) H8.begin0 P = (H8.feed q H8.begin0 P).behind ((P.drop (64 * q)).take 64) := by
  rw [feed_app q 1, H8.feed, H8.feed]
theorem bytes_step (h : H8) (j : Nat) (hj : j < 8) : (h.l.take (j + 1)).flatMap wordB = (h.l.take j).flatMap wordB ++ wordB (h.l.getD j 0) := by
  have hl : j < h.l.length := hj
  rw [List.take_succ_eq_append_getElem hl, List.flatMap_append]
  simp [List.getD, hl]
theorem roots_step (i : Nat) (h : i < 64) : xv (rootsW.take i) ++ [Value.int .i64 (u (rootsW.getD i 0))] = xv (rootsW.take (i + 1)) := by
  have hl : i < rootsW.length := h
  rw [xv_append, List.take_succ_eq_append_getElem hl]
  simp [List.getD, hl]
theorem begin_step (i : Nat) (h : i < 8) : xv (H8.begin0.l.take i) ++ [Value.int .i64 (u (H8.begin0.l.getD i 0))] = xv (H8.begin0.l.take (i + 1)) := by
  have hl : i < H8.begin0.l.length := h
  rw [xv_append, List.take_succ_eq_append_getElem hl]
  simp [List.getD, hl]
/-- the two lists that Of fills -/
structure OfSt (B : Nat) (w : World) (kv hv : Value) (i j : Nat) : Prop where
  k : Owns w 3 1 kv i (xv (rootsW.take i))
  h : Owns w 3 1 hv j (xv (H8.begin0.l.take j))
  kB : ∀ b, zblock kv = some b → B ≤ b
  hB : ∀ b, zblock hv = some b → B ≤ b
  ne : ∀ b, zblock kv = some b → zblock hv ≠ some b
theorem OfSt.below {B : Nat} {w w' : World} {kv hv : Value} {i j : Nat} (s : OfSt B w kv hv i j) (hb : Below w.heap.size w w') : OfSt B w' kv hv i j := ⟨s.k.below hb, s.h.below hb, s.kB, s.hB, s.ne⟩
theorem OfSt.addK {B : Nat} {w w' : World} {kv hv : Value} {i j g cap : Nat} (s : OfSt B w kv hv i j) (hB : B ≤ w.heap.size) (hi : i < 64)
    (hown : Owns w' 3 1 (.slice (some ⟨g, 0, none⟩) (i + 1) cap) (i + 1) (xv (rootsW.take i) ++ [Value.int .i64 (u (rootsW.getD i 0))])) (hg : w.grownBy w' (zblock kv)) (hat : zblock kv = some g ∨ w.heap.size ≤ g) (hc : 0 < cap) :
    OfSt B w' (.slice (some ⟨g, 0, none⟩) (i + 1) cap) hv (i + 1) j := by
  refine ⟨by rw [← roots_step i hi]; exact hown, s.h.grown hg (fun b e e' => s.ne b e' e), ?_, s.hB, ?_⟩
  · intro b e
    rw [zblock_some hc] at e
    obtain rfl : g = b := by simpa using e
    rcases hat with e | e
    · exact s.kB _ e
    · omega
  · intro b e e'
    rw [zblock_some hc] at e
    obtain rfl : g = b := by simpa using e
    rcases hat with e | e
    · exact s.ne _ e e'
    · have := s.h.lt e'
      omega
theorem OfSt.addH {B : Nat} {w w' : World} {kv hv : Value} {i j g cap : Nat} (s : OfSt B w kv hv i j) (hB : B ≤ w.heap.size) (hj : j < 8)
    (hown : Owns w' 3 1 (.slice (some ⟨g, 0, none⟩) (j + 1) cap) (j + 1) (xv (H8.begin0.l.take j) ++ [Value.int .i64 (u (H8.begin0.l.getD j 0))])) (hg : w.grownBy w' (zblock hv)) (hat : zblock hv = some g ∨ w.heap.size ≤ g) (hc : 0 < cap) :
    OfSt B w' kv (.slice (some ⟨g, 0, none⟩) (j + 1) cap) i (j + 1) := by
  refine ⟨s.k.grown hg (fun b e e' => s.ne b e e'), by rw [← begin_step j hj]; exact hown, s.kB, ?_, ?_⟩
  · intro b e
    rw [zblock_some hc] at e
    obtain rfl : g = b := by simpa using e
    rcases hat with e | e
    · exact s.hB _ e
    · omega
  · intro b e e'
    rw [zblock_some hc] at e'
    obtain rfl : g = b := by simpa using e'
    rcases hat with e2 | e2
    · exact s.ne _ e e2
    · have := s.k.lt e
      omega
end Go.Proofs.YtmdjbmhjnajpgaaDoor
namespace Go.Proofs.YtmdjbmhjnajpgaaDoor
open Go.RowKit
set_option linter.unusedSimpArgs false
set_option linter.unnecessarySimpa false
set_option linter.unusedVariables false

theorem word_vals (x : BitVec 32) : [Value.int .u8 (u x / 16777216), Value.int .u8 (u x / 65536 % 256), Value.int .u8 (u x / 256 % 256), Value.int .u8 (u x % 256)] = bvals (wordB x) := by
  have := x.isLt
  unfold u
  simp [bvals, wordB]
  omega
set_option maxRecDepth 100000 in
set_option maxHeartbeats 4000000 in
theorem of_ref (s : List UInt8) (hs : s.length ≤ 8000) (w : World) :
    Calls Tryd.prog 31 #[.string (bstr s)] w fun e w' => e = .returned (.string (bstr (shaL s))) ∧ Below w.heap.size w w' := by
  have hsha := sha_feed s
  obtain ⟨hp1, hp2⟩ := pad_len s
  have PAD := pad_any s (by omega)
  obtain ⟨PL, hPL⟩ : ∃ y, padL s = y := ⟨_, rfl⟩
  rw [hPL] at hsha hp1 hp2 PAD
  have HSHA := Lib.hid hsha
  clear hsha hPL
  go_enter Tryd.func31, Tryd.ntmps31
  go_wp2_with fail
  refine (primes_any _).mono ?_
  rintro e w1 ⟨pv, rfl, hpo, hb1⟩
  obtain ⟨gp, cp, hpv, hPA⟩ := nums_own hpo (by omega)
  rw [pr310] at hpv hPA
  subst hpv
  have HPA := Lib.hid hPA
  clear hPA hpo
  obtain ⟨i0, hi0, hz0, hz1, hz2⟩ := info_parts int_info
  go_wp2_with fail
  go_loopw [4, 5, 6] (fun kv hv i wr => ∃ n : Nat, n ≤ 64 ∧ i = .int .i64 n ∧ OfSt w1.heap.size wr kv hv n (min n 8) ∧ Below w1.heap.size w1 wr) (fun _ _ i _ => 64 - (intOf i).toNat)
  case atStart => exact ⟨0, by omega, rfl, ⟨Owns.nil _ _ _, Owns.nil _ _ _, (by intro b e; cases e), (by intro b e; cases e), (by intro b e; cases e)⟩, Below.refl _ _⟩
  case round =>
    obtain ⟨n, hn, rfl, st, hb⟩ := hrel
    by_cases hlt : n < 64
    · have q1 : decide ((n : Int) < 64) = true := decide_eq_true (by omega)
      have T0 : (0 : Int) ≤ n := by omega
      have T64 : (n : Int) < 64 := by omega
      have pc : wr.cell? ⟨gp, n, none⟩ = some (.int .i64 ((prL 310).getD n 0 : Nat)) := by rw [hb.cell (p := ⟨gp, n, none⟩) (cell_lt (HPA.out n hlt))]; exact HPA.out n hlt
      have R3 := root3_to n hlt
      have R2 := fun h => root2_to n h
      obtain ⟨p, hp⟩ : ∃ y, (prL 310).getD n 0 = y := ⟨_, rfl⟩
      rw [hp] at pc R3 R2
      have hp2' : wr.cell? ⟨gp, n, none⟩ = some (.int .i64 (p : Nat)) := pc
      have hp1' : w1.cell? ⟨gp, n, none⟩ = some (.int .i64 (p : Nat)) := by rw [← hp]; exact HPA.out n hlt
      have HPC := Lib.hid hp1'
      have HR2 := Lib.hid R2
      have G1 := Lib.hid (show n + 1 ≤ maxLen by unfold maxLen; omega)
      have G2 := Lib.hid (show (n + 1) * 8 ≤ 140737488355328 by omega)
      clear hp R2 hp2' hp1'
      go_wp2_with fail
      refine (R3 _).mono ?_
      rintro e w2 ⟨rfl, hb2⟩
      have st2 := st.below hb2
      have hb2' := bthen hb hb2
      have hs2 := hb2'.size
      have hal := World.grownBy_alloc w2 (.cells #[.int .i64 (u (rootsW.getD n 0))] 3)
      go_wp2_with (at_builtin; refine wpList_append_z (P := Tryd.prog) _ rfl _ _ 80 rfl 3 i0 (.int .i64 0) 1 8 Tryd.underlying80 hi0 hz0 hz1 hz2 rfl (by decide) _ n _ rfl (st2.k.alloc _) ⟨w2.heap.size, 0, none⟩ 1 1 [.int .i64 (u (rootsW.getD n 0))] rfl rfl (World.news_of_block (Blk.new w2 _ _)) ?c1 (by decide) G1.out G2.out _ rfl ?_)
      case c1 => intro u hu; simp at hu; subst hu; rfl
      intro g cap w3 hown3 hgr3 hat3 hlt3 hcap3
      have st2a := st2.below ((Below.refl _ _).alloc (Nat.le_refl _) (.cells #[.int .i64 (u (rootsW.getD n 0))] 3))
      have hsa : w1.heap.size ≤ (w2.alloc (.cells #[.int .i64 (u (rootsW.getD n 0))] 3)).heap.size := by simp; omega
      have st3 := st2a.addK hsa hlt hown3 hgr3 (by simpa using hat3) hcap3
      have hb3 := (hb2'.alloc hs2 (.cells #[.int .i64 (u (rootsW.getD n 0))] 3)).grown hgr3 hsa (fun k hk => st.kB k hk)
      have hs3 := hb3.size
      clear hown3 hgr3 hat3 st2a hsa hal
      by_cases h8 : n < 8
      · have q2 : decide ((n : Int) < 8) = true := decide_eq_true (by omega)
        rw [show min n 8 = n by omega] at st3
        have pc3 : w3.cell? ⟨gp, n, none⟩ = some (.int .i64 (p : Nat)) := by rw [hb3.cell (p := ⟨gp, n, none⟩) (cell_lt HPC.out)]; exact HPC.out
        go_wp2_with fail
        refine (HR2.out h8 _).mono ?_
        rintro e w4 ⟨rfl, hb4⟩
        have st4 := st3.below hb4
        have hb4' := bthen hb3 hb4
        have hs4 := hb4'.size
        go_wp2_with (at_builtin; refine wpList_append_z (P := Tryd.prog) _ rfl _ _ 80 rfl 3 i0 (.int .i64 0) 1 8 Tryd.underlying80 hi0 hz0 hz1 hz2 rfl (by decide) _ n _ rfl (st4.h.alloc _) ⟨w4.heap.size, 0, none⟩ 1 1 [.int .i64 (u (H8.begin0.l.getD n 0))] rfl rfl (World.news_of_block (Blk.new w4 _ _)) ?c2 (by decide) G1.out G2.out _ rfl ?_)
        case c2 => intro u hu; simp at hu; subst hu; rfl
        intro g5 cap5 w5 hown5 hgr5 hat5 hlt5 hcap5
        have st4a := st4.below ((Below.refl _ _).alloc (Nat.le_refl _) (.cells #[.int .i64 (u (H8.begin0.l.getD n 0))] 3))
        have hsa : w1.heap.size ≤ (w4.alloc (.cells #[.int .i64 (u (H8.begin0.l.getD n 0))] 3)).heap.size := by simp; omega
        have st5 := st4a.addH hsa h8 hown5 hgr5 (by simpa using hat5) hcap5
        have hb5 := (hb4'.alloc hs4 (.cells #[.int .i64 (u (H8.begin0.l.getD n 0))] 3)).grown hgr5 hsa (fun k hk => st4.hB k hk)
        rw [show n + 1 = min (n + 1) 8 by omega] at st5
        have e5 : min (n + 1) 8 = n + 1 := by omega
        clear hown5 hgr5 hat5 st4a hsa
        have HST := Lib.hid st5
        clear st5 st4 st3 st2 st
        go_wp2
        go_roundw
        case rel =>
          refine ⟨n + 1, by omega, by go_num, ?_, hb5⟩
          have := HST.out
          simpa [e5] using this
        case measure => simp [intOf] <;> omega
      · have q2 : decide ((n : Int) < 8) = false := decide_eq_false (by omega)
        rw [show min n 8 = min (n + 1) 8 by omega] at st3
        go_wp2
        go_roundw
        case rel => exact ⟨n + 1, by omega, by go_num, st3, hb3⟩
        case measure => simp [intOf] <;> omega
    · obtain rfl : n = 64 := by omega
      have q1 : decide ((64 : Int) < 64) = false := by decide
      have hk : WordsAt wr u4 rootsW := words_own (n := 64) (l := rootsW.take 64) (st.k.row (by decide)) (by decide)
      have hh : WordsAt wr u5 H8.begin0.l := words_own (n := 8) (l := H8.begin0.l.take (min 64 8)) (st.h.row (by decide)) (by decide)
      have hb' := bthen hb1 hb
      clear st
      go_wp2_with fail
      refine (PAD _).mono ?_
      rintro e w3 ⟨rfl, hb3⟩
      have hk3 := hk.all hb3
      have hh3 := hh.all hb3
      have hb3' := bthen hb' hb3
      have HK := Lib.hid hk3
      clear hk hh hk3
      go_wp2_with fail
      go_loopw [5, 7] (fun hv at_ wv => ∃ q : Nat, 64 * q ≤ PL.length ∧ at_ = .int .i64 ((64 * q : Nat) : Int) ∧ WordsAt wv hv (H8.feed q H8.begin0 PL).l ∧ Below w3.heap.size w3 wv) (fun _ i _ => PL.length - (intOf i).toNat)
      case atStart => exact ⟨0, by omega, rfl, hh3, Below.refl _ _⟩
      case round =>
        clear hh3
        obtain ⟨q, hq, rfl, hW, hb4⟩ := hrel
        obtain ⟨A, hA⟩ : ∃ A, 64 * q = A := ⟨_, rfl⟩
        have hfs := feed_step q PL
        obtain ⟨Y, hY⟩ : ∃ Y, H8.feed q H8.begin0 PL = Y := ⟨_, rfl⟩
        rw [hY] at hW hfs
        rw [hA] at hq hfs ⊢
        by_cases hlt : A < PL.length
        · have hlt2 : A + 64 ≤ PL.length := by omega
          have q1' : decide ((A : Int) < PL.length) = true := decide_eq_true (by omega)
          have e1 : IntKind.i64.wrap ((A : Int) + 64) = A + 64 := IntWalk.i64_in _ ⟨by omega, by omega⟩
          have T0 : (0 : Int) ≤ A := by omega
          have T1 : (A : Int) ≤ A + 64 := by omega
          have T2 : (A : Int) + 64 ≤ PL.length := by omega
          have T3 : ((A : Int) + 64).toNat = A + 64 := by omega
          have hcl : ((PL.take (A + 64)).drop A).length = 64 := by simp; omega
          have hfs2 : H8.feed (q + 1) H8.begin0 PL = Y.behind ((PL.take (A + 64)).drop A) := by rw [hfs, List.drop_take, show A + 64 - A = 64 by omega]
          obtain ⟨CK, hCK⟩ : ∃ y, (PL.take (A + 64)).drop A = y := ⟨_, rfl⟩
          have hkw := HK.out.all hb4
          rw [hCK] at hcl hfs2
          have HFS := Lib.hid hfs2
          have HCK := Lib.hid hCK
          have HCL := Lib.hid hcl
          have HA2 := Lib.hid (show 64 * (q + 1) = A + 64 by omega)
          clear hfs hfs2 hCK hcl hY
          go_wp2_with fail
          rw [HCK.out]
          refine (one_any Y CK HCL.out _ _ _ hW hkw).mono ?_
          rintro e w5 ⟨hv5, rfl, hown5, hb5⟩
          have hW5 := words_own hown5 (by omega)
          rw [← HFS.out] at hW5
          have hb5' := bthen hb4 hb5
          clear hown5 hW hkw
          go_wp2
          go_roundw
          case rel => exact ⟨q + 1, by rw [HA2.out]; omega, by rw [HA2.out]; go_num, hW5, hb5'⟩
          case measure => simp [intOf] <;> omega
        · have q1' : decide ((A : Int) < PL.length) = false := decide_eq_false (by omega)
          have hqe : PL.length / 64 = q := by omega
          have hfin : shaL s = Y.bytes := by rw [HSHA.out, hqe, hY]
          have HF := Lib.hid hfin
          have hb4' := bthen hb3' hb4
          obtain ⟨gh, ch, hhv, hHA⟩ := hW
          rw [show Y.l.length = 8 from rfl] at hhv hHA
          subst hhv
          have HHA := Lib.hid hHA
          clear hfin hHA hfs hY hqe
          go_wp2_with fail
          go_loopw [8, 9] (fun v i wv => ∃ j : Nat, j ≤ 8 ∧ i = .int .i64 j ∧ wv.ownsRow wr.heap.size 5 1 v (4 * j) (bvals ((Y.l.take j).flatMap wordB)) ∧ Below wr.heap.size wr wv) (fun _ i _ => 8 - (intOf i).toNat)
          case atStart => exact ⟨0, by omega, rfl, World.ownsRow_nil _ _ _ _, Below.refl _ _⟩
          case round =>
            obtain ⟨j, hj, rfl, hown, hb6⟩ := hrel
            by_cases hlt8 : j < 8
            · have q3 : decide ((j : Int) < 8) = true := decide_eq_true (by omega)
              have T0 : (0 : Int) ≤ j := by omega
              have T8 : (j : Int) < 8 := by omega
              have kc : wr.cell? ⟨gh, j, none⟩ = some (.int .i64 (u (Y.l.getD j 0))) := by rw [hb6.cell (p := ⟨gh, j, none⟩) (cell_lt (HHA.out j hlt8))]; exact HHA.out j hlt8
              have hnx := bytes_step Y j hlt8
              obtain ⟨X, hX⟩ : ∃ y, Y.l.getD j 0 = y := ⟨_, rfl⟩
              rw [hX] at kc hnx
              have hlo := u_lo X
              have hhi := u_hi X
              have wv := word_vals X
              have hnx2 : bvals ((Y.l.take j).flatMap wordB) ++ [Value.int .u8 (u X / 16777216), Value.int .u8 (u X / 65536 % 256), Value.int .u8 (u X / 256 % 256), Value.int .u8 (u X % 256)] = bvals ((Y.l.take (j + 1)).flatMap wordB) := by rw [hnx, wv]; simp [bvals]
              have HN2 := Lib.hid hnx2
              have s3 : IntKind.u8.wrap (u X / 16777216) = u X / 16777216 := by rw [IntKind.wrap_u8]; omega
              have s2 : IntKind.u8.wrap (u X / 65536) = u X / 65536 % 256 := by rw [IntKind.wrap_u8]
              have s1 : IntKind.u8.wrap (u X / 256) = u X / 256 % 256 := by rw [IntKind.wrap_u8]
              have s0 : IntKind.u8.wrap (u X) = u X % 256 := by rw [IntKind.wrap_u8]
              have F1 := Lib.hid (show 4 * j + 4 ≤ maxLen by unfold maxLen; omega)
              have F2 := Lib.hid (show (4 * j + 4) * 1 ≤ 140737488355328 by omega)
              have hod := drow hown
              have hbd := hb6.drew
              obtain ⟨wd, hwd⟩ : ∃ y, wr.drew = y := ⟨_, rfl⟩
              have kd : wd.cell? ⟨gh, j, none⟩ = some (.int .i64 (u X)) := by rw [← hwd]; exact kc
              rw [hwd] at hod hbd
              have hsz := hbd.size
              clear hnx hnx2 hX hown hb6 wv
              go_wp2_with fail
              refine wp_region_lag 24 (by kernel_rfl) (by kernel_rfl) rfl (.inl ⟨rfl, fun _ => rfl⟩) (fun _ _ _ h => h) ?_
              simp only [List.take_succ_cons, List.take_zero, List.drop_succ_cons, List.drop_zero]
              go_simp
              try rw [hwd]
              clear hwd
              repeat still_step
              refine wpStill_nil ?_
              go_wp2_with (at_builtin; refine wpList_appm (P := Tryd.prog) _ rfl _ _ 84 rfl _ 5 (.int .u8 0) 1 1 Tryd.underlying84 bl_byte rfl (by decide) _ (4 * j) 4 _ rfl hod _ rfl rfl ?c1 (by decide) F1.out F2.out hsz ?_)
              case c1 => intro y hy; simp at hy; rcases hy with rfl | rfl | rfl | rfl <;> rfl
              intro v' w7 hown7 _ hb7
              rw [HN2.out] at hown7
              have hb9 := hbd.trans hb7
              go_wp2
              go_roundw
              case rel => exact ⟨j + 1, by omega, by go_num, hown7, hb9⟩
              case measure => simp [intOf] <;> omega
            · obtain rfl : j = 8 := by omega
              have q3 : decide ((8 : Int) < 8) = false := by decide
              have hcv := own_string (P := Tryd.prog) (l := Y.bytes) Tryd.underlying84 Tryd.underlying5 Tryd.underlying9 hown
              have hb9 := bthen hb4' hb6
              clear hown
              go_wp2
              go_ret
              exact ⟨by rw [HF.out]; rfl, hb9⟩
end Go.Proofs.YtmdjbmhjnajpgaaDoor
