/- The reference of package sum: one: words; turn and word leave the world as it is. -/
import Derived.Test.YtppckmfaidpliaaDoorRs9b
import Derived.StillTailTactics
namespace Go.Proofs.YtppckmfaidpliaaDoor
open Go.RowKit
set_option linter.unusedSimpArgs false
set_option linter.unnecessarySimpa false
set_option linter.unusedVariables false

set_option maxHeartbeats 1000000 in
theorem word_still (n : Int) (x : BitVec 32) (h0 : 0 ≤ n) (h : n % 4294967296 = u x) (w : World) :
    Calls Tryd.prog 31 #[.int .i64 n] w fun e w' => e = .returned (.int .i64 (u x)) ∧ w' = w := by
  have ht : n.tmod 4294967296 = u x := by rw [Int.tmod_eq_emod_of_nonneg h0, h]
  have hl := u_lo x
  have hh := u_hi x
  go_enter Tryd.func31, Tryd.ntmps31
  go_wp2
  go_ret
  exact ⟨rfl, rfl⟩

set_option maxHeartbeats 1000000 in
theorem turn_still (x : BitVec 32) (k : Nat) (h2 : 2 ≤ k) (hk : k ≤ 32) (w : World) :
    Calls Tryd.prog 32 #[.int .i64 (u x), .int .i64 k] w fun e w' => e = .returned (.int .i64 (u (rotr x k))) ∧ w' = w := by
  have h0 := u_lo x
  have h1 := u_hi x
  have e1 := u_shr x k
  have e2 := u_shl x (32 - k)
  have hp : (2 : Int) ^ (32 - k) ≤ 1073741824 := by
    have : (2 : Nat) ^ (32 - k) ≤ 1073741824 := Nat.pow_le_pow_right (n := 2) (j := 30) (by decide) (by omega)
    have h3 : ((2 ^ (32 - k) : Nat) : Int) ≤ 1073741824 := Int.ofNat_le.2 this
    rwa [Int.natCast_pow] at h3
  have hp0 : (0 : Int) < 2 ^ (32 - k) := by
    have : ((0 : Nat) : Int) < ((2 ^ (32 - k) : Nat) : Int) := Int.ofNat_lt.2 (Nat.pow_pos (by decide))
    rwa [Int.natCast_pow] at this
  have hm0 : 0 ≤ u x * (2 : Int) ^ (32 - k) := Int.mul_nonneg h0 (Int.le_of_lt hp0)
  have hm1 : u x * (2 : Int) ^ (32 - k) ≤ 4294967296 * 1073741824 := Int.mul_le_mul (Int.le_of_lt h1) hp (Int.le_of_lt hp0) (by decide)
  have e5 : IntKind.i64.wrap (u x * (2 : Int) ^ (32 - k)) = u x * (2 : Int) ^ (32 - k) := IntWalk.i64_in _ ⟨by omega, by omega⟩
  have e6 : (u x * (2 : Int) ^ (32 - k)).tmod 4294967296 = u (x <<< (32 - k)) := by rw [Int.tmod_eq_emod_of_nonneg hm0, e2]
  have e3 := x_or (x >>> k) (x <<< (32 - k))
  have e4 : ((32 : Int) - k).toNat = 32 - k := by omega
  have e7 : (k : Int) % 18446744073709551616 = k := by omega
  have e8 : ((32 : Int) - k) % 18446744073709551616 = 32 - k := by omega
  have e9 : IntKind.i64.wrap ((32 : Int) - k) = 32 - k := IntWalk.i64_in _ ⟨by omega, by omega⟩
  go_enter Tryd.func32, Tryd.ntmps32
  go_wp2
  go_ret
  exact ⟨rfl, rfl⟩

/-- cells of words, in numbers of 64 bits -/
def xv (l : List (BitVec 32)) : List Value := l.map fun x => Value.int .i64 (u x)
theorem xv_append (l : List (BitVec 32)) (x : BitVec 32) : xv l ++ [Value.int .i64 (u x)] = xv (l ++ [x]) := by simp [xv]
theorem xv_one (l : List (BitVec 32)) : ∀ v ∈ xv l, v.oneCell' = true := by
  intro v h
  simp only [xv, List.mem_map] at h
  obtain ⟨z, _, rfl⟩ := h
  rfl
theorem xv_len (l : List (BitVec 32)) : (xv l).length = l.length := by simp [xv]
/-- a slice of these words, to be read -/
def WordsAt (w : World) (v : Value) (l : List (BitVec 32)) : Prop := ∃ g c, v = .slice (some ⟨g, 0, none⟩) l.length c ∧ ∀ j, j < l.length → w.cell? ⟨g, j, none⟩ = some (.int .i64 (u (l.getD j 0)))
theorem words_own {w : World} {base n : Nat} {v : Value} {l : List (BitVec 32)} (h : w.ownsRow base 3 1 v n (xv l)) (hn : 0 < n) : WordsAt w v l := by
  have hl : l.length = n := by have := h.1; simpa [xv] using this
  have h0 := h
  rcases h.2 with ⟨rfl, hn⟩ | ⟨g, cap, cur, rfl, hg, hc, hr⟩
  · omega
  · refine ⟨g, cap, by rw [hl], fun j hj => ?_⟩
    rw [World.ownsRow.cellAt h0 j (by omega)]
    simp [xv, List.getD, hj]
theorem WordsAt.all {w w' : World} {v : Value} {l : List (BitVec 32)} (h : WordsAt w v l) (hb : Below w.heap.size w w') : WordsAt w' v l := by
  obtain ⟨g, c, rfl, hA⟩ := h
  exact ⟨g, c, rfl, fun j hj => by rw [hb.cell (p := ⟨g, j, none⟩) (cell_lt (hA j hj))]; exact hA j hj⟩
theorem byte_shl (b : UInt8) (k : Nat) (hk : k ≤ 24) : (b.toNat : Int) * 2 ^ k = u (byteW b <<< k) := by
  have hb := b.toNat_lt
  have h2 : (2 : Nat) ^ k ≤ 2 ^ 24 := Nat.pow_le_pow_right (by decide) hk
  have h3 : b.toNat * 2 ^ k ≤ 255 * 2 ^ 24 := Nat.mul_le_mul (by omega) h2
  have h4 : (255 : Nat) * 2 ^ 24 < 4294967296 := by decide
  have := u_shl (byteW b) k
  rw [← u_byte] at this
  rw [← this]
  have e : (b.toNat : Int) * 2 ^ k = ((b.toNat * 2 ^ k : Nat) : Int) := by rw [Int.natCast_mul, Int.natCast_pow]; rfl
  rw [e]
  omega
/-- four bytes are a word -/
theorem join_four (b0 b1 b2 b3 : UInt8) : bits .or .i64 (bits .or .i64 (bits .or .i64 ((b0.toNat : Int) * 16777216) ((b1.toNat : Int) * 65536)) ((b2.toNat : Int) * 256)) (b3.toNat : Int) = u (((((((0 : BitVec 32) <<< 8) ||| byteW b0) <<< 8) ||| byteW b1) <<< 8 ||| byteW b2) <<< 8 ||| byteW b3) := by
  have e0 := byte_shl b0 24 (by omega)
  have e1 := byte_shl b1 16 (by omega)
  have e2 := byte_shl b2 8 (by omega)
  have n0 : (2 : Int) ^ 24 = 16777216 := by decide
  have n1 : (2 : Int) ^ 16 = 65536 := by decide
  have n2 : (2 : Int) ^ 8 = 256 := by decide
  rw [n0] at e0
  rw [n1] at e1
  rw [n2] at e2
  rw [e0, e1, e2, u_byte b3, x_or, x_or, x_or]
  congr 1
  apply BitVec.eq_of_getLsbD_eq
  intro i hi
  have : i < 32 := hi
  simp only [BitVec.getLsbD_or, BitVec.getLsbD_shiftLeft, BitVec.getLsbD_zero, Bool.false_or, Bool.and_false, Bool.and_or_distrib_left]
  simp only [show i - 8 - 8 = i - 16 by omega, show i - 16 - 8 = i - 24 by omega, show i - 8 - 8 - 8 = i - 24 by omega]
  by_cases h1 : i < 8
  · simp [h1, show i < 16 by omega, show i < 24 by omega]
  · by_cases h2 : i < 16
    · simp [h1, h2, show i < 24 by omega, show i - 8 < 8 by omega, show i < 32 by omega, show i - 8 < 32 by omega]
    · by_cases h3 : i < 24
      · simp [h1, h2, h3, this, show ¬ i - 8 < 8 by omega, show i - 16 < 8 by omega, show i - 8 < 32 by omega, show i - 16 < 32 by omega]
      · simp [h1, h2, h3, this, show ¬ i - 8 < 8 by omega, show ¬ i - 16 < 8 by omega, show i - 8 < 32 by omega, show i - 16 < 32 by omega, show i - 24 < 32 by omega]
theorem join_to (s : List UInt8) (k : Nat) : joinW s k 4 = (((((((0 : BitVec 32) <<< 8) ||| byteW (s.getD k 0)) <<< 8) ||| byteW (s.getD (k + 1) 0)) <<< 8 ||| byteW (s.getD (k + 2) 0)) <<< 8 ||| byteW (s.getD (k + 3) 0)) := rfl
end Go.Proofs.YtppckmfaidpliaaDoor
