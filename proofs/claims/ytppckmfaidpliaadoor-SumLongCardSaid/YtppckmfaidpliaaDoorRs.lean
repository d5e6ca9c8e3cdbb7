/- The reference of package sum: words in 64 bits: word, turn. -/
import Derived.Test.YtppckmfaidpliaaDoorSm2
import Derived.IntWalk
namespace Go.Proofs.YtppckmfaidpliaaDoor
open Go.RowKit
set_option linter.unusedSimpArgs false
set_option linter.unnecessarySimpa false
set_option linter.unusedVariables false

theorem w64 (x : BitVec 32) : BitVec.ofInt 64 (u x) = x.setWidth 64 := by
  apply BitVec.eq_of_toNat_eq
  have := x.isLt
  unfold u
  simp
theorem w64_wrap (x : BitVec 32) : IntKind.i64.wrap (((x.setWidth 64).toNat : Nat) : Int) = u x := by
  have := x.isLt
  have e : (x.setWidth 64).toNat = x.toNat := by rw [BitVec.toNat_setWidth]; omega
  rw [e, IntWalk.i64_in _ ⟨by omega, by omega⟩]
  rfl
theorem x_xor (x y : BitVec 32) : bits .xor .i64 (u x) (u y) = u (x ^^^ y) := by
  show IntKind.i64.wrap ((BitVec.ofInt 64 (u x) ^^^ BitVec.ofInt 64 (u y)).toNat : Int) = _
  rw [w64, w64, ← BitVec.setWidth_xor]; exact w64_wrap _
theorem x_and (x y : BitVec 32) : bits .and .i64 (u x) (u y) = u (x &&& y) := by
  show IntKind.i64.wrap ((BitVec.ofInt 64 (u x) &&& BitVec.ofInt 64 (u y)).toNat : Int) = _
  rw [w64, w64, ← BitVec.setWidth_and]; exact w64_wrap _
theorem x_or (x y : BitVec 32) : bits .or .i64 (u x) (u y) = u (x ||| y) := by
  show IntKind.i64.wrap ((BitVec.ofInt 64 (u x) ||| BitVec.ofInt 64 (u y)).toNat : Int) = _
  rw [w64, w64, ← BitVec.setWidth_or]; exact w64_wrap _
/-- two words without a bit in common -/
theorem x_not (x : BitVec 32) : 4294967295 - u x = u (~~~ x) := by
  have := x.isLt
  unfold u
  rw [BitVec.toNat_not]
  omega
/-- the reference's choice and majority are the program's -/
theorem ch_or (e f g : BitVec 32) : (e &&& f) ||| (~~~ e &&& g) = (e &&& f) ^^^ (~~~ e &&& g) := by
  apply BitVec.eq_of_getLsbD_eq
  intro i hi
  simp only [BitVec.getLsbD_or, BitVec.getLsbD_and, BitVec.getLsbD_xor, BitVec.getLsbD_not]
  cases e.getLsbD i <;> cases f.getLsbD i <;> cases g.getLsbD i <;> simp [hi]
theorem maj_or (a b c : BitVec 32) : ((a &&& b) ||| (a &&& c)) ||| (b &&& c) = ((a &&& b) ^^^ (a &&& c)) ^^^ (b &&& c) := by
  apply BitVec.eq_of_getLsbD_eq
  intro i hi
  simp only [BitVec.getLsbD_or, BitVec.getLsbD_and, BitVec.getLsbD_xor]
  cases a.getLsbD i <;> cases b.getLsbD i <;> cases c.getLsbD i <;> rfl

set_option maxHeartbeats 1000000 in
theorem word_to (n : Int) (x : BitVec 32) (h0 : 0 ≤ n) (h : n % 4294967296 = u x) (w : World) :
    Calls Tryd.prog 31 #[.int .i64 n] w fun e w' => e = .returned (.int .i64 (u x)) ∧ ∃ m, w' = w.drewN m := by
  have ht : n.tmod 4294967296 = u x := by rw [Int.tmod_eq_emod_of_nonneg h0, h]
  have hl := u_lo x
  have hh := u_hi x
  go_enter Tryd.func31, Tryd.ntmps31
  go_wp2
  go_ret
  exact ⟨rfl, 0, rfl⟩

set_option maxHeartbeats 1000000 in
theorem turn_any (x : BitVec 32) (k : Nat) (h2 : 2 ≤ k) (hk : k ≤ 32) (w : World) :
    Calls Tryd.prog 32 #[.int .i64 (u x), .int .i64 k] w fun e w' => e = .returned (.int .i64 (u (rotr x k))) ∧ ∃ m, w' = w.drewN m := by
  have h0 := u_lo x
  have h1 := u_hi x
  have e1 := u_shr x k
  have e2 := u_shl x (32 - k)
  have hp : (2 : Int) ^ (32 - k) ≤ 1073741824 := by
    have : (2 : Nat) ^ (32 - k) ≤ 1073741824 := Nat.pow_le_pow_right (n := 2) (j := 30) (by decide) (by omega)
    have h3 : ((2 ^ (32 - k) : Nat) : Int) ≤ 1073741824 := Int.ofNat_le.2 this
    rwa [Int.natCast_pow] at h3
  have hp0 : (0 : Int) < 2 ^ (32 - k) := by
    have : ((0 : Nat) : Int) < ((2 ^ (32 - k) : Nat) : Int) := Int.ofNat_lt.2 (Nat.pow_pos (by decide))
    rwa [Int.natCast_pow] at this
  have hm0 : 0 ≤ u x * (2 : Int) ^ (32 - k) := Int.mul_nonneg h0 (Int.le_of_lt hp0)
  have hm1 : u x * (2 : Int) ^ (32 - k) ≤ 4294967296 * 1073741824 := Int.mul_le_mul (Int.le_of_lt h1) hp (Int.le_of_lt hp0) (by decide)
  have e5 : IntKind.i64.wrap (u x * (2 : Int) ^ (32 - k)) = u x * (2 : Int) ^ (32 - k) := IntWalk.i64_in _ ⟨by omega, by omega⟩
  have e6 : (u x * (2 : Int) ^ (32 - k)).tmod 4294967296 = u (x <<< (32 - k)) := by rw [Int.tmod_eq_emod_of_nonneg hm0, e2]
  have e3 := x_or (x >>> k) (x <<< (32 - k))
  have e4 : ((32 : Int) - k).toNat = 32 - k := by omega
  have e7 : (k : Int) % 18446744073709551616 = k := by omega
  have e8 : ((32 : Int) - k) % 18446744073709551616 = 32 - k := by omega
  have e9 : IntKind.i64.wrap ((32 : Int) - k) = 32 - k := IntWalk.i64_in _ ⟨by omega, by omega⟩
  go_enter Tryd.func32, Tryd.ntmps32
  go_wp2
  go_ret
  exact ⟨rfl, 0, rfl⟩
end Go.Proofs.YtppckmfaidpliaaDoor
