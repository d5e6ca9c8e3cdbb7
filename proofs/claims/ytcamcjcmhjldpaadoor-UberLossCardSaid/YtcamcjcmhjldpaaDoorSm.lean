/- Package sum: words of 32 bits; right: its contract. -/
import Derived.Test.YtcamcjcmhjldpaaDoorOwn
namespace Go.Proofs.YtcamcjcmhjldpaaDoor
open Go.RowKit
set_option maxRecDepth 100000
set_option linter.unusedSimpArgs false
set_option linter.unnecessarySimpa false
set_option linter.unusedVariables false

/-- a word's number -/
def u (x : BitVec 32) : Int := (x.toNat : Int)
theorem u_lo (x : BitVec 32) : 0 ≤ u x := Int.natCast_nonneg _
theorem u_hi (x : BitVec 32) : u x < 4294967296 := by have := x.isLt; unfold u; omega
theorem u_of (x : BitVec 32) : BitVec.ofInt 32 (u x) = x := by unfold u; simp
theorem u_wrap (x : BitVec 32) : IntKind.u32.wrap (u x) = u x := by rw [IntKind.wrap_u32]; have := u_lo x; have := u_hi x; omega
theorem u_mod (x : BitVec 32) : u x % 4294967296 = u x := by have := u_lo x; have := u_hi x; omega
theorem u_xor (x y : BitVec 32) : bits .xor .u32 (u x) (u y) = u (x ^^^ y) := by
  show IntKind.u32.wrap ((BitVec.ofInt 32 (u x) ^^^ BitVec.ofInt 32 (u y)).toNat : Int) = _
  rw [u_of, u_of]; exact u_wrap _
theorem u_and (x y : BitVec 32) : bits .and .u32 (u x) (u y) = u (x &&& y) := by
  show IntKind.u32.wrap ((BitVec.ofInt 32 (u x) &&& BitVec.ofInt 32 (u y)).toNat : Int) = _
  rw [u_of, u_of]; exact u_wrap _
theorem u_or (x y : BitVec 32) : bits .or .u32 (u x) (u y) = u (x ||| y) := by
  show IntKind.u32.wrap ((BitVec.ofInt 32 (u x) ||| BitVec.ofInt 32 (u y)).toNat : Int) = _
  rw [u_of, u_of]; exact u_wrap _
theorem u_add (x y : BitVec 32) : IntKind.u32.wrap (u x + u y) = u (x + y) := by
  rw [IntKind.wrap_u32]
  unfold u
  rw [BitVec.toNat_add]
  omega
theorem u_add' (x y : BitVec 32) : (u x + u y) % 4294967296 = u (x + y) := by rw [← u_add, IntKind.wrap_u32]
theorem u_shr (x : BitVec 32) (k : Nat) : u x / (2 ^ k : Int) = u (x >>> k) := by
  unfold u
  rw [BitVec.toNat_ushiftRight, Nat.shiftRight_eq_div_pow]
  push_cast
  rfl
theorem u_shl (x : BitVec 32) (k : Nat) : u x * (2 ^ k : Int) % 4294967296 = u (x <<< k) := by
  have h : (x <<< k).toNat = (x.toNat * 2 ^ k) % 4294967296 := by rw [BitVec.toNat_shiftLeft, Nat.shiftLeft_eq]
  unfold u
  rw [h, Int.natCast_emod, Int.natCast_mul, Int.natCast_pow]
  rfl

theorem u_shlw (x : BitVec 32) (k : Nat) : IntKind.u32.wrap (u x * (2 ^ k : Int)) = u (x <<< k) := by rw [IntKind.wrap_u32]; exact u_shl x k

/-- rotated right -/
def rotr (x : BitVec 32) (k : Nat) : BitVec 32 := (x >>> k) ||| (x <<< (32 - k))
set_option maxHeartbeats 1000000 in
theorem right_any (x : BitVec 32) (k : Nat) (hk : k ≤ 32) (w : World) :
    Calls Tryd.prog 73 #[.int .u32 (u x), .int .i64 k] w fun e w' => e = .returned (.int .u32 (u (rotr x k))) ∧ ∃ n, w' = w.drewN n := by
  have h0 := u_lo x
  have h1 := u_hi x
  have e1 := u_shr x k
  have e2 := u_shl x (32 - k)
  have e3 := u_or (x >>> k) (x <<< (32 - k))
  have e4 : ((32 : Int) - k).toNat = 32 - k := by omega
  go_enter Tryd.func73, Tryd.ntmps73
  go_wp2_with fail
  go_quiet (fail)
  go_wp2
  go_ret
  exact ⟨rfl, _, rfl⟩

end Go.Proofs.YtcamcjcmhjldpaaDoor
