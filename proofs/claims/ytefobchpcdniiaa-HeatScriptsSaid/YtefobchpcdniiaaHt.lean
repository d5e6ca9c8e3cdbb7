/- Package heat: worth: its contract. -/
import Derived.Test.YtefobchpcdniiaaMem
import Derived.IntWalk
import Derived.OpenShut
namespace Go.Proofs.Ytefobchpcdniiaa
open Go.RowKit
set_option linter.unusedSimpArgs false
set_option linter.unnecessarySimpa false
set_option linter.unusedVariables false

/-- what a count of n at a tick is worth -/
def worthH (n tick now : Int) : Int := if now ≤ tick then n else if now - tick < 30 then n / 2 ^ (now - tick).toNat else 0
theorem worthH_lo (n tick now : Int) (h : 0 ≤ n) : 0 ≤ worthH n tick now := by
  unfold worthH
  split
  · exact h
  · split
    · exact Int.ediv_nonneg h (Int.le_of_lt (by exact_mod_cast Nat.pow_pos (by decide : 0 < 2)))
    · exact Int.le_refl _
theorem worthH_hi (n tick now : Int) (h : 0 ≤ n) : worthH n tick now ≤ n := by
  unfold worthH
  split
  · exact Int.le_refl _
  · split
    · exact Int.ediv_le_self _ h
    · exact h

set_option maxHeartbeats 1000000 in
theorem worth_any (n tick now : Int) (hn : 0 ≤ n) (hn1 : n ≤ 1048576) (ht : (Lit.int .i64 tick).wf = true) (hw : (Lit.int .i64 now).wf = true) (w : World) :
    Calls Try.prog 21 #[.agg #[.int .i64 n, .int .i64 tick], .int .i64 now] w fun e w' => e = .returned (.int .i64 (worthH n tick now)) ∧ Below w.heap.size w w' := by
  have ht := bounds_i64 ht
  have hw := bounds_i64 hw
  by_cases h1 : now ≤ tick
  · go_enter Try.func21, Try.ntmps21
    go_wp2
    go_ret
    refine ⟨?_, (Below.refl _ _).alloc (Nat.le_refl _) _⟩
    simp [worthH, h1]
  · obtain ⟨p, hp⟩ : ∃ p : Nat, now - tick = p := ⟨(now - tick).toNat, by omega⟩
    have e1 : IntKind.u64.wrap (IntKind.u64.wrap now - IntKind.u64.wrap tick) = p := by simp only [IntKind.wrap_u64]; omega
    have e2 : (now % 18446744073709551616 - tick % 18446744073709551616) % 18446744073709551616 = p := by omega
    by_cases h2 : p < 30
    · have h2' : (p : Int) < 30 := by omega
      go_enter Try.func21, Try.ntmps21
      go_wp2
      go_ret
      refine ⟨?_, (Below.refl _ _).alloc (Nat.le_refl _) _⟩
      rw [show worthH n tick now = n / 2 ^ p from by unfold worthH; rw [if_neg (by omega), if_pos (by omega), hp]; simp]
      rfl
    · have h2' : ¬ (p : Int) < 30 := by omega
      go_enter Try.func21, Try.ntmps21
      go_wp2
      go_ret
      refine ⟨?_, (Below.refl _ _).alloc (Nat.le_refl _) _⟩
      rw [show worthH n tick now = 0 from by unfold worthH; rw [if_neg (by omega), if_neg (by omega)]]
      rfl
end Go.Proofs.Ytefobchpcdniiaa
