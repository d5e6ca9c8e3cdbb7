/- The reference of package sum: digits, Hex. -/
import Derived.Test.YtppckmfaidpliaaDoorRs
import Derived.Test.YtppckmfaidpliaaDoorBl2
namespace Go.Proofs.YtppckmfaidpliaaDoor
open Go.RowKit
set_option linter.unusedSimpArgs false
set_option linter.unnecessarySimpa false
set_option linter.unusedVariables false

/-- cells of numbers -/
def natV (l : List Nat) : List Value := l.map fun z => Value.int .i64 (z : Nat)
def digL (n : Nat) : Nat → List Nat
  | 0 => []
  | k + 1 => digL n k ++ [n / 65536 ^ k % 65536]
theorem digL_len (n : Nat) : ∀ k, (digL n k).length = k
  | 0 => rfl
  | k + 1 => by rw [digL, List.length_append, digL_len n k]; rfl
theorem int_info : (Tryd.prog.info? 3).map (fun i => (i.zero, i.size, i.bytes)) = some (some (.int .i64 0), 1, 8) := by kernel_rfl

set_option maxHeartbeats 1000000 in
theorem digits_any (n many : Nat) (hn : n < 4611686018427387904) (hm : many ≤ 100) (w : World) :
    Calls Tryd.prog 28 #[.int .i64 n, .int .i64 many] w fun e w' => ∃ v, e = .returned v ∧ w'.ownsRow w.heap.size 3 1 v many (natV (digL n many)) ∧ Below w.heap.size w w' := by
  go_enter Tryd.func28, Tryd.ntmps28
  go_wp2_with fail
  go_loopw [0, 5, 6] (fun z v i wr => ∃ k : Nat, k ≤ many ∧ i = .int .i64 k ∧ z = .int .i64 (n / 65536 ^ k : Nat) ∧ wr.ownsRow w.heap.size 3 1 v k (natV (digL n k)) ∧ Below w.heap.size w wr) (fun _ _ i _ => many - (intOf i).toNat)
  case atStart => exact ⟨0, by omega, rfl, by simp, World.ownsRow_nil _ _ _ _, Below.refl _ _⟩
  case round =>
    obtain ⟨k, hk, rfl, rfl, hown, hbl⟩ := hrel
    have hp2 : n / 65536 ^ k ≤ n := Nat.div_le_self _ _
    obtain ⟨p, hpe⟩ : ∃ p, n / 65536 ^ k = p := ⟨_, rfl⟩
    rw [hpe] at hp2 ⊢
    have HP := Lib.hid hpe
    clear hpe
    by_cases hlt : k < many
    · have hsz := hbl.size
      go_wp2_with (at_builtin; refine wpList_app (P := Tryd.prog) _ rfl _ _ 36 rfl w.heap.size 3 (.int .i64 0) 1 8 Tryd.underlying36 int_info rfl (by decide) _ k _ rfl hown _ rfl rfl ?c1 ?c2 ?c3 hsz ?_)
      case c1 => intro u hu; simp at hu; subst hu; rfl
      case c2 => unfold maxLen; omega
      case c3 => omega
      intro v' w1 hown1 _ hb1
      have e1 : natV (digL n k) ++ [Value.int .i64 ((p : Int) % 65536)] = natV (digL n (k + 1)) := by
        rw [digL, HP.out]
        simp [natV]
      rw [e1] at hown1
      clear e1
      go_wp2
      go_roundw
      case rel => exact ⟨k + 1, by omega, by go_num, by rw [Nat.pow_succ, ← Nat.div_div_eq_div_mul, HP.out]; go_num, hown1, hbl.trans hb1⟩
      case measure => simp [intOf]; omega
    · obtain rfl : k = many := by omega
      go_wp2
      go_ret
      exact ⟨_, rfl, hown, hbl⟩
end Go.Proofs.YtppckmfaidpliaaDoor
