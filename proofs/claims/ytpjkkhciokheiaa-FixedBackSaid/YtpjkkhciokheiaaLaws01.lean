import Derived.Test.YtpjkkhciokheiaaLv
import Derived.Test.YtpjkkhciokheiaaArg
namespace Go.Proofs.Ytpjkkhciokheiaa
open Go.RowKit
set_option linter.unusedSimpArgs false
set_option linter.unusedVariables false

set_option maxHeartbeats 400000 in
theorem number_nil (n : Int) (w : World) :
    Calls Try.prog 16 #[.pointer none, .int .i64 n] w fun en w' => en = .returned (.int .i64 0) ∧ w = w' := by
  go_enter Try.func16, Try.ntmps16
  go_wp2
  go_ret
  exact ⟨rfl, rfl⟩
set_option maxHeartbeats 400000 in
theorem bytes_nil (n : Int) (w : World) :
    Calls Try.prog 20 #[.pointer none, .int .i64 n] w fun en w' => en = .returned (.string (bstr [])) ∧ w = w' := by
  go_enter Try.func20, Try.ntmps20
  go_wp2
  go_ret
  exact ⟨rfl, rfl⟩
set_option maxHeartbeats 400000 in
theorem text_nil (n : Int) (w : World) :
    Calls Try.prog 17 #[.pointer none, .int .i64 n] w fun en w' => en = .returned (.string (bstr [])) ∧ w = w' := by
  go_enter Try.func17, Try.ntmps17
  go_wp2_with fail
  refine (number_nil _ _).mono ?_
  rintro e _ ⟨rfl, rfl⟩
  go_wp2_with fail
  refine (bytes_nil _ _).mono ?_
  rintro e _ ⟨rfl, rfl⟩
  go_wp2
  go_ret
  exact ⟨rfl, rfl⟩
set_option maxHeartbeats 400000 in
theorem left_nil (w : World) :
    Calls Try.prog 19 #[.pointer none] w fun en w' => en = .returned (.int .i64 0) ∧ w = w' := by
  go_enter Try.func19, Try.ntmps19
  go_wp2
  go_ret
  exact ⟨rfl, rfl⟩
set_option maxHeartbeats 400000 in
theorem end_nil (w : World) :
    Calls Try.prog 18 #[.pointer none] w fun en w' => en = .returned (.int .i64 1) ∧ w = w' := by
  go_enter Try.func18, Try.ntmps18
  go_wp2
  go_ret
  exact ⟨rfl, rfl⟩

set_option maxHeartbeats 1000000 in
theorem fixedNil_walk (w : World) (a0 : Int) (h0 : (Lit.int .i64 a0).wf = true) :
    Calls Try.prog 6 #[.int .i64 a0] w fun e w' => e = .returned (.bool true) ∧ Below w.heap.size w w' := by
  clear h0
  go_enter Try.func6, Try.ntmps6
  go_wp2_with fail
  refine (number_nil _ _).mono ?_
  rintro e _ ⟨rfl, rfl⟩
  go_wp2_with fail
  refine (text_nil _ _).mono ?_
  rintro e _ ⟨rfl, rfl⟩
  go_wp2_with fail
  refine (bytes_nil _ _).mono ?_
  rintro e _ ⟨rfl, rfl⟩
  go_wp2_with fail
  refine (left_nil _).mono ?_
  rintro e _ ⟨rfl, rfl⟩
  go_wp2_with fail
  refine (end_nil _).mono ?_
  rintro e _ ⟨rfl, rfl⟩
  go_wp2_with fail
  refine (live_any _).mono ?_
  rintro e w1 ⟨rfl, b1⟩
  go_wp2
  go_ret
  exact ⟨rfl, b1⟩

end Go.Proofs.Ytpjkkhciokheiaa
