/- The walk of the law InodeKeys: it returns true at every input, and writes to nothing that was there. No condition but that numbers fit their kind. -/
import Derived.Test.YtjbnhofdpklfoaaLv15
import Derived.Test.YtjbnhofdpklfoaaArg
namespace Go.Proofs.Ytjbnhofdpklfoaa
open Go.RowKit
set_option linter.unusedSimpArgs false
set_option linter.unnecessarySimpa false
set_option linter.unusedVariables false

set_option maxHeartbeats 1000000 in
theorem inodeKeys_walk (w : World) (a0 : Int) (h0 : (Lit.int .i64 a0).wf = true) (a1 : Int) (h1 : (Lit.int .i64 a1).wf = true) (a2 : List UInt8) (h2 : a2.length ≤ 140737488351232) :
    Calls Try.prog 3 #[.int .i64 a0, .int .i64 a1, .string (bstr a2)] w fun e w' => e = .returned (.bool true) ∧ Below w.heap.size w w' := by
  clear h0 h1
  by_cases hl : 400 < a2.length
  · go_enter Try.func3, Try.ntmps3
    go_wp2_with fail
    refine (live_any _).mono ?_
    rintro e w1 ⟨rfl, b1⟩
    go_wp2
    go_ret
    exact ⟨rfl, b1⟩
  · obtain ⟨⟨k, n, r, b⟩, hw⟩ : ∃ x, whichL a2 = x := ⟨_, rfl⟩
    have HW := Lib.hid hw
    clear hw
    go_enter Try.func3, Try.ntmps3
    go_wp2_with fail
    refine (which_to HW.out h2 _).mono ?_
    rintro e _ ⟨rfl, rfl⟩
    go_wp2_with fail
    refine (rwhich_to HW.out h2 _).mono ?_
    rintro e _ ⟨rfl, rfl⟩
    go_wp2_with fail
    refine (key_any _ _).mono ?_
    rintro e w1 ⟨rfl, b1⟩
    go_wp2_with fail
    refine (rkey_any _ _).mono ?_
    rintro e w2 ⟨rfl, b2⟩
    go_wp2_with fail
    refine (entry_any _ _ h2 _).mono ?_
    rintro e w3 ⟨rfl, b3⟩
    go_wp2_with fail
    refine (rentry_any _ _ h2 _).mono ?_
    rintro e w4 ⟨rfl, b4⟩
    go_wp2_with fail
    refine (chunk_any _ _ _).mono ?_
    rintro e w5 ⟨rfl, b5⟩
    go_wp2_with fail
    refine (rchunk_any _ _ _).mono ?_
    rintro e w6 ⟨rfl, b6⟩
    go_wp2_with fail
    refine (live_any _).mono ?_
    rintro e w7 ⟨rfl, b7⟩
    go_wp2
    go_ret
    have s1 := b1.size
    have s2 := b2.size
    have s3 := b3.size
    have s4 := b4.size
    have s5 := b5.size
    have s6 := b6.size
    exact ⟨rfl, b1.trans ((b2.mono s1).trans ((b3.mono (by omega)).trans ((b4.mono (by omega)).trans ((b5.mono (by omega)).trans ((b6.mono (by omega)).trans (b7.mono (by omega)))))))⟩

end Go.Proofs.Ytjbnhofdpklfoaa
