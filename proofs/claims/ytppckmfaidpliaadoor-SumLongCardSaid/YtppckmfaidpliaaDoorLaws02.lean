/- The laws of package sum that reach the program alone: SumNil, SumShape. -/
import Derived.Test.YtppckmfaidpliaaDoorSm7
namespace Go.Proofs.YtppckmfaidpliaaDoor
open Go.RowKit
set_option linter.unusedSimpArgs false
set_option linter.unnecessarySimpa false
set_option linter.unusedVariables false

theorem nil_dig : Sw.new.digest = nilS := by decide +kernel
set_option maxRecDepth 100000 in
set_option maxHeartbeats 2000000 in
theorem sumNil_walk (w : World) (hR : RootsAt w) (a0 : List UInt8) (h0 : a0.length ≤ 140737488351232) :
    Calls Tryd.prog 6 #[.string (bstr a0)] w fun e w' => e = .returned (.bool true) ∧ Below w.heap.size w w' := by
  go_enter Tryd.func6, Tryd.ntmps6
  go_wp2_with fail
  refine (write_nil a0 w).mono ?_
  rintro e v0 ⟨rfl, hv0⟩
  rw [hv0]
  clear hv0 v0
  go_wp2_with fail
  refine (sum_nil w hR).mono ?_
  rintro e w1 ⟨rfl, hb1⟩
  rw [nil_dig]
  go_wp2_with fail
  refine (of_any [] (by decide) w1 (hR.below hb1 hR.1)).mono ?_
  rintro e w2 ⟨rfl, hb2⟩
  have hb2' := below_then hb1 hb2
  rw [show shaL [] = nilS from rfl]
  go_wp2_with fail
  refine (len_nil w2).mono ?_
  rintro e v2 ⟨rfl, hv2⟩
  rw [hv2]
  clear hv2 v2
  go_wp2_with fail
  refine (live_ok w2 (hR.below hb2' hR.1)).mono ?_
  rintro e w3 ⟨rfl, hb3⟩
  have hb3' := below_then hb2' hb3
  go_wp2
  go_ret
  exact ⟨rfl, hb3'⟩
end Go.Proofs.YtppckmfaidpliaaDoor
