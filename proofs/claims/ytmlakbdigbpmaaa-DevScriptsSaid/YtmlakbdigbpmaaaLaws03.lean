/- The walk of the law DevNil: it returns true at every input, and writes to nothing that was there. No condition but that numbers fit their kind. -/
import Derived.Test.YtmlakbdigbpmaaaDvJ
import Derived.Test.YtmlakbdigbpmaaaTy
namespace Go.Proofs.Ytmlakbdigbpmaaa
open Go.RowKit
set_option linter.unusedSimpArgs false
set_option linter.unnecessarySimpa false
set_option linter.unusedVariables false

def toLc (x : D_api_Loc) : Lc := ⟨x.dev, x.at_⟩
set_option maxRecDepth 100000 in
set_option maxHeartbeats 4000000 in
theorem devNil_walk (w : World) (a0 : D_api_Loc) (h0_0 : (Lit.int .i64 a0.dev).wf = true) (h0_1 : (Lit.int .i64 a0.at_).wf = true) (a1 : List UInt8) (h1 : a1.length ≤ 140737488351232) :
    Calls Try.prog 6 #[.agg #[.int .i64 a0.dev, .int .i64 a0.at_], .string (bstr a1)] w fun e w' => e = .returned (.bool true) ∧ Below w.heap.size w w' := by
  go_enter Try.func6, Try.ntmps6
  go_wp2_with fail
  obtain ⟨G, hG⟩ : ∃ g, w.heap.size = g := ⟨_, rfl⟩
  obtain ⟨w0, hw0⟩ : ∃ x, w.alloc (.cells #[.int .i64 a0.dev, .int .i64 a0.at_] 29) = x := ⟨_, rfl⟩
  have b0 : Below w.heap.size w w0 := by rw [← hw0]; exact (Below.refl _ _).alloc (Nat.le_refl _) _
  have hx0 : Blk w0 G 29 #[.int .i64 a0.dev, .int .i64 a0.at_] := by rw [← hw0, ← hG]; exact Blk.new _ _ _
  rw [hw0]
  try rw [hG]
  clear hw0
  refine (read_nil (toLc a0) w0).mono ?_
  rintro e w1 ⟨rfl, k1⟩
  have b1 := b0.trans (k1.mono b0.size)
  have hx1 := hx0.below k1 hx0.lt
  have x0 := hx1.cell 0
  have x1 := hx1.cell 1
  simp at x0 x1
  go_wp2_with fail
  refine (write_nil (toLc a0) a1 w1).mono ?_
  rintro e w2 ⟨rfl, k2⟩
  have b2 := b1.trans (k2.mono b1.size)
  have hx2 := hx1.below k2 hx1.lt
  clear x0 x1
  go_wp2_with fail
  refine (flush_nil w2).mono ?_
  rintro e _ ⟨rfl, rfl⟩
  go_wp2_with fail
  refine (crash_nil none 0 0 w2).mono ?_
  rintro e w3 ⟨rfl, k3⟩
  have b3 := b2.trans (k3.mono b2.size)
  have hx3 := hx2.below k3 hx2.lt
  go_wp2_with fail
  refine (lose_nil 0 w3).mono ?_
  rintro e w4 ⟨rfl, k4⟩
  have b4 := b3.trans (k4.mono b3.size)
  have hx4 := hx3.below k4 hx3.lt
  have x0 := hx4.cell 0
  have x1 := hx4.cell 1
  simp at x0 x1
  go_wp2_with fail
  refine (spoil_nil (toLc a0) a1 w4).mono ?_
  rintro e w5 ⟨rfl, k5⟩
  have b5 := b4.trans (k5.mono b4.size)
  clear x0 x1
  go_wp2_with fail
  refine (size_nil 0 w5).mono ?_
  rintro e _ ⟨rfl, rfl⟩
  go_wp2_with fail
  refine (lost_nil 0 w5).mono ?_
  rintro e _ ⟨rfl, rfl⟩
  go_wp2_with fail
  refine (waits_nil w5).mono ?_
  rintro e _ ⟨rfl, rfl⟩
  go_wp2_with fail
  refine (copy_nil w5).mono ?_
  rintro e _ ⟨rfl, rfl⟩
  go_wp2_with fail
  refine (live_ok w5).mono ?_
  rintro e w6 ⟨rfl, k6⟩
  go_wp2
  go_ret
  exact ⟨rfl, b5.trans (k6.mono b5.size)⟩

end Go.Proofs.Ytmlakbdigbpmaaa
