/- The walk of the law PtrDecodes: it returns true at every input, and writes to nothing that was there. No condition but that numbers fit their kind. -/
import Derived.Test.YtnjbhooogfonbaaLaws04
import Derived.Test.YtnjbhooogfonbaaPt9
namespace Go.Proofs.Ytnjbhooogfonbaa
open Go.RowKit
set_option linter.unusedSimpArgs false
set_option linter.unnecessarySimpa false
set_option linter.unusedVariables false

set_option maxHeartbeats 2000000 in
theorem decs_main (w : World) (s : List UInt8) (hl : ¬ 200 < s.length) (q : Pt) (f : Int) (HD : Hid (decP s = (q, f))) :
    Calls Try.prog 4 #[.string (bstr s)] w fun e w' => e = .returned (.bool true) ∧ Below w.heap.size w w' := by
  have hs : s.length ≤ 140737488351232 := by omega
  have hs2 : s.length ≤ 200 := by omega
  have HSL := Lib.hid hs
  clear hs hl
  go_enter Try.func4, Try.ntmps4
  go_wp2_with fail
  refine (dec_to HD.out HSL.out w).mono ?_
  rintro e w1 ⟨v1, rfl, hn1, b1⟩
  obtain ⟨A1, c1, rfl, -, -⟩ := hn1.form
  go_wp2_with fail
  obtain ⟨P, hP⟩ : ∃ g, w1.heap.size = g := ⟨_, rfl⟩
  obtain ⟨w2, hw2⟩ : ∃ x, w1.alloc (.cells #[.slice A1 q.locs.length c1, .int .i64 q.len, .int .i64 q.birth, .string (bstr q.sum)] 24) = x := ⟨_, rfl⟩
  have b2 : Below w1.heap.size w1 w2 := by rw [← hw2]; exact (Below.refl _ _).alloc (Nat.le_refl _) _
  have st0 : PSt w P (.slice A1 q.locs.length c1) q w2 := ⟨by rw [← hw2, ← hP]; exact Blk.new _ _ _, hn1.keep b2 b2.size, b1.trans (b2.mono b1.size)⟩
  rw [hw2]
  try rw [hP]
  clear hw2 hP b2 hn1 b1
  refine (rdec_to HD.out HSL.out w2).mono ?_
  rintro e w3 ⟨v3, rfl, hn3, b3⟩
  obtain ⟨A3, c3, rfl, -, -⟩ := hn3.form
  have st0_3 := st0.below b3
  clear st0 b3
  have st0 := st0_3
  clear st0_3
  have c0 := st0.hb.cell 0
  have c1 := st0.hb.cell 1
  have c2 := st0.hb.cell 2
  have c3 := st0.hb.cell 3
  simp at c0 c1 c2 c3
  have ca0 := fun o => alloc_cell c0 st0.hb.lt o
  have ca1 := fun o => alloc_cell c1 st0.hb.lt o
  have ca2 := fun o => alloc_cell c2 st0.hb.lt o
  have ca3 := fun o => alloc_cell c3 st0.hb.lt o
  clear c0 c1 c2 c3
  go_wp2_with fail
  obtain ⟨w4, hw4⟩ : ∃ x, w3.alloc (.cells #[.slice A3 q.locs.length c3, .int .i64 q.len, .int .i64 q.birth, .string (bstr q.sum)] 24) = x := ⟨_, rfl⟩
  have b4 : Below w3.heap.size w3 w4 := by rw [← hw4]; exact (Below.refl _ _).alloc (Nat.le_refl _) _
  rw [hw4]
  have hn4 := hn3.keep b4 b4.size
  clear hw4 ca0 ca1 ca2 ca3 hn3
  have st0_4 := st0.below b4
  clear st0 b4
  have st0 := st0_4
  clear st0_4
  refine (rsame_to (p := q) (q := q) (b := true) (decide_eq_true rfl) _ _ w4.heap.size w4.heap.size w4 st0.hv (Nat.le_refl _) hn4 (Nat.le_refl _)).mono ?_
  rintro e w5 ⟨rfl, b5⟩
  clear hn4
  have st0_5 := st0.below b5
  clear st0 b5
  have st0 := st0_5
  clear st0_5
  go_wp2_with fail
  refine (live_any w5).mono ?_
  rintro e w99 ⟨rfl, b99⟩
  go_wp2
  go_ret
  exact ⟨rfl, st0.k.trans (b99.mono st0.k.size)⟩

set_option maxHeartbeats 1000000 in
theorem ptrDecodes_walk (w : World) (a0 : List UInt8) (h0 : a0.length ≤ 140737488351232) :
    Calls Try.prog 4 #[.string (bstr a0)] w fun e w' => e = .returned (.bool true) ∧ Below w.heap.size w w' := by
  clear h0
  by_cases hl : 200 < a0.length
  · go_enter Try.func4, Try.ntmps4
    go_wp2_with fail
    refine (live_any _).mono ?_
    rintro e w1 ⟨rfl, b1⟩
    go_wp2
    go_ret
    exact ⟨rfl, b1⟩
  · obtain ⟨⟨q, f⟩, hd⟩ : ∃ x, decP a0 = x := ⟨_, rfl⟩
    exact decs_main w a0 hl q f hd

end Go.Proofs.Ytnjbhooogfonbaa
