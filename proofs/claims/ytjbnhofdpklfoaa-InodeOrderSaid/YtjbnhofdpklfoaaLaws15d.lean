/- The walk of the law InodeOrder: it returns true at every input, and writes to nothing that was there. No condition but that numbers fit their kind. -/
import Derived.Test.YtjbnhofdpklfoaaLv15
import Derived.Test.YtjbnhofdpklfoaaTy
import Derived.Test.YtjbnhofdpklfoaaOrd
namespace Go.Proofs.Ytjbnhofdpklfoaa
open Go.RowKit
set_option linter.unusedSimpArgs false
set_option linter.unnecessarySimpa false
set_option linter.unusedVariables false

set_option maxHeartbeats 2000000 in
theorem order_in (w : World) (n m : Int) (a b : List UInt8) (h0 : 0 ≤ n) (h1 : n ≤ 2147483648) (h2 : 0 ≤ m) (h3 : m ≤ 2147483648) (ha : a.isEmpty = false) (hb : b.isEmpty = false) (ha2 : a.length ≤ 255) (hb2 : b.length ≤ 255)
    (q1 q2 c1 c2 e1 e2 : List UInt8) (H1 : Hid (keyL n = q1)) (H2 : Hid (keyL m = q2)) (H3 : Hid (chunkL 5 n = c1)) (H4 : Hid (chunkL 5 m = c2)) (H5 : Hid (entryL n a = e1)) (H6 : Hid (entryL m b = e2))
    (x y z : Bool) (hx : decide (n < m) = x) (hy : (n == m) = y) (hz : Op.bytesLess a b = z) (hk : Op.bytesLess q1 q2 = x) (hc : Op.bytesLess c1 c2 = x) (he : Op.bytesLess e1 e2 = (x || (y && z))) :
    Calls Try.prog 6 #[.agg #[.int .i64 n, .int .i64 m, .string (bstr a), .string (bstr b)]] w fun e w' => e = .returned (.bool true) ∧ Below w.heap.size w w' := by
  cases x <;> cases y <;> cases z <;> simp only [Bool.true_or, Bool.false_or, Bool.and_true, Bool.and_false, Bool.true_and, Bool.false_and, Bool.or_true, Bool.or_false] at he
  all_goals
    go_enter Try.func6, Try.ntmps6
    go_wp2_with fail
    obtain ⟨G, hG⟩ : ∃ g, w.heap.size = g := ⟨_, rfl⟩
    obtain ⟨w0, hw0⟩ : ∃ w0, w.alloc (.cells #[.int .i64 n, .int .i64 m, .string (bstr a), .string (bstr b)] 44) = w0 := ⟨_, rfl⟩
    have hb0 : Blk w0 G 44 #[.int .i64 n, .int .i64 m, .string (bstr a), .string (bstr b)] := by rw [← hw0, ← hG]; exact Blk.new _ _ _
    have k0 : Below w.heap.size w w0 := by rw [← hw0]; exact (Below.refl _ _).alloc (Nat.le_refl _) _
    rw [hw0, hG]
    clear hw0 hG
    have y0 := hb0.cell 0
    have y1 := hb0.cell 1
    have y2 := hb0.cell 2
    have y3 := hb0.cell 3
    simp at y0 y1 y2 y3
    go_quiet ((fail))
    have z0 := k0.size
    go_wp2_with fail
    refine (key_to H1.out _).mono ?_
    rintro e w1 ⟨rfl, b1⟩
    have k1 := k0.trans (b1.fromN.mono z0)
    have z1 := k1.size
    clear b1 k0 z0
    go_wp2_with fail
    refine (key_to H2.out _).mono ?_
    rintro e w2 ⟨rfl, b2⟩
    have k2 := k1.trans (b2.mono z1)
    have z2 := k2.size
    clear b2 k1 z1
    go_wp2_with fail
    refine (chunk_to H3.out _).mono ?_
    rintro e w3 ⟨rfl, b3⟩
    have k3 := k2.trans (b3.mono z2)
    have z3 := k3.size
    clear b3 k2 z2
    go_wp2_with fail
    refine (chunk_to H4.out _).mono ?_
    rintro e w4 ⟨rfl, b4⟩
    have k4 := k3.trans (b4.mono z3)
    have z4 := k4.size
    clear b4 k3 z3
    go_wp2_with fail
    refine (entry_to H5.out (by omega) _).mono ?_
    rintro e w5 ⟨rfl, b5⟩
    have k5 := k4.trans (b5.mono z4)
    have z5 := k5.size
    clear b5 k4 z4
    go_wp2_with fail
    refine (entry_to H6.out (by omega) _).mono ?_
    rintro e w6 ⟨rfl, b6⟩
    have k6 := k5.trans (b6.mono z5)
    have z6 := k6.size
    clear b6 k5 z5
    go_wp2_with fail
    refine (live_any _).mono ?_
    rintro e w7 ⟨rfl, b7⟩
    have k7 := k6.trans (b7.mono z6)
    have z7 := k7.size
    clear b7 k6 z6
    go_wp2
    go_ret
    exact ⟨rfl, k7⟩

set_option maxHeartbeats 2000000 in
theorem inodeOrder_walk (w : World) (a0 : D_permafrostlaw15_Two) (h0_0 : (Lit.int .i64 a0.n).wf = true) (h0_1 : (Lit.int .i64 a0.m).wf = true) (h0_2 : a0.a.length ≤ 9223372036854775807) (h0_3 : a0.b.length ≤ 9223372036854775807) :
    Calls Try.prog 6 #[.agg #[.int .i64 a0.n, .int .i64 a0.m, .string (bstr a0.a), .string (bstr a0.b)]] w fun e w' => e = .returned (.bool true) ∧ Below w.heap.size w w' := by
  obtain ⟨n, m, a, b⟩ := a0
  clear h0_0 h0_1
  show Calls Try.prog 6 #[.agg #[.int .i64 n, .int .i64 m, .string (bstr a), .string (bstr b)]] w _
  simp only at h0_2 h0_3
  by_cases hg : (0 ≤ n ∧ n ≤ 2147483648) ∧ (0 ≤ m ∧ m ≤ 2147483648) ∧ (a.isEmpty = false ∧ b.isEmpty = false) ∧ a.length ≤ 255 ∧ b.length ≤ 255
  · obtain ⟨⟨h0, h1⟩, ⟨h2, h3⟩, ⟨ha, hb⟩, ha2, hb2⟩ := hg
    have ha' : a ≠ [] := by simpa using ha
    have hb' : b ≠ [] := by simpa using hb
    have hk := key_less h0 h1 h2 h3
    have hc := chunk_less h0 h1 h2 h3
    have he := entry_less h0 h1 h2 h3 ha' hb' ha2 hb2
    have hnm : (n == m) = decide (n = m) := by rw [Bool.eq_iff_iff]; simp
    rw [← hnm] at he
    exact order_in w n m a b h0 h1 h2 h3 ha hb ha2 hb2 _ _ _ _ _ _ rfl rfl rfl rfl rfl rfl _ _ _ rfl rfl rfl hk hc he
  · go_enter Try.func6, Try.ntmps6
    go_wp2_with fail
    obtain ⟨G, hG⟩ : ∃ g, w.heap.size = g := ⟨_, rfl⟩
    obtain ⟨w0, hw0⟩ : ∃ w0, w.alloc (.cells #[.int .i64 n, .int .i64 m, .string (bstr a), .string (bstr b)] 44) = w0 := ⟨_, rfl⟩
    have hb0 : Blk w0 G 44 #[.int .i64 n, .int .i64 m, .string (bstr a), .string (bstr b)] := by rw [← hw0, ← hG]; exact Blk.new _ _ _
    have k0 : Below w.heap.size w w0 := by rw [← hw0]; exact (Below.refl _ _).alloc (Nat.le_refl _) _
    rw [hw0, hG]
    clear hw0 hG
    have y0 := hb0.cell 0
    have y1 := hb0.cell 1
    have y2 := hb0.cell 2
    have y3 := hb0.cell 3
    simp at y0 y1 y2 y3
    go_quiet ((fail))
    have z0 := k0.size
    have HG := Lib.hid hg
    clear hg
    go_wp2_with fail
    all_goals first
      | (go_at_call 8
         refine (live_any _).mono ?_
         rintro e w1 ⟨rfl, b1⟩
         go_wp2
         go_ret
         exact ⟨rfl, k0.trans (b1.fromN.mono z0)⟩)
      | exact absurd ⟨⟨by omega, by omega⟩, ⟨by omega, by omega⟩, ⟨by simp_all, by simp_all⟩, by omega, by omega⟩ HG.out

end Go.Proofs.Ytjbnhofdpklfoaa
