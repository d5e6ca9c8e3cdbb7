/- The walks of the laws InodeTexts and InodeBack: each returns true at every input, and writes to nothing that was there. No condition but that numbers fit their kind. -/
import Derived.Test.YtjbnhofdpklfoaaLv15
import Derived.Test.YtjbnhofdpklfoaaTy
namespace Go.Proofs.Ytjbnhofdpklfoaa
open Go.RowKit
set_option linter.unusedSimpArgs false
set_option linter.unnecessarySimpa false
set_option linter.unusedVariables false

theorem encV_form (d : Bool) (s l : Int) : ∃ q e, encV d s l = .tuple #[.string (bstr q), .int .i64 e] ∧ q.length ≤ 9 ∧ ((e = 0 ∧ inB s = true ∧ inB l = true ∧ q = encL d s l) ∨ (e = 1 ∧ q = [])) := by
  unfold encV
  cases h : inB s && inB l with
  | true =>
    simp only [Bool.and_eq_true] at h
    exact ⟨_, _, rfl, by simp [encL, length_leB], .inl ⟨rfl, h.1, h.2, rfl⟩⟩
  | false => exact ⟨_, _, rfl, by simp, .inr ⟨rfl, rfl⟩⟩
theorem renc_to' {d : Bool} {s l : Int} {q : List UInt8} {e0 : Int} (h : encV d s l = .tuple #[.string (bstr q), .int .i64 e0]) (w : World) :
    Calls Try.prog 18 #[.agg #[.bool d, .int .i64 s, .int .i64 l]] w fun e w' => e = .returned (.tuple #[.string (bstr q), .int .i64 e0]) ∧ Below w.heap.size w w' := renc_to h w
theorem enc_to' {d : Bool} {s l : Int} {q : List UInt8} {e0 : Int} (h : encV d s l = .tuple #[.string (bstr q), .int .i64 e0]) (w : World) :
    Calls Try.prog 17 #[.agg #[.bool d, .int .i64 s, .int .i64 l]] w fun e w' => e = .returned (.tuple #[.string (bstr q), .int .i64 e0]) ∧ Below w.heap.size w w' := enc_to h w

set_option maxHeartbeats 2000000 in
theorem inodeTexts_walk (w : World) (a0 : D_permafrostref15_Inode) (h0_0 : (Lit.int .i64 a0.size).wf = true) (h0_1 : (Lit.int .i64 a0.links).wf = true) (a1 : List UInt8) (h1 : a1.length ≤ 140737488351232) :
    Calls Try.prog 4 #[.agg #[.bool a0.dir, .int .i64 a0.size, .int .i64 a0.links], .string (bstr a1)] w fun e w' => e = .returned (.bool true) ∧ Below w.heap.size w w' := by
  obtain ⟨d, s, l⟩ := a0
  clear h0_0 h0_1
  show Calls Try.prog 4 #[.agg #[.bool d, .int .i64 s, .int .i64 l], .string (bstr a1)] w _
  by_cases hl : 100 < a1.length
  · go_enter Try.func4, Try.ntmps4
    go_wp2_with fail
    refine (live_any _).mono ?_
    rintro e w1 ⟨rfl, b1⟩
    go_wp2
    go_ret
    exact ⟨rfl, ((Below.refl _ _).alloc (Nat.le_refl _) _).trans (b1.mono (by simp))⟩
  · obtain ⟨q, e0, he, hq, _⟩ := encV_form d s l
    obtain ⟨⟨d', x, y, f0⟩, hd⟩ : ∃ i, decL a1 = i := ⟨_, rfl⟩
    have HE := Lib.hid he
    have HD := Lib.hid hd
    clear he hd
    go_enter Try.func4, Try.ntmps4
    go_wp2_with fail
    refine (enc_to' HE.out _).mono ?_
    rintro e w1 ⟨rfl, b1⟩
    have k1 : Below w.heap.size w w1 := ((Below.refl _ _).alloc (Nat.le_refl _) _).trans (b1.mono (by simp))
    have hb1 : Blk w1 w.heap.size 30 #[.bool d, .int .i64 s, .int .i64 l] := (Blk.new w _ _).below b1 (by simp)
    have c0 := hb1.cell 0
    have c1 := hb1.cell 1
    have c2 := hb1.cell 2
    have z1 := k1.size
    simp at c0 c1 c2
    clear b1 hb1
    go_wp2_with fail
    refine (renc_to' HE.out _).mono ?_
    rintro e w2 ⟨rfl, b2⟩
    have k2 := k1.trans (b2.mono z1)
    have z2 := k2.size
    clear c0 c1 c2 b2 k1 z1
    go_wp2_with fail
    refine (dec_to HD.out h1 _).mono ?_
    rintro e w3 ⟨rfl, b3⟩
    have k3 := k2.trans (b3.mono z2)
    have z3 := k3.size
    clear b3 k2 z2
    go_wp2_with fail
    obtain ⟨g, hg⟩ : ∃ g, w3.heap.size = g := ⟨_, rfl⟩
    obtain ⟨w4, hw4⟩ : ∃ w4, w3.alloc (.cells #[.bool d', .int .i64 x, .int .i64 y] 34) = w4 := ⟨_, rfl⟩
    have hb4 : Blk w4 g 34 #[.bool d', .int .i64 x, .int .i64 y] := by rw [← hw4, ← hg]; exact Blk.new _ _ _
    have k4 : Below w.heap.size w w4 := by rw [← hw4]; exact k3.alloc z3 _
    have z4 := k4.size
    rw [hw4, hg]
    clear hw4 hg k3 z3
    refine (rdec_to HD.out h1 _).mono ?_
    rintro e w5 ⟨rfl, b5⟩
    have hb5 := hb4.below b5 hb4.lt
    have k5 := k4.trans (b5.mono z4)
    have z5 := k5.size
    clear b5 hb4 k4 z4
    go_wp2_with fail
    obtain ⟨g2, hg2⟩ : ∃ g, w5.heap.size = g := ⟨_, rfl⟩
    obtain ⟨w6, hw6⟩ : ∃ w6, w5.alloc (.cells #[.bool d', .int .i64 x, .int .i64 y] 30) = w6 := ⟨_, rfl⟩
    have hb6 : Blk w6 g 34 #[.bool d', .int .i64 x, .int .i64 y] := by rw [← hw6]; exact hb5.alloc _
    have hc6 : Blk w6 g2 30 #[.bool d', .int .i64 x, .int .i64 y] := by rw [← hw6, ← hg2]; exact Blk.new _ _ _
    have k6 : Below w.heap.size w w6 := by rw [← hw6]; exact k5.alloc z5 _
    have z6 := k6.size
    rw [hw6, hg2]
    clear hw6 hg2 k5 z5 hb5
    have c0 := hb6.cell 0
    have c1 := hb6.cell 1
    have c2 := hb6.cell 2
    have d0 := hc6.cell 0
    have d1 := hc6.cell 1
    have d2 := hc6.cell 2
    simp at c0 c1 c2 d0 d1 d2
    go_region_held3 (fun w' => w'.cell? ⟨g, 0, none⟩ = some (.bool d') ∧ w'.cell? ⟨g, 1, none⟩ = some (.int .i64 x) ∧ w'.cell? ⟨g, 2, none⟩ = some (.int .i64 y) ∧ w'.cell? ⟨g2, 0, none⟩ = some (.bool d') ∧ w'.cell? ⟨g2, 1, none⟩ = some (.int .i64 x) ∧ w'.cell? ⟨g2, 2, none⟩ = some (.int .i64 y))
      (first | exact ⟨n0, n1, n2, o0, o1, o2⟩ | exact ⟨m0, m1, m2, l0, l1, l2⟩ | exact ⟨c0, c1, c2, d0, d1, d2⟩ | go_keep)
      (first
      | (go_at_call 21; refine (told_any _ _ _ w6.drew).mono ?_; rintro e w7 ⟨rfl, b7⟩; have hb7 := hb6.below b7.fromDrew hb6.lt; have hc7 := hc6.below b7.fromDrew hc6.lt; have m0 := hb7.cell 0; have m1 := hb7.cell 1; have m2 := hb7.cell 2; have l0 := hc7.cell 0; have l1 := hc7.cell 1; have l2 := hc7.cell 2; simp at m0 m1 m2 l0 l1 l2)
      | (go_at_call 8; refine (live_any w7).mono ?_; rintro e w8 ⟨rfl, b8⟩; have hb8 := hb7.below b8 hb7.lt; have hc8 := hc7.below b8 hc7.lt; have n0 := hb8.cell 0; have n1 := hb8.cell 1; have n2 := hb8.cell 2; have o0 := hc8.cell 0; have o1 := hc8.cell 1; have o2 := hc8.cell 2; simp at n0 n1 n2 o0 o1 o2))
    go_wp2
    go_ret
    have k7 := k6.trans (b7.fromDrew.mono z6)
    exact ⟨rfl, k7.trans (b8.mono k7.size)⟩

end Go.Proofs.Ytjbnhofdpklfoaa
