/- The walk of the law InodeBack: it returns true at every input, and writes to nothing that was there. No condition but that numbers fit their kind. -/
import Derived.Test.YtjbnhofdpklfoaaLv15
import Derived.Test.YtjbnhofdpklfoaaTy
import Derived.Test.YtjbnhofdpklfoaaLaws15b
namespace Go.Proofs.Ytjbnhofdpklfoaa
open Go.RowKit
set_option linter.unusedSimpArgs false
set_option linter.unnecessarySimpa false
set_option linter.unusedVariables false

theorem beN_be4 (n : Nat) (h : n < 4294967296) : ∃ a b c d, be4 n = [a, b, c, d] ∧ beN [a, b, c, d] = n := by
  refine ⟨_, _, _, _, be4_eq n, ?_⟩
  simp [beN]
  omega
theorem key_form (n : Int) : keyL n = [] ∨ ∃ c q, keyL n = c :: q ∧ q.length ≤ 4 ∧ whichL (c :: q) = ⟨0, n, [], true⟩ := by
  unfold keyL
  cases h : inB n with
  | false => exact .inl rfl
  | true =>
    have h2 := inB_true.1 h
    obtain ⟨a, b, c, d, h3, h4⟩ := beN_be4 n.toNat (by omega)
    refine .inr ⟨105, [a, b, c, d], by simp [h3], by simp, ?_⟩
    simp only [whichL, h4]
    rw [if_neg (by omega), if_pos (by simp), Int.toNat_of_nonneg h2.1]
theorem entry_form (n : Int) (s : List UInt8) : entryL n s = [] ∨ ∃ c q, entryL n s = c :: q ∧ q.length ≤ 259 ∧ whichL (c :: q) = ⟨1, n, s, true⟩ := by
  unfold entryL
  cases h : inB n && (!s.isEmpty && decide (s.length ≤ 255)) with
  | false => exact .inl rfl
  | true =>
    simp only [Bool.and_eq_true, Bool.not_eq_true', List.isEmpty_eq_false_iff, decide_eq_true_eq] at h
    have h2 := inB_true.1 h.1
    obtain ⟨a, b, c, d, h3, h4⟩ := beN_be4 n.toNat (by omega)
    refine .inr ⟨100, a :: b :: c :: d :: s, by simp [h3], by simp; omega, ?_⟩
    simp only [whichL, h4]
    rw [if_neg (by omega), if_neg (by simp), if_pos (by simp [h.2.1, h.2.2]), Int.toNat_of_nonneg h2.1]
theorem leN_leB4 (n : Nat) (h : n < 4294967296) : ∃ a b c d, leB n 4 = [a, b, c, d] ∧ leN [a, b, c, d] = n := by
  refine ⟨_, _, _, _, rfl, ?_⟩
  exact leN_leB n 4 (by omega)
theorem dec_enc {d : Bool} {s l : Int} (hs : inB s = true) (hl : inB l = true) : decL (encL d s l) = ⟨d, s, l, 0⟩ := by
  have h1 := inB_true.1 hs
  have h2 := inB_true.1 hl
  obtain ⟨a0, a1, a2, a3, ha, hA⟩ := leN_leB4 s.toNat (by omega)
  obtain ⟨b0, b1, b2, b3, hb, hB⟩ := leN_leB4 l.toNat (by omega)
  have e : encL d s l = (if d then 1 else 0) :: a0 :: a1 :: a2 :: a3 :: b0 :: b1 :: b2 :: b3 :: [] := by
    unfold encL
    rw [ha, hb]; rfl
  rw [e, decL_long, hA, hB]
  cases d
  · rw [if_pos ⟨rfl, by decide, by omega, by omega⟩, Int.toNat_of_nonneg h1.1, Int.toNat_of_nonneg h2.1]; rfl
  · rw [if_pos ⟨rfl, by decide, by omega, by omega⟩, Int.toNat_of_nonneg h1.1, Int.toNat_of_nonneg h2.1]; rfl

section
attribute [local go_sem] undef
set_option maxHeartbeats 2000000 in
theorem back_000 (w : World) (n : Int) (name : List UInt8) (h1 : name.length ≤ 140737488351232) (hl : ¬ 400 < name.length) (d : Bool) (s l : Int) (HK : Hid (keyL n = [])) (HN : Hid (entryL n name = []))
    (q : List UInt8) (hq : q.length ≤ 140737488351232) (HE : Hid (encV d s l = .tuple #[.string (bstr q), .int .i64 1])) (HD : Hid (decL q = ⟨false, 0, 0, 2⟩)) :
    Calls Try.prog 5 #[.int .i64 n, .string (bstr name), .agg #[.bool d, .int .i64 s, .int .i64 l]] w fun e w' => e = .returned (.bool true) ∧ Below w.heap.size w w' := by
  go_enter Try.func5, Try.ntmps5
  go_wp2_with fail
  obtain ⟨G, hG⟩ : ∃ g, w.heap.size = g := ⟨_, rfl⟩
  obtain ⟨w0, hw0⟩ : ∃ w0, w.alloc (.cells #[.bool d, .int .i64 s, .int .i64 l] 30) = w0 := ⟨_, rfl⟩
  have hb0 : Blk w0 G 30 #[.bool d, .int .i64 s, .int .i64 l] := by rw [← hw0, ← hG]; exact Blk.new _ _ _
  have k0 : Below w.heap.size w w0 := by rw [← hw0]; exact (Below.refl _ _).alloc (Nat.le_refl _) _
  have z0 := k0.size
  rw [hw0, hG]
  clear hw0 hG
  refine (key_to HK.out _).mono ?_
  rintro e w1 ⟨rfl, b1⟩
  have hb1 := hb0.below b1 hb0.lt
  have k1 := k0.trans (b1.mono z0)
  have z1 := k1.size
  clear b1 hb0 k0 z0
  go_wp2_with fail
  refine (entry_to HN.out h1 _).mono ?_
  rintro e w2 ⟨rfl, b2⟩
  have hb2 := hb1.below b2 hb1.lt
  have k2 := k1.trans (b2.mono z1)
  have z2 := k2.size
  clear b2 hb1 k1 z1
  have c0 := hb2.cell 0
  have c1 := hb2.cell 1
  have c2 := hb2.cell 2
  simp at c0 c1 c2
  go_wp2_with fail
  clear c0 c1 c2
  refine (enc_to' HE.out _).mono ?_
  rintro e w3 ⟨rfl, b3⟩
  have hb3 := hb2.below b3 hb2.lt
  have k3 := k2.trans (b3.mono z2)
  have z3 := k3.size
  clear b3 hb2 k2 z2
  go_wp2_with fail
  refine (dec_to HD.out hq _).mono ?_
  rintro e w4 ⟨rfl, b4⟩
  have hb4 := hb3.below b4 hb3.lt
  have k4 := k3.trans (b4.mono z3)
  have z4 := k4.size
  clear b4 hb3 k3 z3
  go_wp2_with fail
  obtain ⟨g, hg⟩ : ∃ g, w4.heap.size = g := ⟨_, rfl⟩
  obtain ⟨w5, hw5⟩ : ∃ w5, w4.alloc (.cells #[.bool false, .int .i64 0, .int .i64 0] 34) = w5 := ⟨_, rfl⟩
  have hb5 : Blk w5 G 30 #[.bool d, .int .i64 s, .int .i64 l] := by rw [← hw5]; exact hb4.alloc _
  have hj5 : Blk w5 g 34 #[.bool false, .int .i64 0, .int .i64 0] := by rw [← hw5, ← hg]; exact Blk.new _ _ _
  have k5 : Below w.heap.size w w5 := by rw [← hw5]; exact k4.alloc z4 _
  have z5 := k5.size
  rw [hw5, hg]
  clear hw5 hg hb4 k4 z4
  first
  | (go_region_with (go_at_call 8; refine (live_any w5.drew).mono ?_; rintro e w7 ⟨rfl, b7⟩))
  | fail
  all_goals
    go_wp2
    go_ret
    exact ⟨rfl, k5.trans (b7.fromDrew.mono z5)⟩
end

set_option maxHeartbeats 2000000 in
theorem back_001 (w : World) (n : Int) (name : List UInt8) (h1 : name.length ≤ 140737488351232) (hl : ¬ 400 < name.length) (d : Bool) (s l : Int) (HK : Hid (keyL n = [])) (HN : Hid (entryL n name = []))
    (q : List UInt8) (hq : q.length ≤ 140737488351232) (HE : Hid (encV d s l = .tuple #[.string (bstr q), .int .i64 0])) (HD : Hid (decL q = ⟨d, s, l, 0⟩)) :
    Calls Try.prog 5 #[.int .i64 n, .string (bstr name), .agg #[.bool d, .int .i64 s, .int .i64 l]] w fun e w' => e = .returned (.bool true) ∧ Below w.heap.size w w' := by
  go_enter Try.func5, Try.ntmps5
  go_wp2_with fail
  obtain ⟨G, hG⟩ : ∃ g, w.heap.size = g := ⟨_, rfl⟩
  obtain ⟨w0, hw0⟩ : ∃ w0, w.alloc (.cells #[.bool d, .int .i64 s, .int .i64 l] 30) = w0 := ⟨_, rfl⟩
  have hb0 : Blk w0 G 30 #[.bool d, .int .i64 s, .int .i64 l] := by rw [← hw0, ← hG]; exact Blk.new _ _ _
  have k0 : Below w.heap.size w w0 := by rw [← hw0]; exact (Below.refl _ _).alloc (Nat.le_refl _) _
  have z0 := k0.size
  rw [hw0, hG]
  clear hw0 hG
  refine (key_to HK.out _).mono ?_
  rintro e w1 ⟨rfl, b1⟩
  have hb1 := hb0.below b1 hb0.lt
  have k1 := k0.trans (b1.mono z0)
  have z1 := k1.size
  clear b1 hb0 k0 z0
  go_wp2_with fail
  refine (entry_to HN.out h1 _).mono ?_
  rintro e w2 ⟨rfl, b2⟩
  have hb2 := hb1.below b2 hb1.lt
  have k2 := k1.trans (b2.mono z1)
  have z2 := k2.size
  clear b2 hb1 k1 z1
  have c0 := hb2.cell 0
  have c1 := hb2.cell 1
  have c2 := hb2.cell 2
  simp at c0 c1 c2
  go_wp2_with fail
  clear c0 c1 c2
  refine (enc_to' HE.out _).mono ?_
  rintro e w3 ⟨rfl, b3⟩
  have hb3 := hb2.below b3 hb2.lt
  have k3 := k2.trans (b3.mono z2)
  have z3 := k3.size
  clear b3 hb2 k2 z2
  go_wp2_with fail
  refine (dec_to HD.out hq _).mono ?_
  rintro e w4 ⟨rfl, b4⟩
  have hb4 := hb3.below b4 hb3.lt
  have k4 := k3.trans (b4.mono z3)
  have z4 := k4.size
  clear b4 hb3 k3 z3
  go_wp2_with fail
  obtain ⟨g, hg⟩ : ∃ g, w4.heap.size = g := ⟨_, rfl⟩
  obtain ⟨w5, hw5⟩ : ∃ w5, w4.alloc (.cells #[.bool d, .int .i64 s, .int .i64 l] 34) = w5 := ⟨_, rfl⟩
  have hb5 : Blk w5 G 30 #[.bool d, .int .i64 s, .int .i64 l] := by rw [← hw5]; exact hb4.alloc _
  have hj5 : Blk w5 g 34 #[.bool d, .int .i64 s, .int .i64 l] := by rw [← hw5, ← hg]; exact Blk.new _ _ _
  have k5 : Below w.heap.size w w5 := by rw [← hw5]; exact k4.alloc z4 _
  have z5 := k5.size
  rw [hw5, hg]
  clear hw5 hg hb4 k4 z4
  have c0 := hb5.cell 0
  have c1 := hb5.cell 1
  have c2 := hb5.cell 2
  simp at c0 c1 c2
  have d0 := hj5.cell 0
  have d1 := hj5.cell 1
  have d2 := hj5.cell 2
  simp at d0 d1 d2
  go_region_held3 (fun w' => w'.cell? ⟨G, 0, none⟩ = some (.bool d) ∧ w'.cell? ⟨G, 1, none⟩ = some (.int .i64 s) ∧ w'.cell? ⟨G, 2, none⟩ = some (.int .i64 l) ∧ w'.cell? ⟨g, 0, none⟩ = some (.bool d) ∧ w'.cell? ⟨g, 1, none⟩ = some (.int .i64 s) ∧ w'.cell? ⟨g, 2, none⟩ = some (.int .i64 l))
    (first | exact ⟨n0, n1, n2, o0, o1, o2⟩ | exact ⟨m0, m1, m2, l0, l1, l2⟩ | exact ⟨c0, c1, c2, d0, d1, d2⟩ | go_keep)
    (first
    | (go_at_call 21; refine (told_any _ _ _ w5.drew).mono ?_; rintro e w6 ⟨rfl, b6⟩; have hb6 := hb5.below b6.fromDrew hb5.lt; have hj6 := hj5.below b6.fromDrew hj5.lt; have m0 := hb6.cell 0; have m1 := hb6.cell 1; have m2 := hb6.cell 2; have l0 := hj6.cell 0; have l1 := hj6.cell 1; have l2 := hj6.cell 2; simp at m0 m1 m2 l0 l1 l2)
    | (go_at_call 8; refine (live_any w6).mono ?_; rintro e w7 ⟨rfl, b7⟩; have hb7 := hb6.below b7 hb6.lt; have hj7 := hj6.below b7 hj6.lt; have n0 := hb7.cell 0; have n1 := hb7.cell 1; have n2 := hb7.cell 2; have o0 := hj7.cell 0; have o1 := hj7.cell 1; have o2 := hj7.cell 2; simp at n0 n1 n2 o0 o1 o2))
  go_wp2
  go_ret
  have k6 := k5.trans (b6.fromDrew.mono z5)
  exact ⟨rfl, k6.trans (b7.mono k6.size)⟩

section
attribute [local go_sem] undef
set_option maxHeartbeats 2000000 in
theorem back_010 (w : World) (n : Int) (name : List UInt8) (h1 : name.length ≤ 140737488351232) (hl : ¬ 400 < name.length) (d : Bool) (s l : Int) (HK : Hid (keyL n = [])) (c2 : UInt8) (q2 : List UInt8) (hq2 : q2.length ≤ 259) (HN : Hid (entryL n name = c2 :: q2)) (HNW : Hid (whichL (c2 :: q2) = ⟨1, n, name, true⟩))
    (q : List UInt8) (hq : q.length ≤ 140737488351232) (HE : Hid (encV d s l = .tuple #[.string (bstr q), .int .i64 1])) (HD : Hid (decL q = ⟨false, 0, 0, 2⟩)) :
    Calls Try.prog 5 #[.int .i64 n, .string (bstr name), .agg #[.bool d, .int .i64 s, .int .i64 l]] w fun e w' => e = .returned (.bool true) ∧ Below w.heap.size w w' := by
  go_enter Try.func5, Try.ntmps5
  go_wp2_with fail
  obtain ⟨G, hG⟩ : ∃ g, w.heap.size = g := ⟨_, rfl⟩
  obtain ⟨w0, hw0⟩ : ∃ w0, w.alloc (.cells #[.bool d, .int .i64 s, .int .i64 l] 30) = w0 := ⟨_, rfl⟩
  have hb0 : Blk w0 G 30 #[.bool d, .int .i64 s, .int .i64 l] := by rw [← hw0, ← hG]; exact Blk.new _ _ _
  have k0 : Below w.heap.size w w0 := by rw [← hw0]; exact (Below.refl _ _).alloc (Nat.le_refl _) _
  have z0 := k0.size
  rw [hw0, hG]
  clear hw0 hG
  refine (key_to HK.out _).mono ?_
  rintro e w1 ⟨rfl, b1⟩
  have hb1 := hb0.below b1 hb0.lt
  have k1 := k0.trans (b1.mono z0)
  have z1 := k1.size
  clear b1 hb0 k0 z0
  go_wp2_with fail
  refine (entry_to HN.out h1 _).mono ?_
  rintro e w2 ⟨rfl, b2⟩
  have hb2 := hb1.below b2 hb1.lt
  have k2 := k1.trans (b2.mono z1)
  have z2 := k2.size
  clear b2 hb1 k1 z1
  go_wp2_with fail
  refine (which_to HNW.out (by simp; omega) _).mono ?_
  rintro e _ ⟨rfl, rfl⟩
  have c0 := hb2.cell 0
  have c1 := hb2.cell 1
  have c2 := hb2.cell 2
  simp at c0 c1 c2
  go_wp2_with fail
  clear c0 c1 c2
  refine (enc_to' HE.out _).mono ?_
  rintro e w3 ⟨rfl, b3⟩
  have hb3 := hb2.below b3 hb2.lt
  have k3 := k2.trans (b3.mono z2)
  have z3 := k3.size
  clear b3 hb2 k2 z2
  go_wp2_with fail
  refine (dec_to HD.out hq _).mono ?_
  rintro e w4 ⟨rfl, b4⟩
  have hb4 := hb3.below b4 hb3.lt
  have k4 := k3.trans (b4.mono z3)
  have z4 := k4.size
  clear b4 hb3 k3 z3
  go_wp2_with fail
  obtain ⟨g, hg⟩ : ∃ g, w4.heap.size = g := ⟨_, rfl⟩
  obtain ⟨w5, hw5⟩ : ∃ w5, w4.alloc (.cells #[.bool false, .int .i64 0, .int .i64 0] 34) = w5 := ⟨_, rfl⟩
  have hb5 : Blk w5 G 30 #[.bool d, .int .i64 s, .int .i64 l] := by rw [← hw5]; exact hb4.alloc _
  have hj5 : Blk w5 g 34 #[.bool false, .int .i64 0, .int .i64 0] := by rw [← hw5, ← hg]; exact Blk.new _ _ _
  have k5 : Below w.heap.size w w5 := by rw [← hw5]; exact k4.alloc z4 _
  have z5 := k5.size
  rw [hw5, hg]
  clear hw5 hg hb4 k4 z4
  first
  | (go_region_with (go_at_call 8; refine (live_any w5.drew).mono ?_; rintro e w7 ⟨rfl, b7⟩))
  | fail
  all_goals
    go_wp2
    go_ret
    exact ⟨rfl, k5.trans (b7.fromDrew.mono z5)⟩
end

set_option maxHeartbeats 2000000 in
theorem back_011 (w : World) (n : Int) (name : List UInt8) (h1 : name.length ≤ 140737488351232) (hl : ¬ 400 < name.length) (d : Bool) (s l : Int) (HK : Hid (keyL n = [])) (c2 : UInt8) (q2 : List UInt8) (hq2 : q2.length ≤ 259) (HN : Hid (entryL n name = c2 :: q2)) (HNW : Hid (whichL (c2 :: q2) = ⟨1, n, name, true⟩))
    (q : List UInt8) (hq : q.length ≤ 140737488351232) (HE : Hid (encV d s l = .tuple #[.string (bstr q), .int .i64 0])) (HD : Hid (decL q = ⟨d, s, l, 0⟩)) :
    Calls Try.prog 5 #[.int .i64 n, .string (bstr name), .agg #[.bool d, .int .i64 s, .int .i64 l]] w fun e w' => e = .returned (.bool true) ∧ Below w.heap.size w w' := by
  go_enter Try.func5, Try.ntmps5
  go_wp2_with fail
  obtain ⟨G, hG⟩ : ∃ g, w.heap.size = g := ⟨_, rfl⟩
  obtain ⟨w0, hw0⟩ : ∃ w0, w.alloc (.cells #[.bool d, .int .i64 s, .int .i64 l] 30) = w0 := ⟨_, rfl⟩
  have hb0 : Blk w0 G 30 #[.bool d, .int .i64 s, .int .i64 l] := by rw [← hw0, ← hG]; exact Blk.new _ _ _
  have k0 : Below w.heap.size w w0 := by rw [← hw0]; exact (Below.refl _ _).alloc (Nat.le_refl _) _
  have z0 := k0.size
  rw [hw0, hG]
  clear hw0 hG
  refine (key_to HK.out _).mono ?_
  rintro e w1 ⟨rfl, b1⟩
  have hb1 := hb0.below b1 hb0.lt
  have k1 := k0.trans (b1.mono z0)
  have z1 := k1.size
  clear b1 hb0 k0 z0
  go_wp2_with fail
  refine (entry_to HN.out h1 _).mono ?_
  rintro e w2 ⟨rfl, b2⟩
  have hb2 := hb1.below b2 hb1.lt
  have k2 := k1.trans (b2.mono z1)
  have z2 := k2.size
  clear b2 hb1 k1 z1
  go_wp2_with fail
  refine (which_to HNW.out (by simp; omega) _).mono ?_
  rintro e _ ⟨rfl, rfl⟩
  have c0 := hb2.cell 0
  have c1 := hb2.cell 1
  have c2 := hb2.cell 2
  simp at c0 c1 c2
  go_wp2_with fail
  clear c0 c1 c2
  refine (enc_to' HE.out _).mono ?_
  rintro e w3 ⟨rfl, b3⟩
  have hb3 := hb2.below b3 hb2.lt
  have k3 := k2.trans (b3.mono z2)
  have z3 := k3.size
  clear b3 hb2 k2 z2
  go_wp2_with fail
  refine (dec_to HD.out hq _).mono ?_
  rintro e w4 ⟨rfl, b4⟩
  have hb4 := hb3.below b4 hb3.lt
  have k4 := k3.trans (b4.mono z3)
  have z4 := k4.size
  clear b4 hb3 k3 z3
  go_wp2_with fail
  obtain ⟨g, hg⟩ : ∃ g, w4.heap.size = g := ⟨_, rfl⟩
  obtain ⟨w5, hw5⟩ : ∃ w5, w4.alloc (.cells #[.bool d, .int .i64 s, .int .i64 l] 34) = w5 := ⟨_, rfl⟩
  have hb5 : Blk w5 G 30 #[.bool d, .int .i64 s, .int .i64 l] := by rw [← hw5]; exact hb4.alloc _
  have hj5 : Blk w5 g 34 #[.bool d, .int .i64 s, .int .i64 l] := by rw [← hw5, ← hg]; exact Blk.new _ _ _
  have k5 : Below w.heap.size w w5 := by rw [← hw5]; exact k4.alloc z4 _
  have z5 := k5.size
  rw [hw5, hg]
  clear hw5 hg hb4 k4 z4
  have c0 := hb5.cell 0
  have c1 := hb5.cell 1
  have c2 := hb5.cell 2
  simp at c0 c1 c2
  have d0 := hj5.cell 0
  have d1 := hj5.cell 1
  have d2 := hj5.cell 2
  simp at d0 d1 d2
  go_region_held3 (fun w' => w'.cell? ⟨G, 0, none⟩ = some (.bool d) ∧ w'.cell? ⟨G, 1, none⟩ = some (.int .i64 s) ∧ w'.cell? ⟨G, 2, none⟩ = some (.int .i64 l) ∧ w'.cell? ⟨g, 0, none⟩ = some (.bool d) ∧ w'.cell? ⟨g, 1, none⟩ = some (.int .i64 s) ∧ w'.cell? ⟨g, 2, none⟩ = some (.int .i64 l))
    (first | exact ⟨n0, n1, n2, o0, o1, o2⟩ | exact ⟨m0, m1, m2, l0, l1, l2⟩ | exact ⟨c0, c1, c2, d0, d1, d2⟩ | go_keep)
    (first
    | (go_at_call 21; refine (told_any _ _ _ w5.drew).mono ?_; rintro e w6 ⟨rfl, b6⟩; have hb6 := hb5.below b6.fromDrew hb5.lt; have hj6 := hj5.below b6.fromDrew hj5.lt; have m0 := hb6.cell 0; have m1 := hb6.cell 1; have m2 := hb6.cell 2; have l0 := hj6.cell 0; have l1 := hj6.cell 1; have l2 := hj6.cell 2; simp at m0 m1 m2 l0 l1 l2)
    | (go_at_call 8; refine (live_any w6).mono ?_; rintro e w7 ⟨rfl, b7⟩; have hb7 := hb6.below b7 hb6.lt; have hj7 := hj6.below b7 hj6.lt; have n0 := hb7.cell 0; have n1 := hb7.cell 1; have n2 := hb7.cell 2; have o0 := hj7.cell 0; have o1 := hj7.cell 1; have o2 := hj7.cell 2; simp at n0 n1 n2 o0 o1 o2))
  go_wp2
  go_ret
  have k6 := k5.trans (b6.fromDrew.mono z5)
  exact ⟨rfl, k6.trans (b7.mono k6.size)⟩

section
attribute [local go_sem] undef
set_option maxHeartbeats 2000000 in
theorem back_100 (w : World) (n : Int) (name : List UInt8) (h1 : name.length ≤ 140737488351232) (hl : ¬ 400 < name.length) (d : Bool) (s l : Int) (c1 : UInt8) (q1 : List UInt8) (hq1 : q1.length ≤ 4) (HK : Hid (keyL n = c1 :: q1)) (HKW : Hid (whichL (c1 :: q1) = ⟨0, n, [], true⟩)) (HN : Hid (entryL n name = []))
    (q : List UInt8) (hq : q.length ≤ 140737488351232) (HE : Hid (encV d s l = .tuple #[.string (bstr q), .int .i64 1])) (HD : Hid (decL q = ⟨false, 0, 0, 2⟩)) :
    Calls Try.prog 5 #[.int .i64 n, .string (bstr name), .agg #[.bool d, .int .i64 s, .int .i64 l]] w fun e w' => e = .returned (.bool true) ∧ Below w.heap.size w w' := by
  go_enter Try.func5, Try.ntmps5
  go_wp2_with fail
  obtain ⟨G, hG⟩ : ∃ g, w.heap.size = g := ⟨_, rfl⟩
  obtain ⟨w0, hw0⟩ : ∃ w0, w.alloc (.cells #[.bool d, .int .i64 s, .int .i64 l] 30) = w0 := ⟨_, rfl⟩
  have hb0 : Blk w0 G 30 #[.bool d, .int .i64 s, .int .i64 l] := by rw [← hw0, ← hG]; exact Blk.new _ _ _
  have k0 : Below w.heap.size w w0 := by rw [← hw0]; exact (Below.refl _ _).alloc (Nat.le_refl _) _
  have z0 := k0.size
  rw [hw0, hG]
  clear hw0 hG
  refine (key_to HK.out _).mono ?_
  rintro e w1 ⟨rfl, b1⟩
  have hb1 := hb0.below b1 hb0.lt
  have k1 := k0.trans (b1.mono z0)
  have z1 := k1.size
  clear b1 hb0 k0 z0
  go_wp2_with fail
  refine (entry_to HN.out h1 _).mono ?_
  rintro e w2 ⟨rfl, b2⟩
  have hb2 := hb1.below b2 hb1.lt
  have k2 := k1.trans (b2.mono z1)
  have z2 := k2.size
  clear b2 hb1 k1 z1
  go_wp2_with fail
  refine (which_to HKW.out (by simp; omega) _).mono ?_
  rintro e _ ⟨rfl, rfl⟩
  have c0 := hb2.cell 0
  have c1 := hb2.cell 1
  have c2 := hb2.cell 2
  simp at c0 c1 c2
  go_wp2_with fail
  clear c0 c1 c2
  refine (enc_to' HE.out _).mono ?_
  rintro e w3 ⟨rfl, b3⟩
  have hb3 := hb2.below b3 hb2.lt
  have k3 := k2.trans (b3.mono z2)
  have z3 := k3.size
  clear b3 hb2 k2 z2
  go_wp2_with fail
  refine (dec_to HD.out hq _).mono ?_
  rintro e w4 ⟨rfl, b4⟩
  have hb4 := hb3.below b4 hb3.lt
  have k4 := k3.trans (b4.mono z3)
  have z4 := k4.size
  clear b4 hb3 k3 z3
  go_wp2_with fail
  obtain ⟨g, hg⟩ : ∃ g, w4.heap.size = g := ⟨_, rfl⟩
  obtain ⟨w5, hw5⟩ : ∃ w5, w4.alloc (.cells #[.bool false, .int .i64 0, .int .i64 0] 34) = w5 := ⟨_, rfl⟩
  have hb5 : Blk w5 G 30 #[.bool d, .int .i64 s, .int .i64 l] := by rw [← hw5]; exact hb4.alloc _
  have hj5 : Blk w5 g 34 #[.bool false, .int .i64 0, .int .i64 0] := by rw [← hw5, ← hg]; exact Blk.new _ _ _
  have k5 : Below w.heap.size w w5 := by rw [← hw5]; exact k4.alloc z4 _
  have z5 := k5.size
  rw [hw5, hg]
  clear hw5 hg hb4 k4 z4
  first
  | (go_region_with (go_at_call 8; refine (live_any w5.drew).mono ?_; rintro e w7 ⟨rfl, b7⟩))
  | fail
  all_goals
    go_wp2
    go_ret
    exact ⟨rfl, k5.trans (b7.fromDrew.mono z5)⟩
end

set_option maxHeartbeats 2000000 in
theorem back_101 (w : World) (n : Int) (name : List UInt8) (h1 : name.length ≤ 140737488351232) (hl : ¬ 400 < name.length) (d : Bool) (s l : Int) (c1 : UInt8) (q1 : List UInt8) (hq1 : q1.length ≤ 4) (HK : Hid (keyL n = c1 :: q1)) (HKW : Hid (whichL (c1 :: q1) = ⟨0, n, [], true⟩)) (HN : Hid (entryL n name = []))
    (q : List UInt8) (hq : q.length ≤ 140737488351232) (HE : Hid (encV d s l = .tuple #[.string (bstr q), .int .i64 0])) (HD : Hid (decL q = ⟨d, s, l, 0⟩)) :
    Calls Try.prog 5 #[.int .i64 n, .string (bstr name), .agg #[.bool d, .int .i64 s, .int .i64 l]] w fun e w' => e = .returned (.bool true) ∧ Below w.heap.size w w' := by
  go_enter Try.func5, Try.ntmps5
  go_wp2_with fail
  obtain ⟨G, hG⟩ : ∃ g, w.heap.size = g := ⟨_, rfl⟩
  obtain ⟨w0, hw0⟩ : ∃ w0, w.alloc (.cells #[.bool d, .int .i64 s, .int .i64 l] 30) = w0 := ⟨_, rfl⟩
  have hb0 : Blk w0 G 30 #[.bool d, .int .i64 s, .int .i64 l] := by rw [← hw0, ← hG]; exact Blk.new _ _ _
  have k0 : Below w.heap.size w w0 := by rw [← hw0]; exact (Below.refl _ _).alloc (Nat.le_refl _) _
  have z0 := k0.size
  rw [hw0, hG]
  clear hw0 hG
  refine (key_to HK.out _).mono ?_
  rintro e w1 ⟨rfl, b1⟩
  have hb1 := hb0.below b1 hb0.lt
  have k1 := k0.trans (b1.mono z0)
  have z1 := k1.size
  clear b1 hb0 k0 z0
  go_wp2_with fail
  refine (entry_to HN.out h1 _).mono ?_
  rintro e w2 ⟨rfl, b2⟩
  have hb2 := hb1.below b2 hb1.lt
  have k2 := k1.trans (b2.mono z1)
  have z2 := k2.size
  clear b2 hb1 k1 z1
  go_wp2_with fail
  refine (which_to HKW.out (by simp; omega) _).mono ?_
  rintro e _ ⟨rfl, rfl⟩
  have c0 := hb2.cell 0
  have c1 := hb2.cell 1
  have c2 := hb2.cell 2
  simp at c0 c1 c2
  go_wp2_with fail
  clear c0 c1 c2
  refine (enc_to' HE.out _).mono ?_
  rintro e w3 ⟨rfl, b3⟩
  have hb3 := hb2.below b3 hb2.lt
  have k3 := k2.trans (b3.mono z2)
  have z3 := k3.size
  clear b3 hb2 k2 z2
  go_wp2_with fail
  refine (dec_to HD.out hq _).mono ?_
  rintro e w4 ⟨rfl, b4⟩
  have hb4 := hb3.below b4 hb3.lt
  have k4 := k3.trans (b4.mono z3)
  have z4 := k4.size
  clear b4 hb3 k3 z3
  go_wp2_with fail
  obtain ⟨g, hg⟩ : ∃ g, w4.heap.size = g := ⟨_, rfl⟩
  obtain ⟨w5, hw5⟩ : ∃ w5, w4.alloc (.cells #[.bool d, .int .i64 s, .int .i64 l] 34) = w5 := ⟨_, rfl⟩
  have hb5 : Blk w5 G 30 #[.bool d, .int .i64 s, .int .i64 l] := by rw [← hw5]; exact hb4.alloc _
  have hj5 : Blk w5 g 34 #[.bool d, .int .i64 s, .int .i64 l] := by rw [← hw5, ← hg]; exact Blk.new _ _ _
  have k5 : Below w.heap.size w w5 := by rw [← hw5]; exact k4.alloc z4 _
  have z5 := k5.size
  rw [hw5, hg]
  clear hw5 hg hb4 k4 z4
  have c0 := hb5.cell 0
  have c1 := hb5.cell 1
  have c2 := hb5.cell 2
  simp at c0 c1 c2
  have d0 := hj5.cell 0
  have d1 := hj5.cell 1
  have d2 := hj5.cell 2
  simp at d0 d1 d2
  go_region_held3 (fun w' => w'.cell? ⟨G, 0, none⟩ = some (.bool d) ∧ w'.cell? ⟨G, 1, none⟩ = some (.int .i64 s) ∧ w'.cell? ⟨G, 2, none⟩ = some (.int .i64 l) ∧ w'.cell? ⟨g, 0, none⟩ = some (.bool d) ∧ w'.cell? ⟨g, 1, none⟩ = some (.int .i64 s) ∧ w'.cell? ⟨g, 2, none⟩ = some (.int .i64 l))
    (first | exact ⟨n0, n1, n2, o0, o1, o2⟩ | exact ⟨m0, m1, m2, l0, l1, l2⟩ | exact ⟨c0, c1, c2, d0, d1, d2⟩ | go_keep)
    (first
    | (go_at_call 21; refine (told_any _ _ _ w5.drew).mono ?_; rintro e w6 ⟨rfl, b6⟩; have hb6 := hb5.below b6.fromDrew hb5.lt; have hj6 := hj5.below b6.fromDrew hj5.lt; have m0 := hb6.cell 0; have m1 := hb6.cell 1; have m2 := hb6.cell 2; have l0 := hj6.cell 0; have l1 := hj6.cell 1; have l2 := hj6.cell 2; simp at m0 m1 m2 l0 l1 l2)
    | (go_at_call 8; refine (live_any w6).mono ?_; rintro e w7 ⟨rfl, b7⟩; have hb7 := hb6.below b7 hb6.lt; have hj7 := hj6.below b7 hj6.lt; have n0 := hb7.cell 0; have n1 := hb7.cell 1; have n2 := hb7.cell 2; have o0 := hj7.cell 0; have o1 := hj7.cell 1; have o2 := hj7.cell 2; simp at n0 n1 n2 o0 o1 o2))
  go_wp2
  go_ret
  have k6 := k5.trans (b6.fromDrew.mono z5)
  exact ⟨rfl, k6.trans (b7.mono k6.size)⟩

section
attribute [local go_sem] undef
set_option maxHeartbeats 2000000 in
theorem back_110 (w : World) (n : Int) (name : List UInt8) (h1 : name.length ≤ 140737488351232) (hl : ¬ 400 < name.length) (d : Bool) (s l : Int) (c1 : UInt8) (q1 : List UInt8) (hq1 : q1.length ≤ 4) (HK : Hid (keyL n = c1 :: q1)) (HKW : Hid (whichL (c1 :: q1) = ⟨0, n, [], true⟩)) (c2 : UInt8) (q2 : List UInt8) (hq2 : q2.length ≤ 259) (HN : Hid (entryL n name = c2 :: q2)) (HNW : Hid (whichL (c2 :: q2) = ⟨1, n, name, true⟩))
    (q : List UInt8) (hq : q.length ≤ 140737488351232) (HE : Hid (encV d s l = .tuple #[.string (bstr q), .int .i64 1])) (HD : Hid (decL q = ⟨false, 0, 0, 2⟩)) :
    Calls Try.prog 5 #[.int .i64 n, .string (bstr name), .agg #[.bool d, .int .i64 s, .int .i64 l]] w fun e w' => e = .returned (.bool true) ∧ Below w.heap.size w w' := by
  go_enter Try.func5, Try.ntmps5
  go_wp2_with fail
  obtain ⟨G, hG⟩ : ∃ g, w.heap.size = g := ⟨_, rfl⟩
  obtain ⟨w0, hw0⟩ : ∃ w0, w.alloc (.cells #[.bool d, .int .i64 s, .int .i64 l] 30) = w0 := ⟨_, rfl⟩
  have hb0 : Blk w0 G 30 #[.bool d, .int .i64 s, .int .i64 l] := by rw [← hw0, ← hG]; exact Blk.new _ _ _
  have k0 : Below w.heap.size w w0 := by rw [← hw0]; exact (Below.refl _ _).alloc (Nat.le_refl _) _
  have z0 := k0.size
  rw [hw0, hG]
  clear hw0 hG
  refine (key_to HK.out _).mono ?_
  rintro e w1 ⟨rfl, b1⟩
  have hb1 := hb0.below b1 hb0.lt
  have k1 := k0.trans (b1.mono z0)
  have z1 := k1.size
  clear b1 hb0 k0 z0
  go_wp2_with fail
  refine (entry_to HN.out h1 _).mono ?_
  rintro e w2 ⟨rfl, b2⟩
  have hb2 := hb1.below b2 hb1.lt
  have k2 := k1.trans (b2.mono z1)
  have z2 := k2.size
  clear b2 hb1 k1 z1
  go_wp2_with fail
  refine (which_to HKW.out (by simp; omega) _).mono ?_
  rintro e _ ⟨rfl, rfl⟩
  go_wp2_with fail
  refine (which_to HNW.out (by simp; omega) _).mono ?_
  rintro e _ ⟨rfl, rfl⟩
  have c0 := hb2.cell 0
  have c1 := hb2.cell 1
  have c2 := hb2.cell 2
  simp at c0 c1 c2
  go_wp2_with fail
  clear c0 c1 c2
  refine (enc_to' HE.out _).mono ?_
  rintro e w3 ⟨rfl, b3⟩
  have hb3 := hb2.below b3 hb2.lt
  have k3 := k2.trans (b3.mono z2)
  have z3 := k3.size
  clear b3 hb2 k2 z2
  go_wp2_with fail
  refine (dec_to HD.out hq _).mono ?_
  rintro e w4 ⟨rfl, b4⟩
  have hb4 := hb3.below b4 hb3.lt
  have k4 := k3.trans (b4.mono z3)
  have z4 := k4.size
  clear b4 hb3 k3 z3
  go_wp2_with fail
  obtain ⟨g, hg⟩ : ∃ g, w4.heap.size = g := ⟨_, rfl⟩
  obtain ⟨w5, hw5⟩ : ∃ w5, w4.alloc (.cells #[.bool false, .int .i64 0, .int .i64 0] 34) = w5 := ⟨_, rfl⟩
  have hb5 : Blk w5 G 30 #[.bool d, .int .i64 s, .int .i64 l] := by rw [← hw5]; exact hb4.alloc _
  have hj5 : Blk w5 g 34 #[.bool false, .int .i64 0, .int .i64 0] := by rw [← hw5, ← hg]; exact Blk.new _ _ _
  have k5 : Below w.heap.size w w5 := by rw [← hw5]; exact k4.alloc z4 _
  have z5 := k5.size
  rw [hw5, hg]
  clear hw5 hg hb4 k4 z4
  first
  | (go_region_with (go_at_call 8; refine (live_any w5.drew).mono ?_; rintro e w7 ⟨rfl, b7⟩))
  | fail
  all_goals
    go_wp2
    go_ret
    exact ⟨rfl, k5.trans (b7.fromDrew.mono z5)⟩
end

set_option maxHeartbeats 2000000 in
theorem back_111 (w : World) (n : Int) (name : List UInt8) (h1 : name.length ≤ 140737488351232) (hl : ¬ 400 < name.length) (d : Bool) (s l : Int) (c1 : UInt8) (q1 : List UInt8) (hq1 : q1.length ≤ 4) (HK : Hid (keyL n = c1 :: q1)) (HKW : Hid (whichL (c1 :: q1) = ⟨0, n, [], true⟩)) (c2 : UInt8) (q2 : List UInt8) (hq2 : q2.length ≤ 259) (HN : Hid (entryL n name = c2 :: q2)) (HNW : Hid (whichL (c2 :: q2) = ⟨1, n, name, true⟩))
    (q : List UInt8) (hq : q.length ≤ 140737488351232) (HE : Hid (encV d s l = .tuple #[.string (bstr q), .int .i64 0])) (HD : Hid (decL q = ⟨d, s, l, 0⟩)) :
    Calls Try.prog 5 #[.int .i64 n, .string (bstr name), .agg #[.bool d, .int .i64 s, .int .i64 l]] w fun e w' => e = .returned (.bool true) ∧ Below w.heap.size w w' := by
  go_enter Try.func5, Try.ntmps5
  go_wp2_with fail
  obtain ⟨G, hG⟩ : ∃ g, w.heap.size = g := ⟨_, rfl⟩
  obtain ⟨w0, hw0⟩ : ∃ w0, w.alloc (.cells #[.bool d, .int .i64 s, .int .i64 l] 30) = w0 := ⟨_, rfl⟩
  have hb0 : Blk w0 G 30 #[.bool d, .int .i64 s, .int .i64 l] := by rw [← hw0, ← hG]; exact Blk.new _ _ _
  have k0 : Below w.heap.size w w0 := by rw [← hw0]; exact (Below.refl _ _).alloc (Nat.le_refl _) _
  have z0 := k0.size
  rw [hw0, hG]
  clear hw0 hG
  refine (key_to HK.out _).mono ?_
  rintro e w1 ⟨rfl, b1⟩
  have hb1 := hb0.below b1 hb0.lt
  have k1 := k0.trans (b1.mono z0)
  have z1 := k1.size
  clear b1 hb0 k0 z0
  go_wp2_with fail
  refine (entry_to HN.out h1 _).mono ?_
  rintro e w2 ⟨rfl, b2⟩
  have hb2 := hb1.below b2 hb1.lt
  have k2 := k1.trans (b2.mono z1)
  have z2 := k2.size
  clear b2 hb1 k1 z1
  go_wp2_with fail
  refine (which_to HKW.out (by simp; omega) _).mono ?_
  rintro e _ ⟨rfl, rfl⟩
  go_wp2_with fail
  refine (which_to HNW.out (by simp; omega) _).mono ?_
  rintro e _ ⟨rfl, rfl⟩
  have c0 := hb2.cell 0
  have c1 := hb2.cell 1
  have c2 := hb2.cell 2
  simp at c0 c1 c2
  go_wp2_with fail
  clear c0 c1 c2
  refine (enc_to' HE.out _).mono ?_
  rintro e w3 ⟨rfl, b3⟩
  have hb3 := hb2.below b3 hb2.lt
  have k3 := k2.trans (b3.mono z2)
  have z3 := k3.size
  clear b3 hb2 k2 z2
  go_wp2_with fail
  refine (dec_to HD.out hq _).mono ?_
  rintro e w4 ⟨rfl, b4⟩
  have hb4 := hb3.below b4 hb3.lt
  have k4 := k3.trans (b4.mono z3)
  have z4 := k4.size
  clear b4 hb3 k3 z3
  go_wp2_with fail
  obtain ⟨g, hg⟩ : ∃ g, w4.heap.size = g := ⟨_, rfl⟩
  obtain ⟨w5, hw5⟩ : ∃ w5, w4.alloc (.cells #[.bool d, .int .i64 s, .int .i64 l] 34) = w5 := ⟨_, rfl⟩
  have hb5 : Blk w5 G 30 #[.bool d, .int .i64 s, .int .i64 l] := by rw [← hw5]; exact hb4.alloc _
  have hj5 : Blk w5 g 34 #[.bool d, .int .i64 s, .int .i64 l] := by rw [← hw5, ← hg]; exact Blk.new _ _ _
  have k5 : Below w.heap.size w w5 := by rw [← hw5]; exact k4.alloc z4 _
  have z5 := k5.size
  rw [hw5, hg]
  clear hw5 hg hb4 k4 z4
  have c0 := hb5.cell 0
  have c1 := hb5.cell 1
  have c2 := hb5.cell 2
  simp at c0 c1 c2
  have d0 := hj5.cell 0
  have d1 := hj5.cell 1
  have d2 := hj5.cell 2
  simp at d0 d1 d2
  go_region_held3 (fun w' => w'.cell? ⟨G, 0, none⟩ = some (.bool d) ∧ w'.cell? ⟨G, 1, none⟩ = some (.int .i64 s) ∧ w'.cell? ⟨G, 2, none⟩ = some (.int .i64 l) ∧ w'.cell? ⟨g, 0, none⟩ = some (.bool d) ∧ w'.cell? ⟨g, 1, none⟩ = some (.int .i64 s) ∧ w'.cell? ⟨g, 2, none⟩ = some (.int .i64 l))
    (first | exact ⟨n0, n1, n2, o0, o1, o2⟩ | exact ⟨m0, m1, m2, l0, l1, l2⟩ | exact ⟨c0, c1, c2, d0, d1, d2⟩ | go_keep)
    (first
    | (go_at_call 21; refine (told_any _ _ _ w5.drew).mono ?_; rintro e w6 ⟨rfl, b6⟩; have hb6 := hb5.below b6.fromDrew hb5.lt; have hj6 := hj5.below b6.fromDrew hj5.lt; have m0 := hb6.cell 0; have m1 := hb6.cell 1; have m2 := hb6.cell 2; have l0 := hj6.cell 0; have l1 := hj6.cell 1; have l2 := hj6.cell 2; simp at m0 m1 m2 l0 l1 l2)
    | (go_at_call 8; refine (live_any w6).mono ?_; rintro e w7 ⟨rfl, b7⟩; have hb7 := hb6.below b7 hb6.lt; have hj7 := hj6.below b7 hj6.lt; have n0 := hb7.cell 0; have n1 := hb7.cell 1; have n2 := hb7.cell 2; have o0 := hj7.cell 0; have o1 := hj7.cell 1; have o2 := hj7.cell 2; simp at n0 n1 n2 o0 o1 o2))
  go_wp2
  go_ret
  have k6 := k5.trans (b6.fromDrew.mono z5)
  exact ⟨rfl, k6.trans (b7.mono k6.size)⟩

set_option maxHeartbeats 1000000 in
theorem inodeBack_walk (w : World) (a0 : Int) (h0 : (Lit.int .i64 a0).wf = true) (a1 : List UInt8) (h1 : a1.length ≤ 140737488351232) (a2 : D_permafrostref15_Inode) (h2_0 : (Lit.int .i64 a2.size).wf = true) (h2_1 : (Lit.int .i64 a2.links).wf = true) :
    Calls Try.prog 5 #[.int .i64 a0, .string (bstr a1), .agg #[.bool a2.dir, .int .i64 a2.size, .int .i64 a2.links]] w fun e w' => e = .returned (.bool true) ∧ Below w.heap.size w w' := by
  obtain ⟨d, s, l⟩ := a2
  clear h0 h2_0 h2_1
  show Calls Try.prog 5 #[.int .i64 a0, .string (bstr a1), .agg #[.bool d, .int .i64 s, .int .i64 l]] w _
  by_cases hl : 400 < a1.length
  · go_enter Try.func5, Try.ntmps5
    go_wp2_with fail
    refine (live_any _).mono ?_
    rintro e w1 ⟨rfl, b1⟩
    go_wp2
    go_ret
    exact ⟨rfl, ((Below.refl _ _).alloc (Nat.le_refl _) _).trans (b1.mono (by simp))⟩
  · obtain ⟨q, e0, he, hq, hf⟩ := encV_form d s l
    have hq' : q.length ≤ 140737488351232 := by omega
    rcases hf with ⟨rfl, hs, hll, rfl⟩ | ⟨rfl, rfl⟩
    · have hd := dec_enc (d := d) hs hll
      rcases key_form a0 with k | ⟨c1, q1, k, k2, k3⟩
      · rcases entry_form a0 a1 with m | ⟨c2, q2, m, m2, m3⟩
        · exact back_001 w a0 a1 h1 hl d s l k m _ hq' he hd
        · exact back_011 w a0 a1 h1 hl d s l k c2 q2 m2 m m3 _ hq' he hd
      · rcases entry_form a0 a1 with m | ⟨c2, q2, m, m2, m3⟩
        · exact back_101 w a0 a1 h1 hl d s l c1 q1 k2 k k3 m _ hq' he hd
        · exact back_111 w a0 a1 h1 hl d s l c1 q1 k2 k k3 c2 q2 m2 m m3 _ hq' he hd
    · have hd : decL [] = ⟨false, 0, 0, 2⟩ := rfl
      rcases key_form a0 with k | ⟨c1, q1, k, k2, k3⟩
      · rcases entry_form a0 a1 with m | ⟨c2, q2, m, m2, m3⟩
        · exact back_000 w a0 a1 h1 hl d s l k m _ hq' he hd
        · exact back_010 w a0 a1 h1 hl d s l k c2 q2 m2 m m3 _ hq' he hd
      · rcases entry_form a0 a1 with m | ⟨c2, q2, m, m2, m3⟩
        · exact back_100 w a0 a1 h1 hl d s l c1 q1 k2 k k3 m _ hq' he hd
        · exact back_110 w a0 a1 h1 hl d s l c1 q1 k2 k k3 c2 q2 m2 m m3 _ hq' he hd

end Go.Proofs.Ytjbnhofdpklfoaa
