/- The walk of the law PtrBack: it returns true at every input, and writes to nothing that was there. No condition but that numbers fit their kind. -/
import Derived.Test.YtnjbhooogfonbaaLaws04
import Derived.Test.YtnjbhooogfonbaaPp
namespace Go.Proofs.Ytnjbhooogfonbaa
open Go.RowKit
set_option linter.unusedSimpArgs false
set_option linter.unnecessarySimpa false
set_option linter.unusedVariables false

theorem dec_err {s : List UInt8} {q : Pt} {f : Int} (h : decP s = (q, f)) (hf : f ≠ 0) : q = ptZ := by
  unfold decP at h
  split at h
  · simp only [Prod.mk.injEq] at h; exact h.1.symm
  · simp only at h
    split at h
    · simp only [Prod.mk.injEq] at h; exact h.1.symm
    · split at h
      · simp only [Prod.mk.injEq] at h; exact absurd h.2.symm hf
      · simp only [Prod.mk.injEq] at h; exact h.1.symm

set_option maxHeartbeats 2000000 in
theorem back_big (w : World) (p : Pt) (v : Value) (hv : LocsAt w.heap.size w v p.locs) (s : List UInt8) (HS : Hid (smallB p = false)) :
    Calls Try.prog 5 #[ptV v p, .string (bstr s)] w fun e w' => e = .returned (.bool true) ∧ Below w.heap.size w w' := by
  obtain ⟨A, c, rfl, hc, hm⟩ := hv.form
  go_enter Try.func5, Try.ntmps5
  go_wp2_with fail
  obtain ⟨P, hP⟩ : ∃ g, w.heap.size = g := ⟨_, rfl⟩
  have st0 := PSt.new hv
  obtain ⟨w0, hw0⟩ : ∃ x, w.alloc (.cells #[.slice A p.locs.length c, .int .i64 p.len, .int .i64 p.birth, .string (bstr p.sum)] 24) = x := ⟨_, rfl⟩
  rw [hw0] at st0 ⊢
  rw [hP] at st0
  try rw [hP]
  clear hw0
  refine (small_to HS.out _ w0.heap.size w0 st0.hv).mono ?_
  rintro e w1 ⟨rfl, b1⟩
  have st0_1 := st0.below b1
  clear st0 b1
  have st0 := st0_1
  clear st0_1
  go_wp2_with fail
  refine (live_any w1).mono ?_
  rintro e w99 ⟨rfl, b99⟩
  go_wp2
  go_ret
  exact ⟨rfl, st0.k.trans (b99.mono st0.k.size)⟩

set_option maxHeartbeats 2000000 in
theorem back_long (w : World) (p : Pt) (v : Value) (hv : LocsAt w.heap.size w v p.locs) (s : List UInt8) (HS : Hid (smallB p = true)) (hl : 200 < s.length) :
    Calls Try.prog 5 #[ptV v p, .string (bstr s)] w fun e w' => e = .returned (.bool true) ∧ Below w.heap.size w w' := by
  obtain ⟨A, c, rfl, hc, hm⟩ := hv.form
  go_enter Try.func5, Try.ntmps5
  go_wp2_with fail
  obtain ⟨P, hP⟩ : ∃ g, w.heap.size = g := ⟨_, rfl⟩
  have st0 := PSt.new hv
  obtain ⟨w0, hw0⟩ : ∃ x, w.alloc (.cells #[.slice A p.locs.length c, .int .i64 p.len, .int .i64 p.birth, .string (bstr p.sum)] 24) = x := ⟨_, rfl⟩
  rw [hw0] at st0 ⊢
  rw [hP] at st0
  try rw [hP]
  clear hw0
  refine (small_to HS.out _ w0.heap.size w0 st0.hv).mono ?_
  rintro e w1 ⟨rfl, b1⟩
  have st0_1 := st0.below b1
  clear st0 b1
  have st0 := st0_1
  clear st0_1
  go_wp2_with fail
  refine (live_any w1).mono ?_
  rintro e w99 ⟨rfl, b99⟩
  go_wp2
  go_ret
  exact ⟨rfl, st0.k.trans (b99.mono st0.k.size)⟩

set_option maxHeartbeats 4000000 in
theorem back_11 (w : World) (p : Pt) (v : Value) (hv : LocsAt w.heap.size w v p.locs) (s : List UInt8) (HS : Hid (smallB p = true)) (hl : ¬ 200 < s.length) (HC : Hid (ckE p = 0)) (T : List UInt8) (HE : Hid (encP p = T)) (hT : T.length ≤ 140737488351232) (HD : Hid (decP T = (p, 0))) (q : Pt) (HD2 : Hid (decP s = (q, 0))) (HC2 : Hid (ckE q = 0)) (HE2 : Hid (encP q = s)) :
    Calls Try.prog 5 #[ptV v p, .string (bstr s)] w fun e w' => e = .returned (.bool true) ∧ Below w.heap.size w w' := by
  have hs : s.length ≤ 140737488351232 := by omega
  have hs2 : s.length ≤ 200 := by omega
  have HSL := Lib.hid hs
  clear hs hl
  obtain ⟨A, c, rfl, hc, hm⟩ := hv.form
  go_enter Try.func5, Try.ntmps5
  go_wp2_with fail
  obtain ⟨P, hP⟩ : ∃ g, w.heap.size = g := ⟨_, rfl⟩
  have st0 := PSt.new hv
  obtain ⟨w0, hw0⟩ : ∃ x, w.alloc (.cells #[.slice A p.locs.length c, .int .i64 p.len, .int .i64 p.birth, .string (bstr p.sum)] 24) = x := ⟨_, rfl⟩
  rw [hw0] at st0 ⊢
  rw [hP] at st0
  try rw [hP]
  clear hw0
  refine (small_to HS.out _ w0.heap.size w0 st0.hv).mono ?_
  rintro e w1 ⟨rfl, b1⟩
  have st0_1 := st0.below b1
  clear st0 b1
  have st0 := st0_1
  clear st0_1
  have c0 := st0.hb.cell 0
  have c1 := st0.hb.cell 1
  have c2 := st0.hb.cell 2
  have c3 := st0.hb.cell 3
  simp at c0 c1 c2 c3
  go_wp2_with fail
  clear c0 c1 c2 c3
  refine (enc_ok _ p HC w1.heap.size w1 st0.hv (Nat.le_refl _)).mono ?_
  rintro e w2 ⟨rfl, b2⟩
  have st0_2 := st0.below b2
  clear st0 b2
  have st0 := st0_2
  clear st0_2
  rw [HE.out]
  go_wp2_with fail
  refine (dec_to HD.out hT w2).mono ?_
  rintro e w3 ⟨v3, rfl, hn3, b3⟩
  obtain ⟨A3, q3, rfl, -, -⟩ := hn3.form
  have st0_3 := st0.below b3
  clear st0 b3
  have st0 := st0_3
  clear st0_3
  have c0 := st0.hb.cell 0
  have c1 := st0.hb.cell 1
  have c2 := st0.hb.cell 2
  have c3 := st0.hb.cell 3
  simp at c0 c1 c2 c3
  have ca0 := fun o => alloc_cell c0 st0.hb.lt o
  have ca1 := fun o => alloc_cell c1 st0.hb.lt o
  have ca2 := fun o => alloc_cell c2 st0.hb.lt o
  have ca3 := fun o => alloc_cell c3 st0.hb.lt o
  clear c0 c1 c2 c3
  go_wp2_with fail
  obtain ⟨w4, hw4⟩ : ∃ x, w3.alloc (.cells #[.slice A3 p.locs.length q3, .int .i64 p.len, .int .i64 p.birth, .string (bstr p.sum)] 24) = x := ⟨_, rfl⟩
  have b4 : Below w3.heap.size w3 w4 := by rw [← hw4]; exact (Below.refl _ _).alloc (Nat.le_refl _) _
  rw [hw4]
  have hn4 := hn3.keep b4 b4.size
  clear hw4 ca0 ca1 ca2 ca3 hn3
  have st0_4 := st0.below b4
  clear st0 b4
  have st0 := st0_4
  clear st0_4
  refine (same_to (p := p) (q := p) (b := true) (decide_eq_true rfl) _ _ w4.heap.size w4.heap.size w4 st0.hv (Nat.le_refl _) hn4 (Nat.le_refl _)).mono ?_
  rintro e w5 ⟨rfl, b5⟩
  clear hn4
  have st0_5 := st0.below b5
  clear st0 b5
  have st0 := st0_5
  clear st0_5
  go_wp2_with fail
  refine (dec_to HD2.out HSL.out w5).mono ?_
  rintro e w6 ⟨v6, rfl, hn6, b6⟩
  obtain ⟨A6, q6, rfl, -, -⟩ := hn6.form
  have st0_6 := st0.below b6
  clear st0 b6
  have st0 := st0_6
  clear st0_6
  go_wp2_with fail
  obtain ⟨w7, hw7⟩ : ∃ x, w6.alloc (.cells #[.slice A6 q.locs.length q6, .int .i64 q.len, .int .i64 q.birth, .string (bstr q.sum)] 24) = x := ⟨_, rfl⟩
  have b7 : Below w6.heap.size w6 w7 := by rw [← hw7]; exact (Below.refl _ _).alloc (Nat.le_refl _) _
  rw [hw7]
  have hn7 := hn6.keep b7 b7.size
  clear hw7 hn6
  have st0_7 := st0.below b7
  clear st0 b7
  have st0 := st0_7
  clear st0_7
  refine (enc_ok _ q HC2 w7.heap.size w7 hn7 (Nat.le_refl _)).mono ?_
  rintro e w8 ⟨rfl, b8⟩
  clear hn7
  have st0_8 := st0.below b8
  clear st0 b8
  have st0 := st0_8
  clear st0_8
  rw [HE2.out]
  go_wp2_with fail
  refine (live_any w8).mono ?_
  rintro e w99 ⟨rfl, b99⟩
  go_wp2
  go_ret
  exact ⟨rfl, st0.k.trans (b99.mono st0.k.size)⟩

set_option maxHeartbeats 4000000 in
theorem back_10 (w : World) (p : Pt) (v : Value) (hv : LocsAt w.heap.size w v p.locs) (s : List UInt8) (HS : Hid (smallB p = true)) (hl : ¬ 200 < s.length) (HC : Hid (ckE p = 0)) (T : List UInt8) (HE : Hid (encP p = T)) (hT : T.length ≤ 140737488351232) (HD : Hid (decP T = (p, 0))) (f : Int) (hf : (f == 0) = false) (HD2 : Hid (decP s = (ptZ, f))) :
    Calls Try.prog 5 #[ptV v p, .string (bstr s)] w fun e w' => e = .returned (.bool true) ∧ Below w.heap.size w w' := by
  have hs : s.length ≤ 140737488351232 := by omega
  have hs2 : s.length ≤ 200 := by omega
  have HSL := Lib.hid hs
  clear hs hl
  have hf2 : (f != 0) = true := by simpa using hf
  obtain ⟨A, c, rfl, hc, hm⟩ := hv.form
  go_enter Try.func5, Try.ntmps5
  go_wp2_with fail
  obtain ⟨P, hP⟩ : ∃ g, w.heap.size = g := ⟨_, rfl⟩
  have st0 := PSt.new hv
  obtain ⟨w0, hw0⟩ : ∃ x, w.alloc (.cells #[.slice A p.locs.length c, .int .i64 p.len, .int .i64 p.birth, .string (bstr p.sum)] 24) = x := ⟨_, rfl⟩
  rw [hw0] at st0 ⊢
  rw [hP] at st0
  try rw [hP]
  clear hw0
  refine (small_to HS.out _ w0.heap.size w0 st0.hv).mono ?_
  rintro e w1 ⟨rfl, b1⟩
  have st0_1 := st0.below b1
  clear st0 b1
  have st0 := st0_1
  clear st0_1
  have c0 := st0.hb.cell 0
  have c1 := st0.hb.cell 1
  have c2 := st0.hb.cell 2
  have c3 := st0.hb.cell 3
  simp at c0 c1 c2 c3
  go_wp2_with fail
  clear c0 c1 c2 c3
  refine (enc_ok _ p HC w1.heap.size w1 st0.hv (Nat.le_refl _)).mono ?_
  rintro e w2 ⟨rfl, b2⟩
  have st0_2 := st0.below b2
  clear st0 b2
  have st0 := st0_2
  clear st0_2
  rw [HE.out]
  go_wp2_with fail
  refine (dec_to HD.out hT w2).mono ?_
  rintro e w3 ⟨v3, rfl, hn3, b3⟩
  obtain ⟨A3, q3, rfl, -, -⟩ := hn3.form
  have st0_3 := st0.below b3
  clear st0 b3
  have st0 := st0_3
  clear st0_3
  have c0 := st0.hb.cell 0
  have c1 := st0.hb.cell 1
  have c2 := st0.hb.cell 2
  have c3 := st0.hb.cell 3
  simp at c0 c1 c2 c3
  have ca0 := fun o => alloc_cell c0 st0.hb.lt o
  have ca1 := fun o => alloc_cell c1 st0.hb.lt o
  have ca2 := fun o => alloc_cell c2 st0.hb.lt o
  have ca3 := fun o => alloc_cell c3 st0.hb.lt o
  clear c0 c1 c2 c3
  go_wp2_with fail
  obtain ⟨w4, hw4⟩ : ∃ x, w3.alloc (.cells #[.slice A3 p.locs.length q3, .int .i64 p.len, .int .i64 p.birth, .string (bstr p.sum)] 24) = x := ⟨_, rfl⟩
  have b4 : Below w3.heap.size w3 w4 := by rw [← hw4]; exact (Below.refl _ _).alloc (Nat.le_refl _) _
  rw [hw4]
  have hn4 := hn3.keep b4 b4.size
  clear hw4 ca0 ca1 ca2 ca3 hn3
  have st0_4 := st0.below b4
  clear st0 b4
  have st0 := st0_4
  clear st0_4
  refine (same_to (p := p) (q := p) (b := true) (decide_eq_true rfl) _ _ w4.heap.size w4.heap.size w4 st0.hv (Nat.le_refl _) hn4 (Nat.le_refl _)).mono ?_
  rintro e w5 ⟨rfl, b5⟩
  clear hn4
  have st0_5 := st0.below b5
  clear st0 b5
  have st0 := st0_5
  clear st0_5
  go_wp2_with fail
  refine (dec_to HD2.out HSL.out w5).mono ?_
  rintro e w6 ⟨v6, rfl, hn6, b6⟩
  obtain ⟨A6, q6, rfl, -, -⟩ := hn6.form
  have st0_6 := st0.below b6
  clear st0 b6
  have st0 := st0_6
  clear st0_6
  clear hn6
  go_wp2_with fail
  refine (live_any _).mono ?_
  rintro e w9 ⟨rfl, b9⟩
  go_wp2
  go_ret
  exact ⟨rfl, (st0.k.alloc st0.k.size _).trans (b9.mono (by simp; have := st0.k.size; omega))⟩

set_option maxHeartbeats 4000000 in
theorem back_01 (w : World) (p : Pt) (v : Value) (hv : LocsAt w.heap.size w v p.locs) (s : List UInt8) (HS : Hid (smallB p = true)) (hl : ¬ 200 < s.length) (HC : Hid (ckE p = 1)) (q : Pt) (HD2 : Hid (decP s = (q, 0))) (HC2 : Hid (ckE q = 0)) (HE2 : Hid (encP q = s)) :
    Calls Try.prog 5 #[ptV v p, .string (bstr s)] w fun e w' => e = .returned (.bool true) ∧ Below w.heap.size w w' := by
  have hs : s.length ≤ 140737488351232 := by omega
  have hs2 : s.length ≤ 200 := by omega
  have HSL := Lib.hid hs
  clear hs hl
  obtain ⟨A, c, rfl, hc, hm⟩ := hv.form
  go_enter Try.func5, Try.ntmps5
  go_wp2_with fail
  obtain ⟨P, hP⟩ : ∃ g, w.heap.size = g := ⟨_, rfl⟩
  have st0 := PSt.new hv
  obtain ⟨w0, hw0⟩ : ∃ x, w.alloc (.cells #[.slice A p.locs.length c, .int .i64 p.len, .int .i64 p.birth, .string (bstr p.sum)] 24) = x := ⟨_, rfl⟩
  rw [hw0] at st0 ⊢
  rw [hP] at st0
  try rw [hP]
  clear hw0
  refine (small_to HS.out _ w0.heap.size w0 st0.hv).mono ?_
  rintro e w1 ⟨rfl, b1⟩
  have st0_1 := st0.below b1
  clear st0 b1
  have st0 := st0_1
  clear st0_1
  have c0 := st0.hb.cell 0
  have c1 := st0.hb.cell 1
  have c2 := st0.hb.cell 2
  have c3 := st0.hb.cell 3
  simp at c0 c1 c2 c3
  go_wp2_with fail
  clear c0 c1 c2 c3
  refine (enc_bad _ p HC w1.heap.size w1 st0.hv (Nat.le_refl _)).mono ?_
  rintro e w2 ⟨rfl, b2⟩
  have st0_2 := st0.below b2
  clear st0 b2
  have st0 := st0_2
  clear st0_2
  go_wp2_with fail
  refine (dec_to HD2.out HSL.out w2).mono ?_
  rintro e w6 ⟨v6, rfl, hn6, b6⟩
  obtain ⟨A6, q6, rfl, -, -⟩ := hn6.form
  have st0_6 := st0.below b6
  clear st0 b6
  have st0 := st0_6
  clear st0_6
  go_wp2_with fail
  obtain ⟨w7, hw7⟩ : ∃ x, w6.alloc (.cells #[.slice A6 q.locs.length q6, .int .i64 q.len, .int .i64 q.birth, .string (bstr q.sum)] 24) = x := ⟨_, rfl⟩
  have b7 : Below w6.heap.size w6 w7 := by rw [← hw7]; exact (Below.refl _ _).alloc (Nat.le_refl _) _
  rw [hw7]
  have hn7 := hn6.keep b7 b7.size
  clear hw7 hn6
  have st0_7 := st0.below b7
  clear st0 b7
  have st0 := st0_7
  clear st0_7
  refine (enc_ok _ q HC2 w7.heap.size w7 hn7 (Nat.le_refl _)).mono ?_
  rintro e w8 ⟨rfl, b8⟩
  clear hn7
  have st0_8 := st0.below b8
  clear st0 b8
  have st0 := st0_8
  clear st0_8
  rw [HE2.out]
  go_wp2_with fail
  refine (live_any w8).mono ?_
  rintro e w99 ⟨rfl, b99⟩
  go_wp2
  go_ret
  exact ⟨rfl, st0.k.trans (b99.mono st0.k.size)⟩

set_option maxHeartbeats 4000000 in
theorem back_00 (w : World) (p : Pt) (v : Value) (hv : LocsAt w.heap.size w v p.locs) (s : List UInt8) (HS : Hid (smallB p = true)) (hl : ¬ 200 < s.length) (HC : Hid (ckE p = 1)) (f : Int) (hf : (f == 0) = false) (HD2 : Hid (decP s = (ptZ, f))) :
    Calls Try.prog 5 #[ptV v p, .string (bstr s)] w fun e w' => e = .returned (.bool true) ∧ Below w.heap.size w w' := by
  have hs : s.length ≤ 140737488351232 := by omega
  have hs2 : s.length ≤ 200 := by omega
  have HSL := Lib.hid hs
  clear hs hl
  have hf2 : (f != 0) = true := by simpa using hf
  obtain ⟨A, c, rfl, hc, hm⟩ := hv.form
  go_enter Try.func5, Try.ntmps5
  go_wp2_with fail
  obtain ⟨P, hP⟩ : ∃ g, w.heap.size = g := ⟨_, rfl⟩
  have st0 := PSt.new hv
  obtain ⟨w0, hw0⟩ : ∃ x, w.alloc (.cells #[.slice A p.locs.length c, .int .i64 p.len, .int .i64 p.birth, .string (bstr p.sum)] 24) = x := ⟨_, rfl⟩
  rw [hw0] at st0 ⊢
  rw [hP] at st0
  try rw [hP]
  clear hw0
  refine (small_to HS.out _ w0.heap.size w0 st0.hv).mono ?_
  rintro e w1 ⟨rfl, b1⟩
  have st0_1 := st0.below b1
  clear st0 b1
  have st0 := st0_1
  clear st0_1
  have c0 := st0.hb.cell 0
  have c1 := st0.hb.cell 1
  have c2 := st0.hb.cell 2
  have c3 := st0.hb.cell 3
  simp at c0 c1 c2 c3
  go_wp2_with fail
  clear c0 c1 c2 c3
  refine (enc_bad _ p HC w1.heap.size w1 st0.hv (Nat.le_refl _)).mono ?_
  rintro e w2 ⟨rfl, b2⟩
  have st0_2 := st0.below b2
  clear st0 b2
  have st0 := st0_2
  clear st0_2
  go_wp2_with fail
  refine (dec_to HD2.out HSL.out w2).mono ?_
  rintro e w6 ⟨v6, rfl, hn6, b6⟩
  obtain ⟨A6, q6, rfl, -, -⟩ := hn6.form
  have st0_6 := st0.below b6
  clear st0 b6
  have st0 := st0_6
  clear st0_6
  clear hn6
  go_wp2_with fail
  refine (live_any _).mono ?_
  rintro e w9 ⟨rfl, b9⟩
  go_wp2
  go_ret
  exact ⟨rfl, (st0.k.alloc st0.k.size _).trans (b9.mono (by simp; have := st0.k.size; omega))⟩

set_option maxHeartbeats 1000000 in
theorem ptrBack_walk (w : World) (a0 : D_api_Ptr) (v0_0 : Value) (h0_0 : SlAt w.heap.size w (R_api_Loc w.heap.size w) 2 [v0_0] a0.locs) (h0_1 : (Lit.int .i64 a0.len).wf = true) (h0_2 : (Lit.int .i64 a0.birth).wf = true) (h0_3 : a0.sum.length ≤ 9223372036854775807) (a1 : List UInt8) (h1 : a1.length ≤ 140737488351232) :
    Calls Try.prog 5 #[.agg #[v0_0, .int .i64 a0.len, .int .i64 a0.birth, .string (bstr a0.sum)], .string (bstr a1)] w fun e w' => e = .returned (.bool true) ∧ Below w.heap.size w w' := by
  have hv := locs_of h0_0
  clear h0_0 h0_1 h0_2 h0_3
  obtain ⟨p, hp⟩ : ∃ p, toPt a0 = p := ⟨_, rfl⟩
  have hv' : LocsAt w.heap.size w v0_0 p.locs := by rw [← hp]; exact hv
  show Calls Try.prog 5 #[ptV v0_0 (toPt a0), .string (bstr a1)] w _
  rw [hp]
  clear hp hv
  cases hs : smallB p with
  | false => exact back_big w p v0_0 hv' a1 hs
  | true =>
    by_cases hl : 200 < a1.length
    · exact back_long w p v0_0 hv' a1 hs hl
    · obtain ⟨⟨q, f⟩, hd⟩ : ∃ x, decP a1 = x := ⟨_, rfl⟩
      rcases ckE_cases p with hc | hc
      · have hT : (encP p).length ≤ 140737488351232 := by
          have := encP_len hc
          have := (ok_facts hc).1
          omega
        by_cases hf : f = 0
        · subst hf
          obtain ⟨e1, e2⟩ := enc_dec hd
          exact back_11 w p v0_0 hv' a1 hs hl hc _ rfl hT (dec_enc hc) q hd e1 e2
        · obtain rfl := dec_err hd hf
          exact back_10 w p v0_0 hv' a1 hs hl hc _ rfl hT (dec_enc hc) f (by simp [hf]) hd
      · by_cases hf : f = 0
        · subst hf
          obtain ⟨e1, e2⟩ := enc_dec hd
          exact back_01 w p v0_0 hv' a1 hs hl hc q hd e1 e2
        · obtain rfl := dec_err hd hf
          exact back_00 w p v0_0 hv' a1 hs hl hc f (by simp [hf]) hd

end Go.Proofs.Ytnjbhooogfonbaa
