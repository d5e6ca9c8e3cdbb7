/- The walk of the law PtrSame: it returns true at every input, and writes to nothing that was there. No condition but that numbers fit their kind. -/
import Derived.Test.YtnjbhooogfonbaaLaws04
import Derived.Test.YtnjbhooogfonbaaPp
namespace Go.Proofs.Ytnjbhooogfonbaa
open Go.RowKit
set_option linter.unusedSimpArgs false
set_option linter.unnecessarySimpa false
set_option linter.unusedVariables false

theorem PSt.new2 {w w0 : World} {v : Value} {p : Pt} (k : Below w.heap.size w w0) (h : LocsAt w0.heap.size w0 v p.locs) : PSt w w0.heap.size v p (w0.alloc (.cells #[v, .int .i64 p.len, .int .i64 p.birth, .string (bstr p.sum)] 24)) :=
  have b := (Below.refl _ w0).alloc (Nat.le_refl _) (.cells #[v, .int .i64 p.len, .int .i64 p.birth, .string (bstr p.sum)] 24)
  ⟨Blk.new _ _ _, h.keep b b.size, k.trans (b.mono k.size)⟩

set_option maxHeartbeats 2000000 in
theorem same_big1 (w : World) (p q : Pt) (v u : Value) (hv : LocsAt w.heap.size w v p.locs) (hu : LocsAt w.heap.size w u q.locs) (HS : Hid (smallB p = false)) :
    Calls Try.prog 6 #[ptV v p, ptV u q] w fun e w' => e = .returned (.bool true) ∧ Below w.heap.size w w' := by
  obtain ⟨A, c, rfl, hc, hm⟩ := hv.form
  obtain ⟨A2, c2, rfl, hc2, hm2⟩ := hu.form
  go_enter Try.func6, Try.ntmps6
  go_wp2_with fail
  obtain ⟨P, hP⟩ : ∃ g, w.heap.size = g := ⟨_, rfl⟩
  have st := PSt.new hv
  obtain ⟨wp, hwp⟩ : ∃ x, w.alloc (.cells #[.slice A p.locs.length c, .int .i64 p.len, .int .i64 p.birth, .string (bstr p.sum)] 24) = x := ⟨_, rfl⟩
  have hsz : wp.heap.size = w.heap.size + 1 := by rw [← hwp]; simp
  rw [hwp] at st ⊢
  have sq := PSt.new2 st.k (hu.keep (st.k.mono (Nat.le_refl _)) st.k.size)
  obtain ⟨w0, hw0⟩ : ∃ x, wp.alloc (.cells #[.slice A2 q.locs.length c2, .int .i64 q.len, .int .i64 q.birth, .string (bstr q.sum)] 24) = x := ⟨_, rfl⟩
  have bq : Below wp.heap.size wp w0 := by rw [← hw0]; exact (Below.refl _ _).alloc (Nat.le_refl _) _
  rw [hw0] at sq ⊢
  have st0 := st.below bq
  obtain ⟨Q, hQ⟩ : ∃ g, w.heap.size + 1 = g := ⟨_, rfl⟩
  rw [hsz, hQ] at sq
  rw [hP] at st0
  try rw [hQ]
  try rw [hP]
  have sq0 := sq
  clear hwp hw0 st sq bq hsz
  refine (small_to HS.out _ w0.heap.size w0 st0.hv).mono ?_
  rintro e w1 ⟨rfl, b1⟩
  have st0_1 := st0.below b1
  have sq0_1 := sq0.below b1
  clear st0 sq0 b1
  have st0 := st0_1
  have sq0 := sq0_1
  clear st0_1 sq0_1
  go_wp2_with fail
  refine (live_any w1).mono ?_
  rintro e w99 ⟨rfl, b99⟩
  go_wp2
  go_ret
  exact ⟨rfl, st0.k.trans (b99.mono st0.k.size)⟩

set_option maxHeartbeats 2000000 in
theorem same_big2 (w : World) (p q : Pt) (v u : Value) (hv : LocsAt w.heap.size w v p.locs) (hu : LocsAt w.heap.size w u q.locs) (HS : Hid (smallB p = true)) (HS2 : Hid (smallB q = false)) :
    Calls Try.prog 6 #[ptV v p, ptV u q] w fun e w' => e = .returned (.bool true) ∧ Below w.heap.size w w' := by
  obtain ⟨A, c, rfl, hc, hm⟩ := hv.form
  obtain ⟨A2, c2, rfl, hc2, hm2⟩ := hu.form
  go_enter Try.func6, Try.ntmps6
  go_wp2_with fail
  obtain ⟨P, hP⟩ : ∃ g, w.heap.size = g := ⟨_, rfl⟩
  have st := PSt.new hv
  obtain ⟨wp, hwp⟩ : ∃ x, w.alloc (.cells #[.slice A p.locs.length c, .int .i64 p.len, .int .i64 p.birth, .string (bstr p.sum)] 24) = x := ⟨_, rfl⟩
  have hsz : wp.heap.size = w.heap.size + 1 := by rw [← hwp]; simp
  rw [hwp] at st ⊢
  have sq := PSt.new2 st.k (hu.keep (st.k.mono (Nat.le_refl _)) st.k.size)
  obtain ⟨w0, hw0⟩ : ∃ x, wp.alloc (.cells #[.slice A2 q.locs.length c2, .int .i64 q.len, .int .i64 q.birth, .string (bstr q.sum)] 24) = x := ⟨_, rfl⟩
  have bq : Below wp.heap.size wp w0 := by rw [← hw0]; exact (Below.refl _ _).alloc (Nat.le_refl _) _
  rw [hw0] at sq ⊢
  have st0 := st.below bq
  obtain ⟨Q, hQ⟩ : ∃ g, w.heap.size + 1 = g := ⟨_, rfl⟩
  rw [hsz, hQ] at sq
  rw [hP] at st0
  try rw [hQ]
  try rw [hP]
  have sq0 := sq
  clear hwp hw0 st sq bq hsz
  refine (small_to HS.out _ w0.heap.size w0 st0.hv).mono ?_
  rintro e w1 ⟨rfl, b1⟩
  have st0_1 := st0.below b1
  have sq0_1 := sq0.below b1
  clear st0 sq0 b1
  have st0 := st0_1
  have sq0 := sq0_1
  clear st0_1 sq0_1
  have d0 := sq0.hb.cell 0
  have d1 := sq0.hb.cell 1
  have d2 := sq0.hb.cell 2
  have d3 := sq0.hb.cell 3
  simp at d0 d1 d2 d3
  go_wp2_with fail
  clear d0 d1 d2 d3
  refine (small_to HS2.out _ w1.heap.size w1 sq0.hv).mono ?_
  rintro e w2 ⟨rfl, b2⟩
  have st0_2 := st0.below b2
  have sq0_2 := sq0.below b2
  clear st0 sq0 b2
  have st0 := st0_2
  have sq0 := sq0_2
  clear st0_2 sq0_2
  go_wp2_with fail
  refine (live_any w2).mono ?_
  rintro e w99 ⟨rfl, b99⟩
  go_wp2
  go_ret
  exact ⟨rfl, st0.k.trans (b99.mono st0.k.size)⟩

set_option maxHeartbeats 4000000 in
theorem same_00 (w : World) (p q : Pt) (v u : Value) (hv : LocsAt w.heap.size w v p.locs) (hu : LocsAt w.heap.size w u q.locs) (HS : Hid (smallB p = true)) (HS2 : Hid (smallB q = true)) (b : Bool) (HB : Hid (decide (p = q) = b)) (HC : Hid (ckE p = 1)) (HC2 : Hid (ckE q = 1)) :
    Calls Try.prog 6 #[ptV v p, ptV u q] w fun e w' => e = .returned (.bool true) ∧ Below w.heap.size w w' := by
  cases b
  all_goals
    obtain ⟨A, c, rfl, hc, hm⟩ := hv.form
    obtain ⟨A2, c2, rfl, hc2, hm2⟩ := hu.form
    go_enter Try.func6, Try.ntmps6
    go_wp2_with fail
    obtain ⟨P, hP⟩ : ∃ g, w.heap.size = g := ⟨_, rfl⟩
    have st := PSt.new hv
    obtain ⟨wp, hwp⟩ : ∃ x, w.alloc (.cells #[.slice A p.locs.length c, .int .i64 p.len, .int .i64 p.birth, .string (bstr p.sum)] 24) = x := ⟨_, rfl⟩
    have hsz : wp.heap.size = w.heap.size + 1 := by rw [← hwp]; simp
    rw [hwp] at st ⊢
    have sq := PSt.new2 st.k (hu.keep (st.k.mono (Nat.le_refl _)) st.k.size)
    obtain ⟨w0, hw0⟩ : ∃ x, wp.alloc (.cells #[.slice A2 q.locs.length c2, .int .i64 q.len, .int .i64 q.birth, .string (bstr q.sum)] 24) = x := ⟨_, rfl⟩
    have bq : Below wp.heap.size wp w0 := by rw [← hw0]; exact (Below.refl _ _).alloc (Nat.le_refl _) _
    rw [hw0] at sq ⊢
    have st0 := st.below bq
    obtain ⟨Q, hQ⟩ : ∃ g, w.heap.size + 1 = g := ⟨_, rfl⟩
    rw [hsz, hQ] at sq
    rw [hP] at st0
    try rw [hQ]
    try rw [hP]
    have sq0 := sq
    clear hwp hw0 st sq bq hsz
    refine (small_to HS.out _ w0.heap.size w0 st0.hv).mono ?_
    rintro e w1 ⟨rfl, b1⟩
    have st0_1 := st0.below b1
    have sq0_1 := sq0.below b1
    clear st0 sq0 b1
    have st0 := st0_1
    have sq0 := sq0_1
    clear st0_1 sq0_1
    have d0 := sq0.hb.cell 0
    have d1 := sq0.hb.cell 1
    have d2 := sq0.hb.cell 2
    have d3 := sq0.hb.cell 3
    simp at d0 d1 d2 d3
    go_wp2_with fail
    clear d0 d1 d2 d3
    refine (small_to HS2.out _ w1.heap.size w1 sq0.hv).mono ?_
    rintro e w2 ⟨rfl, b2⟩
    have st0_2 := st0.below b2
    have sq0_2 := sq0.below b2
    clear st0 sq0 b2
    have st0 := st0_2
    have sq0 := sq0_2
    clear st0_2 sq0_2
    have c0 := st0.hb.cell 0
    have c1 := st0.hb.cell 1
    have c2 := st0.hb.cell 2
    have c3 := st0.hb.cell 3
    simp at c0 c1 c2 c3
    have d0 := sq0.hb.cell 0
    have d1 := sq0.hb.cell 1
    have d2 := sq0.hb.cell 2
    have d3 := sq0.hb.cell 3
    simp at d0 d1 d2 d3
    go_wp2_with fail
    clear c0 c1 c2 c3 d0 d1 d2 d3
    refine (same_to HB.out _ _ w2.heap.size w2.heap.size w2 st0.hv (Nat.le_refl _) sq0.hv (Nat.le_refl _)).mono ?_
    rintro e w3 ⟨rfl, b3⟩
    have st0_3 := st0.below b3
    have sq0_3 := sq0.below b3
    clear st0 sq0 b3
    have st0 := st0_3
    have sq0 := sq0_3
    clear st0_3 sq0_3
    have c0 := st0.hb.cell 0
    have c1 := st0.hb.cell 1
    have c2 := st0.hb.cell 2
    have c3 := st0.hb.cell 3
    simp at c0 c1 c2 c3
    go_wp2_with fail
    clear c0 c1 c2 c3
    refine (enc_bad _ p HC w3.heap.size w3 st0.hv (Nat.le_refl _)).mono ?_
    rintro e w4 ⟨rfl, b4⟩
    have st0_4 := st0.below b4
    have sq0_4 := sq0.below b4
    clear st0 sq0 b4
    have st0 := st0_4
    have sq0 := sq0_4
    clear st0_4 sq0_4
    have d0 := sq0.hb.cell 0
    have d1 := sq0.hb.cell 1
    have d2 := sq0.hb.cell 2
    have d3 := sq0.hb.cell 3
    simp at d0 d1 d2 d3
    go_wp2_with fail
    clear d0 d1 d2 d3
    refine (enc_bad _ q HC2 w4.heap.size w4 sq0.hv (Nat.le_refl _)).mono ?_
    rintro e w5 ⟨rfl, b5⟩
    have st0_5 := st0.below b5
    have sq0_5 := sq0.below b5
    clear st0 sq0 b5
    have st0 := st0_5
    have sq0 := sq0_5
    clear st0_5 sq0_5
    have c0 := st0.hb.cell 0
    have c1 := st0.hb.cell 1
    have c2 := st0.hb.cell 2
    have c3 := st0.hb.cell 3
    simp at c0 c1 c2 c3
    have d0 := sq0.hb.cell 0
    have d1 := sq0.hb.cell 1
    have d2 := sq0.hb.cell 2
    have d3 := sq0.hb.cell 3
    simp at d0 d1 d2 d3
    go_wp2_with fail
    clear c0 c1 c2 c3 d0 d1 d2 d3
    refine (rsame_to HB.out _ _ w5.heap.size w5.heap.size w5 st0.hv (Nat.le_refl _) sq0.hv (Nat.le_refl _)).mono ?_
    rintro e w6 ⟨rfl, b6⟩
    have st0_6 := st0.below b6
    have sq0_6 := sq0.below b6
    clear st0 sq0 b6
    have st0 := st0_6
    have sq0 := sq0_6
    clear st0_6 sq0_6
    have c0 := st0.hb.cell 0
    have c1 := st0.hb.cell 1
    have c2 := st0.hb.cell 2
    have c3 := st0.hb.cell 3
    simp at c0 c1 c2 c3
    go_wp2_with fail
    clear c0 c1 c2 c3
    refine (same_to (p := p) (q := p) (b := true) (decide_eq_true rfl) _ _ w6.heap.size w6.heap.size w6 st0.hv (Nat.le_refl _) st0.hv (Nat.le_refl _)).mono ?_
    rintro e w7 ⟨rfl, b7⟩
    have st0_7 := st0.below b7
    have sq0_7 := sq0.below b7
    clear st0 sq0 b7
    have st0 := st0_7
    have sq0 := sq0_7
    clear st0_7 sq0_7
    go_wp2_with fail
    refine (live_any w7).mono ?_
    rintro e w99 ⟨rfl, b99⟩
    go_wp2
    go_ret
    exact ⟨rfl, st0.k.trans (b99.mono st0.k.size)⟩

set_option maxHeartbeats 4000000 in
theorem same_01 (w : World) (p q : Pt) (v u : Value) (hv : LocsAt w.heap.size w v p.locs) (hu : LocsAt w.heap.size w u q.locs) (HS : Hid (smallB p = true)) (HS2 : Hid (smallB q = true)) (b : Bool) (HB : Hid (decide (p = q) = b)) (HC : Hid (ckE p = 1)) (HC2 : Hid (ckE q = 0)) (T : List UInt8) (HE2 : Hid (encP q = T)) :
    Calls Try.prog 6 #[ptV v p, ptV u q] w fun e w' => e = .returned (.bool true) ∧ Below w.heap.size w w' := by
  cases b
  all_goals
    obtain ⟨A, c, rfl, hc, hm⟩ := hv.form
    obtain ⟨A2, c2, rfl, hc2, hm2⟩ := hu.form
    go_enter Try.func6, Try.ntmps6
    go_wp2_with fail
    obtain ⟨P, hP⟩ : ∃ g, w.heap.size = g := ⟨_, rfl⟩
    have st := PSt.new hv
    obtain ⟨wp, hwp⟩ : ∃ x, w.alloc (.cells #[.slice A p.locs.length c, .int .i64 p.len, .int .i64 p.birth, .string (bstr p.sum)] 24) = x := ⟨_, rfl⟩
    have hsz : wp.heap.size = w.heap.size + 1 := by rw [← hwp]; simp
    rw [hwp] at st ⊢
    have sq := PSt.new2 st.k (hu.keep (st.k.mono (Nat.le_refl _)) st.k.size)
    obtain ⟨w0, hw0⟩ : ∃ x, wp.alloc (.cells #[.slice A2 q.locs.length c2, .int .i64 q.len, .int .i64 q.birth, .string (bstr q.sum)] 24) = x := ⟨_, rfl⟩
    have bq : Below wp.heap.size wp w0 := by rw [← hw0]; exact (Below.refl _ _).alloc (Nat.le_refl _) _
    rw [hw0] at sq ⊢
    have st0 := st.below bq
    obtain ⟨Q, hQ⟩ : ∃ g, w.heap.size + 1 = g := ⟨_, rfl⟩
    rw [hsz, hQ] at sq
    rw [hP] at st0
    try rw [hQ]
    try rw [hP]
    have sq0 := sq
    clear hwp hw0 st sq bq hsz
    refine (small_to HS.out _ w0.heap.size w0 st0.hv).mono ?_
    rintro e w1 ⟨rfl, b1⟩
    have st0_1 := st0.below b1
    have sq0_1 := sq0.below b1
    clear st0 sq0 b1
    have st0 := st0_1
    have sq0 := sq0_1
    clear st0_1 sq0_1
    have d0 := sq0.hb.cell 0
    have d1 := sq0.hb.cell 1
    have d2 := sq0.hb.cell 2
    have d3 := sq0.hb.cell 3
    simp at d0 d1 d2 d3
    go_wp2_with fail
    clear d0 d1 d2 d3
    refine (small_to HS2.out _ w1.heap.size w1 sq0.hv).mono ?_
    rintro e w2 ⟨rfl, b2⟩
    have st0_2 := st0.below b2
    have sq0_2 := sq0.below b2
    clear st0 sq0 b2
    have st0 := st0_2
    have sq0 := sq0_2
    clear st0_2 sq0_2
    have c0 := st0.hb.cell 0
    have c1 := st0.hb.cell 1
    have c2 := st0.hb.cell 2
    have c3 := st0.hb.cell 3
    simp at c0 c1 c2 c3
    have d0 := sq0.hb.cell 0
    have d1 := sq0.hb.cell 1
    have d2 := sq0.hb.cell 2
    have d3 := sq0.hb.cell 3
    simp at d0 d1 d2 d3
    go_wp2_with fail
    clear c0 c1 c2 c3 d0 d1 d2 d3
    refine (same_to HB.out _ _ w2.heap.size w2.heap.size w2 st0.hv (Nat.le_refl _) sq0.hv (Nat.le_refl _)).mono ?_
    rintro e w3 ⟨rfl, b3⟩
    have st0_3 := st0.below b3
    have sq0_3 := sq0.below b3
    clear st0 sq0 b3
    have st0 := st0_3
    have sq0 := sq0_3
    clear st0_3 sq0_3
    have c0 := st0.hb.cell 0
    have c1 := st0.hb.cell 1
    have c2 := st0.hb.cell 2
    have c3 := st0.hb.cell 3
    simp at c0 c1 c2 c3
    go_wp2_with fail
    clear c0 c1 c2 c3
    refine (enc_bad _ p HC w3.heap.size w3 st0.hv (Nat.le_refl _)).mono ?_
    rintro e w4 ⟨rfl, b4⟩
    have st0_4 := st0.below b4
    have sq0_4 := sq0.below b4
    clear st0 sq0 b4
    have st0 := st0_4
    have sq0 := sq0_4
    clear st0_4 sq0_4
    have d0 := sq0.hb.cell 0
    have d1 := sq0.hb.cell 1
    have d2 := sq0.hb.cell 2
    have d3 := sq0.hb.cell 3
    simp at d0 d1 d2 d3
    go_wp2_with fail
    clear d0 d1 d2 d3
    refine (enc_ok _ q HC2 w4.heap.size w4 sq0.hv (Nat.le_refl _)).mono ?_
    rintro e w5 ⟨rfl, b5⟩
    have st0_5 := st0.below b5
    have sq0_5 := sq0.below b5
    clear st0 sq0 b5
    have st0 := st0_5
    have sq0 := sq0_5
    clear st0_5 sq0_5
    rw [HE2.out]
    have c0 := st0.hb.cell 0
    have c1 := st0.hb.cell 1
    have c2 := st0.hb.cell 2
    have c3 := st0.hb.cell 3
    simp at c0 c1 c2 c3
    have d0 := sq0.hb.cell 0
    have d1 := sq0.hb.cell 1
    have d2 := sq0.hb.cell 2
    have d3 := sq0.hb.cell 3
    simp at d0 d1 d2 d3
    go_wp2_with fail
    clear c0 c1 c2 c3 d0 d1 d2 d3
    refine (rsame_to HB.out _ _ w5.heap.size w5.heap.size w5 st0.hv (Nat.le_refl _) sq0.hv (Nat.le_refl _)).mono ?_
    rintro e w6 ⟨rfl, b6⟩
    have st0_6 := st0.below b6
    have sq0_6 := sq0.below b6
    clear st0 sq0 b6
    have st0 := st0_6
    have sq0 := sq0_6
    clear st0_6 sq0_6
    have c0 := st0.hb.cell 0
    have c1 := st0.hb.cell 1
    have c2 := st0.hb.cell 2
    have c3 := st0.hb.cell 3
    simp at c0 c1 c2 c3
    go_wp2_with fail
    clear c0 c1 c2 c3
    refine (same_to (p := p) (q := p) (b := true) (decide_eq_true rfl) _ _ w6.heap.size w6.heap.size w6 st0.hv (Nat.le_refl _) st0.hv (Nat.le_refl _)).mono ?_
    rintro e w7 ⟨rfl, b7⟩
    have st0_7 := st0.below b7
    have sq0_7 := sq0.below b7
    clear st0 sq0 b7
    have st0 := st0_7
    have sq0 := sq0_7
    clear st0_7 sq0_7
    go_wp2_with fail
    refine (live_any w7).mono ?_
    rintro e w99 ⟨rfl, b99⟩
    go_wp2
    go_ret
    exact ⟨rfl, st0.k.trans (b99.mono st0.k.size)⟩

set_option maxHeartbeats 4000000 in
theorem same_10 (w : World) (p q : Pt) (v u : Value) (hv : LocsAt w.heap.size w v p.locs) (hu : LocsAt w.heap.size w u q.locs) (HS : Hid (smallB p = true)) (HS2 : Hid (smallB q = true)) (b : Bool) (HB : Hid (decide (p = q) = b)) (HC : Hid (ckE p = 0)) (HC2 : Hid (ckE q = 1)) (S : List UInt8) (HE : Hid (encP p = S)) :
    Calls Try.prog 6 #[ptV v p, ptV u q] w fun e w' => e = .returned (.bool true) ∧ Below w.heap.size w w' := by
  cases b
  all_goals
    obtain ⟨A, c, rfl, hc, hm⟩ := hv.form
    obtain ⟨A2, c2, rfl, hc2, hm2⟩ := hu.form
    go_enter Try.func6, Try.ntmps6
    go_wp2_with fail
    obtain ⟨P, hP⟩ : ∃ g, w.heap.size = g := ⟨_, rfl⟩
    have st := PSt.new hv
    obtain ⟨wp, hwp⟩ : ∃ x, w.alloc (.cells #[.slice A p.locs.length c, .int .i64 p.len, .int .i64 p.birth, .string (bstr p.sum)] 24) = x := ⟨_, rfl⟩
    have hsz : wp.heap.size = w.heap.size + 1 := by rw [← hwp]; simp
    rw [hwp] at st ⊢
    have sq := PSt.new2 st.k (hu.keep (st.k.mono (Nat.le_refl _)) st.k.size)
    obtain ⟨w0, hw0⟩ : ∃ x, wp.alloc (.cells #[.slice A2 q.locs.length c2, .int .i64 q.len, .int .i64 q.birth, .string (bstr q.sum)] 24) = x := ⟨_, rfl⟩
    have bq : Below wp.heap.size wp w0 := by rw [← hw0]; exact (Below.refl _ _).alloc (Nat.le_refl _) _
    rw [hw0] at sq ⊢
    have st0 := st.below bq
    obtain ⟨Q, hQ⟩ : ∃ g, w.heap.size + 1 = g := ⟨_, rfl⟩
    rw [hsz, hQ] at sq
    rw [hP] at st0
    try rw [hQ]
    try rw [hP]
    have sq0 := sq
    clear hwp hw0 st sq bq hsz
    refine (small_to HS.out _ w0.heap.size w0 st0.hv).mono ?_
    rintro e w1 ⟨rfl, b1⟩
    have st0_1 := st0.below b1
    have sq0_1 := sq0.below b1
    clear st0 sq0 b1
    have st0 := st0_1
    have sq0 := sq0_1
    clear st0_1 sq0_1
    have d0 := sq0.hb.cell 0
    have d1 := sq0.hb.cell 1
    have d2 := sq0.hb.cell 2
    have d3 := sq0.hb.cell 3
    simp at d0 d1 d2 d3
    go_wp2_with fail
    clear d0 d1 d2 d3
    refine (small_to HS2.out _ w1.heap.size w1 sq0.hv).mono ?_
    rintro e w2 ⟨rfl, b2⟩
    have st0_2 := st0.below b2
    have sq0_2 := sq0.below b2
    clear st0 sq0 b2
    have st0 := st0_2
    have sq0 := sq0_2
    clear st0_2 sq0_2
    have c0 := st0.hb.cell 0
    have c1 := st0.hb.cell 1
    have c2 := st0.hb.cell 2
    have c3 := st0.hb.cell 3
    simp at c0 c1 c2 c3
    have d0 := sq0.hb.cell 0
    have d1 := sq0.hb.cell 1
    have d2 := sq0.hb.cell 2
    have d3 := sq0.hb.cell 3
    simp at d0 d1 d2 d3
    go_wp2_with fail
    clear c0 c1 c2 c3 d0 d1 d2 d3
    refine (same_to HB.out _ _ w2.heap.size w2.heap.size w2 st0.hv (Nat.le_refl _) sq0.hv (Nat.le_refl _)).mono ?_
    rintro e w3 ⟨rfl, b3⟩
    have st0_3 := st0.below b3
    have sq0_3 := sq0.below b3
    clear st0 sq0 b3
    have st0 := st0_3
    have sq0 := sq0_3
    clear st0_3 sq0_3
    have c0 := st0.hb.cell 0
    have c1 := st0.hb.cell 1
    have c2 := st0.hb.cell 2
    have c3 := st0.hb.cell 3
    simp at c0 c1 c2 c3
    go_wp2_with fail
    clear c0 c1 c2 c3
    refine (enc_ok _ p HC w3.heap.size w3 st0.hv (Nat.le_refl _)).mono ?_
    rintro e w4 ⟨rfl, b4⟩
    have st0_4 := st0.below b4
    have sq0_4 := sq0.below b4
    clear st0 sq0 b4
    have st0 := st0_4
    have sq0 := sq0_4
    clear st0_4 sq0_4
    rw [HE.out]
    have d0 := sq0.hb.cell 0
    have d1 := sq0.hb.cell 1
    have d2 := sq0.hb.cell 2
    have d3 := sq0.hb.cell 3
    simp at d0 d1 d2 d3
    go_wp2_with fail
    clear d0 d1 d2 d3
    refine (enc_bad _ q HC2 w4.heap.size w4 sq0.hv (Nat.le_refl _)).mono ?_
    rintro e w5 ⟨rfl, b5⟩
    have st0_5 := st0.below b5
    have sq0_5 := sq0.below b5
    clear st0 sq0 b5
    have st0 := st0_5
    have sq0 := sq0_5
    clear st0_5 sq0_5
    have c0 := st0.hb.cell 0
    have c1 := st0.hb.cell 1
    have c2 := st0.hb.cell 2
    have c3 := st0.hb.cell 3
    simp at c0 c1 c2 c3
    have d0 := sq0.hb.cell 0
    have d1 := sq0.hb.cell 1
    have d2 := sq0.hb.cell 2
    have d3 := sq0.hb.cell 3
    simp at d0 d1 d2 d3
    go_wp2_with fail
    clear c0 c1 c2 c3 d0 d1 d2 d3
    refine (rsame_to HB.out _ _ w5.heap.size w5.heap.size w5 st0.hv (Nat.le_refl _) sq0.hv (Nat.le_refl _)).mono ?_
    rintro e w6 ⟨rfl, b6⟩
    have st0_6 := st0.below b6
    have sq0_6 := sq0.below b6
    clear st0 sq0 b6
    have st0 := st0_6
    have sq0 := sq0_6
    clear st0_6 sq0_6
    have c0 := st0.hb.cell 0
    have c1 := st0.hb.cell 1
    have c2 := st0.hb.cell 2
    have c3 := st0.hb.cell 3
    simp at c0 c1 c2 c3
    go_wp2_with fail
    clear c0 c1 c2 c3
    refine (same_to (p := p) (q := p) (b := true) (decide_eq_true rfl) _ _ w6.heap.size w6.heap.size w6 st0.hv (Nat.le_refl _) st0.hv (Nat.le_refl _)).mono ?_
    rintro e w7 ⟨rfl, b7⟩
    have st0_7 := st0.below b7
    have sq0_7 := sq0.below b7
    clear st0 sq0 b7
    have st0 := st0_7
    have sq0 := sq0_7
    clear st0_7 sq0_7
    go_wp2_with fail
    refine (live_any w7).mono ?_
    rintro e w99 ⟨rfl, b99⟩
    go_wp2
    go_ret
    exact ⟨rfl, st0.k.trans (b99.mono st0.k.size)⟩

set_option maxHeartbeats 4000000 in
theorem same_11t (w : World) (p q : Pt) (v u : Value) (hv : LocsAt w.heap.size w v p.locs) (hu : LocsAt w.heap.size w u q.locs) (HS : Hid (smallB p = true)) (HS2 : Hid (smallB q = true)) (HB : Hid (decide (p = q) = true)) (HC : Hid (ckE p = 0)) (HC2 : Hid (ckE q = 0)) (S : List UInt8) (HE : Hid (encP p = S)) (T : List UInt8) (HE2 : Hid (encP q = T)) (hST : S = T) :
    Calls Try.prog 6 #[ptV v p, ptV u q] w fun e w' => e = .returned (.bool true) ∧ Below w.heap.size w w' := by
  subst hST
  obtain ⟨A, c, rfl, hc, hm⟩ := hv.form
  obtain ⟨A2, c2, rfl, hc2, hm2⟩ := hu.form
  go_enter Try.func6, Try.ntmps6
  go_wp2_with fail
  obtain ⟨P, hP⟩ : ∃ g, w.heap.size = g := ⟨_, rfl⟩
  have st := PSt.new hv
  obtain ⟨wp, hwp⟩ : ∃ x, w.alloc (.cells #[.slice A p.locs.length c, .int .i64 p.len, .int .i64 p.birth, .string (bstr p.sum)] 24) = x := ⟨_, rfl⟩
  have hsz : wp.heap.size = w.heap.size + 1 := by rw [← hwp]; simp
  rw [hwp] at st ⊢
  have sq := PSt.new2 st.k (hu.keep (st.k.mono (Nat.le_refl _)) st.k.size)
  obtain ⟨w0, hw0⟩ : ∃ x, wp.alloc (.cells #[.slice A2 q.locs.length c2, .int .i64 q.len, .int .i64 q.birth, .string (bstr q.sum)] 24) = x := ⟨_, rfl⟩
  have bq : Below wp.heap.size wp w0 := by rw [← hw0]; exact (Below.refl _ _).alloc (Nat.le_refl _) _
  rw [hw0] at sq ⊢
  have st0 := st.below bq
  obtain ⟨Q, hQ⟩ : ∃ g, w.heap.size + 1 = g := ⟨_, rfl⟩
  rw [hsz, hQ] at sq
  rw [hP] at st0
  try rw [hQ]
  try rw [hP]
  have sq0 := sq
  clear hwp hw0 st sq bq hsz
  refine (small_to HS.out _ w0.heap.size w0 st0.hv).mono ?_
  rintro e w1 ⟨rfl, b1⟩
  have st0_1 := st0.below b1
  have sq0_1 := sq0.below b1
  clear st0 sq0 b1
  have st0 := st0_1
  have sq0 := sq0_1
  clear st0_1 sq0_1
  have d0 := sq0.hb.cell 0
  have d1 := sq0.hb.cell 1
  have d2 := sq0.hb.cell 2
  have d3 := sq0.hb.cell 3
  simp at d0 d1 d2 d3
  go_wp2_with fail
  clear d0 d1 d2 d3
  refine (small_to HS2.out _ w1.heap.size w1 sq0.hv).mono ?_
  rintro e w2 ⟨rfl, b2⟩
  have st0_2 := st0.below b2
  have sq0_2 := sq0.below b2
  clear st0 sq0 b2
  have st0 := st0_2
  have sq0 := sq0_2
  clear st0_2 sq0_2
  have c0 := st0.hb.cell 0
  have c1 := st0.hb.cell 1
  have c2 := st0.hb.cell 2
  have c3 := st0.hb.cell 3
  simp at c0 c1 c2 c3
  have d0 := sq0.hb.cell 0
  have d1 := sq0.hb.cell 1
  have d2 := sq0.hb.cell 2
  have d3 := sq0.hb.cell 3
  simp at d0 d1 d2 d3
  go_wp2_with fail
  clear c0 c1 c2 c3 d0 d1 d2 d3
  refine (same_to HB.out _ _ w2.heap.size w2.heap.size w2 st0.hv (Nat.le_refl _) sq0.hv (Nat.le_refl _)).mono ?_
  rintro e w3 ⟨rfl, b3⟩
  have st0_3 := st0.below b3
  have sq0_3 := sq0.below b3
  clear st0 sq0 b3
  have st0 := st0_3
  have sq0 := sq0_3
  clear st0_3 sq0_3
  have c0 := st0.hb.cell 0
  have c1 := st0.hb.cell 1
  have c2 := st0.hb.cell 2
  have c3 := st0.hb.cell 3
  simp at c0 c1 c2 c3
  go_wp2_with fail
  clear c0 c1 c2 c3
  refine (enc_ok _ p HC w3.heap.size w3 st0.hv (Nat.le_refl _)).mono ?_
  rintro e w4 ⟨rfl, b4⟩
  have st0_4 := st0.below b4
  have sq0_4 := sq0.below b4
  clear st0 sq0 b4
  have st0 := st0_4
  have sq0 := sq0_4
  clear st0_4 sq0_4
  rw [HE.out]
  have d0 := sq0.hb.cell 0
  have d1 := sq0.hb.cell 1
  have d2 := sq0.hb.cell 2
  have d3 := sq0.hb.cell 3
  simp at d0 d1 d2 d3
  go_wp2_with fail
  clear d0 d1 d2 d3
  refine (enc_ok _ q HC2 w4.heap.size w4 sq0.hv (Nat.le_refl _)).mono ?_
  rintro e w5 ⟨rfl, b5⟩
  have st0_5 := st0.below b5
  have sq0_5 := sq0.below b5
  clear st0 sq0 b5
  have st0 := st0_5
  have sq0 := sq0_5
  clear st0_5 sq0_5
  rw [HE2.out]
  have c0 := st0.hb.cell 0
  have c1 := st0.hb.cell 1
  have c2 := st0.hb.cell 2
  have c3 := st0.hb.cell 3
  simp at c0 c1 c2 c3
  have d0 := sq0.hb.cell 0
  have d1 := sq0.hb.cell 1
  have d2 := sq0.hb.cell 2
  have d3 := sq0.hb.cell 3
  simp at d0 d1 d2 d3
  go_wp2_with fail
  clear c0 c1 c2 c3 d0 d1 d2 d3
  refine (rsame_to HB.out _ _ w5.heap.size w5.heap.size w5 st0.hv (Nat.le_refl _) sq0.hv (Nat.le_refl _)).mono ?_
  rintro e w6 ⟨rfl, b6⟩
  have st0_6 := st0.below b6
  have sq0_6 := sq0.below b6
  clear st0 sq0 b6
  have st0 := st0_6
  have sq0 := sq0_6
  clear st0_6 sq0_6
  have c0 := st0.hb.cell 0
  have c1 := st0.hb.cell 1
  have c2 := st0.hb.cell 2
  have c3 := st0.hb.cell 3
  simp at c0 c1 c2 c3
  go_wp2_with fail
  clear c0 c1 c2 c3
  refine (same_to (p := p) (q := p) (b := true) (decide_eq_true rfl) _ _ w6.heap.size w6.heap.size w6 st0.hv (Nat.le_refl _) st0.hv (Nat.le_refl _)).mono ?_
  rintro e w7 ⟨rfl, b7⟩
  have st0_7 := st0.below b7
  have sq0_7 := sq0.below b7
  clear st0 sq0 b7
  have st0 := st0_7
  have sq0 := sq0_7
  clear st0_7 sq0_7
  go_wp2_with fail
  refine (live_any w7).mono ?_
  rintro e w99 ⟨rfl, b99⟩
  go_wp2
  go_ret
  exact ⟨rfl, st0.k.trans (b99.mono st0.k.size)⟩

set_option maxHeartbeats 4000000 in
theorem same_11f (w : World) (p q : Pt) (v u : Value) (hv : LocsAt w.heap.size w v p.locs) (hu : LocsAt w.heap.size w u q.locs) (HS : Hid (smallB p = true)) (HS2 : Hid (smallB q = true)) (HB : Hid (decide (p = q) = false)) (HC : Hid (ckE p = 0)) (HC2 : Hid (ckE q = 0)) (S : List UInt8) (HE : Hid (encP p = S)) (T : List UInt8) (HE2 : Hid (encP q = T)) (hST : ¬ S = T) :
    Calls Try.prog 6 #[ptV v p, ptV u q] w fun e w' => e = .returned (.bool true) ∧ Below w.heap.size w w' := by
  have hST2 : (S == T) = false := by simpa using hST
  have hST3 : decide (S = T) = false := decide_eq_false hST
  obtain ⟨A, c, rfl, hc, hm⟩ := hv.form
  obtain ⟨A2, c2, rfl, hc2, hm2⟩ := hu.form
  go_enter Try.func6, Try.ntmps6
  go_wp2_with fail
  obtain ⟨P, hP⟩ : ∃ g, w.heap.size = g := ⟨_, rfl⟩
  have st := PSt.new hv
  obtain ⟨wp, hwp⟩ : ∃ x, w.alloc (.cells #[.slice A p.locs.length c, .int .i64 p.len, .int .i64 p.birth, .string (bstr p.sum)] 24) = x := ⟨_, rfl⟩
  have hsz : wp.heap.size = w.heap.size + 1 := by rw [← hwp]; simp
  rw [hwp] at st ⊢
  have sq := PSt.new2 st.k (hu.keep (st.k.mono (Nat.le_refl _)) st.k.size)
  obtain ⟨w0, hw0⟩ : ∃ x, wp.alloc (.cells #[.slice A2 q.locs.length c2, .int .i64 q.len, .int .i64 q.birth, .string (bstr q.sum)] 24) = x := ⟨_, rfl⟩
  have bq : Below wp.heap.size wp w0 := by rw [← hw0]; exact (Below.refl _ _).alloc (Nat.le_refl _) _
  rw [hw0] at sq ⊢
  have st0 := st.below bq
  obtain ⟨Q, hQ⟩ : ∃ g, w.heap.size + 1 = g := ⟨_, rfl⟩
  rw [hsz, hQ] at sq
  rw [hP] at st0
  try rw [hQ]
  try rw [hP]
  have sq0 := sq
  clear hwp hw0 st sq bq hsz
  refine (small_to HS.out _ w0.heap.size w0 st0.hv).mono ?_
  rintro e w1 ⟨rfl, b1⟩
  have st0_1 := st0.below b1
  have sq0_1 := sq0.below b1
  clear st0 sq0 b1
  have st0 := st0_1
  have sq0 := sq0_1
  clear st0_1 sq0_1
  have d0 := sq0.hb.cell 0
  have d1 := sq0.hb.cell 1
  have d2 := sq0.hb.cell 2
  have d3 := sq0.hb.cell 3
  simp at d0 d1 d2 d3
  go_wp2_with fail
  clear d0 d1 d2 d3
  refine (small_to HS2.out _ w1.heap.size w1 sq0.hv).mono ?_
  rintro e w2 ⟨rfl, b2⟩
  have st0_2 := st0.below b2
  have sq0_2 := sq0.below b2
  clear st0 sq0 b2
  have st0 := st0_2
  have sq0 := sq0_2
  clear st0_2 sq0_2
  have c0 := st0.hb.cell 0
  have c1 := st0.hb.cell 1
  have c2 := st0.hb.cell 2
  have c3 := st0.hb.cell 3
  simp at c0 c1 c2 c3
  have d0 := sq0.hb.cell 0
  have d1 := sq0.hb.cell 1
  have d2 := sq0.hb.cell 2
  have d3 := sq0.hb.cell 3
  simp at d0 d1 d2 d3
  go_wp2_with fail
  clear c0 c1 c2 c3 d0 d1 d2 d3
  refine (same_to HB.out _ _ w2.heap.size w2.heap.size w2 st0.hv (Nat.le_refl _) sq0.hv (Nat.le_refl _)).mono ?_
  rintro e w3 ⟨rfl, b3⟩
  have st0_3 := st0.below b3
  have sq0_3 := sq0.below b3
  clear st0 sq0 b3
  have st0 := st0_3
  have sq0 := sq0_3
  clear st0_3 sq0_3
  have c0 := st0.hb.cell 0
  have c1 := st0.hb.cell 1
  have c2 := st0.hb.cell 2
  have c3 := st0.hb.cell 3
  simp at c0 c1 c2 c3
  go_wp2_with fail
  clear c0 c1 c2 c3
  refine (enc_ok _ p HC w3.heap.size w3 st0.hv (Nat.le_refl _)).mono ?_
  rintro e w4 ⟨rfl, b4⟩
  have st0_4 := st0.below b4
  have sq0_4 := sq0.below b4
  clear st0 sq0 b4
  have st0 := st0_4
  have sq0 := sq0_4
  clear st0_4 sq0_4
  rw [HE.out]
  have d0 := sq0.hb.cell 0
  have d1 := sq0.hb.cell 1
  have d2 := sq0.hb.cell 2
  have d3 := sq0.hb.cell 3
  simp at d0 d1 d2 d3
  go_wp2_with fail
  clear d0 d1 d2 d3
  refine (enc_ok _ q HC2 w4.heap.size w4 sq0.hv (Nat.le_refl _)).mono ?_
  rintro e w5 ⟨rfl, b5⟩
  have st0_5 := st0.below b5
  have sq0_5 := sq0.below b5
  clear st0 sq0 b5
  have st0 := st0_5
  have sq0 := sq0_5
  clear st0_5 sq0_5
  rw [HE2.out]
  have c0 := st0.hb.cell 0
  have c1 := st0.hb.cell 1
  have c2 := st0.hb.cell 2
  have c3 := st0.hb.cell 3
  simp at c0 c1 c2 c3
  have d0 := sq0.hb.cell 0
  have d1 := sq0.hb.cell 1
  have d2 := sq0.hb.cell 2
  have d3 := sq0.hb.cell 3
  simp at d0 d1 d2 d3
  go_wp2_with fail
  clear c0 c1 c2 c3 d0 d1 d2 d3
  refine (rsame_to HB.out _ _ w5.heap.size w5.heap.size w5 st0.hv (Nat.le_refl _) sq0.hv (Nat.le_refl _)).mono ?_
  rintro e w6 ⟨rfl, b6⟩
  have st0_6 := st0.below b6
  have sq0_6 := sq0.below b6
  clear st0 sq0 b6
  have st0 := st0_6
  have sq0 := sq0_6
  clear st0_6 sq0_6
  have c0 := st0.hb.cell 0
  have c1 := st0.hb.cell 1
  have c2 := st0.hb.cell 2
  have c3 := st0.hb.cell 3
  simp at c0 c1 c2 c3
  go_wp2_with fail
  clear c0 c1 c2 c3
  refine (same_to (p := p) (q := p) (b := true) (decide_eq_true rfl) _ _ w6.heap.size w6.heap.size w6 st0.hv (Nat.le_refl _) st0.hv (Nat.le_refl _)).mono ?_
  rintro e w7 ⟨rfl, b7⟩
  have st0_7 := st0.below b7
  have sq0_7 := sq0.below b7
  clear st0 sq0 b7
  have st0 := st0_7
  have sq0 := sq0_7
  clear st0_7 sq0_7
  go_wp2_with fail
  refine (live_any w7).mono ?_
  rintro e w99 ⟨rfl, b99⟩
  go_wp2
  go_ret
  exact ⟨rfl, st0.k.trans (b99.mono st0.k.size)⟩

set_option maxHeartbeats 1000000 in
theorem ptrSame_walk (w : World) (a0 : D_api_Ptr) (v0_0 : Value) (h0_0 : SlAt w.heap.size w (R_api_Loc w.heap.size w) 2 [v0_0] a0.locs) (h0_1 : (Lit.int .i64 a0.len).wf = true) (h0_2 : (Lit.int .i64 a0.birth).wf = true) (h0_3 : a0.sum.length ≤ 9223372036854775807) (a1 : D_api_Ptr) (v1_0 : Value) (h1_0 : SlAt w.heap.size w (R_api_Loc w.heap.size w) 2 [v1_0] a1.locs) (h1_1 : (Lit.int .i64 a1.len).wf = true) (h1_2 : (Lit.int .i64 a1.birth).wf = true) (h1_3 : a1.sum.length ≤ 9223372036854775807) :
    Calls Try.prog 6 #[.agg #[v0_0, .int .i64 a0.len, .int .i64 a0.birth, .string (bstr a0.sum)], .agg #[v1_0, .int .i64 a1.len, .int .i64 a1.birth, .string (bstr a1.sum)]] w fun e w' => e = .returned (.bool true) ∧ Below w.heap.size w w' := by
  have hv := locs_of h0_0
  clear h0_0 h0_1 h0_2 h0_3
  obtain ⟨p, hp⟩ : ∃ p, toPt a0 = p := ⟨_, rfl⟩
  have hv' : LocsAt w.heap.size w v0_0 p.locs := by rw [← hp]; exact hv
  have hu := locs_of h1_0
  clear h1_0 h1_1 h1_2 h1_3
  obtain ⟨q, hq⟩ : ∃ q, toPt a1 = q := ⟨_, rfl⟩
  have hu' : LocsAt w.heap.size w v1_0 q.locs := by rw [← hq]; exact hu
  show Calls Try.prog 6 #[ptV v0_0 (toPt a0), ptV v1_0 (toPt a1)] w _
  rw [hp, hq]
  clear hp hv hq hu
  cases hs : smallB p with
  | false => exact same_big1 w p q v0_0 v1_0 hv' hu' hs
  | true =>
    cases hs2 : smallB q with
    | false => exact same_big2 w p q v0_0 v1_0 hv' hu' hs hs2
    | true =>
      rcases ckE_cases p with hc | hc
      · rcases ckE_cases q with hc2 | hc2
        · by_cases he : p = q
          · exact same_11t w p q v0_0 v1_0 hv' hu' hs hs2 (decide_eq_true he) hc hc2 _ rfl _ rfl (by rw [he])
          · exact same_11f w p q v0_0 v1_0 hv' hu' hs hs2 (decide_eq_false he) hc hc2 _ rfl _ rfl (fun e => he ((encP_inj hc hc2).1 e))
        · exact same_10 w p q v0_0 v1_0 hv' hu' hs hs2 _ rfl hc hc2 _ rfl
      · rcases ckE_cases q with hc2 | hc2
        · exact same_01 w p q v0_0 v1_0 hv' hu' hs hs2 _ rfl hc hc2 _ rfl
        · exact same_00 w p q v0_0 v1_0 hv' hu' hs hs2 _ rfl hc hc2

end Go.Proofs.Ytnjbhooogfonbaa
