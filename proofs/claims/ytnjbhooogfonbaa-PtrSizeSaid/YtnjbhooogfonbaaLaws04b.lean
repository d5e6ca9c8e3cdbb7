/- The walk of the law PtrSize: it returns true at every input, and writes to nothing that was there. No condition but that numbers fit their kind. -/
import Derived.Test.YtnjbhooogfonbaaLaws04
import Derived.Test.YtnjbhooogfonbaaPp
namespace Go.Proofs.Ytnjbhooogfonbaa
open Go.RowKit
set_option linter.unusedSimpArgs false
set_option linter.unnecessarySimpa false
set_option linter.unusedVariables false

set_option maxHeartbeats 2000000 in
theorem size_big (w : World) (p : Pt) (v : Value) (hv : LocsAt w.heap.size w v p.locs) (dev : Int) (HS : Hid (smallB p = false)) :
    Calls Try.prog 7 #[ptV v p, .int .i64 dev] w fun e w' => e = .returned (.bool true) ∧ Below w.heap.size w w' := by
  obtain ⟨A, c, rfl, hc, hm⟩ := hv.form
  go_enter Try.func7, Try.ntmps7
  go_wp2_with fail
  obtain ⟨P, hP⟩ : ∃ g, w.heap.size = g := ⟨_, rfl⟩
  have st0 := PSt.new hv
  obtain ⟨w0, hw0⟩ : ∃ x, w.alloc (.cells #[.slice A p.locs.length c, .int .i64 p.len, .int .i64 p.birth, .string (bstr p.sum)] 24) = x := ⟨_, rfl⟩
  rw [hw0] at st0 ⊢
  rw [hP] at st0
  try rw [hP]
  clear hw0
  refine (small_to HS.out _ w0.heap.size w0 st0.hv).mono ?_
  rintro e w1 ⟨rfl, b1⟩
  have st0_1 := st0.below b1
  clear st0 b1
  have st0 := st0_1
  clear st0_1
  go_wp2_with fail
  refine (live_any w1).mono ?_
  rintro e w99 ⟨rfl, b99⟩
  go_wp2
  go_ret
  exact ⟨rfl, st0.k.trans (b99.mono st0.k.size)⟩

set_option maxHeartbeats 2000000 in
theorem size_bad (w : World) (p : Pt) (v : Value) (hv : LocsAt w.heap.size w v p.locs) (dev : Int) (HS : Hid (smallB p = true)) (HC : Hid (ckE p = 1)) :
    Calls Try.prog 7 #[ptV v p, .int .i64 dev] w fun e w' => e = .returned (.bool true) ∧ Below w.heap.size w w' := by
  obtain ⟨A, c, rfl, hc, hm⟩ := hv.form
  go_enter Try.func7, Try.ntmps7
  go_wp2_with fail
  obtain ⟨P, hP⟩ : ∃ g, w.heap.size = g := ⟨_, rfl⟩
  have st0 := PSt.new hv
  obtain ⟨w0, hw0⟩ : ∃ x, w.alloc (.cells #[.slice A p.locs.length c, .int .i64 p.len, .int .i64 p.birth, .string (bstr p.sum)] 24) = x := ⟨_, rfl⟩
  rw [hw0] at st0 ⊢
  rw [hP] at st0
  try rw [hP]
  clear hw0
  refine (small_to HS.out _ w0.heap.size w0 st0.hv).mono ?_
  rintro e w1 ⟨rfl, b1⟩
  have st0_1 := st0.below b1
  clear st0 b1
  have st0 := st0_1
  clear st0_1
  have c0 := st0.hb.cell 0
  have c1 := st0.hb.cell 1
  have c2 := st0.hb.cell 2
  have c3 := st0.hb.cell 3
  simp at c0 c1 c2 c3
  go_wp2_with fail
  clear c0 c1 c2 c3
  refine (enc_bad _ p HC w1.heap.size w1 st0.hv (Nat.le_refl _)).mono ?_
  rintro e w2 ⟨rfl, b2⟩
  have st0_2 := st0.below b2
  clear st0 b2
  have st0 := st0_2
  clear st0_2
  go_wp2_with fail
  refine (live_any w2).mono ?_
  rintro e w99 ⟨rfl, b99⟩
  go_wp2
  go_ret
  exact ⟨rfl, st0.k.trans (b99.mono st0.k.size)⟩

set_option maxHeartbeats 2000000 in
theorem size_out (w : World) (p : Pt) (v : Value) (hv : LocsAt w.heap.size w v p.locs) (HS : Hid (smallB p = true)) (HC : Hid (ckE p = 0)) (S : List UInt8) (HE : Hid (encP p = S)) (HL : S.length = 41 + 3 * p.locs.length) (hl2 : p.locs.length ≤ 2) (dev : Int) (hd : dev < 0 ∨ (S.length : Int) ≤ dev) :
    Calls Try.prog 7 #[ptV v p, .int .i64 dev] w fun e w' => e = .returned (.bool true) ∧ Below w.heap.size w w' := by
  obtain ⟨A, c, rfl, hc, hm⟩ := hv.form
  have hL1 : ((S.length : Int) == 41 + 3 * (p.locs.length : Int)) = true := by simp; omega
  have hL2 : ((S.length : Int) != 41 + 3 * (p.locs.length : Int)) = false := by simp; omega
  have HLL := Lib.hid HL
  clear HL
  go_enter Try.func7, Try.ntmps7
  go_wp2_with fail
  obtain ⟨P, hP⟩ : ∃ g, w.heap.size = g := ⟨_, rfl⟩
  have st0 := PSt.new hv
  obtain ⟨w0, hw0⟩ : ∃ x, w.alloc (.cells #[.slice A p.locs.length c, .int .i64 p.len, .int .i64 p.birth, .string (bstr p.sum)] 24) = x := ⟨_, rfl⟩
  rw [hw0] at st0 ⊢
  rw [hP] at st0
  try rw [hP]
  clear hw0
  refine (small_to HS.out _ w0.heap.size w0 st0.hv).mono ?_
  rintro e w1 ⟨rfl, b1⟩
  have st0_1 := st0.below b1
  clear st0 b1
  have st0 := st0_1
  clear st0_1
  have c0 := st0.hb.cell 0
  have c1 := st0.hb.cell 1
  have c2 := st0.hb.cell 2
  have c3 := st0.hb.cell 3
  simp at c0 c1 c2 c3
  go_wp2_with fail
  clear c0 c1 c2 c3
  refine (enc_ok _ p HC w1.heap.size w1 st0.hv (Nat.le_refl _)).mono ?_
  rintro e w2 ⟨rfl, b2⟩
  have st0_2 := st0.below b2
  clear st0 b2
  have st0 := st0_2
  clear st0_2
  rw [HE.out]
  have c0 := st0.hb.cell 0
  have c1 := st0.hb.cell 1
  have c2 := st0.hb.cell 2
  have c3 := st0.hb.cell 3
  simp at c0 c1 c2 c3
  go_wp2_with fail
  all_goals
    refine (live_any w2).mono ?_
    rintro e w99 ⟨rfl, b99⟩
    go_wp2
    go_ret
    exact ⟨rfl, st0.k.trans (b99.mono st0.k.size)⟩

set_option maxHeartbeats 2000000 in
theorem size_in (w : World) (p : Pt) (v : Value) (hv : LocsAt w.heap.size w v p.locs) (HS : Hid (smallB p = true)) (HC : Hid (ckE p = 0)) (S : List UInt8) (HE : Hid (encP p = S)) (HL : S.length = 41 + 3 * p.locs.length) (hl2 : p.locs.length ≤ 2) (k : Nat) (hk : k < S.length) (HD : Hid (decP (S.take k) = (ptZ, 2))) :
    Calls Try.prog 7 #[ptV v p, .int .i64 (k : Int)] w fun e w' => e = .returned (.bool true) ∧ Below w.heap.size w w' := by
  have hlen : (S.take k).length ≤ 140737488351232 := by rw [List.length_take]; omega
  obtain ⟨A, c, rfl, hc, hm⟩ := hv.form
  have hL1 : ((S.length : Int) == 41 + 3 * (p.locs.length : Int)) = true := by simp; omega
  have hL2 : ((S.length : Int) != 41 + 3 * (p.locs.length : Int)) = false := by simp; omega
  have HLL := Lib.hid HL
  clear HL
  go_enter Try.func7, Try.ntmps7
  go_wp2_with fail
  obtain ⟨P, hP⟩ : ∃ g, w.heap.size = g := ⟨_, rfl⟩
  have st0 := PSt.new hv
  obtain ⟨w0, hw0⟩ : ∃ x, w.alloc (.cells #[.slice A p.locs.length c, .int .i64 p.len, .int .i64 p.birth, .string (bstr p.sum)] 24) = x := ⟨_, rfl⟩
  rw [hw0] at st0 ⊢
  rw [hP] at st0
  try rw [hP]
  clear hw0
  refine (small_to HS.out _ w0.heap.size w0 st0.hv).mono ?_
  rintro e w1 ⟨rfl, b1⟩
  have st0_1 := st0.below b1
  clear st0 b1
  have st0 := st0_1
  clear st0_1
  have c0 := st0.hb.cell 0
  have c1 := st0.hb.cell 1
  have c2 := st0.hb.cell 2
  have c3 := st0.hb.cell 3
  simp at c0 c1 c2 c3
  go_wp2_with fail
  clear c0 c1 c2 c3
  refine (enc_ok _ p HC w1.heap.size w1 st0.hv (Nat.le_refl _)).mono ?_
  rintro e w2 ⟨rfl, b2⟩
  have st0_2 := st0.below b2
  clear st0 b2
  have st0 := st0_2
  clear st0_2
  rw [HE.out]
  have c0 := st0.hb.cell 0
  have c1 := st0.hb.cell 1
  have c2 := st0.hb.cell 2
  have c3 := st0.hb.cell 3
  simp at c0 c1 c2 c3
  go_wp2_with fail
  refine (dec_to HD.out hlen w2).mono ?_
  rintro e w3 ⟨v3, rfl, hn3, b3⟩
  obtain ⟨A3, q3, rfl, -, -⟩ := hn3.form
  clear hn3
  have st0_3 := st0.below b3
  clear st0 b3
  have st0 := st0_3
  clear st0_3
  go_wp2_with fail
  refine (live_any _).mono ?_
  rintro e w9 ⟨rfl, b9⟩
  go_wp2
  go_ret
  exact ⟨rfl, (st0.k.alloc st0.k.size _).trans (b9.mono (by simp; have := st0.k.size; omega))⟩

set_option maxHeartbeats 1000000 in
theorem ptrSize_walk (w : World) (a0 : D_api_Ptr) (v0_0 : Value) (h0_0 : SlAt w.heap.size w (R_api_Loc w.heap.size w) 2 [v0_0] a0.locs) (h0_1 : (Lit.int .i64 a0.len).wf = true) (h0_2 : (Lit.int .i64 a0.birth).wf = true) (h0_3 : a0.sum.length ≤ 9223372036854775807) (a1 : Int) (h1 : (Lit.int .i64 a1).wf = true) :
    Calls Try.prog 7 #[.agg #[v0_0, .int .i64 a0.len, .int .i64 a0.birth, .string (bstr a0.sum)], .int .i64 a1] w fun e w' => e = .returned (.bool true) ∧ Below w.heap.size w w' := by
  have hv := locs_of h0_0
  clear h0_0 h0_1 h0_2 h0_3
  obtain ⟨p, hp⟩ : ∃ p, toPt a0 = p := ⟨_, rfl⟩
  have hv' : LocsAt w.heap.size w v0_0 p.locs := by rw [← hp]; exact hv
  clear h1
  show Calls Try.prog 7 #[ptV v0_0 (toPt a0), .int .i64 a1] w _
  rw [hp]
  clear hp hv
  cases hs : smallB p with
  | false => exact size_big w p v0_0 hv' a1 hs
  | true =>
    rcases ckE_cases p with hc | hc
    · have hL := encP_len hc
      obtain ⟨h2, -⟩ := ok_facts hc
      by_cases hd : a1 < 0 ∨ ((encP p).length : Int) ≤ a1
      · exact size_out w p v0_0 hv' hs hc _ rfl hL h2 a1 hd
      · obtain ⟨k, rfl⟩ : ∃ k : Nat, a1 = k := ⟨a1.toNat, by omega⟩
        have hk : k < (encP p).length := by omega
        exact size_in w p v0_0 hv' hs hc _ rfl hL h2 k hk (dec_cut hc k hk)
    · exact size_bad w p v0_0 hv' a1 hs hc

end Go.Proofs.Ytnjbhooogfonbaa
