/- The walk of the law PtrEncodes: it returns true at every input, and writes to nothing that was there. No condition but that numbers fit their kind. -/
import Derived.Test.YtnjbhooogfonbaaLaws04
import Derived.Test.YtnjbhooogfonbaaPp
namespace Go.Proofs.Ytnjbhooogfonbaa
open Go.RowKit
set_option linter.unusedSimpArgs false
set_option linter.unnecessarySimpa false
set_option linter.unusedVariables false

set_option maxHeartbeats 2000000 in
theorem encs_big (w : World) (p : Pt) (v : Value) (hv : LocsAt w.heap.size w v p.locs) (dev : Int) (HS : Hid (smallB p = false)) :
    Calls Try.prog 3 #[ptV v p, .int .i64 dev] w fun e w' => e = .returned (.bool true) ∧ Below w.heap.size w w' := by
  obtain ⟨A, c, rfl, hc, hm⟩ := hv.form
  go_enter Try.func3, Try.ntmps3
  go_wp2_with fail
  obtain ⟨P, hP⟩ : ∃ g, w.heap.size = g := ⟨_, rfl⟩
  have st0 := PSt.new hv
  obtain ⟨w0, hw0⟩ : ∃ x, w.alloc (.cells #[.slice A p.locs.length c, .int .i64 p.len, .int .i64 p.birth, .string (bstr p.sum)] 24) = x := ⟨_, rfl⟩
  rw [hw0] at st0 ⊢
  rw [hP] at st0
  try rw [hP]
  clear hw0
  refine (small_to HS.out _ w0.heap.size w0 st0.hv).mono ?_
  rintro e w1 ⟨rfl, b1⟩
  have st0_1 := st0.below b1
  clear st0 b1
  have st0 := st0_1
  clear st0_1
  go_wp2_with fail
  refine (live_any w1).mono ?_
  rintro e w99 ⟨rfl, b99⟩
  go_wp2
  go_ret
  exact ⟨rfl, st0.k.trans (b99.mono st0.k.size)⟩

set_option maxHeartbeats 4000000 in
theorem encs_ok (w : World) (p : Pt) (v : Value) (hv : LocsAt w.heap.size w v p.locs) (dev : Int) (HS : Hid (smallB p = true)) (hl : p.locs.length ≤ 10) (HC : Hid (ckE p = 0)) (T : List UInt8) (HE : Hid (encP p = T)) :
    Calls Try.prog 3 #[ptV v p, .int .i64 dev] w fun e w' => e = .returned (.bool true) ∧ Below w.heap.size w w' := by
  obtain ⟨A, c, rfl, hc, hm⟩ := hv.form
  go_enter Try.func3, Try.ntmps3
  go_wp2_with fail
  obtain ⟨P, hP⟩ : ∃ g, w.heap.size = g := ⟨_, rfl⟩
  have st0 := PSt.new hv
  obtain ⟨w0, hw0⟩ : ∃ x, w.alloc (.cells #[.slice A p.locs.length c, .int .i64 p.len, .int .i64 p.birth, .string (bstr p.sum)] 24) = x := ⟨_, rfl⟩
  rw [hw0] at st0 ⊢
  rw [hP] at st0
  try rw [hP]
  clear hw0
  refine (small_to HS.out _ w0.heap.size w0 st0.hv).mono ?_
  rintro e w1 ⟨rfl, b1⟩
  have st0_1 := st0.below b1
  clear st0 b1
  have st0 := st0_1
  clear st0_1
  have c0 := st0.hb.cell 0
  have c1 := st0.hb.cell 1
  have c2 := st0.hb.cell 2
  have c3 := st0.hb.cell 3
  simp at c0 c1 c2 c3
  go_wp2_with fail
  clear c0 c1 c2 c3
  refine (enc_ok _ p HC w1.heap.size w1 st0.hv (Nat.le_refl _)).mono ?_
  rintro e w2 ⟨rfl, b2⟩
  have st0_2 := st0.below b2
  clear st0 b2
  have st0 := st0_2
  clear st0_2
  rw [HE.out]
  have c0 := st0.hb.cell 0
  have c1 := st0.hb.cell 1
  have c2 := st0.hb.cell 2
  have c3 := st0.hb.cell 3
  simp at c0 c1 c2 c3
  go_wp2_with fail
  clear c0 c1 c2 c3
  refine (renc_ok _ p HC w2.heap.size w2 st0.hv (Nat.le_refl _)).mono ?_
  rintro e w3 ⟨rfl, b3⟩
  have st0_3 := st0.below b3
  clear st0 b3
  have st0 := st0_3
  clear st0_3
  rw [HE.out]
  have c0 := st0.hb.cell 0
  have c1 := st0.hb.cell 1
  have c2 := st0.hb.cell 2
  have c3 := st0.hb.cell 3
  simp at c0 c1 c2 c3
  go_wp2_with fail
  clear c0 c1 c2 c3
  go_loopw [9, 10] (fun o i wr => ∃ k : Nat, k ≤ p.locs.length ∧ i = .int .i64 k ∧ o = .bool ((p.locs.take k).any fun x => x.dev == dev) ∧ PSt w P (.slice A p.locs.length c) p wr) (fun _ i _ => p.locs.length - (intOf i).toNat)
  case atStart => exact ⟨0, by omega, rfl, rfl, st0⟩
  case round =>
    obtain ⟨k, hk, rfl, rfl, st⟩ := hrel
    clear st0
    have c0 := st.hb.cell 0
    simp at c0
    obtain ⟨b, hb⟩ : ∃ b, ((p.locs.take k).any fun x => x.dev == dev) = b := ⟨_, rfl⟩
    rw [hb]
    by_cases hlt : k < p.locs.length
    · obtain ⟨ad, rfl, had, hx, hy⟩ := st.hv.get k hlt
      have hsn : ((p.locs.take (k + 1)).any fun x => x.dev == dev) = (b || (p.locs[k].dev == dev)) := by
        rw [List.take_succ_eq_append_getElem hlt, List.any_append, hb]; simp
      have HB := Lib.hid hb
      have HSN := Lib.hid hsn
      clear hb hsn hy
      cases b
      · by_cases hd : p.locs[k].dev = dev
        · have hd2 : (p.locs[k].dev == dev) = true := by simp [hd]
          have HD2 := Lib.hid hd2
          clear hd
          go_wp2
          go_round
          case rel => exact ⟨k + 1, by omega, by go_num, by rw [HSN.out, HD2.out]; rfl, st⟩
          case measure => simp [intOf]; omega
        · have hd2 : (p.locs[k].dev == dev) = false := by simp [hd]
          have HD2 := Lib.hid hd2
          go_wp2
          go_round
          case rel => exact ⟨k + 1, by omega, by go_num, by rw [HSN.out, HD2.out]; rfl, st⟩
          case measure => simp [intOf]; omega
      · go_wp2
        go_round
        case rel => exact ⟨k + 1, by omega, by go_num, by rw [HSN.out]; rfl, st⟩
        case measure => simp [intOf]; omega
    · obtain rfl : k = p.locs.length := by omega
      rw [List.take_length] at hb
      have HB := Lib.hid hb
      clear hb
      have c1 := st.hb.cell 1
      have c2 := st.hb.cell 2
      have c3 := st.hb.cell 3
      simp at c1 c2 c3
      cases b
      all_goals
        go_wp2_with fail
        go_region_held3 (fun w' => w'.cell? ⟨P, 0, none⟩ = some (.slice A p.locs.length c) ∧ w'.cell? ⟨P, 1, none⟩ = some (.int .i64 p.len) ∧ w'.cell? ⟨P, 2, none⟩ = some (.int .i64 p.birth) ∧ w'.cell? ⟨P, 3, none⟩ = some (.string (bstr p.sum)))
          (first | exact ⟨z0, z1, z2, z3⟩ | exact ⟨y0, y1, y2, y3⟩ | exact ⟨x0, x1, x2, x3⟩ | exact ⟨u0, u1, u2, u3⟩ | exact ⟨c0, c1, c2, c3⟩)
          (first
          | (go_at_call 10; refine (live_any w6).mono ?_; rintro e w7 ⟨rfl, b7⟩; have st7 := st6.below b7; have z0 := st7.hb.cell 0; have z1 := st7.hb.cell 1; have z2 := st7.hb.cell 2; have z3 := st7.hb.cell 3; simp at z0 z1 z2 z3)
          | (go_at_call 15; refine (on_to HB.out _ w5.heap.size w5 st5.hv (Nat.le_refl _)).mono ?_; rintro e w6 ⟨rfl, b6⟩; have st6 := st5.below b6; have y0 := st6.hb.cell 0; have y1 := st6.hb.cell 1; have y2 := st6.hb.cell 2; have y3 := st6.hb.cell 3; simp at y0 y1 y2 y3)
          | (go_at_call 14; refine (rcheck_to HC.out w4.heap.size w4 st4.hv (Nat.le_refl _)).mono ?_; rintro e w5 ⟨rfl, b5⟩; have st5 := st4.below b5; have x0 := st5.hb.cell 0; have x1 := st5.hb.cell 1; have x2 := st5.hb.cell 2; have x3 := st5.hb.cell 3; simp at x0 x1 x2 x3)
          | (go_at_call 13; refine (check_to HC.out wr.heap.size wr.drew st.hv (Nat.le_refl _)).mono ?_; rintro e w4 ⟨rfl, b4⟩; have st4 := st.below b4.fromDrew; have u0 := st4.hb.cell 0; have u1 := st4.hb.cell 1; have u2 := st4.hb.cell 2; have u3 := st4.hb.cell 3; simp at u0 u1 u2 u3))
        go_wp2
        go_ret
        exact ⟨rfl, st7.k⟩

set_option maxHeartbeats 4000000 in
theorem encs_bad (w : World) (p : Pt) (v : Value) (hv : LocsAt w.heap.size w v p.locs) (dev : Int) (HS : Hid (smallB p = true)) (hl : p.locs.length ≤ 10) (HC : Hid (ckE p = 1)) :
    Calls Try.prog 3 #[ptV v p, .int .i64 dev] w fun e w' => e = .returned (.bool true) ∧ Below w.heap.size w w' := by
  obtain ⟨A, c, rfl, hc, hm⟩ := hv.form
  go_enter Try.func3, Try.ntmps3
  go_wp2_with fail
  obtain ⟨P, hP⟩ : ∃ g, w.heap.size = g := ⟨_, rfl⟩
  have st0 := PSt.new hv
  obtain ⟨w0, hw0⟩ : ∃ x, w.alloc (.cells #[.slice A p.locs.length c, .int .i64 p.len, .int .i64 p.birth, .string (bstr p.sum)] 24) = x := ⟨_, rfl⟩
  rw [hw0] at st0 ⊢
  rw [hP] at st0
  try rw [hP]
  clear hw0
  refine (small_to HS.out _ w0.heap.size w0 st0.hv).mono ?_
  rintro e w1 ⟨rfl, b1⟩
  have st0_1 := st0.below b1
  clear st0 b1
  have st0 := st0_1
  clear st0_1
  have c0 := st0.hb.cell 0
  have c1 := st0.hb.cell 1
  have c2 := st0.hb.cell 2
  have c3 := st0.hb.cell 3
  simp at c0 c1 c2 c3
  go_wp2_with fail
  clear c0 c1 c2 c3
  refine (enc_bad _ p HC w1.heap.size w1 st0.hv (Nat.le_refl _)).mono ?_
  rintro e w2 ⟨rfl, b2⟩
  have st0_2 := st0.below b2
  clear st0 b2
  have st0 := st0_2
  clear st0_2
  have c0 := st0.hb.cell 0
  have c1 := st0.hb.cell 1
  have c2 := st0.hb.cell 2
  have c3 := st0.hb.cell 3
  simp at c0 c1 c2 c3
  go_wp2_with fail
  clear c0 c1 c2 c3
  refine (renc_bad _ p HC w2.heap.size w2 st0.hv (Nat.le_refl _)).mono ?_
  rintro e w3 ⟨rfl, b3⟩
  have st0_3 := st0.below b3
  clear st0 b3
  have st0 := st0_3
  clear st0_3
  have c0 := st0.hb.cell 0
  have c1 := st0.hb.cell 1
  have c2 := st0.hb.cell 2
  have c3 := st0.hb.cell 3
  simp at c0 c1 c2 c3
  go_wp2_with fail
  clear c0 c1 c2 c3
  go_loopw [9, 10] (fun o i wr => ∃ k : Nat, k ≤ p.locs.length ∧ i = .int .i64 k ∧ o = .bool ((p.locs.take k).any fun x => x.dev == dev) ∧ PSt w P (.slice A p.locs.length c) p wr) (fun _ i _ => p.locs.length - (intOf i).toNat)
  case atStart => exact ⟨0, by omega, rfl, rfl, st0⟩
  case round =>
    obtain ⟨k, hk, rfl, rfl, st⟩ := hrel
    clear st0
    have c0 := st.hb.cell 0
    simp at c0
    obtain ⟨b, hb⟩ : ∃ b, ((p.locs.take k).any fun x => x.dev == dev) = b := ⟨_, rfl⟩
    rw [hb]
    by_cases hlt : k < p.locs.length
    · obtain ⟨ad, rfl, had, hx, hy⟩ := st.hv.get k hlt
      have hsn : ((p.locs.take (k + 1)).any fun x => x.dev == dev) = (b || (p.locs[k].dev == dev)) := by
        rw [List.take_succ_eq_append_getElem hlt, List.any_append, hb]; simp
      have HB := Lib.hid hb
      have HSN := Lib.hid hsn
      clear hb hsn hy
      cases b
      · by_cases hd : p.locs[k].dev = dev
        · have hd2 : (p.locs[k].dev == dev) = true := by simp [hd]
          have HD2 := Lib.hid hd2
          clear hd
          go_wp2
          go_round
          case rel => exact ⟨k + 1, by omega, by go_num, by rw [HSN.out, HD2.out]; rfl, st⟩
          case measure => simp [intOf]; omega
        · have hd2 : (p.locs[k].dev == dev) = false := by simp [hd]
          have HD2 := Lib.hid hd2
          go_wp2
          go_round
          case rel => exact ⟨k + 1, by omega, by go_num, by rw [HSN.out, HD2.out]; rfl, st⟩
          case measure => simp [intOf]; omega
      · go_wp2
        go_round
        case rel => exact ⟨k + 1, by omega, by go_num, by rw [HSN.out]; rfl, st⟩
        case measure => simp [intOf]; omega
    · obtain rfl : k = p.locs.length := by omega
      rw [List.take_length] at hb
      have HB := Lib.hid hb
      clear hb
      have c1 := st.hb.cell 1
      have c2 := st.hb.cell 2
      have c3 := st.hb.cell 3
      simp at c1 c2 c3
      cases b
      all_goals
        go_wp2_with fail
        go_region_held3 (fun w' => w'.cell? ⟨P, 0, none⟩ = some (.slice A p.locs.length c) ∧ w'.cell? ⟨P, 1, none⟩ = some (.int .i64 p.len) ∧ w'.cell? ⟨P, 2, none⟩ = some (.int .i64 p.birth) ∧ w'.cell? ⟨P, 3, none⟩ = some (.string (bstr p.sum)))
          (first | exact ⟨z0, z1, z2, z3⟩ | exact ⟨y0, y1, y2, y3⟩ | exact ⟨x0, x1, x2, x3⟩ | exact ⟨u0, u1, u2, u3⟩ | exact ⟨c0, c1, c2, c3⟩)
          (first
          | (go_at_call 10; refine (live_any w6).mono ?_; rintro e w7 ⟨rfl, b7⟩; have st7 := st6.below b7; have z0 := st7.hb.cell 0; have z1 := st7.hb.cell 1; have z2 := st7.hb.cell 2; have z3 := st7.hb.cell 3; simp at z0 z1 z2 z3)
          | (go_at_call 15; refine (on_to HB.out _ w5.heap.size w5 st5.hv (Nat.le_refl _)).mono ?_; rintro e w6 ⟨rfl, b6⟩; have st6 := st5.below b6; have y0 := st6.hb.cell 0; have y1 := st6.hb.cell 1; have y2 := st6.hb.cell 2; have y3 := st6.hb.cell 3; simp at y0 y1 y2 y3)
          | (go_at_call 14; refine (rcheck_to HC.out w4.heap.size w4 st4.hv (Nat.le_refl _)).mono ?_; rintro e w5 ⟨rfl, b5⟩; have st5 := st4.below b5; have x0 := st5.hb.cell 0; have x1 := st5.hb.cell 1; have x2 := st5.hb.cell 2; have x3 := st5.hb.cell 3; simp at x0 x1 x2 x3)
          | (go_at_call 13; refine (check_to HC.out wr.heap.size wr.drew st.hv (Nat.le_refl _)).mono ?_; rintro e w4 ⟨rfl, b4⟩; have st4 := st.below b4.fromDrew; have u0 := st4.hb.cell 0; have u1 := st4.hb.cell 1; have u2 := st4.hb.cell 2; have u3 := st4.hb.cell 3; simp at u0 u1 u2 u3))
        go_wp2
        go_ret
        exact ⟨rfl, st7.k⟩

set_option maxHeartbeats 1000000 in
theorem ptrEncodes_walk (w : World) (a0 : D_api_Ptr) (v0_0 : Value) (h0_0 : SlAt w.heap.size w (R_api_Loc w.heap.size w) 2 [v0_0] a0.locs) (h0_1 : (Lit.int .i64 a0.len).wf = true) (h0_2 : (Lit.int .i64 a0.birth).wf = true) (h0_3 : a0.sum.length ≤ 9223372036854775807) (a1 : Int) (h1 : (Lit.int .i64 a1).wf = true) :
    Calls Try.prog 3 #[.agg #[v0_0, .int .i64 a0.len, .int .i64 a0.birth, .string (bstr a0.sum)], .int .i64 a1] w fun e w' => e = .returned (.bool true) ∧ Below w.heap.size w w' := by
  have hv := locs_of h0_0
  clear h0_0 h0_1 h0_2 h0_3
  obtain ⟨p, hp⟩ : ∃ p, toPt a0 = p := ⟨_, rfl⟩
  have hv' : LocsAt w.heap.size w v0_0 p.locs := by rw [← hp]; exact hv
  clear h1
  show Calls Try.prog 3 #[ptV v0_0 (toPt a0), .int .i64 a1] w _
  rw [hp]
  clear hp hv
  cases hs : smallB p with
  | false => exact encs_big w p v0_0 hv' a1 hs
  | true =>
    have hl : p.locs.length ≤ 10 := by simp [smallB] at hs; exact hs.1
    rcases ckE_cases p with hc | hc
    · exact encs_ok w p v0_0 hv' a1 hs hl hc _ rfl
    · exact encs_bad w p v0_0 hv' a1 hs hl hc

end Go.Proofs.Ytnjbhooogfonbaa
