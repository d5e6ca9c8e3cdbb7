/- Package sum: Sum at none, Of, Len, Write at none. Written by wip/gen_sm5.py. -/
import Derived.Test.YtcamcjcmhjldpaaDoorSm4
namespace Go.Proofs.YtcamcjcmhjldpaaDoor
open Go.RowKit
set_option maxRecDepth 100000
set_option linter.unusedSimpArgs false
set_option linter.unnecessarySimpa false
set_option linter.unusedVariables false

set_option maxRecDepth 100000 in
set_option maxHeartbeats 2000000 in
theorem sum_nil (w : World) (hR0 : RootsAt w) :
    Calls Tryd.prog 54 #[.pointer none] w fun e w' => e = .returned (.string (bstr Sw.new.digest)) ∧ Below w.heap.size w w' := by
  go_enter Tryd.func54, Tryd.ntmps54
  go_wp2_with fail
  refine (new_sum _).mono ?_
  rintro e w0 ⟨g, rfl, hg, hb0, hgw⟩
  have hg0 : g ≠ 0 := by have := hR0.1; omega
  have hR : RootsAt w0 := hR0.below hb0 hR0.1
  obtain ⟨⟨h, r, n⟩, hd0⟩ : ∃ d, Sw.new = d := ⟨_, rfl⟩
  rw [hd0] at hg
  have hN : n < 288230376151711744 := by have := congrArg Sw.n hd0; simp [Sw.new] at this; omega
  have hr : r.length < 64 := by have := congrArg Sw.rest hd0; simp [Sw.new] at this; subst this; simp
  have HD0 := Lib.hid hd0
  clear hd0
  have k8 := hg.cell 8
  simp [Sw.cells] at k8
  have hm : (119 - (r.length : Int)) % 64 = (((119 - r.length) % 64 : Nat) : Int) := by omega
  have hm0 : IntKind.i64.wrap (119 - (r.length : Int)) = 119 - (r.length : Int) := IntWalk.i64_in _ ⟨by omega, by omega⟩
  obtain ⟨m, hme⟩ : ∃ m, (119 - r.length) % 64 = m := ⟨_, rfl⟩
  have hmod : (119 - (r.length : Int)).tmod 64 = m := by rw [Int.tmod_eq_emod_of_nonneg (by omega), hm, hme]
  have hml : m < 64 := by omega
  have HM := Lib.hid hme
  clear hme hm
  go_wp2_with fail
  refine (Tryd.strings_Repeat ⟨#[0]⟩ m w0 (by omega) (by show 1 * m ≤ _; omega)).mono ?_
  rintro e w1 ⟨rfl, hb1⟩
  rw [zeros_rep]
  have h80 := str80 (List.replicate m 0)
  have hms : ¬ 9223372036854775807 < 1 + m := by omega
  go_wp2_with fail
  go_loopw [3, 4] (fun t i wr => ∃ k : Nat, ∃ z : Int, k ≤ 8 ∧ z = 56 - 8 * k ∧ i = .int .i64 z ∧ t = .string (bstr (128 :: (List.replicate m 0 ++ lenB n k))) ∧ Below w0.heap.size w0 wr) (fun _ i _ => (intOf i + 8).toNat)
  case atStart => exact ⟨0, 56, by omega, by omega, rfl, by simp [lenB], hb1⟩
  case round =>
    obtain ⟨k, z, hk, hz, rfl, rfl, hb⟩ := hrel
    have hgr := hg.below hb hg.lt
    have k9 := hgr.cell 9
    simp [Sw.cells] at k9
    have hN1 : (0 : Int) ≤ n := by omega
    have w8 : IntKind.i64.wrap (8 * (n : Int)) = 8 * (n : Int) := IntWalk.i64_in _ ⟨by omega, by omega⟩
    obtain ⟨t, ht⟩ : ∃ t, 128 :: (List.replicate m 0 ++ lenB n k) = t := ⟨_, rfl⟩
    have htl : t.length ≤ 80 := by rw [← ht]; simp [lenB_len]; omega
    have hcat : ¬ 9223372036854775807 < t.length + 1 := by omega
    rw [ht]
    have HT := Lib.hid ht
    clear ht h80 hms hm0 hmod
    have : k = 0 ∨ k = 1 ∨ k = 2 ∨ k = 3 ∨ k = 4 ∨ k = 5 ∨ k = 6 ∨ k = 7 ∨ k = 8 := by omega
    rcases this with rfl | rfl | rfl | rfl | rfl | rfl | rfl | rfl | rfl
    · obtain rfl : z = 56 := by omega
      clear hz
      have hcv := run_byte_one_new (P := Tryd.prog) wr Tryd.underlying62 Tryd.underlying5 Tryd.underlying9 (8 * (n : Int) / 72057594037927936) (UInt8.ofNat (8 * n / 72057594037927936 % 256)) (by simp <;> omega)
      have hto : t ++ [UInt8.ofNat (8 * n / 72057594037927936 % 256)] = 128 :: (List.replicate m 0 ++ lenB n 1) := by rw [← HT.out]; simp [lenB]
      have HTO := Lib.hid hto
      clear hto
      go_wp2
      go_round
      case rel => exact ⟨1, 48, by omega, by omega, rfl, by rw [← HTO.out], hb.alloc hb.size _⟩
      case measure => simp [intOf]
    · obtain rfl : z = 48 := by omega
      clear hz
      have hcv := run_byte_one_new (P := Tryd.prog) wr Tryd.underlying62 Tryd.underlying5 Tryd.underlying9 (8 * (n : Int) / 281474976710656 % 256) (UInt8.ofNat (8 * n / 281474976710656 % 256)) (by simp <;> omega)
      have hto : t ++ [UInt8.ofNat (8 * n / 281474976710656 % 256)] = 128 :: (List.replicate m 0 ++ lenB n 2) := by rw [← HT.out]; simp [lenB]
      have HTO := Lib.hid hto
      clear hto
      go_wp2
      go_round
      case rel => exact ⟨2, 40, by omega, by omega, rfl, by rw [← HTO.out], hb.alloc hb.size _⟩
      case measure => simp [intOf]
    · obtain rfl : z = 40 := by omega
      clear hz
      have hcv := run_byte_one_new (P := Tryd.prog) wr Tryd.underlying62 Tryd.underlying5 Tryd.underlying9 (8 * (n : Int) / 1099511627776 % 256) (UInt8.ofNat (8 * n / 1099511627776 % 256)) (by simp <;> omega)
      have hto : t ++ [UInt8.ofNat (8 * n / 1099511627776 % 256)] = 128 :: (List.replicate m 0 ++ lenB n 3) := by rw [← HT.out]; simp [lenB]
      have HTO := Lib.hid hto
      clear hto
      go_wp2
      go_round
      case rel => exact ⟨3, 32, by omega, by omega, rfl, by rw [← HTO.out], hb.alloc hb.size _⟩
      case measure => simp [intOf]
    · obtain rfl : z = 32 := by omega
      clear hz
      have hcv := run_byte_one_new (P := Tryd.prog) wr Tryd.underlying62 Tryd.underlying5 Tryd.underlying9 (8 * (n : Int) / 4294967296 % 256) (UInt8.ofNat (8 * n / 4294967296 % 256)) (by simp <;> omega)
      have hto : t ++ [UInt8.ofNat (8 * n / 4294967296 % 256)] = 128 :: (List.replicate m 0 ++ lenB n 4) := by rw [← HT.out]; simp [lenB]
      have HTO := Lib.hid hto
      clear hto
      go_wp2
      go_round
      case rel => exact ⟨4, 24, by omega, by omega, rfl, by rw [← HTO.out], hb.alloc hb.size _⟩
      case measure => simp [intOf]
    · obtain rfl : z = 24 := by omega
      clear hz
      have hcv := run_byte_one_new (P := Tryd.prog) wr Tryd.underlying62 Tryd.underlying5 Tryd.underlying9 (8 * (n : Int) / 16777216 % 256) (UInt8.ofNat (8 * n / 16777216 % 256)) (by simp <;> omega)
      have hto : t ++ [UInt8.ofNat (8 * n / 16777216 % 256)] = 128 :: (List.replicate m 0 ++ lenB n 5) := by rw [← HT.out]; simp [lenB]
      have HTO := Lib.hid hto
      clear hto
      go_wp2
      go_round
      case rel => exact ⟨5, 16, by omega, by omega, rfl, by rw [← HTO.out], hb.alloc hb.size _⟩
      case measure => simp [intOf]
    · obtain rfl : z = 16 := by omega
      clear hz
      have hcv := run_byte_one_new (P := Tryd.prog) wr Tryd.underlying62 Tryd.underlying5 Tryd.underlying9 (8 * (n : Int) / 65536 % 256) (UInt8.ofNat (8 * n / 65536 % 256)) (by simp <;> omega)
      have hto : t ++ [UInt8.ofNat (8 * n / 65536 % 256)] = 128 :: (List.replicate m 0 ++ lenB n 6) := by rw [← HT.out]; simp [lenB]
      have HTO := Lib.hid hto
      clear hto
      go_wp2
      go_round
      case rel => exact ⟨6, 8, by omega, by omega, rfl, by rw [← HTO.out], hb.alloc hb.size _⟩
      case measure => simp [intOf]
    · obtain rfl : z = 8 := by omega
      clear hz
      have hcv := run_byte_one_new (P := Tryd.prog) wr Tryd.underlying62 Tryd.underlying5 Tryd.underlying9 (8 * (n : Int) / 256 % 256) (UInt8.ofNat (8 * n / 256 % 256)) (by simp <;> omega)
      have hto : t ++ [UInt8.ofNat (8 * n / 256 % 256)] = 128 :: (List.replicate m 0 ++ lenB n 7) := by rw [← HT.out]; simp [lenB]
      have HTO := Lib.hid hto
      clear hto
      go_wp2
      go_round
      case rel => exact ⟨7, 0, by omega, by omega, rfl, by rw [← HTO.out], hb.alloc hb.size _⟩
      case measure => simp [intOf]
    · obtain rfl : z = 0 := by omega
      clear hz
      have hcv := run_byte_one_new (P := Tryd.prog) wr Tryd.underlying62 Tryd.underlying5 Tryd.underlying9 (8 * (n : Int) % 256) (UInt8.ofNat (8 * n % 256)) (by simp <;> omega)
      have hto : t ++ [UInt8.ofNat (8 * n % 256)] = 128 :: (List.replicate m 0 ++ lenB n 8) := by rw [← HT.out]; simp [lenB]
      have HTO := Lib.hid hto
      clear hto
      go_wp2
      go_round
      case rel => exact ⟨8, -8, by omega, by omega, rfl, by rw [← HTO.out], hb.alloc hb.size _⟩
      case measure => simp [intOf]
    · obtain rfl : z = -8 := by omega
      clear hz
      have htl8 : t = Sw.tail ⟨h, r, n⟩ := by rw [← HT.out, Sw.tail, HM.out]
      obtain ⟨V, hV⟩ : ∃ V, wr.heap.size = V := ⟨_, rfl⟩
      have hVw : w0.heap.size ≤ V := by rw [← hV]; exact hb.size
      obtain ⟨w3, hw3⟩ : ∃ y, (wr.alloc (.cells (Sw.cells ⟨⟨0, 0, 0, 0, 0, 0, 0, 0⟩, [], 0⟩) 105)).setRow V (Sw.cells ⟨h, r, n⟩) = y := ⟨_, rfl⟩
      have hb3 : Below w0.heap.size w0 w3 := by rw [← hw3]; exact below_setRow (hb.alloc hb.size _) hVw _
      have hg3 : Blk w3 V 105 (Sw.cells ⟨h, r, n⟩) := by rw [← hw3]; exact setRow_heap _ _ _ _ _ _ (blk_at hV)
      have HW3 := Lib.hid hw3
      have HT8 := Lib.hid htl8
      have hold : Blk (wr.alloc (.cells (Sw.cells ⟨⟨0, 0, 0, 0, 0, 0, 0, 0⟩, [], 0⟩) 105)) V 105 (Sw.cells ⟨⟨0, 0, 0, 0, 0, 0, 0, 0⟩, [], 0⟩) := blk_at hV
      clear hw3 htl8 k8 k9 hcat
      go_upto_region 9 with (first | (refine wpList_load_row rfl 105 _ rfl g rfl 105 (Sw.cells ⟨h, r, n⟩) (0, 0) _ hgr Tryd.underlying105 rfl rfl ?_) | (refine wpList_store_row rfl 105 _ _ rfl V (Sw.cells ⟨h, r, n⟩) rfl rfl 105 _ hold rfl rfl (sw_one _) ?_))
      have hw3' := HW3.out
      rw [sw_zero] at hw3'
      rw [hw3']
      clear hw3' hold
      have hR3 : RootsAt w3 := hR.below hb3 hR.1
      have hV0 : V ≠ 0 := by have := hR.1; omega
      go_wp2_with fail
      refine (write_sum V ⟨h, r, n⟩ t w3 hR3 hg3 hV0 (by simp; omega) (by simp; omega)).mono ?_
      rintro e w4 ⟨rfl, hg4, hk4⟩
      have hb4 : Below w0.heap.size w0 w4 := hb3.trans (hk4.mono (S' := fun _ => False) hb3.size (fun k h1 h2 => by omega)).below
      have hdg : (Sw.digest ⟨h, r, n⟩) = ((Sw.write ⟨h, r, n⟩ t).h).bytes := by rw [HT8.out]; rfl
      obtain ⟨⟨y, r', n'⟩, hd⟩ : ∃ d, Sw.write ⟨h, r, n⟩ t = d := ⟨_, rfl⟩
      rw [hd] at hg4 hdg
      have HDG := Lib.hid hdg
      clear hd hdg hR3 hV0 hg3 hb3 HT8 HW3 HT htl
      obtain ⟨B, hB⟩ : ∃ B, w4.heap.size = B := ⟨_, rfl⟩
      have hbl : BlAt B (w4.alloc (.cells #[.pointer none, .slice none 0 0] 109)) B [] := by rw [← hB]; exact BlAt.new w4
      have hb5 : Below w0.heap.size w0 (w4.alloc (.cells #[.pointer none, .slice none 0 0] 109)) := hb4.alloc hb4.size _
      have hBs : B < (w4.alloc (.cells #[.pointer none, .slice none 0 0] 109)).heap.size := by simp; omega
      have hwB : w0.heap.size ≤ B := by rw [← hB]; exact hb4.size
      have hg5 := hg4.alloc (.cells #[.pointer none, .slice none 0 0] 109)
      have c0 := hg5.cell 0
      have c1 := hg5.cell 1
      have c2 := hg5.cell 2
      have c3 := hg5.cell 3
      have c4 := hg5.cell 4
      have c5 := hg5.cell 5
      have c6 := hg5.cell 6
      have c7 := hg5.cell 7
      simp [Sw.cells] at c0 c1 c2 c3 c4 c5 c6 c7
      clear hg5
      go_wp2_with fail
      obtain ⟨w6, hw6⟩ : ∃ z, w4.alloc (.cells #[.pointer none, .slice none 0 0] 109) = z := ⟨_, rfl⟩
      rw [hw6] at hbl hb5 hBs c0 c1 c2 c3 c4 c5 c6 c7 ⊢
      clear hw6 c0 c1 c2 c3 c4 c5 c6 c7 hg4 hk4 hb4 hgr hb hB
      go_loopw [44] (fun i wv => ∃ j : Nat, j ≤ 8 ∧ i = .int .i64 j ∧ BlAt B wv B ((y.l.take j).flatMap wordB) ∧ Below w0.heap.size w0 wv ∧ B < wv.heap.size) (fun i _ => 8 - (intOf i).toNat)
      case atStart => exact ⟨0, by omega, rfl, hbl, hb5, hBs⟩
      case round =>
        clear hbl hb5 hBs
        obtain ⟨j, hj, rfl, hbl, hbv, hBv⟩ := hrel
        have : j = 0 ∨ j = 1 ∨ j = 2 ∨ j = 3 ∨ j = 4 ∨ j = 5 ∨ j = 6 ∨ j = 7 ∨ j = 8 := by omega
        rcases this with rfl | rfl | rfl | rfl | rfl | rfl | rfl | rfl | rfl
        · have hix := idx8_0 y wr
          have z0 := u_lo y.a
          have z1 := u_hi y.a
          have hwc := Lib.hid (word_cells y.a)
          go_wp2_with fail
          rw [hwc.out]
          refine (bwrite_any B B wr.heap.size 4 _ (wordB y.a) (Nat.zero_lt_succ 3) _ (hbl.below ((Below.refl _ _).alloc (Nat.le_refl _) _)) (Blk.new wr _ _) (by omega) (by rw [flat_len]; simp [H8.l, wordB]) (by simp; omega)).mono ?_
          rintro e w7 ⟨rfl, hbl7, hb7⟩
          have hb8 : Below w0.heap.size w0 w7 := (hbv.alloc hbv.size _).trans ((Keep.of_below (S := fun _ => False) hb7).mono (S' := fun _ => False) hwB (fun _ _ h => h)).below
          have hl8 := hbl7.lt.2
          clear hix z0 z1 hwc
          go_wp2
          go_round
          case rel => exact ⟨1, by omega, by go_num, hbl7, hb8, hl8⟩
          case measure => simp [intOf]
        · have hix := idx8_1 y wr
          have z0 := u_lo y.b
          have z1 := u_hi y.b
          have hwc := Lib.hid (word_cells y.b)
          go_wp2_with fail
          rw [hwc.out]
          refine (bwrite_any B B wr.heap.size 4 _ (wordB y.b) (Nat.zero_lt_succ 3) _ (hbl.below ((Below.refl _ _).alloc (Nat.le_refl _) _)) (Blk.new wr _ _) (by omega) (by rw [flat_len]; simp [H8.l, wordB]) (by simp; omega)).mono ?_
          rintro e w7 ⟨rfl, hbl7, hb7⟩
          have hb8 : Below w0.heap.size w0 w7 := (hbv.alloc hbv.size _).trans ((Keep.of_below (S := fun _ => False) hb7).mono (S' := fun _ => False) hwB (fun _ _ h => h)).below
          have hl8 := hbl7.lt.2
          clear hix z0 z1 hwc
          go_wp2
          go_round
          case rel => exact ⟨2, by omega, by go_num, hbl7, hb8, hl8⟩
          case measure => simp [intOf]
        · have hix := idx8_2 y wr
          have z0 := u_lo y.c
          have z1 := u_hi y.c
          have hwc := Lib.hid (word_cells y.c)
          go_wp2_with fail
          rw [hwc.out]
          refine (bwrite_any B B wr.heap.size 4 _ (wordB y.c) (Nat.zero_lt_succ 3) _ (hbl.below ((Below.refl _ _).alloc (Nat.le_refl _) _)) (Blk.new wr _ _) (by omega) (by rw [flat_len]; simp [H8.l, wordB]) (by simp; omega)).mono ?_
          rintro e w7 ⟨rfl, hbl7, hb7⟩
          have hb8 : Below w0.heap.size w0 w7 := (hbv.alloc hbv.size _).trans ((Keep.of_below (S := fun _ => False) hb7).mono (S' := fun _ => False) hwB (fun _ _ h => h)).below
          have hl8 := hbl7.lt.2
          clear hix z0 z1 hwc
          go_wp2
          go_round
          case rel => exact ⟨3, by omega, by go_num, hbl7, hb8, hl8⟩
          case measure => simp [intOf]
        · have hix := idx8_3 y wr
          have z0 := u_lo y.d
          have z1 := u_hi y.d
          have hwc := Lib.hid (word_cells y.d)
          go_wp2_with fail
          rw [hwc.out]
          refine (bwrite_any B B wr.heap.size 4 _ (wordB y.d) (Nat.zero_lt_succ 3) _ (hbl.below ((Below.refl _ _).alloc (Nat.le_refl _) _)) (Blk.new wr _ _) (by omega) (by rw [flat_len]; simp [H8.l, wordB]) (by simp; omega)).mono ?_
          rintro e w7 ⟨rfl, hbl7, hb7⟩
          have hb8 : Below w0.heap.size w0 w7 := (hbv.alloc hbv.size _).trans ((Keep.of_below (S := fun _ => False) hb7).mono (S' := fun _ => False) hwB (fun _ _ h => h)).below
          have hl8 := hbl7.lt.2
          clear hix z0 z1 hwc
          go_wp2
          go_round
          case rel => exact ⟨4, by omega, by go_num, hbl7, hb8, hl8⟩
          case measure => simp [intOf]
        · have hix := idx8_4 y wr
          have z0 := u_lo y.e
          have z1 := u_hi y.e
          have hwc := Lib.hid (word_cells y.e)
          go_wp2_with fail
          rw [hwc.out]
          refine (bwrite_any B B wr.heap.size 4 _ (wordB y.e) (Nat.zero_lt_succ 3) _ (hbl.below ((Below.refl _ _).alloc (Nat.le_refl _) _)) (Blk.new wr _ _) (by omega) (by rw [flat_len]; simp [H8.l, wordB]) (by simp; omega)).mono ?_
          rintro e w7 ⟨rfl, hbl7, hb7⟩
          have hb8 : Below w0.heap.size w0 w7 := (hbv.alloc hbv.size _).trans ((Keep.of_below (S := fun _ => False) hb7).mono (S' := fun _ => False) hwB (fun _ _ h => h)).below
          have hl8 := hbl7.lt.2
          clear hix z0 z1 hwc
          go_wp2
          go_round
          case rel => exact ⟨5, by omega, by go_num, hbl7, hb8, hl8⟩
          case measure => simp [intOf]
        · have hix := idx8_5 y wr
          have z0 := u_lo y.f
          have z1 := u_hi y.f
          have hwc := Lib.hid (word_cells y.f)
          go_wp2_with fail
          rw [hwc.out]
          refine (bwrite_any B B wr.heap.size 4 _ (wordB y.f) (Nat.zero_lt_succ 3) _ (hbl.below ((Below.refl _ _).alloc (Nat.le_refl _) _)) (Blk.new wr _ _) (by omega) (by rw [flat_len]; simp [H8.l, wordB]) (by simp; omega)).mono ?_
          rintro e w7 ⟨rfl, hbl7, hb7⟩
          have hb8 : Below w0.heap.size w0 w7 := (hbv.alloc hbv.size _).trans ((Keep.of_below (S := fun _ => False) hb7).mono (S' := fun _ => False) hwB (fun _ _ h => h)).below
          have hl8 := hbl7.lt.2
          clear hix z0 z1 hwc
          go_wp2
          go_round
          case rel => exact ⟨6, by omega, by go_num, hbl7, hb8, hl8⟩
          case measure => simp [intOf]
        · have hix := idx8_6 y wr
          have z0 := u_lo y.g
          have z1 := u_hi y.g
          have hwc := Lib.hid (word_cells y.g)
          go_wp2_with fail
          rw [hwc.out]
          refine (bwrite_any B B wr.heap.size 4 _ (wordB y.g) (Nat.zero_lt_succ 3) _ (hbl.below ((Below.refl _ _).alloc (Nat.le_refl _) _)) (Blk.new wr _ _) (by omega) (by rw [flat_len]; simp [H8.l, wordB]) (by simp; omega)).mono ?_
          rintro e w7 ⟨rfl, hbl7, hb7⟩
          have hb8 : Below w0.heap.size w0 w7 := (hbv.alloc hbv.size _).trans ((Keep.of_below (S := fun _ => False) hb7).mono (S' := fun _ => False) hwB (fun _ _ h => h)).below
          have hl8 := hbl7.lt.2
          clear hix z0 z1 hwc
          go_wp2
          go_round
          case rel => exact ⟨7, by omega, by go_num, hbl7, hb8, hl8⟩
          case measure => simp [intOf]
        · have hix := idx8_7 y wr
          have z0 := u_lo y.h
          have z1 := u_hi y.h
          have hwc := Lib.hid (word_cells y.h)
          go_wp2_with fail
          rw [hwc.out]
          refine (bwrite_any B B wr.heap.size 4 _ (wordB y.h) (Nat.zero_lt_succ 3) _ (hbl.below ((Below.refl _ _).alloc (Nat.le_refl _) _)) (Blk.new wr _ _) (by omega) (by rw [flat_len]; simp [H8.l, wordB]) (by simp; omega)).mono ?_
          rintro e w7 ⟨rfl, hbl7, hb7⟩
          have hb8 : Below w0.heap.size w0 w7 := (hbv.alloc hbv.size _).trans ((Keep.of_below (S := fun _ => False) hb7).mono (S' := fun _ => False) hwB (fun _ _ h => h)).below
          have hl8 := hbl7.lt.2
          clear hix z0 z1 hwc
          go_wp2
          go_round
          case rel => exact ⟨8, by omega, by go_num, hbl7, hb8, hl8⟩
          case measure => simp [intOf]
        · go_wp2_with fail
          refine (bstring_any B B _ wr hbl (by omega)).mono ?_
          rintro e w7 ⟨rfl, hb7⟩
          have hb8 : Below w0.heap.size w0 w7 := hbv.trans ((Keep.of_below (S := fun _ => False) hb7).mono (S' := fun _ => False) hwB (fun _ _ h => h)).below
          go_wp2
          go_ret
          refine ⟨?_, hb0.trans ((Keep.of_below (S := fun _ => False) hb8).mono (S' := fun _ => False) hb0.size (fun _ _ h => h)).below⟩
          rw [HD0.out, HDG.out]
          rfl


theorem write_rest (d : Sw) (s : List UInt8) : (d.write s).rest.length < 64 := by
  simp only [Sw.write, List.length_drop]
  omega
theorem write_n (d : Sw) (s : List UInt8) : (d.write s).n = d.n + s.length := rfl

set_option maxHeartbeats 1000000 in
theorem write_nil (s : List UInt8) (w : World) : Calls Tryd.prog 53 #[.pointer none, .string (bstr s)] w fun e w' => e = .returned (.tuple #[]) ∧ w' = w := by
  go_enter Tryd.func53, Tryd.ntmps53
  go_wp2
  exact bodyPost_ret (v := .tuple #[]) (by simp [results, Tryd.results53, go_sem]) rfl ⟨rfl, rfl⟩

set_option maxRecDepth 100000 in
set_option maxHeartbeats 1000000 in
theorem of_any (s : List UInt8) (hs : s.length < 288230376151711744) (w : World) (hR : RootsAt w) :
    Calls Tryd.prog 25 #[.string (bstr s)] w fun e w' => e = .returned (.string (bstr (shaL s))) ∧ Below w.heap.size w w' := by
  go_enter Tryd.func25, Tryd.ntmps25
  go_wp2_with fail
  refine (new_sum _).mono ?_
  rintro e w1 ⟨g, rfl, hg, hb1, hgw⟩
  have hg0 : g ≠ 0 := by have := hR.1; omega
  go_wp2_with fail
  refine (write_sum g Sw.new s w1 (hR.below hb1 hR.1) hg hg0 (by show 0 + s.length < _; omega) (by show 0 ≤ 64; omega)).mono ?_
  rintro e w2 ⟨rfl, hg2, hk2⟩
  have hb2 : Below w.heap.size w w2 := hb1.trans (hk2.mono (S' := fun _ => False) hb1.size (fun k h1 h2 => by omega)).below
  go_wp2_with fail
  refine (sum_sum g _ w2 (hR.below hb2 hR.1) hg2 hg0 (by rw [write_n]; show 0 + s.length < _; omega) (write_rest _ _)).mono ?_
  rintro e w3 ⟨rfl, hb3⟩
  have hb4 : Below w.heap.size w w3 := hb2.trans ((Keep.of_below (S := fun _ => False) hb3).mono (S' := fun _ => False) hb2.size (fun _ _ h => h)).below
  go_wp2
  go_ret
  exact ⟨rfl, hb4⟩

end Go.Proofs.YtcamcjcmhjldpaaDoor
