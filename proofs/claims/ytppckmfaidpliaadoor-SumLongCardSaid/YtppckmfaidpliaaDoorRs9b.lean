/- The reference of package sum: root: its contract. Written by wip/gen_root.py. -/
import Derived.Test.YtppckmfaidpliaaDoorRs9
namespace Go.Proofs.YtppckmfaidpliaaDoor
open Go.RowKit
set_option linter.unusedSimpArgs false
set_option linter.unnecessarySimpa false
set_option linter.unusedVariables false

theorem natV_one (l : List Nat) : ∀ v ∈ natV l, v.oneCell' = true := by
  intro v h
  simp only [natV, List.mem_map] at h
  obtain ⟨z, _, rfl⟩ := h
  rfl
theorem row_ints (w : World) (n : Nat) (hn : n ≤ 4096) : (w.alloc (.cells (natV (List.replicate n 0)).toArray 3)).ownsRow w.heap.size 3 1 (.slice (some ⟨w.heap.size, 0, none⟩) n n) n (natV (List.replicate n 0)) := by
  have := World.ownsRow_lit (w := w) (base := w.heap.size) (e := 3) (size := 1) (natV (List.replicate n 0)).toArray n (Nat.le_refl _) (by unfold maxLen; omega) (by simp [natV])
  simpa using this
theorem goal_natV (p power : Nat) : natV (List.replicate (2 * power) 0) ++ natV (digL p 2) = natV (goalL p power) := by simp [natV, goalL]

set_option maxRecDepth 100000 in
set_option maxHeartbeats 4000000 in
theorem root2_any (p : Nat) (hp : p ≤ 1000) (w : World) :
    Calls Tryd.prog 19 #[.int .i64 p, .int .i64 2] w fun e w' => e = .returned (.int .i64 (rootN p 2 41 % 4294967296 : Nat)) ∧ Below w.heap.size w w' := by
  have hmk : (Instr.makeSlice 36 (.int .i64 4) (.int .i64 4)).run Tryd.prog w = .ok (.slice (some ⟨w.heap.size, 0, none⟩) 4 4) (w.alloc (.cells (natV (List.replicate 4 0)).toArray 3)) := run_make_ints 4 (by omega) w
  have hr0 := row_ints w 4 (by omega)
  obtain ⟨w0, hw0⟩ : ∃ x, w.alloc (.cells (natV (List.replicate 4 0)).toArray 3) = x := ⟨_, rfl⟩
  have hb0 : Below w.heap.size w w0 := by rw [← hw0]; exact (Below.refl _ _).alloc (Nat.le_refl _) _
  rw [hw0] at hmk hr0
  go_enter Tryd.func19, Tryd.ntmps19
  go_wp2_with fail
  refine (digits_any p 2 (by omega) (by omega) _).mono ?_
  rintro e w1 ⟨v, rfl, hown, hb1⟩
  have hr1 := row_below hr0 hb1
  have hb1' := bthen hb0 hb1
  have hs1 := hb1'.size
  obtain ⟨A, c, rfl, hrd⟩ := own_read hown
  obtain ⟨ad, rfl, _⟩ := hrd 0 (by omega)
  obtain ⟨i0, hi0, hz0, hz1, hz2⟩ := info_parts int_info
  go_wp2_with (at_builtin; refine wpList_append_own (P := Tryd.prog) _ rfl _ _ 36 rfl w.heap.size 3 i0 (.int .i64 0) 1 8 Tryd.underlying36 hi0 hz0 hz1 hz2 rfl (by decide) _ 4 _ rfl hr1 ad 2 c (natV (digL p 2)) rfl ?c0 ?c1 (natV_one _) (by unfold maxLen; omega) (by omega) hs1 ?_)
  case c0 => simp [natV, digL_len]
  case c1 =>
    intro j u hj
    have hj2 : j < 2 := by
      have : j < (natV (digL p 2)).length := by
        rw [List.getElem?_eq_some_iff] at hj
        exact hj.1
      simpa [natV, digL_len] using this
    obtain ⟨ad', h1, h2⟩ := hrd j hj2
    cases h1
    rw [h2, ← hj]
    simp [natV, List.getD, digL_len, hj2]
  intro G w2 hown2 hgr2 _
  replace hown2 : w2.ownsRow w.heap.size 3 1 G 6 (natV (goalL p 2)) := by rw [← goal_natV]; exact hown2
  have hgl : (goalL p 2).length = 6 := by simp [goalL, digL_len]
  have hb2 : Below w.heap.size w w2 := by
    refine hb1'.grown hgr2 hs1 ?_
    intro k hk
    exact (hr1.lt k hk).1
  have hN := nums_own hown2 (by omega)
  have HN := Lib.hid hN
  clear hN hown2 hgr2 hr1 hr0 hrd hown hmk hw0
  go_wp2_with fail
  go_loopw [6, 7] (fun x bit wr => ∃ s : Nat, ∃ z : Int, s ≤ 41 ∧ z = 40 - s ∧ bit = .int .i64 z ∧ x = .int .i64 (rootN p 2 s : Nat) ∧ Below w2.heap.size w2 wr) (fun _ bit _ => (intOf bit + 1).toNat)
  case atStart => exact ⟨0, 40, by omega, by omega, rfl, rfl, Below.refl _ _⟩
  case round =>
    obtain ⟨s, z, hs, hz, rfl, rfl, hbl⟩ := hrel
    have hlt := rootN_lt p 2 s hs
    obtain ⟨x, hx⟩ : ∃ x, rootN p 2 s = x := ⟨_, rfl⟩
    by_cases hl : s < 41
    · obtain ⟨b, hb⟩ : ∃ b, 40 - s = b := ⟨_, rfl⟩
      obtain rfl : z = (b : Int) := by omega
      have hnx : rootN p 2 (s + 1) = rootStep p 2 x b := by rw [rootN, hx, hb]
      rw [hx] at hlt ⊢
      have HNX := Lib.hid hnx
      have hxl : x ≤ 2199023255552 := Nat.le_trans hlt (Nat.le_trans (Nat.sub_le _ _) (by decide))
      have hp41 : 2 ^ b ≤ 1099511627776 := Nat.pow_le_pow_right (n := 2) (j := 40) (by decide) (by omega)
      have hpz : (2 : Int) ^ b = ((2 ^ b : Nat) : Int) := by rw [Int.natCast_pow]; rfl
      obtain ⟨y, hy⟩ : ∃ y, x + 2 ^ b = y := ⟨_, rfl⟩
      have hy2 := hy
      obtain ⟨pw, hpw⟩ : ∃ pw : Nat, 2 ^ b = pw := ⟨_, rfl⟩
      rw [hpw] at hp41 hpz hy2
      have hyl : y ≤ 3298534883328 := by omega
      have hmin : min b 64 = b := by omega
      have e1 : IntKind.i64.wrap ((2 : Int) ^ b) = (pw : Int) := by rw [hpz]; exact IntWalk.i64_in _ ⟨by omega, by omega⟩
      have e2 : IntKind.i64.wrap ((x : Int) + pw) = (y : Int) := by rw [IntWalk.i64_in _ ⟨by omega, by omega⟩]; omega
      have e3 : (b : Int) % 18446744073709551616 = b := by omega
      have e4 : decide ((b : Int) ≥ 0) = true := decide_eq_true (by omega)
      have e5 : (0 : Int) ≤ b := by omega
      have e6 : ((b : Int)).toNat = b := by omega
      have hst : rootStep p 2 x b = if aboveN (rootP 2 y) (goalL p 2) (max (rootP 2 y).length (goalL p 2).length) then x else y := by rw [rootStep, hy]
      have HST := Lib.hid hst
      have hz3 : (b : Int) - 1 = 40 - ((s + 1 : Nat) : Int) := by omega
      have HZ := Lib.hid hz3
      clear hz3 hz hnx hx hst hpz hlt hp41 hpw hy hy2 hb
      go_wp2_with fail
      refine (digits_any y 3 (by omega) (by omega) _).mono ?_
      rintro e w3 ⟨vd, rfl, hod, hb3⟩
      have hdl := digL_len y 3
      have hdd := digL_dig y 3
      obtain ⟨D, hD⟩ : ∃ D, digL y 3 = D := ⟨_, rfl⟩
      rw [hD] at hod hdl hdd
      have hND := nums_own hod (by omega)
      have hbl3 := bthen hbl hb3
      clear hod
      go_wp2_with fail
      refine (times_any D D vd vd (by omega) (by omega) (by omega) (by omega) hdd hdd w3 hND hND).mono ?_
      rintro e w4 ⟨rfl, hk4, hb4⟩
      have hbl4 := bthen hbl3 hb4
      have htl : (timesL D D).length = 6 := by rw [timesL_len, hdl]
      have htd := timesL_dig hdd hdd
      have hRP2 : timesL (digL y 3) (digL y 3) = timesL D D := by rw [hD]
      obtain ⟨T, hT⟩ : ∃ T, timesL D D = T := ⟨_, rfl⟩
      rw [hT] at htl htd hk4 hRP2
      have hNT : NumsAt w4 (.slice (some ⟨w3.heap.size, 0, none⟩) 6 6) T := nums_blk hk4 htl
      have hRP : rootP 2 y = T := by rw [rootP, if_neg (by decide), hRP2]
      have hg := HN.out.all hbl4
      have HRP := Lib.hid hRP
      clear hRP hRP2 hD hT hdd htd hbl hbl3
      go_wp2_with fail
      refine (above_any T (goalL p 2) _ _ (by omega) (by omega) _ hNT hg).mono ?_
      rintro e w9 ⟨rfl, rfl⟩
      obtain ⟨ab, hab⟩ : ∃ ab, aboveN T (goalL p 2) (max T.length (goalL p 2).length) = ab := ⟨_, rfl⟩
      have hfin : rootN p 2 (s + 1) = if ab then x else y := by rw [HNX.out, HST.out, HRP.out, hab]
      have HF := Lib.hid hfin
      rw [hab]
      clear hfin hab hg hNT hk4 hND
      cases ab
      · go_wp2
        go_round
        case rel => exact ⟨s + 1, (b : Int) - 1, by omega, HZ.out, by go_num, by rw [HF.out]; rfl, hbl4⟩
        case measure => simp [intOf] <;> omega
      · go_wp2
        go_round
        case rel => exact ⟨s + 1, (b : Int) - 1, by omega, HZ.out, by go_num, by rw [HF.out]; rfl, hbl4⟩
        case measure => simp [intOf] <;> omega
    · obtain rfl : s = 41 := by omega
      obtain rfl : z = -1 := by omega
      rw [hx]
      have hm : ((x : Int)).tmod 4294967296 = ((x % 4294967296 : Nat) : Int) := by rw [Int.tmod_eq_emod_of_nonneg (by omega)]; omega
      have hfb := bthen hb2 hbl
      have HX := Lib.hid hx
      clear hx hlt
      go_wp2
      go_ret
      exact ⟨by rw [HX.out, Int.natCast_emod]; rfl, hfb⟩

set_option maxRecDepth 100000 in
set_option maxHeartbeats 4000000 in
theorem root3_any (p : Nat) (hp : p ≤ 1000) (w : World) :
    Calls Tryd.prog 19 #[.int .i64 p, .int .i64 3] w fun e w' => e = .returned (.int .i64 (rootN p 3 41 % 4294967296 : Nat)) ∧ Below w.heap.size w w' := by
  have hmk : (Instr.makeSlice 36 (.int .i64 6) (.int .i64 6)).run Tryd.prog w = .ok (.slice (some ⟨w.heap.size, 0, none⟩) 6 6) (w.alloc (.cells (natV (List.replicate 6 0)).toArray 3)) := run_make_ints 6 (by omega) w
  have hr0 := row_ints w 6 (by omega)
  obtain ⟨w0, hw0⟩ : ∃ x, w.alloc (.cells (natV (List.replicate 6 0)).toArray 3) = x := ⟨_, rfl⟩
  have hb0 : Below w.heap.size w w0 := by rw [← hw0]; exact (Below.refl _ _).alloc (Nat.le_refl _) _
  rw [hw0] at hmk hr0
  go_enter Tryd.func19, Tryd.ntmps19
  go_wp2_with fail
  refine (digits_any p 2 (by omega) (by omega) _).mono ?_
  rintro e w1 ⟨v, rfl, hown, hb1⟩
  have hr1 := row_below hr0 hb1
  have hb1' := bthen hb0 hb1
  have hs1 := hb1'.size
  obtain ⟨A, c, rfl, hrd⟩ := own_read hown
  obtain ⟨ad, rfl, _⟩ := hrd 0 (by omega)
  obtain ⟨i0, hi0, hz0, hz1, hz2⟩ := info_parts int_info
  go_wp2_with (at_builtin; refine wpList_append_own (P := Tryd.prog) _ rfl _ _ 36 rfl w.heap.size 3 i0 (.int .i64 0) 1 8 Tryd.underlying36 hi0 hz0 hz1 hz2 rfl (by decide) _ 6 _ rfl hr1 ad 2 c (natV (digL p 2)) rfl ?c0 ?c1 (natV_one _) (by unfold maxLen; omega) (by omega) hs1 ?_)
  case c0 => simp [natV, digL_len]
  case c1 =>
    intro j u hj
    have hj2 : j < 2 := by
      have : j < (natV (digL p 2)).length := by
        rw [List.getElem?_eq_some_iff] at hj
        exact hj.1
      simpa [natV, digL_len] using this
    obtain ⟨ad', h1, h2⟩ := hrd j hj2
    cases h1
    rw [h2, ← hj]
    simp [natV, List.getD, digL_len, hj2]
  intro G w2 hown2 hgr2 _
  replace hown2 : w2.ownsRow w.heap.size 3 1 G 8 (natV (goalL p 3)) := by rw [← goal_natV]; exact hown2
  have hgl : (goalL p 3).length = 8 := by simp [goalL, digL_len]
  have hb2 : Below w.heap.size w w2 := by
    refine hb1'.grown hgr2 hs1 ?_
    intro k hk
    exact (hr1.lt k hk).1
  have hN := nums_own hown2 (by omega)
  have HN := Lib.hid hN
  clear hN hown2 hgr2 hr1 hr0 hrd hown hmk hw0
  go_wp2_with fail
  go_loopw [6, 7] (fun x bit wr => ∃ s : Nat, ∃ z : Int, s ≤ 41 ∧ z = 40 - s ∧ bit = .int .i64 z ∧ x = .int .i64 (rootN p 3 s : Nat) ∧ Below w2.heap.size w2 wr) (fun _ bit _ => (intOf bit + 1).toNat)
  case atStart => exact ⟨0, 40, by omega, by omega, rfl, rfl, Below.refl _ _⟩
  case round =>
    obtain ⟨s, z, hs, hz, rfl, rfl, hbl⟩ := hrel
    have hlt := rootN_lt p 3 s hs
    obtain ⟨x, hx⟩ : ∃ x, rootN p 3 s = x := ⟨_, rfl⟩
    by_cases hl : s < 41
    · obtain ⟨b, hb⟩ : ∃ b, 40 - s = b := ⟨_, rfl⟩
      obtain rfl : z = (b : Int) := by omega
      have hnx : rootN p 3 (s + 1) = rootStep p 3 x b := by rw [rootN, hx, hb]
      rw [hx] at hlt ⊢
      have HNX := Lib.hid hnx
      have hxl : x ≤ 2199023255552 := Nat.le_trans hlt (Nat.le_trans (Nat.sub_le _ _) (by decide))
      have hp41 : 2 ^ b ≤ 1099511627776 := Nat.pow_le_pow_right (n := 2) (j := 40) (by decide) (by omega)
      have hpz : (2 : Int) ^ b = ((2 ^ b : Nat) : Int) := by rw [Int.natCast_pow]; rfl
      obtain ⟨y, hy⟩ : ∃ y, x + 2 ^ b = y := ⟨_, rfl⟩
      have hy2 := hy
      obtain ⟨pw, hpw⟩ : ∃ pw : Nat, 2 ^ b = pw := ⟨_, rfl⟩
      rw [hpw] at hp41 hpz hy2
      have hyl : y ≤ 3298534883328 := by omega
      have hmin : min b 64 = b := by omega
      have e1 : IntKind.i64.wrap ((2 : Int) ^ b) = (pw : Int) := by rw [hpz]; exact IntWalk.i64_in _ ⟨by omega, by omega⟩
      have e2 : IntKind.i64.wrap ((x : Int) + pw) = (y : Int) := by rw [IntWalk.i64_in _ ⟨by omega, by omega⟩]; omega
      have e3 : (b : Int) % 18446744073709551616 = b := by omega
      have e4 : decide ((b : Int) ≥ 0) = true := decide_eq_true (by omega)
      have e5 : (0 : Int) ≤ b := by omega
      have e6 : ((b : Int)).toNat = b := by omega
      have hst : rootStep p 3 x b = if aboveN (rootP 3 y) (goalL p 3) (max (rootP 3 y).length (goalL p 3).length) then x else y := by rw [rootStep, hy]
      have HST := Lib.hid hst
      have hz3 : (b : Int) - 1 = 40 - ((s + 1 : Nat) : Int) := by omega
      have HZ := Lib.hid hz3
      clear hz3 hz hnx hx hst hpz hlt hp41 hpw hy hy2 hb
      go_wp2_with fail
      refine (digits_any y 3 (by omega) (by omega) _).mono ?_
      rintro e w3 ⟨vd, rfl, hod, hb3⟩
      have hdl := digL_len y 3
      have hdd := digL_dig y 3
      obtain ⟨D, hD⟩ : ∃ D, digL y 3 = D := ⟨_, rfl⟩
      rw [hD] at hod hdl hdd
      have hND := nums_own hod (by omega)
      have hbl3 := bthen hbl hb3
      clear hod
      go_wp2_with fail
      refine (times_any D D vd vd (by omega) (by omega) (by omega) (by omega) hdd hdd w3 hND hND).mono ?_
      rintro e w4 ⟨rfl, hk4, hb4⟩
      have hbl4 := bthen hbl3 hb4
      have htl : (timesL D D).length = 6 := by rw [timesL_len, hdl]
      have htd := timesL_dig hdd hdd
      have hRP2 : timesL (digL y 3) (digL y 3) = timesL D D := by rw [hD]
      obtain ⟨T, hT⟩ : ∃ T, timesL D D = T := ⟨_, rfl⟩
      rw [hT] at htl htd hk4 hRP2
      have hN4 : NumsAt w4 (.slice (some ⟨w3.heap.size, 0, none⟩) 6 6) T := nums_blk hk4 htl
      have hND4 := hND.all hb4
      go_wp2_with fail
      refine (times_any T D _ vd (by omega) (by omega) (by omega) (by omega) htd hdd w4 hN4 hND4).mono ?_
      rintro e w5 ⟨rfl, hk5, hb5⟩
      have hbl45 := bthen hbl4 hb5
      have htl5 : (timesL T D).length = 9 := by rw [timesL_len, hdl, htl]
      have hRP : rootP 3 y = timesL T D := by rw [rootP, if_pos rfl, hRP2, hD]
      obtain ⟨U, hU⟩ : ∃ U, timesL T D = U := ⟨_, rfl⟩
      rw [hU] at htl5 hk5 hRP
      have hNT : NumsAt w5 (.slice (some ⟨w4.heap.size, 0, none⟩) 9 9) U := nums_blk hk5 htl5
      have hg := HN.out.all hbl45
      have HRP := Lib.hid hRP
      clear hRP hRP2 hD hT hdd htd hbl hbl3
      go_wp2_with fail
      refine (above_any U (goalL p 3) _ _ (by omega) (by omega) _ hNT hg).mono ?_
      rintro e w9 ⟨rfl, rfl⟩
      obtain ⟨ab, hab⟩ : ∃ ab, aboveN U (goalL p 3) (max U.length (goalL p 3).length) = ab := ⟨_, rfl⟩
      have hfin : rootN p 3 (s + 1) = if ab then x else y := by rw [HNX.out, HST.out, HRP.out, hab]
      have HF := Lib.hid hfin
      rw [hab]
      clear hfin hab hg hNT hk4 hND
      cases ab
      · go_wp2
        go_round
        case rel => exact ⟨s + 1, (b : Int) - 1, by omega, HZ.out, by go_num, by rw [HF.out]; rfl, hbl45⟩
        case measure => simp [intOf] <;> omega
      · go_wp2
        go_round
        case rel => exact ⟨s + 1, (b : Int) - 1, by omega, HZ.out, by go_num, by rw [HF.out]; rfl, hbl45⟩
        case measure => simp [intOf] <;> omega
    · obtain rfl : s = 41 := by omega
      obtain rfl : z = -1 := by omega
      rw [hx]
      have hm : ((x : Int)).tmod 4294967296 = ((x % 4294967296 : Nat) : Int) := by rw [Int.tmod_eq_emod_of_nonneg (by omega)]; omega
      have hfb := bthen hb2 hbl
      have HX := Lib.hid hx
      clear hx hlt
      go_wp2
      go_ret
      exact ⟨by rw [HX.out, Int.natCast_emod]; rfl, hfb⟩
end Go.Proofs.YtppckmfaidpliaaDoor
