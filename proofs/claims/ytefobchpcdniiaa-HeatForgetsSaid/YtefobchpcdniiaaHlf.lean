/- The walks of HeatFades and HeatForgets. -/
import Derived.Test.YtefobchpcdniiaaHls
namespace Go.Proofs.Ytefobchpcdniiaa
open Go Go.RowKit Go.Maps
set_option linter.unusedSimpArgs false
set_option linter.unnecessarySimpa false
set_option linter.unusedVariables false

set_option maxRecDepth 100000 in
set_option maxHeartbeats 2000000 in
theorem heatFades_walk (w : World) (v0 : Value) (a0 : List D_permafrostlaw12_Op) (h0 : SlAt w.heap.size w (R_permafrostlaw12_Op w.heap.size w) 4 [v0] a0) (a1 : List UInt8) (h1 : a1.length ≤ 140737488351232) (a2 : Int) (h2 : (Lit.int .i64 a2).wf = true) :
    Calls Try.prog 4 #[v0, .string (bstr a1), .int .i64 a2] w fun e w' => e = .returned (.bool true) ∧ Below w.heap.size w w' := by
  obtain ⟨A, c, rfl⟩ := ops_form h0
  by_cases t0 : 50 < a0.length
  · have i0 : (50 : Int) < a0.length := by omega
    go_enter Try.func4, Try.ntmps4
    go_wp2_with fail
    refine (live_ok w).mono ?_
    rintro e w1 ⟨rfl, hb⟩
    go_wp2
    go_ret
    exact ⟨rfl, hb⟩
  · have i0 : ¬ (50 : Int) < a0.length := by omega
    by_cases t1 : a2 < 0
    · go_enter Try.func4, Try.ntmps4
      go_wp2_with fail
      refine (live_ok w).mono ?_
      rintro e w1 ⟨rfl, hb⟩
      go_wp2
      go_ret
      exact ⟨rfl, hb⟩
    · by_cases t2 : 1099511627776 < a2
      · go_enter Try.func4, Try.ntmps4
        go_wp2_with fail
        refine (live_ok w).mono ?_
        rintro e w1 ⟨rfl, hb⟩
        go_wp2
        go_ret
        exact ⟨rfl, hb⟩
      · have hkl : a1.length ≤ maxLen := by unfold maxLen; omega
        have hw1 : (Lit.int .i64 (a2 + 1)).wf = true := WalkArith.wf_i64 ⟨by omega, by omega⟩
        have e1 : IntKind.i64.wrap (a2 + 1) = a2 + 1 := IntWalk.i64_in _ ⟨by omega, by omega⟩
        have H0 := Lib.hid h0
        have W2 := Lib.hid h2
        have W1 := Lib.hid hw1
        clear h0 h2 hw1
        go_enter Try.func4, Try.ntmps4
        go_wp2_with fail
        refine (new_heat w).mono ?_
        rintro e w1 ⟨g, b, rfl, hh1, hb1, hgw, hbw⟩
        go_wp2_with fail
        go_loopw [8] (fun i wr => ∃ k : Nat, k ≤ a0.length ∧ i = .int .i64 k ∧ HeatAt wr g b (scrL a0 k) ∧ (scrL a0 k).length ≤ k ∧ TickLe a2 (scrL a0 k) ∧ Below w.heap.size w wr) (fun i _ => a0.length - (intOf i).toNat)
        case atStart => exact ⟨0, Nat.zero_le _, rfl, hh1, Nat.le_refl _, (by intro c hc; cases hc), hb1⟩
        case round =>
          obtain ⟨k, hk, rfl, hh, hln, htk, hb⟩ := hrel
          have hs := hb.size
          by_cases hlt : k < a0.length
          · have q1 : decide ((k : Int) < a0.length) = true := decide_eq_true (by omega)
            have T0 : (0 : Int) ≤ k := by omega
            have T1 : (k : Int) < a0.length := by omega
            obtain ⟨ad, rfl, _, _, c1, c2, _, wf2, kl2, _, _⟩ := op_cells H0.out hb k hlt
            have hsc := scrL_succ hlt
            obtain ⟨⟨od, ok, on, onn⟩, ho⟩ : ∃ o, a0[k] = o := ⟨_, rfl⟩
            rw [ho] at c1 c2 wf2 kl2 hsc
            simp only at c1 c2 wf2 kl2 hsc
            have WF2 := Lib.hid wf2
            clear wf2 ho
            by_cases n0 : on < 0
            · have q2 : decide (on < 0) = true := decide_eq_true n0
              go_wp2_with fail
              refine (live_ok wr).mono ?_
              rintro e w2 ⟨rfl, hb2⟩
              have hb2' := hthen hb hb2
              go_wp2
              go_ret
              exact ⟨rfl, hb2'⟩
            · by_cases n1 : a2 < on
              · have q2 : decide (on < 0) = false := decide_eq_false n0
                have q3 : decide (on > a2) = true := decide_eq_true n1
                go_wp2_with fail
                refine (live_ok wr).mono ?_
                rintro e w2 ⟨rfl, hb2⟩
                have hb2' := hthen hb hb2
                go_wp2
                go_ret
                exact ⟨rfl, hb2'⟩
              · have q2 : decide (on < 0) = false := decide_eq_false n0
                have q3 : decide (on > a2) = false := decide_eq_false n1
                have TCH := touch_any g b (scrL a0 k) ok on kl2 WF2.out (by omega) wr.drew (hh.below (Below.refl _ _).drew)
                have hle := touch_len (heat_nodup hh) ok on
                have htl := tick_touch htk ok (by omega : on ≤ a2)
                rw [← hsc] at TCH hle htl
                have HT := Lib.hid htl
                clear hsc htk htl
                go_wp2_with fail
                refine wp_region_tail 11 (by kernel_rfl) (by kernel_rfl) ?_
                simp only [List.take_succ_cons, List.take_zero, List.drop_succ_cons, List.drop_zero]
                repeat still_step
                refine wpStill_nil ?_
                go_wp2_with fail
                refine TCH.mono ?_
                rintro e w2 ⟨rfl, hh2, hk2⟩
                have hb2 := bkeep hb.drew hbw hs hk2
                go_wp2
                go_round
                case rel => exact ⟨k + 1, by omega, by go_num, hh2, by omega, HT.out, hb2⟩
                case measure => simp [intOf] <;> omega
          · obtain rfl : k = a0.length := by omega
            have q1 : decide ((a0.length : Int) < a0.length) = false := by simp
            obtain ⟨L, hL⟩ : ∃ y, scrL a0 a0.length = y := ⟨_, rfl⟩
            rw [hL] at hh hln htk
            have hf := val_fades (heat_ok hh) htk a1
            have ht := val_touched htk a1
            have hv := val_lo (heat_ok hh) a1 a2
            obtain ⟨V, hV⟩ : ∃ y, valL L a1 a2 = y := ⟨_, rfl⟩
            rw [hV] at hf ht hv
            have HV := Lib.hid hV
            have HF := Lib.hid hf
            have HT := Lib.hid ht
            have d1 : V.tdiv 2 = V / 2 := Int.tdiv_eq_ediv_of_nonneg hv.1
            obtain ⟨hv0, hv1⟩ := hv
            have e16 : IntKind.i64.wrap (V + 16) = V + 16 := IntWalk.i64_in _ ⟨by omega, by omega⟩
            obtain ⟨M, hM⟩ : ∃ y, min (V + 16) 1048576 = y := ⟨_, rfl⟩
            have m1 : (if V + 16 < 1048576 then V + 16 else 1048576) = M := by split <;> omega
            have m2 : (if 1048576 < V + 16 then 1048576 else V + 16) = M := by split <;> omega
            have d2 : IntKind.i64.wrap (V / 2) = V / 2 := IntWalk.i64_in _ ⟨by omega, by omega⟩
            clear hL hV hf ht htk
            go_wp2_with fail
            refine (value_any g b L a1 a2 hkl W2.out wr hh).mono ?_
            rintro e w2 ⟨rfl, hb2⟩
            rw [HV.out]
            have hh2 := hh.below hb2
            have hb2' := hthen hb hb2
            go_wp2_with fail
            refine (value_any g b L a1 (a2 + 1) hkl W1.out w2 hh2).mono ?_
            rintro e w3 ⟨rfl, hb3⟩
            rw [HF.out]
            have hh3 := hh2.below hb3
            have hb3' := hthen hb2' hb3
            have hs3 := hb3'.size
            go_wp2_with fail
            refine (touch_any g b L a1 a2 hkl W2.out (by omega) w3 hh3).mono ?_
            rintro e w4 ⟨rfl, hh4, hk4⟩
            have hb4' := bkeep hb3' hbw hs3 hk4
            go_wp2_with fail
            refine (value_any g b _ a1 a2 hkl W2.out w4 hh4).mono ?_
            rintro e w5 ⟨rfl, hb5⟩
            rw [HT.out, hM]
            have hb5' := hthen hb4' hb5
            go_wp2_with fail
            refine (live_ok w5).mono ?_
            rintro e w6 ⟨rfl, hb6⟩
            have hb6' := hthen hb5' hb6
            go_wp2
            go_ret
            exact ⟨rfl, hb6'⟩

set_option maxRecDepth 100000 in
set_option maxHeartbeats 2000000 in
theorem heatForgets_walk (w : World) (a0 : D_permafrostlaw12_Gone) (v0_0 : Value) (h0_0 : SlAt w.heap.size w (R_permafrostlaw12_Op w.heap.size w) 4 [v0_0] a0.script) (h0_1 : a0.key.length ≤ 9223372036854775807) (h0_2 : a0.other.length ≤ 9223372036854775807) (h0_3 : (Lit.int .i64 a0.now).wf = true) :
    Calls Try.prog 8 #[.agg #[v0_0, .string (bstr a0.key), .string (bstr a0.other), .int .i64 a0.now]] w fun e w' => e = .returned (.bool true) ∧ Below w.heap.size w w' := by
  obtain ⟨scr, key, other, now⟩ := a0
  simp only at h0_0 h0_1 h0_2 h0_3 ⊢
  obtain ⟨A, c, rfl⟩ := ops_form h0_0
  have hbx := Blk.new w 45 #[.slice A scr.length c, .string (bstr key), .string (bstr other), .int .i64 now]
  have b0 := hbx.cell 0
  have b1 := hbx.cell 1
  have b2 := hbx.cell 2
  have b3 := hbx.cell 3
  simp at b0 b1 b2 b3
  have hbb : Below w.heap.size w (w.alloc (.cells #[.slice A scr.length c, .string (bstr key), .string (bstr other), .int .i64 now] 45)).drew := ((Below.refl _ _).alloc (Nat.le_refl _) _).drew
  have H0 := Lib.hid h0_0
  have W3 := Lib.hid h0_3
  have hk1 : key.length ≤ maxLen := by unfold maxLen; omega
  have hk2 : other.length ≤ maxLen := by unfold maxLen; omega
  clear h0_0 h0_3 hbx
  by_cases t0 : 40 < scr.length
  · have i0 : decide ((scr.length : Int) > 40) = true := decide_eq_true (by omega)
    go_enter Try.func8, Try.ntmps8
    go_wp2_with fail
    refine wp_region_quiet (by kernel_rfl) (by kernel_rfl) ?_
    repeat still_step
    refine wpStill_nil ?_
    go_wp2_with fail
    refine (live_ok _).mono ?_
    rintro e w1 ⟨rfl, hb⟩
    have hb' := hthen hbb hb
    go_wp2
    go_ret
    exact ⟨rfl, hb'⟩
  · have i0 : decide ((scr.length : Int) > 40) = false := decide_eq_false (by omega)
    by_cases hko : key = other
    · subst hko
      have q2 : (key == key) = true := by simp
      go_enter Try.func8, Try.ntmps8
      go_wp2_with fail
      refine wp_region_quiet (by kernel_rfl) (by kernel_rfl) ?_
      repeat still_step
      refine wpStill_nil ?_
      go_wp2_with fail
      refine (live_ok _).mono ?_
      rintro e w1 ⟨rfl, hb⟩
      have hb' := hthen hbb hb
      go_wp2
      go_ret
      exact ⟨rfl, hb'⟩
    · have q2 : (key == other) = false := beq_eq_false_iff_ne.2 hko
      go_enter Try.func8, Try.ntmps8
      go_wp2_with fail
      refine wp_region_quiet (by kernel_rfl) (by kernel_rfl) ?_
      repeat still_step
      refine wpStill_nil ?_
      obtain ⟨w0, hw0⟩ : ∃ y, (w.alloc (.cells #[.slice A scr.length c, .string (bstr key), .string (bstr other), .int .i64 now] 45)).drew = y := ⟨_, rfl⟩
      rw [hw0] at hbb
      clear b0 b1 b2 b3
      go_wp2_with fail
      refine (new_heat w0).mono ?_
      rintro e w1 ⟨g, b, rfl, hh1, hb1, hgw, hbw⟩
      have hb1' := hthen hbb hb1
      have hs0 := hbb.size
      have hbw' : w.heap.size ≤ b := by omega
      clear hw0
      go_wp2_with fail
      go_loopw [8] (fun i wr => ∃ k : Nat, k ≤ scr.length ∧ i = .int .i64 k ∧ HeatAt wr g b (scrL scr k) ∧ (scrL scr k).length ≤ k ∧ Below w.heap.size w wr) (fun i _ => scr.length - (intOf i).toNat)
      case atStart => exact ⟨0, Nat.zero_le _, rfl, hh1, Nat.le_refl _, hb1'⟩
      case round =>
        obtain ⟨k, hk, rfl, hh, hln, hb⟩ := hrel
        have hs := hb.size
        by_cases hlt : k < scr.length
        · have q1 : decide ((k : Int) < scr.length) = true := decide_eq_true (by omega)
          have T0 : (0 : Int) ≤ k := by omega
          have T1 : (k : Int) < scr.length := by omega
          obtain ⟨ad, rfl, _, _, c1, c2, _, wf2, kl2, _, _⟩ := op_cells H0.out hb k hlt
          have hsc := scrL_succ hlt
          obtain ⟨⟨od, ok, on, onn⟩, ho⟩ : ∃ o, scr[k] = o := ⟨_, rfl⟩
          rw [ho] at c1 c2 wf2 kl2 hsc
          simp only at c1 c2 wf2 kl2 hsc
          have WF2 := Lib.hid wf2
          clear wf2 ho
          have TCH := touch_any g b (scrL scr k) ok on kl2 WF2.out (by omega) wr.drew (hh.below (Below.refl _ _).drew)
          have hle := touch_len (heat_nodup hh) ok on
          rw [← hsc] at TCH hle
          clear hsc
          go_wp2_with fail
          refine wp_region_tail 11 (by kernel_rfl) (by kernel_rfl) ?_
          simp only [List.take_succ_cons, List.take_zero, List.drop_succ_cons, List.drop_zero]
          repeat still_step
          refine wpStill_nil ?_
          go_wp2_with fail
          refine TCH.mono ?_
          rintro e w2 ⟨rfl, hh2, hk2⟩
          have hb2 := bkeep hb.drew hbw' hs hk2
          go_wp2
          go_round
          case rel => exact ⟨k + 1, by omega, by go_num, hh2, by omega, hb2⟩
          case measure => simp [intOf] <;> omega
        · obtain rfl : k = scr.length := by omega
          have q1 : decide ((scr.length : Int) < scr.length) = false := by simp
          obtain ⟨L, hL⟩ : ∃ y, scrL scr scr.length = y := ⟨_, rfl⟩
          rw [hL] at hh hln
          have v1 := val_without_same L key now
          have v2 := val_without_ne L (k := key) (k' := other) (fun e => hko e.symm) now
          obtain ⟨V, hV⟩ : ∃ y, valL L other now = y := ⟨_, rfl⟩
          rw [hV] at v2
          have HV := Lib.hid hV
          have V1 := Lib.hid v1
          have V2 := Lib.hid v2
          clear hL hV v1 v2
          go_wp2_with fail
          refine (value_any g b L other now hk2 W3.out wr hh).mono ?_
          rintro e w2 ⟨rfl, hb2⟩
          rw [HV.out]
          have hh2 := hh.below hb2
          have hb2' := hthen hb hb2
          have hs2 := hb2'.size
          go_wp2_with fail
          refine (forget_any g b L key hk1 w2 hh2).mono ?_
          rintro e w3 ⟨rfl, hh3, hk3⟩
          have hb3' := bkeep hb2' hbw' hs2 hk3
          go_wp2_with fail
          refine (value_any g b _ key now hk1 W3.out w3 hh3).mono ?_
          rintro e w4 ⟨rfl, hb4⟩
          rw [V1.out]
          have hh4 := hh3.below hb4
          have hb4' := hthen hb3' hb4
          go_wp2_with fail
          refine (value_any g b _ other now hk2 W3.out w4 hh4).mono ?_
          rintro e w5 ⟨rfl, hb5⟩
          rw [V2.out]
          have hb5' := hthen hb4' hb5
          go_wp2_with fail
          refine (live_ok w5).mono ?_
          rintro e w6 ⟨rfl, hb6⟩
          have hb6' := hthen hb5' hb6
          go_wp2
          go_ret
          exact ⟨rfl, hb6'⟩
end Go.Proofs.Ytefobchpcdniiaa
