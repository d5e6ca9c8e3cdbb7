/- The walk of HeatOrder. -/
import Derived.Test.YtefobchpcdniiaaHor
namespace Go.Proofs.Ytefobchpcdniiaa
open Go Go.RowKit Go.Maps
set_option linter.unusedSimpArgs false
set_option linter.unnecessarySimpa false
set_option linter.unusedVariables false

set_option maxRecDepth 100000 in
set_option maxHeartbeats 2000000 in
theorem heatOrder_walk (w : World) (v0 : Value) (a0 : List (List UInt8)) (h0 : SlAt w.heap.size w IsStr 1 [v0] a0) (a1 : Int) (h1 : (Lit.int .i64 a1).wf = true) (a2 : Int) (h2 : (Lit.int .i64 a2).wf = true) :
    Calls Try.prog 7 #[v0, .int .i64 a1, .int .i64 a2] w fun e w' => e = .returned (.bool true) ∧ Below w.heap.size w w' := by
  obtain ⟨A, c, rfl⟩ := strs_form h0
  by_cases t0 : 40 < a0.length
  · have i0 : decide ((a0.length : Int) > 40) = true := decide_eq_true (by omega)
    go_enter Try.func7, Try.ntmps7
    go_wp2_with fail
    refine (live_ok w).mono ?_
    rintro e w1 ⟨rfl, hb⟩
    go_wp2
    go_ret
    exact ⟨rfl, hb⟩
  · have i0 : decide ((a0.length : Int) > 40) = false := decide_eq_false (by omega)
    by_cases t1 : a0.length = 0
    · have i1 : ((a0.length : Int) == 0) = true := by simp [t1]
      go_enter Try.func7, Try.ntmps7
      go_wp2_with fail
      refine (live_ok w).mono ?_
      rintro e w1 ⟨rfl, hb⟩
      go_wp2
      go_ret
      exact ⟨rfl, hb⟩
    · have i1 : ((a0.length : Int) == 0) = false := beq_eq_false_iff_ne.2 (by omega)
      by_cases t2 : a1 < 0
      · go_enter Try.func7, Try.ntmps7
        go_wp2_with fail
        refine (live_ok w).mono ?_
        rintro e w1 ⟨rfl, hb⟩
        go_wp2
        go_ret
        exact ⟨rfl, hb⟩
      · obtain ⟨T, rfl⟩ : ∃ T : Nat, a1 = T := ⟨a1.toNat, by omega⟩
        obtain ⟨n, hn⟩ : ∃ n, a0.length = n := ⟨_, rfl⟩
        have hT := bounds_i64 h1
        obtain ⟨r, hr⟩ : ∃ r, T % n = r := ⟨_, rfl⟩
        have hrn : r < n := by rw [← hr]; exact Nat.mod_lt _ (by omega)
        have er1 : (T : Int) % n = r := by rw [← hr]; simp
        have er2 : (T : Int).tmod n = r := by rw [Int.tmod_eq_emod_of_nonneg (by omega)]; exact er1
        have hn0 : (n : Int) ≠ 0 := by omega
        have H0 := Lib.hid h0
        have W2 := Lib.hid h2
        have HN := Lib.hid hn
        rw [hn] at i0 i1 t0 t1 ⊢
        clear h0 h1 h2 hn hr
        go_enter Try.func7, Try.ntmps7
        go_wp2_with fail
        refine (new_heat w).mono ?_
        rintro e w1 ⟨g, b, rfl, hh1, hb1, hgw, hbw⟩
        go_wp2_with fail
        refine (new_heat w1).mono ?_
        rintro e w2 ⟨g', b', rfl, hh2, hb2, hgw', hbw'⟩
        have hhA := hh1.below hb2
        have hb2' := hthen hb1 hb2
        have hs1 := hb1.size
        have hlt1 := hh1.lt
        have ngb : g ≠ b' := by omega
        have nbb : b ≠ b' := by omega
        have ngb' : g' ≠ b := by omega
        have hbw2 : w.heap.size ≤ b' := by omega
        clear hh1 hb1 hb2
        go_wp2_with fail
        go_loopw [9] (fun i wr => ∃ k : Nat, k ≤ n ∧ i = .int .i64 k ∧ HeatAt wr g b (allL a2 (a0.take k)) ∧ HeatAt wr g' b' (allL a2 ((rotL a0 r).take k)) ∧ (allL a2 (a0.take k)).length ≤ k ∧ (allL a2 ((rotL a0 r).take k)).length ≤ k ∧ Below w.heap.size w wr) (fun i _ => n - (intOf i).toNat)
        case atStart => exact ⟨0, Nat.zero_le _, rfl, hhA, hh2, Nat.le_refl _, Nat.le_refl _, hb2'⟩
        case round =>
          obtain ⟨k, hk, rfl, hA, hB, hla, hlb, hb⟩ := hrel
          have hs := hb.size
          by_cases hlt : k < n
          · have hlt' : k < a0.length := by rw [HN.out]; exact hlt
            have q1 : decide ((k : Int) < n) = true := decide_eq_true (by omega)
            have T0 : (0 : Int) ≤ k := by omega
            have T1 : (k : Int) < n := by omega
            obtain ⟨ad, rfl, c1, kl1⟩ := str_cells H0.out hb k hlt'
            obtain ⟨q, hq⟩ : ∃ q, (k + r) % n = q := ⟨_, rfl⟩
            have hqn : q < n := by rw [← hq]; exact Nat.mod_lt _ (by omega)
            have hqn' : q < a0.length := by rw [HN.out]; exact hqn
            have e1 : IntKind.i64.wrap ((k : Int) + r) = k + r := IntWalk.i64_in _ ⟨by omega, by omega⟩
            have e2 : ((k : Int) + r) % n = q := by rw [← hq]; simp
            have e3 : ((k : Int) + r).tmod n = q := by rw [Int.tmod_eq_emod_of_nonneg (by omega)]; exact e2
            have T2 : (0 : Int) ≤ q := by omega
            have T3 : (q : Int) < n := by omega
            have hsa : allL a2 (a0.take (k + 1)) = touchL (allL a2 (a0.take k)) a0[k] a2 := by rw [List.take_succ_eq_append_getElem hlt', allL_snoc]
            have hsb : allL a2 ((rotL a0 r).take (k + 1)) = touchL (allL a2 ((rotL a0 r).take k)) a0[q] a2 := by
              have hrl : (rotL a0 r).length = a0.length := (rot_perm a0 r).length_eq.symm
              have hg := rot_get a0 r k (by rw [HN.out]; exact hrn) hlt'
              rw [List.getElem?_eq_getElem (by rw [hrl]; exact hlt')] at hg
              have hg2 := Option.some.inj hg
              rw [List.take_succ_eq_append_getElem (by rw [hrl]; exact hlt'), allL_snoc, hg2]
              simp only [HN.out, hq]
            obtain ⟨X, hX⟩ : ∃ y, a0[k] = y := ⟨_, rfl⟩
            rw [hX] at c1 kl1 hsa
            by_cases hx : 100 < X.length
            · have q2 : decide ((X.length : Int) > 100) = true := decide_eq_true (by omega)
              go_wp2_with fail
              refine (live_ok wr).mono ?_
              rintro e w3 ⟨rfl, hb3⟩
              have hb3' := hthen hb hb3
              go_wp2
              go_ret
              exact ⟨rfl, hb3'⟩
            · have q2 : decide ((X.length : Int) > 100) = false := decide_eq_false (by omega)
              have TA := touch_any g b _ X a2 kl1 W2.out (by omega) wr hA
              have la := touch_len (heat_nodup hA) X a2
              rw [← hsa] at TA la
              have HSB := Lib.hid hsb
              clear hsa hsb hX
              go_wp2_with fail
              refine TA.mono ?_
              rintro e w3 ⟨rfl, hA3, hk3⟩
              have hB3 := hB.keep hk3 ngb' (fun e => nbb e.symm)
              have hb3 := bkeep hb hbw hs hk3
              have hs3 := hb3.size
              obtain ⟨ad', had', c2, kl2⟩ := str_cells H0.out hb3 q hqn'
              cases had'
              have lb := touch_len (heat_nodup hB) a0[q] a2
              have TB := touch_any g' b' _ a0[q] a2 kl2 W2.out (by omega) w3 hB3
              rw [← HSB.out] at TB lb
              obtain ⟨Y, hY⟩ : ∃ y, a0[q] = y := ⟨_, rfl⟩
              rw [hY] at c2 kl2 TB
              clear hY hB TA
              go_wp2_with fail
              refine TB.mono ?_
              rintro e w4 ⟨rfl, hB4, hk4⟩
              have hA4 := hA3.keep hk4 ngb nbb
              have hb4 := bkeep hb3 hbw2 hs3 hk4
              go_wp2
              go_round
              case rel => exact ⟨k + 1, by omega, by go_num, hA4, hB4, by omega, by omega, hb4⟩
              case measure => simp [intOf] <;> omega
          · obtain rfl : k = n := by omega
            have q1 : decide ((k : Int) < k) = false := by simp
            have hrl : (rotL a0 r).length = a0.length := (rot_perm a0 r).length_eq.symm
            rw [List.take_of_length_le (by rw [HN.out]; exact Nat.le_refl _)] at hA hla
            rw [List.take_of_length_le (by rw [hrl, HN.out]; exact Nat.le_refl _)] at hB hlb
            have hp := all_perm a2 (rot_perm a0 r) (by rw [HN.out]; omega)
            have hhot := hot_perm hp a2 100
            have hlen := hp.length_eq
            obtain ⟨LA, hLA⟩ : ∃ y, allL a2 a0 = y := ⟨_, rfl⟩
            obtain ⟨LB, hLB⟩ : ∃ y, allL a2 (rotL a0 r) = y := ⟨_, rfl⟩
            rw [hLA] at hA hla hhot hlen
            rw [hLB] at hB hlb hhot hlen
            clear hp hLA hLB
            have hhl : (hotL LB a2 100).length ≤ 1000000 := by
              unfold hotL
              rw [List.length_map, List.length_take]
              have : (100 : Int).toNat = 100 := rfl
              omega
            go_wp2_with fail
            refine (hot_any g b LA a2 100 W2.out (by omega) wr hA).mono ?_
            rintro e w3 ⟨x, rfl, hx3, hb3⟩
            rw [hhot] at hx3
            have hA3 := hA.below hb3
            have hB3 := hB.below hb3
            have hb3' := hthen hb hb3
            go_wp2_with fail
            refine (hot_any g' b' LB a2 100 W2.out (by omega) w3 hB3).mono ?_
            rintro e w4 ⟨y, rfl, hy4, hb4⟩
            have hx4 := row_below hx3 hb4
            have hA4 := hA3.below hb4
            have hB4 := hB3.below hb4
            have hb4' := hthen hb3' hb4
            go_wp2_with fail
            refine (same_any _ _ x y hhl hhl w4 (ss_own hx4) (ss_own hy4)).mono ?_
            rintro e w5 ⟨rfl, hb5⟩
            have hA5 := hA4.below hb5
            have hB5 := hB4.below hb5
            have hb5' := hthen hb4' hb5
            rw [decide_eq_true rfl]
            go_wp2_with fail
            refine (len_any g b LA w5 hA5).mono ?_
            rintro e w6 ⟨rfl, hb6⟩
            have hB6 := hB5.below hb6
            have hb6' := hthen hb5' hb6
            rw [hlen]
            go_wp2_with fail
            refine (len_any g' b' LB w6 hB6).mono ?_
            rintro e w7 ⟨rfl, hb7⟩
            have hb7' := hthen hb6' hb7
            go_wp2_with fail
            refine (live_ok w7).mono ?_
            rintro e w8 ⟨rfl, hb8⟩
            have hb8' := hthen hb7' hb8
            go_wp2
            go_ret
            exact ⟨rfl, hb8'⟩
end Go.Proofs.Ytefobchpcdniiaa
