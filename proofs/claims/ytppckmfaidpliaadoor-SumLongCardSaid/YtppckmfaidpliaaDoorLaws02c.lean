/- The walk of the law SumParts. -/
import Derived.Test.YtppckmfaidpliaaDoorLaws02b
import Derived.Test.YtppckmfaidpliaaDoorArg
namespace Go.Proofs.YtppckmfaidpliaaDoor
open Go.RowKit
set_option linter.unusedSimpArgs false
set_option linter.unnecessarySimpa false
set_option linter.unusedVariables false

theorem feed_app : ∀ (k m : Nat) (h : H8) (X : List UInt8), H8.feed (k + m) h X = H8.feed m (H8.feed k h X) (X.drop (64 * k))
  | 0, m, h, X => by rw [Nat.zero_add, H8.feed, Nat.mul_zero, List.drop_zero]
  | k + 1, m, h, X => by
    rw [show k + 1 + m = (k + m) + 1 by omega, H8.feed, H8.feed, feed_app k m, List.drop_drop, show 64 * (k + 1) = 64 + 64 * k by omega]
theorem feed_more : ∀ (k : Nat) (h : H8) (X Y : List UInt8), 64 * k ≤ X.length → H8.feed k h (X ++ Y) = H8.feed k h X
  | 0, h, X, Y, _ => rfl
  | k + 1, h, X, Y, hk => by
    rw [H8.feed, H8.feed, List.take_append_of_le_length (by omega), List.drop_append_of_le_length (by omega), feed_more k _ _ _ (by rw [List.length_drop]; omega)]
theorem write_write (d : Sw) (s t : List UInt8) : (d.write s).write t = d.write (s ++ t) := by
  obtain ⟨h, r, n⟩ := d
  simp only [Sw.write, ← List.append_assoc]
  obtain ⟨R, hR⟩ : ∃ R, r ++ s = R := ⟨_, rfl⟩
  rw [hR]
  obtain ⟨k, hk⟩ : ∃ k, R.length / 64 = k := ⟨_, rfl⟩
  rw [hk]
  have hkl : 64 * k ≤ R.length := by omega
  have hd : R.drop (k * 64) ++ t = (R ++ t).drop (64 * k) := by rw [List.drop_append_of_le_length hkl, Nat.mul_comm]
  rw [hd]
  obtain ⟨m, hm⟩ : ∃ m, ((R ++ t).drop (64 * k)).length / 64 = m := ⟨_, rfl⟩
  rw [hm]
  have hkm : (R ++ t).length / 64 = k + m := by
    rw [List.length_drop] at hm
    simp only [List.length_append] at hm ⊢
    omega
  rw [hkm, feed_app, feed_more k h R t hkl, List.drop_drop, show 64 * k + m * 64 = (k + m) * 64 by omega]
  simp [Nat.add_assoc]
def flatN (l : List (List UInt8)) (k : Nat) : List UInt8 := (l.take k).flatten
theorem flat_succ (l : List (List UInt8)) (k : Nat) (h : k < l.length) : flatN l (k + 1) = flatN l k ++ l[k] := by
  unfold flatN
  rw [List.take_succ_eq_append_getElem h, List.flatten_append, List.flatten_cons, List.flatten_nil, List.append_nil]
theorem new_nil : Sw.new.write [] = Sw.new := rfl

set_option maxRecDepth 100000 in
set_option maxHeartbeats 4000000 in
theorem sumParts_walk (w : World) (hR : RootsAt w) (v0 : Value) (a0 : List (List UInt8)) (h0 : SlAt w.heap.size w IsStr 1 [v0] a0) (v1 : Value) (a1 : List Bool) (h1 : SlAt w.heap.size w IsBool 1 [v1] a1) :
    Calls Tryd.prog 4 #[v0, v1] w fun e w' => e = .returned (.bool true) ∧ Below w.heap.size w w' := by
  obtain ⟨A, n, c, e0, rfl, hc, hm, hx⟩ := h0
  simp only [List.cons.injEq, and_true] at e0
  subst e0
  obtain ⟨B, n, c', e0, rfl, hc', hm', hx'⟩ := h1
  simp only [List.cons.injEq, and_true] at e0
  subst e0
  by_cases t0 : a0.length ≤ 20
  · go_enter Tryd.func4, Tryd.ntmps4
    have q0 : decide (20 < (a0.length : Int)) = false := decide_eq_false (by omega)
    go_wp2_with fail
    refine (new_sum w).mono ?_
    rintro e w1 ⟨g, rfl, hg, hb1, hgw⟩
    have hg0 : g ≠ 0 := by have := hR.1; omega
    have G0 := Lib.hid hg0
    clear hg0
    go_wp2_with fail
    go_loopw [6, 7] (fun s i wr => ∃ k : Nat, k ≤ a0.length ∧ i = .int .i64 k ∧ s = .string (bstr (flatN a0 k)) ∧ (flatN a0 k).length ≤ 200 * k ∧ Blk wr g 52 (Sw.new.write (flatN a0 k)).cells ∧ Below w.heap.size w wr) (fun _ i _ => a0.length - (intOf i).toNat)
    case atStart => exact ⟨0, by omega, rfl, rfl, by simp [flatN], by rw [show flatN a0 0 = [] from rfl, new_nil]; exact hg, hb1⟩
    case round =>
      clear hg hb1
      obtain ⟨k, hk, rfl, rfl, hF, hd, hb⟩ := hrel
      have hsz := hb.size
      by_cases hlt : k < a0.length
      · obtain ⟨ad, rfl, had, hcell⟩ := hx (by omega)
        obtain ⟨es, _, ⟨rfl, _⟩, hu⟩ := hcell k a0[k] (List.getElem?_eq_getElem hlt)
        have yw := hu 0 _ rfl
        simp only [Nat.mul_one, Nat.add_zero] at yw
        have cellW : ∀ W, Below w.heap.size w W → W.cell? (ad.add k) = some (.string (bstr a0[k])) := fun W hW => by
          rw [hW.cell (by unfold Addr.add; split <;> exact had)]; exact yw
        have CW := Lib.hid cellW
        have y0 := cellW wr hb
        clear yw cellW hu hcell
        by_cases t2 : 200 < a0[k].length
        · have q2 : decide (200 < (a0[k].length : Int)) = true := decide_eq_true (by omega)
          go_wp2_with fail
          refine (live_ok wr (hR.below hb hR.1)).mono ?_
          rintro e w2 ⟨rfl, k2⟩
          go_wp2
          go_ret
          exact ⟨rfl, hb.trans (k2.mono hsz)⟩
        · have q2 : decide (200 < (a0[k].length : Int)) = false := decide_eq_false (by omega)
          have hfs := flat_succ a0 k hlt
          have hcat : ¬ 9223372036854775807 < (flatN a0 k).length + a0[k].length := by omega
          obtain ⟨F, hFe⟩ : ∃ F, flatN a0 k = F := ⟨_, rfl⟩
          obtain ⟨F', hFe'⟩ : ∃ F', F ++ a0[k] = F' := ⟨_, rfl⟩
          rw [hFe] at hF hd hcat hfs ⊢
          rw [hFe'] at hfs
          have HFS := Lib.hid hfs
          have HFE := Lib.hid hFe'
          clear hfs hFe hFe'
          have hF' : F'.length ≤ 200 * (k + 1) := by rw [← HFE.out, List.length_append]; omega
          go_wp2_with fail
          refine (write_sum g (Sw.new.write F) a0[k] wr (hR.below hb hR.1) hd G0.out (by rw [write_n]; show 0 + F.length + _ < _; omega) (Nat.le_of_lt (write_rest _ _))).mono ?_
          rintro e w2 ⟨rfl, hd2, hk2⟩
          rw [write_write, HFE.out] at hd2
          have b2 := below_keep hb hgw hk2
          have y1 := CW.out w2 b2
          clear y0 hk2 hd
          go_upto_region 14 with fail
          rw [HFE.out]
          have hn' : (Sw.new.write F').n = F'.length := by rw [write_n]; show 0 + _ = _; omega
          by_cases t3 : k < a1.length
          · have q3 : decide ((k : Int) < (a1.length : Int)) = true := decide_eq_true (by omega)
            obtain ⟨ad', rfl, had', hcell'⟩ := hx' (by omega)
            obtain ⟨es, _, hes, hu'⟩ := hcell' k a1[k] (List.getElem?_eq_getElem t3)
            simp only [IsBool] at hes
            subst hes
            have yw := hu' 0 _ rfl
            simp only [Nat.mul_one, Nat.add_zero] at yw
            rw [← b2.cell (by unfold Addr.add; split <;> exact had')] at yw
            obtain ⟨bk, eb⟩ : ∃ b, a1[k] = b := ⟨_, rfl⟩
            rw [eb] at yw
            clear eb hu' hcell'
            cases bk
            · go_wp2
              go_round
              case rel => exact ⟨k + 1, by omega, by go_num, by rw [HFS.out], by rw [HFS.out]; exact hF', by rw [HFS.out]; exact hd2, b2⟩
              case measure => simp [intOf]; omega
            · go_wp2_with fail
              refine (sum_sum g _ w2 (hR.below b2 hR.1) hd2 G0.out (by rw [hn']; omega) (write_rest _ _)).mono ?_
              rintro e w3 ⟨rfl, hb3⟩
              have hd3 := hd2.below hb3 hd2.lt
              have b3 := below_then b2 hb3
              rw [show (Sw.new.write F').digest = shaL F' from rfl]
              go_wp2_with fail
              refine (of_any F' (by omega) w3 (hR.below b3 hR.1)).mono ?_
              rintro e w4 ⟨rfl, hb4⟩
              have hd4 := hd3.below hb4 hd3.lt
              have b4 := below_then b3 hb4
              go_wp2_with fail
              refine (len_sum g _ w4 hd4).mono ?_
              rintro e v4 ⟨rfl, hv4⟩
              rw [hv4, hn']
              clear hv4 v4
              go_wp2
              go_round
              case rel => exact ⟨k + 1, by omega, by go_num, by rw [HFS.out], by rw [HFS.out]; exact hF', by rw [HFS.out]; exact hd4, b4⟩
              case measure => simp [intOf]; omega
          · have q3 : decide ((k : Int) < (a1.length : Int)) = false := decide_eq_false (by omega)
            go_wp2
            go_round
            case rel => exact ⟨k + 1, by omega, by go_num, by rw [HFS.out], by rw [HFS.out]; exact hF', by rw [HFS.out]; exact hd2, b2⟩
            case measure => simp [intOf]; omega
      · have q2 : decide ((k : Int) < (a0.length : Int)) = false := decide_eq_false (by omega)
        obtain ⟨F, hFe⟩ : ∃ F, flatN a0 k = F := ⟨_, rfl⟩
        rw [hFe] at hF hd ⊢
        clear hFe
        have hn' : (Sw.new.write F).n = F.length := by rw [write_n]; show 0 + _ = _; omega
        go_wp2_with fail
        refine (sum_sum g _ wr (hR.below hb hR.1) hd G0.out (by rw [hn']; omega) (write_rest _ _)).mono ?_
        rintro e w3 ⟨rfl, hb3⟩
        have hd3 := hd.below hb3 hd.lt
        have b3 := below_then hb hb3
        rw [show (Sw.new.write F).digest = shaL F from rfl]
        go_wp2_with fail
        refine (of_any F (by omega) w3 (hR.below b3 hR.1)).mono ?_
        rintro e w4 ⟨rfl, hb4⟩
        have hd4 := hd3.below hb4 hd3.lt
        have b4 := below_then b3 hb4
        go_wp2_with fail
        refine (len_sum g _ w4 hd4).mono ?_
        rintro e v4 ⟨rfl, hv4⟩
        rw [hv4, hn']
        clear hv4 v4
        go_wp2_with fail
        refine (live_ok w4 (hR.below b4 hR.1)).mono ?_
        rintro e w5 ⟨rfl, hb5⟩
        have b5 := below_then b4 hb5
        go_wp2
        go_ret
        exact ⟨rfl, b5⟩
  · go_enter Tryd.func4, Tryd.ntmps4
    have q0 : decide (20 < (a0.length : Int)) = true := decide_eq_true (by omega)
    go_wp2_with fail
    refine (live_ok w hR).mono ?_
    rintro e w5 ⟨rfl, hb5⟩
    go_wp2
    go_ret
    exact ⟨rfl, hb5⟩
end Go.Proofs.YtppckmfaidpliaaDoor
