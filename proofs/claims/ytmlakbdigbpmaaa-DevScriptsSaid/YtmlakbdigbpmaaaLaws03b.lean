/- The walk of the law DevOrder: it returns true at every input, and writes to nothing that was there. No condition but that numbers fit their kind. -/
import Derived.Test.YtmlakbdigbpmaaaLaws03
import Derived.Test.YtmlakbdigbpmaaaTy
namespace Go.Proofs.Ytmlakbdigbpmaaa
open Go.RowKit
set_option linter.unusedSimpArgs false
set_option linter.unnecessarySimpa false
set_option linter.unusedVariables false

/-! DevOrder -/
def ordD (l : List (List UInt8)) (k : Nat) : Dv := { Dv.new 5 5 with ws := (l.take k).map fun s => ⟨⟨0, 2⟩, s⟩ }
/-- the last one of the first n that is kept -/
def wantN (kf : Nat → Bool) (l : List (List UInt8)) : Nat → List UInt8
  | 0 => []
  | n + 1 => if kf n then (l[n]?).getD [] else wantN kf l n
theorem ordD_write (l : List (List UInt8)) (k : Nat) (hk : k < l.length) (hs : l[k].length ≤ 1024) : mayE (ordD l k) ⟨0, 2⟩ l[k] = 0 ∧ (ordD l k).write ⟨0, 2⟩ l[k] = ordD l (k + 1) := by
  have e : mayE (ordD l k) ⟨0, 2⟩ l[k] = 0 := by
    have : ¬ 1024 < l[k].length := by omega
    simp [mayE, ordD, isB, Dv.sec, Dv.gone, Dv.new, this]
  refine ⟨e, ?_⟩
  unfold Dv.write
  rw [if_pos e]
  unfold ordD
  rw [List.take_succ_eq_append_getElem hk, List.map_append]
  rfl
theorem ord_settle (kf : Nat → Bool) (l : List (List UInt8)) : ∀ n, n ≤ l.length → ((ordD l l.length).settle kf n).s0.length = 5 ∧ ((ordD l l.length).settle kf n).s0.getD 2 [] = wantN kf l n ∧ ((ordD l l.length).settle kf n).l0 = false
  | 0, _ => ⟨rfl, rfl, rfl⟩
  | n + 1, h => by
    obtain ⟨h1, h2, h3⟩ := ord_settle kf l n (by omega)
    have hn : n < l.length := by omega
    have e : (ordD l l.length).ws[n]? = some (⟨⟨0, 2⟩, l[n]⟩ : Wr) := by simp [ordD, hn]
    unfold Dv.settle wantN
    cases kf n
    · exact ⟨h1, h2, h3⟩
    · simp only [if_true, e]
      unfold Dv.put
      simp only [if_true]
      refine ⟨by rw [List.length_set]; exact h1, ?_, h3⟩
      simp [h1, hn]
theorem ord_read (kl : List Bool) (l : List (List UInt8)) : ((ordD l l.length).crash kl).read ⟨0, 2⟩ = (wantN (kpB kl) l l.length, 0) := by
  obtain ⟨h1, h2, h3⟩ := ord_settle (kpB kl) l l.length (Nat.le_refl _)
  have hw : (ordD l l.length).ws.length = l.length := by simp [ordD]
  have e : mayE ((ordD l l.length).crash kl) ⟨0, 2⟩ [] = 0 := by
    simp [mayE, isB, Dv.sec, Dv.gone, Dv.crash, hw, h1, h3]
  unfold Dv.read
  rw [if_pos e]
  unfold Dv.look
  simp only [Dv.crash, Dv.sec, hw, List.foldl_nil, if_true]
  exact congrArg (·, 0) h2

set_option maxRecDepth 100000 in
set_option maxHeartbeats 4000000 in
theorem devOrder_walk (w : World) (v0 : Value) (a0 : List (List UInt8)) (h0 : SlAt w.heap.size w IsStr 1 [v0] a0) (v1 : Value) (a1 : List Bool) (h1 : SlAt w.heap.size w IsBool 1 [v1] a1) :
    Calls Try.prog 8 #[v0, v1] w fun e w' => e = .returned (.bool true) ∧ Below w.heap.size w w' := by
  obtain ⟨A, n, c, e0, rfl, hc, hm, hx⟩ := h0
  simp only [List.cons.injEq, and_true] at e0
  subst e0
  obtain ⟨B, n, c', e0, rfl, hc', hm', hx'⟩ := h1
  simp only [List.cons.injEq, and_true] at e0
  subst e0
  by_cases t0 : a0.length ≤ 20 ∧ a1.length ≤ 100
  · obtain ⟨t0, t1⟩ := t0
    go_enter Try.func8, Try.ntmps8
    have q0 : decide (20 < (a0.length : Int)) = false := decide_eq_false (by omega)
    have q1 : decide (100 < (a1.length : Int)) = false := decide_eq_false (by omega)
    go_wp2_with fail
    refine (newL 5 5 (by decide) (by decide) (by decide) (by decide) w w (Below.refl _ _)).mono ?_
    rintro e w1 ⟨g, S0, rfl, hd0, hS0, k0⟩
    go_wp2_with fail
    go_loopw [6, 7] (fun u i wr => ∃ (k : Nat) (S : Nat → Prop), k ≤ a0.length ∧ i = .int .i64 k ∧ u = .string (bstr (wantN (kpB a1) a0 k)) ∧ Lv w wr S g (ordD a0 k) ∧ Below w.heap.size w wr) (fun _ i _ => a0.length - (intOf i).toNat)
    case atStart => exact ⟨0, S0, by omega, rfl, rfl, hd0, k0⟩
    case round =>
      obtain ⟨k, S, hk, rfl, rfl, hd, hb⟩ := hrel
      have hsz := hb.size
      by_cases hlt : k < a0.length
      · obtain ⟨ad, rfl, had, hcell⟩ := hx (by omega)
        obtain ⟨es, _, ⟨rfl, _⟩, hu⟩ := hcell k a0[k] (List.getElem?_eq_getElem hlt)
        have yw := hu 0 _ rfl
        simp only [Nat.mul_one, Nat.add_zero] at yw
        have cellW : ∀ W, Below w.heap.size w W → W.cell? (ad.add k) = some (.string (bstr a0[k])) := fun W hW => by
          rw [hW.cell (by unfold Addr.add; split <;> exact had)]; exact yw
        have CW := Lib.hid cellW
        have y0 := cellW wr hb
        clear yw cellW hu hcell
        by_cases t2 : 1024 < a0[k].length
        · have q2 : decide (1024 < (a0[k].length : Int)) = true := decide_eq_true (by omega)
          go_wp2_with fail
          refine (live_ok wr).mono ?_
          rintro e w2 ⟨rfl, k2⟩
          go_wp2
          go_ret
          exact ⟨rfl, hb.trans (k2.mono hsz)⟩
        · have q2 : decide (1024 < (a0[k].length : Int)) = false := decide_eq_false (by omega)
          obtain ⟨hm1, hm2⟩ := ordD_write a0 k hlt (by omega)
          have HM2 := Lib.hid hm2
          clear hm2
          have HM1 := Lib.hid hm1
          clear hm1
          go_wp2_with fail
          refine (writeL S g (ordD a0 k) ⟨0, 2⟩ a0[k] HM1.out (by simp [ordD]; omega) w wr hb hd).mono ?_
          rintro e w2 ⟨rfl, S', hd2, hS2, k2, b2⟩
          rw [HM2.out] at hd2
          obtain ⟨bk, hbk⟩ : ∃ b, kpB a1 k = b := ⟨_, rfl⟩
          have hwant : wantN (kpB a1) a0 (k + 1) = if bk then a0[k] else wantN (kpB a1) a0 k := by
            rw [wantN, hbk, List.getElem?_eq_getElem hlt]
            rfl
          have HW := Lib.hid hwant
          have HBK := Lib.hid hbk
          clear hwant hbk y0
          have y1 := CW.out w2 b2
          by_cases t3 : k < a1.length
          · have q3 : decide ((k : Int) < (a1.length : Int)) = true := decide_eq_true (by omega)
            obtain ⟨ad', rfl, had', hcell'⟩ := hx' (by omega)
            obtain ⟨es, _, hes, hu'⟩ := hcell' k a1[k] (List.getElem?_eq_getElem t3)
            simp only [IsBool] at hes
            subst hes
            have yw := hu' 0 _ rfl
            simp only [Nat.mul_one, Nat.add_zero] at yw
            rw [← b2.cell (by unfold Addr.add; split <;> exact had')] at yw
            have eb : bk = a1[k] := by rw [← HBK.out]; simp [kpB, t3]
            rw [← eb] at yw
            clear eb HBK hu' hcell'
            cases bk
            · go_wp2
              go_round
              case rel => exact ⟨k + 1, S', by omega, by go_num, by rw [HW.out]; rfl, hd2, b2⟩
              case measure => simp [intOf]; omega
            · go_wp2
              go_round
              case rel => exact ⟨k + 1, S', by omega, by go_num, by rw [HW.out]; rfl, hd2, b2⟩
              case measure => simp [intOf]; omega
          · have q3 : decide ((k : Int) < (a1.length : Int)) = false := decide_eq_false (by omega)
            have eb : bk = false := by rw [← HBK.out]; simp [kpB, t3]
            subst eb
            go_wp2
            go_round
            case rel => exact ⟨k + 1, S', by omega, by go_num, by rw [HW.out]; rfl, hd2, b2⟩
            case measure => simp [intOf]; omega
      · obtain rfl : k = a0.length := by omega
        have hbools : BoolsAt (fun j => ¬ S j) wr B a1 := by
          intro i hi
          obtain ⟨ad', rfl, had', hcell'⟩ := hx' (by omega)
          obtain ⟨es, _, hes, hu'⟩ := hcell' i a1[i] (List.getElem?_eq_getElem hi)
          simp only [IsBool] at hes
          subst hes
          have yw := hu' 0 _ rfl
          simp only [Nat.mul_one, Nat.add_zero] at yw
          rw [← hb.cell (by unfold Addr.add; split <;> exact had')] at yw
          exact ⟨ad', rfl, Nat.lt_of_lt_of_le had' hsz, fun e => absurd (hd.lo _ e) (by omega), yw⟩
        go_wp2_with fail
        refine (crashL S g (ordD a0 a0.length) B a1.length c' a1 rfl (by simp [ordD]; omega) w wr hbools hb hd).mono ?_
        rintro e w2 ⟨rfl, S', hd2, hS2, k2, b2⟩
        go_wp2_with fail
        refine (readL S' g _ ⟨0, 2⟩ (ord_read a1 a0) (by simp [Dv.crash]) w w2 hd2).mono ?_
        rintro e w3 ⟨rfl, k3⟩
        have b3 := b2.trans (k3.mono b2.size)
        go_wp2_with fail
        refine (live_ok w3).mono ?_
        rintro e w4 ⟨rfl, k4⟩
        go_wp2
        go_ret
        exact ⟨rfl, b3.trans (k4.mono b3.size)⟩
  · by_cases t1 : a0.length ≤ 20
    · have q0 : decide (20 < (a0.length : Int)) = false := decide_eq_false (by omega)
      have q1 : decide (100 < (a1.length : Int)) = true := decide_eq_true (by omega)
      go_enter Try.func8, Try.ntmps8
      go_wp2_with fail
      refine (live_ok w).mono ?_
      rintro e w4 ⟨rfl, k4⟩
      go_wp2
      go_ret
      exact ⟨rfl, k4⟩
    · have q0 : decide (20 < (a0.length : Int)) = true := decide_eq_true (by omega)
      go_enter Try.func8, Try.ntmps8
      go_wp2_with fail
      refine (live_ok w).mono ?_
      rintro e w4 ⟨rfl, k4⟩
      go_wp2
      go_ret
      exact ⟨rfl, k4⟩

end Go.Proofs.Ytmlakbdigbpmaaa
