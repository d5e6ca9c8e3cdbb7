/- container/heap: down, Init, Pop over items: their contracts. -/
import Derived.Test.YtefobchpcdniiaaHq
namespace Go.Proofs.Ytefobchpcdniiaa
open Go Go.RowKit Go.Maps
set_option linter.unusedSimpArgs false
set_option linter.unnecessarySimpa false
set_option linter.unusedVariables false

/-- the lesser child of i, of the first n items -/
def kidL (n : Nat) (c : List It) (i : Nat) : Nat := if 2 * i + 2 < n ∧ ltI (c.getD (2 * i + 2) default) (c.getD (2 * i + 1) default) = true then 2 * i + 2 else 2 * i + 1
def downL (n : Nat) : Nat → List It → Nat → List It
  | 0, c, _ => c
  | f + 1, c, i => if 2 * i + 1 < n then (if ltI (c.getD (kidL n c i) default) (c.getD i default) = true then downL n f (swapL c i (kidL n c i)) (kidL n c i) else c) else c
def hv (lb : Nat) : Value := .iface 63 (.pointer (some ⟨lb, 0, none⟩))

theorem meth_val (name : String) (f : FuncId) (ht : (((Try.prog.info? 63).getD default).methods.find? (·.name == name)).map (fun m => (m.path, m.func)) = some (#[], some (f, false))) (n : Nat) (a : Addr) (w : World) (v : Value) (h : w.cell? a = some v) :
    (method (n + 1) 63 (.pointer (some a)) name).run Try.prog w = .ok (f, v) w := by
  unfold method
  rw [Sem.run_bind]
  have : (typeInfo 63).run Try.prog w = .ok ((Try.prog.info? 63).getD default) w := by kernel_rfl
  rw [this]
  simp only [Result.andThen_ok]
  cases hm : ((Try.prog.info? 63).getD default).methods.find? (·.name == name) with
  | none => rw [hm] at ht; cases ht
  | some m =>
    rw [hm] at ht
    obtain ⟨nm, sg, pt, fn⟩ := m
    simp only [Option.map_some, Option.some.injEq, Prod.mk.injEq] at ht
    obtain ⟨rfl, rfl⟩ := ht
    have hnil : ∀ x, (Builtin.ssaWrapNilChk_ #[63] 63 #[.pointer (some a), strVal "", strVal x]).run Try.prog w = .ok (.pointer (some a)) w := fun _ => rfl
    simp [follow, receiverAt, Place.get, hnil, go_sem, asAddr, run_underlying Try.underlying63, h]
theorem meth_less {w : World} {a : Addr} {v : Value} (h : w.cell? a = some v) (n : Nat) : (method (n + 1) 63 (.pointer (some a)) "Less").run Try.prog w = .ok (44, v) w := meth_val "Less" _ (by kernel_rfl) n a w v h
theorem meth_swap {w : World} {a : Addr} {v : Value} (h : w.cell? a = some v) (n : Nat) : (method (n + 1) 63 (.pointer (some a)) "Swap").run Try.prog w = .ok (45, v) w := meth_val "Swap" _ (by kernel_rfl) n a w v h
theorem meth_len {w : World} {a : Addr} {v : Value} (h : w.cell? a = some v) (n : Nat) : (method (n + 1) 63 (.pointer (some a)) "Len").run Try.prog w = .ok (43, v) w := meth_val "Len" _ (by kernel_rfl) n a w v h
theorem meth_pop (n : Nat) (a : Addr) (w : World) : (method (n + 1) 63 (.pointer (some a)) "Pop").run Try.prog w = .ok (49, .pointer (some a)) w := by kernel_rfl

set_option maxHeartbeats 1000000 in
theorem down_any (lb rb cap m n i0 : Nat) (c : List It) (rest : List Value) (hn : n ≤ m) (hi : i0 ≤ 1000000) (w : World) (h : HpAt w lb rb cap m c rest) :
    Calls Try.prog 26 #[hv lb, .int .i64 i0, .int .i64 n] w fun e w' => ∃ b, e = .returned (.bool b) ∧ HpAt w' lb rb cap m (downL n n c i0) rest ∧ Keep w.heap.size (· = rb) w w' := by
  unfold hv
  go_enter Try.func26, Try.ntmps26
  go_wp2_with fail
  go_loopw [7] (fun i wr => ∃ (q f : Nat) (c' : List It), i = .int .i64 q ∧ q ≤ 1000000 ∧ n ≤ f + q ∧ downL n f c' q = downL n n c i0 ∧ c'.length = c.length ∧ HpAt wr lb rb cap m c' rest ∧ Keep w.heap.size (· = rb) w wr) (fun i _ => n - (intOf i).toNat)
  case atStart => exact ⟨i0, n, c, rfl, hi, by omega, rfl, rfl, h, Keep.refl _ _ _⟩
  case round =>
    obtain ⟨q, f, c', rfl, hq, hf, hD, hcl, hh, hk⟩ := hrel
    have hle := hh.le
    have hbig := hh.big
    have v0 := hh.v.cell 0
    simp at v0
    have ml := meth_less v0
    have ms := meth_swap v0
    have T0 : (0 : Int) ≤ q := by omega
    have e1 : IntKind.i64.wrap (2 * (q : Int)) = 2 * q := IntWalk.i64_in _ ⟨by omega, by omega⟩
    have e2 : IntKind.i64.wrap (2 * (q : Int) + 1) = 2 * q + 1 := IntWalk.i64_in _ ⟨by omega, by omega⟩
    by_cases h1 : 2 * q + 1 < n
    · have q1 : decide (2 * (q : Int) + 1 ≥ n) = false := decide_eq_false (by omega)
      have q2 : decide (2 * (q : Int) + 1 < 0) = false := decide_eq_false (by omega)
      have e3 : IntKind.i64.wrap (2 * (q : Int) + 1 + 1) = 2 * q + 2 := by rw [IntWalk.i64_in _ ⟨by omega, by omega⟩]; omega
      have hl1 : 2 * q + 1 < m := by omega
      have hq1 : q < m := by omega
      have S3 := fun (j : Nat) (hj : j < m) (hne : q ≠ j) (w' : World) (h' : HpAt w' lb rb cap m c' rest) => swap_any lb rb cap m c' rest q j hq1 hj hne w' h'
      have L3 := fun (j : Nat) (hj : j < m) (w' : World) (h' : HpAt w' lb rb cap m c' rest) => less_any lb rb cap m c' rest j q hj hq1 w' h'
      obtain ⟨f, rfl⟩ : ∃ f', f = f' + 1 := ⟨f - 1, by omega⟩
      have hD1 : downL n (f + 1) c' q = if ltI (c'.getD (kidL n c' q) default) (c'.getD q default) = true then downL n f (swapL c' q (kidL n c' q)) (kidL n c' q) else c' := by rw [downL, if_pos h1]
      rw [hD1] at hD
      have HD := Lib.hid hD
      have HS := Lib.hid S3
      have HL := Lib.hid L3
      clear hD hD1 S3 L3
      by_cases h2 : 2 * q + 2 < n
      · have q3 : decide (2 * (q : Int) + 2 < n) = true := decide_eq_true (by omega)
        have hl2 : 2 * q + 2 < m := by omega
        have L1 := less_any lb rb cap m c' rest (2 * q + 2) (2 * q + 1) hl2 hl1 wr hh
        have hkid : kidL n c' q = if ltI (c'.getD (2 * q + 2) default) (c'.getD (2 * q + 1) default) = true then 2 * q + 2 else 2 * q + 1 := by rw [kidL]; simp only [h2, true_and]
        obtain ⟨b1, hb1⟩ : ∃ b, ltI (c'.getD (2 * q + 2) default) (c'.getD (2 * q + 1) default) = b := ⟨_, rfl⟩
        rw [hb1] at L1 hkid
        have p1 : ((2 * q + 2 : Nat) : Int) = 2 * (q : Int) + 2 := by omega
        have p2 : ((2 * q + 1 : Nat) : Int) = 2 * (q : Int) + 1 := by omega
        rw [p1, p2] at L1
        have HK := Lib.hid hkid
        clear hkid hb1 p1 p2
        go_wp2_with fail
        refine L1.mono ?_
        rintro e w1 ⟨rfl, hbl1⟩
        have hh1 := hh.below hbl1
        have hk1 : Keep w.heap.size (· = rb) w w1 := hk.then (Keep.of_below hbl1) hk.size (fun _ _ h => h)
        have v1 := hh1.v.cell 0
        simp at v1
        have ml1 := meth_less v1
        cases b1
        · have hkj : kidL n c' q = 2 * q + 1 := by rw [HK.out]; rfl
          have L2 := HL.out (2 * q + 1) hl1 w1 hh1
          obtain ⟨b2, hb2⟩ : ∃ b, ltI (c'.getD (2 * q + 1) default) (c'.getD q default) = b := ⟨_, rfl⟩
          have pJ : ((2 * q + 1 : Nat) : Int) = 2 * (q : Int) + 1 := by omega
          rw [hb2, pJ] at L2
          have hD := HD.out
          rw [hkj, hb2] at hD
          have HD2 := Lib.hid hD
          have PJ := Lib.hid pJ
          clear hD hb2 hkj pJ
          go_wp2_with fail
          refine L2.mono ?_
          rintro e w2 ⟨rfl, hbl2⟩
          have hh2 := hh1.below hbl2
          have hk2 : Keep w.heap.size (· = rb) w w2 := hk1.then (Keep.of_below hbl2) hk1.size (fun _ _ h => h)
          have v2 := hh2.v.cell 0
          simp at v2
          have ms2 := meth_swap v2
          clear L2
          cases b2
          · have hfin : HpAt w2 lb rb cap m (downL n n c i0) rest := by
              have := HD2.out
              simp only [Bool.false_eq_true, if_false] at this
              rw [← this]
              exact hh2
            go_wp2
            go_ret
            exact ⟨_, rfl, hfin, hk2⟩
          · have S2 := HS.out (2 * q + 1) hl1 (by omega) w2 hh2
            rw [PJ.out] at S2
            go_wp2_with fail
            refine S2.mono ?_
            rintro e w3 ⟨rfl, hh3, hk3⟩
            have hk3' : Keep w.heap.size (· = rb) w w3 := hk2.then hk3 hk2.size (fun _ _ h => h)
            have hD3 := HD2.out
            simp only [if_true] at hD3
            have HD3 := Lib.hid hD3
            clear hD3 S2
            go_wp2
            go_round
            case rel => exact ⟨2 * q + 1, f, _, by go_num, by omega, by omega, HD3.out, by rw [swapL_len]; exact hcl, hh3, hk3'⟩
            case measure => simp [intOf] <;> omega
        · have hkj : kidL n c' q = 2 * q + 2 := by rw [HK.out]; rfl
          have L2 := HL.out (2 * q + 2) hl2 w1 hh1
          obtain ⟨b2, hb2⟩ : ∃ b, ltI (c'.getD (2 * q + 2) default) (c'.getD q default) = b := ⟨_, rfl⟩
          have pJ : ((2 * q + 2 : Nat) : Int) = 2 * (q : Int) + 2 := by omega
          rw [hb2, pJ] at L2
          have hD := HD.out
          rw [hkj, hb2] at hD
          have HD2 := Lib.hid hD
          have PJ := Lib.hid pJ
          clear hD hb2 hkj pJ
          go_wp2_with fail
          refine L2.mono ?_
          rintro e w2 ⟨rfl, hbl2⟩
          have hh2 := hh1.below hbl2
          have hk2 : Keep w.heap.size (· = rb) w w2 := hk1.then (Keep.of_below hbl2) hk1.size (fun _ _ h => h)
          have v2 := hh2.v.cell 0
          simp at v2
          have ms2 := meth_swap v2
          clear L2
          cases b2
          · have hfin : HpAt w2 lb rb cap m (downL n n c i0) rest := by
              have := HD2.out
              simp only [Bool.false_eq_true, if_false] at this
              rw [← this]
              exact hh2
            go_wp2
            go_ret
            exact ⟨_, rfl, hfin, hk2⟩
          · have S2 := HS.out (2 * q + 2) hl2 (by omega) w2 hh2
            rw [PJ.out] at S2
            go_wp2_with fail
            refine S2.mono ?_
            rintro e w3 ⟨rfl, hh3, hk3⟩
            have hk3' : Keep w.heap.size (· = rb) w w3 := hk2.then hk3 hk2.size (fun _ _ h => h)
            have hD3 := HD2.out
            simp only [if_true] at hD3
            have HD3 := Lib.hid hD3
            clear hD3 S2
            go_wp2
            go_round
            case rel => exact ⟨2 * q + 2, f, _, by go_num, by omega, by omega, HD3.out, by rw [swapL_len]; exact hcl, hh3, hk3'⟩
            case measure => simp [intOf] <;> omega
      · have q3 : decide (2 * (q : Int) + 2 < n) = false := decide_eq_false (by omega)
        have hkj : kidL n c' q = 2 * q + 1 := by rw [kidL, if_neg (fun h => h2 h.1)]
        have L2 := HL.out (2 * q + 1) hl1 wr hh
        obtain ⟨b2, hb2⟩ : ∃ b, ltI (c'.getD (2 * q + 1) default) (c'.getD q default) = b := ⟨_, rfl⟩
        have pJ : ((2 * q + 1 : Nat) : Int) = 2 * (q : Int) + 1 := by omega
        rw [hb2, pJ] at L2
        have hD := HD.out
        rw [hkj, hb2] at hD
        have HD2 := Lib.hid hD
        have PJ := Lib.hid pJ
        clear hD hb2 hkj pJ
        go_wp2_with fail
        refine L2.mono ?_
        rintro e w2 ⟨rfl, hbl2⟩
        have hh2 := hh.below hbl2
        have hk2 : Keep w.heap.size (· = rb) w w2 := hk.then (Keep.of_below hbl2) hk.size (fun _ _ h => h)
        have v2 := hh2.v.cell 0
        simp at v2
        have ms2 := meth_swap v2
        clear L2
        cases b2
        · have hfin : HpAt w2 lb rb cap m (downL n n c i0) rest := by
            have := HD2.out
            simp only [Bool.false_eq_true, if_false] at this
            rw [← this]
            exact hh2
          go_wp2
          go_ret
          exact ⟨_, rfl, hfin, hk2⟩
        · have S2 := HS.out (2 * q + 1) hl1 (by omega) w2 hh2
          rw [PJ.out] at S2
          go_wp2_with fail
          refine S2.mono ?_
          rintro e w3 ⟨rfl, hh3, hk3⟩
          have hk3' : Keep w.heap.size (· = rb) w w3 := hk2.then hk3 hk2.size (fun _ _ h => h)
          have hD3 := HD2.out
          simp only [if_true] at hD3
          have HD3 := Lib.hid hD3
          clear hD3 S2
          go_wp2
          go_round
          case rel => exact ⟨2 * q + 1, f, _, by go_num, by omega, by omega, HD3.out, by rw [swapL_len]; exact hcl, hh3, hk3'⟩
          case measure => simp [intOf] <;> omega
    · have q1 : decide (2 * (q : Int) + 1 ≥ n) = true := decide_eq_true (by omega)
      have hfin : HpAt wr lb rb cap m (downL n n c i0) rest := by
        rw [← hD]
        cases f with
        | zero => exact hh
        | succ f => rw [downL, if_neg h1]; exact hh
      clear hD
      go_wp2
      go_ret
      exact ⟨_, rfl, hfin, hk⟩
end Go.Proofs.Ytefobchpcdniiaa
