/- Nodes of a tree: contracts of Size, Check, Small of the reference 09. -/
import Derived.Test.YtiodeeliidhbgaaNd3
namespace Go.Proofs.Ytiodeeliidhbgaa
open Go Go.RowKit
set_option linter.unusedSimpArgs false
set_option linter.unnecessarySimpa false
set_option linter.unusedVariables false

set_option maxHeartbeats 2000000 in
theorem rsize_any (v : Value) (n : Nd) (w : World) (h : NdV w v n) (hk : n.keys.length ≤ 1000000) (hv : n.vals.length ≤ 1000000) :
    Calls Try.prog 20 #[v] w fun e w' => e = .returned (.int .i64 (sizeN n : Nat)) ∧ Below w.heap.size w w' := by
  have hnn := h
  obtain ⟨vk, vv, rfl, h1, h2⟩ := h
  obtain ⟨A, c, rfl⟩ := h1.form
  obtain ⟨C, d, rfl⟩ := h2.form
  obtain ⟨leaf, ks, vs⟩ := n
  simp only at h1 h2 hk hv hnn ⊢
  obtain ⟨w0, hw0⟩ : ∃ x, w.alloc (.cells #[.bool leaf, .slice A ks.length c, .slice C vs.length d] 24) = x := ⟨_, rfl⟩
  obtain ⟨G, hG⟩ : ∃ x, w.heap.size = x := ⟨_, rfl⟩
  have hb0 : Blk w0 G 24 #[.bool leaf, .slice A ks.length c, .slice C vs.length d] := by rw [← hw0, ← hG]; exact Blk.new _ _ _
  have k0 : Below w.heap.size w w0 := by rw [← hw0]; exact (Below.refl _ _).alloc (Nat.le_refl _) _
  have hN := hnn.below k0
  have y0 := hb0.cell 0
  have y1 := hb0.cell 1
  have y2 := hb0.cell 2
  simp at y0 y1 y2
  have H1 := Lib.hid h1
  have H2 := Lib.hid h2
  clear h1 h2 hnn
  cases hm : mayB ⟨leaf, ks, vs⟩
  · have HZ : Hid (sizeN ⟨leaf, ks, vs⟩ = 0) := Lib.hid (by unfold sizeN; rw [hm]; rfl)
    have HM := Lib.hid hm
    clear hm
    go_enter Try.func20, Try.ntmps20
    go_wp2_with fail
    refine (rmay_to HM.out _ w0 hN (by omega) (by omega)).mono ?_
    rintro e w1 ⟨rfl, k1⟩
    go_wp2
    go_ret
    exact ⟨by rw [HZ.out]; rfl, hthen k0 k1⟩
  · obtain ⟨hs1, hs2⟩ := may_small hm
    simp only at hs1 hs2
    have HS : Hid (∀ k, k ≤ ks.length → sumN ks vs k ≤ 423 * k) := Lib.hid (fun k hk => (sum_le hm k hk).1)
    have HE : Hid (∀ k, k < ks.length → (ks.getD k []).length ≤ 300 ∧ (vs.getD k []).length ≤ 120) := Lib.hid (fun k hk => ⟨(may_at hm hk).1, (may_at hm hk).2.1⟩)
    have HZ : Hid (sizeN ⟨leaf, ks, vs⟩ = 2 + sumN ks vs ks.length) := Lib.hid (by unfold sizeN; rw [hm]; rfl)
    have HM := Lib.hid hm
    have HL := Lib.hid hs2
    clear hm hs2
    go_enter Try.func20, Try.ntmps20
    go_wp2_with fail
    refine (rmay_to HM.out _ w0 hN (by omega) (by omega)).mono ?_
    rintro e w1 ⟨rfl, k1⟩
    have hb1 := hb0.below k1 hb0.lt
    have hk1 := hthen k0 k1
    clear y0 y1 y2 hN hb0 k1 k0 hw0
    go_wp2_with fail
    go_loopw [3, 4] (fun s i wr => ∃ k : Nat, k ≤ ks.length ∧ i = .int .i64 k ∧ s = .int .i64 (2 + (sumN ks vs k : Nat)) ∧ Below w1.heap.size w1 wr) (fun _ i _ => ks.length - (intOf i).toNat)
    case atStart => exact ⟨0, Nat.zero_le _, rfl, rfl, Below.refl _ _⟩
    case round =>
      obtain ⟨k, hkn, rfl, rfl, kr⟩ := hrel
      have hbr := hb1.below kr hb1.lt
      have z1 := hbr.cell 1
      have z2 := hbr.cell 2
      simp at z1 z2
      have kw := hthen hk1 kr
      by_cases hlt : k < ks.length
      · have q1 : decide ((k : Int) < ks.length) = true := decide_eq_true (by omega)
        have T0 : (0 : Int) ≤ k := by omega
        have T1 : (k : Int) < ks.length := by omega
        have T2 : (k : Int) < vs.length := by rw [HL.out]; omega
        have hsm := HS.out k (by omega)
        obtain ⟨hx300, hy120⟩ := HE.out k hlt
        have hnx : sumN ks vs (k + 1) = sumN ks vs k + (3 + (ks.getD k []).length + (vs.getD k []).length) := rfl
        obtain ⟨ad, rfl, c1⟩ := H1.out.cell kw hlt
        obtain ⟨bd, rfl, c2⟩ := H2.out.cell kw (show k < vs.length by rw [HL.out]; exact hlt)
        obtain ⟨S, hS⟩ : ∃ y, sumN ks vs k = y := ⟨_, rfl⟩
        obtain ⟨X, hX⟩ : ∃ y, ks.getD k [] = y := ⟨_, rfl⟩
        obtain ⟨Y, hY⟩ : ∃ y, vs.getD k [] = y := ⟨_, rfl⟩
        rw [hS] at hsm hnx ⊢
        rw [hX] at hx300 hnx c1
        rw [hY] at hy120 hnx c2
        have HNX := Lib.hid hnx
        have hx : (bstr X).size = X.length := by simp [bstr, ByteArray.size]
        have hy : (bstr Y).size = Y.length := by simp [bstr, ByteArray.size]
        have e1 : IntKind.i64.wrap (2 + (S : Int) + 3) = 2 + S + 3 := IntWalk.i64_in _ ⟨by omega, by omega⟩
        have e2 : IntKind.i64.wrap (2 + (S : Int) + 3 + X.length) = 2 + S + 3 + X.length := IntWalk.i64_in _ ⟨by omega, by omega⟩
        have e3 : IntKind.i64.wrap (2 + (S : Int) + 3 + X.length + Y.length) = 2 + S + 3 + X.length + Y.length := IntWalk.i64_in _ ⟨by omega, by omega⟩
        clear hS hX hY hnx
        go_wp2_with fail
        go_quiet (fail)
        go_wp2
        go_round
        case rel => exact ⟨k + 1, by omega, by go_num, by rw [HNX.out]; go_num, kr.dN _⟩
        case measure => simp [intOf]; omega
      · obtain rfl : k = ks.length := by omega
        have q1 : decide ((ks.length : Int) < ks.length) = false := by simp
        go_wp2
        go_ret
        exact ⟨by rw [HZ.out]; go_num, hthen hk1 kr⟩
theorem rsize_to {n : Nd} {s : Nat} (hs : sizeN n = s) (v : Value) (w : World) (h : NdV w v n) (hk : n.keys.length ≤ 1000000) (hv : n.vals.length ≤ 1000000) :
    Calls Try.prog 20 #[v] w fun e w' => e = .returned (.int .i64 (s : Nat)) ∧ Below w.heap.size w w' := hs ▸ rsize_any v n w h hk hv

set_option maxHeartbeats 1000000 in
theorem rcheck_any (v : Value) (n : Nd) (w : World) (h : NdV w v n) (hk : n.keys.length ≤ 1000000) (hv : n.vals.length ≤ 1000000) :
    Calls Try.prog 18 #[v] w fun e w' => e = .returned (.int .i64 (checkN n)) ∧ Below w.heap.size w w' := by
  have hnn := h
  obtain ⟨vk, vv, rfl, h1, h2⟩ := h
  obtain ⟨A, c, rfl⟩ := h1.form
  obtain ⟨C, d, rfl⟩ := h2.form
  obtain ⟨leaf, ks, vs⟩ := n
  simp only at h1 h2 hk hv hnn ⊢
  obtain ⟨w0, hw0⟩ : ∃ x, w.alloc (.cells #[.bool leaf, .slice A ks.length c, .slice C vs.length d] 24) = x := ⟨_, rfl⟩
  obtain ⟨G, hG⟩ : ∃ x, w.heap.size = x := ⟨_, rfl⟩
  have hb0 : Blk w0 G 24 #[.bool leaf, .slice A ks.length c, .slice C vs.length d] := by rw [← hw0, ← hG]; exact Blk.new _ _ _
  have k0 : Below w.heap.size w w0 := by rw [← hw0]; exact (Below.refl _ _).alloc (Nat.le_refl _) _
  have hN := hnn.below k0
  have y0 := hb0.cell 0
  have y1 := hb0.cell 1
  have y2 := hb0.cell 2
  simp at y0 y1 y2
  clear h1 h2 hnn
  cases hm : mayB ⟨leaf, ks, vs⟩
  · have HZ := Lib.hid (check_bad hm)
    have HM := Lib.hid hm
    clear hm
    go_enter Try.func18, Try.ntmps18
    go_wp2_with fail
    refine (rmay_to HM.out _ w0 hN hk hv).mono ?_
    rintro e w1 ⟨rfl, k1⟩
    go_wp2
    go_ret
    exact ⟨by rw [HZ.out]; rfl, hthen k0 k1⟩
  · obtain ⟨s, hs⟩ : ∃ s, sizeN ⟨leaf, ks, vs⟩ = s := ⟨_, rfl⟩
    by_cases h960 : 960 < s
    · have HZ := Lib.hid (check_big hm (by rw [hs]; exact h960))
      have HM := Lib.hid hm
      have HS := Lib.hid hs
      have q1 : decide ((s : Int) > 960) = true := decide_eq_true (by omega)
      clear hm hs
      go_enter Try.func18, Try.ntmps18
      go_wp2_with fail
      refine (rmay_to HM.out _ w0 hN hk hv).mono ?_
      rintro e w1 ⟨rfl, k1⟩
      have hb1 := hb0.below k1 hb0.lt
      have hN1 := hN.below k1
      have z0 := hb1.cell 0
      have z1 := hb1.cell 1
      have z2 := hb1.cell 2
      simp at z0 z1 z2
      have k1' := hthen k0 k1
      clear y0 y1 y2
      go_wp2_with fail
      refine (rsize_to HS.out _ w1 hN1 hk hv).mono ?_
      rintro e w2 ⟨rfl, k2⟩
      go_wp2
      go_ret
      exact ⟨by rw [HZ.out]; rfl, hthen k1' k2⟩
    · have HZ := Lib.hid (check_ok hm (by rw [hs]; exact h960))
      have HM := Lib.hid hm
      have HS := Lib.hid hs
      have q1 : decide ((s : Int) > 960) = false := decide_eq_false (by omega)
      clear hm hs
      go_enter Try.func18, Try.ntmps18
      go_wp2_with fail
      refine (rmay_to HM.out _ w0 hN hk hv).mono ?_
      rintro e w1 ⟨rfl, k1⟩
      have hb1 := hb0.below k1 hb0.lt
      have hN1 := hN.below k1
      have z0 := hb1.cell 0
      have z1 := hb1.cell 1
      have z2 := hb1.cell 2
      simp at z0 z1 z2
      have k1' := hthen k0 k1
      clear y0 y1 y2
      go_wp2_with fail
      refine (rsize_to HS.out _ w1 hN1 hk hv).mono ?_
      rintro e w2 ⟨rfl, k2⟩
      go_wp2
      go_ret
      exact ⟨by rw [HZ.out]; rfl, hthen k1' k2⟩

/-! Small -/
def ltsB (m : Nat) (l : List (List UInt8)) : Bool := l.all fun x => decide (x.length ≤ m)
def smallB (n : Nd) : Bool := ltsB 400 n.keys && ltsB 300 n.vals && decide (n.keys.length ≤ 260) && decide (n.vals.length ≤ 260)
theorem lts_no {m : Nat} {l : List (List UInt8)} {j : Nat} (hj : j < l.length) (h : m < (l.getD j []).length) : ltsB m l = false := by
  rw [← Bool.not_eq_true]
  intro e
  have := List.all_eq_true.1 e (l.getD j []) (by rw [List.getD_eq_getElem?_getD, List.getElem?_eq_getElem hj]; exact List.getElem_mem hj)
  simp only [decide_eq_true_eq] at this
  omega
theorem lts_yes {m : Nat} {l : List (List UInt8)} (h : ∀ j, j < l.length → (l.getD j []).length ≤ m) : ltsB m l = true := by
  unfold ltsB
  rw [List.all_eq_true]
  intro x hx
  obtain ⟨j, hj, rfl⟩ := List.getElem_of_mem hx
  have := h j hj
  rw [List.getD_eq_getElem?_getD, List.getElem?_eq_getElem hj] at this
  exact decide_eq_true this
set_option maxHeartbeats 2000000 in
theorem small_any (v : Value) (n : Nd) (w : World) (h : NdV w v n) (hk : n.keys.length ≤ maxLen) (hv : n.vals.length ≤ maxLen) :
    Calls Try.prog 10 #[v] w fun e w' => e = .returned (.bool (smallB n)) ∧ Below w.heap.size w w' := by
  unfold maxLen at hk hv
  obtain ⟨vk, vv, rfl, h1, h2⟩ := h
  obtain ⟨A, c, rfl⟩ := h1.form
  obtain ⟨C, d, rfl⟩ := h2.form
  obtain ⟨leaf, ks, vs⟩ := n
  simp only at h1 h2 hk hv ⊢
  obtain ⟨w0, hw0⟩ : ∃ x, w.alloc (.cells #[.bool leaf, .slice A ks.length c, .slice C vs.length d] 24) = x := ⟨_, rfl⟩
  obtain ⟨G, hG⟩ : ∃ x, w.heap.size = x := ⟨_, rfl⟩
  have hb0 : Blk w0 G 24 #[.bool leaf, .slice A ks.length c, .slice C vs.length d] := by rw [← hw0, ← hG]; exact Blk.new _ _ _
  have k0 : Below w.heap.size w w0 := by rw [← hw0]; exact (Below.refl _ _).alloc (Nat.le_refl _) _
  have kG : Below G w w0 := hG ▸ k0
  have y1 := hb0.cell 1
  have y2 := hb0.cell 2
  simp at y1 y2
  have H1 := Lib.hid h1
  have H2 := Lib.hid h2
  clear h1 h2
  go_enter Try.func10, Try.ntmps10
  go_wp2_with fail
  go_loop [3] (fun i => ∃ k : Nat, k ≤ ks.length ∧ i = .int .i64 k ∧ Hid (∀ j, j < k → (ks.getD j []).length ≤ 400)) (fun i => ks.length - (intOf i).toNat)
  case atStart => exact ⟨0, Nat.zero_le _, rfl, Lib.hid (fun j hj => by omega)⟩
  case round =>
    obtain ⟨k, hkn, rfl, HA⟩ := hrel
    by_cases hlt : k < ks.length
    · have q1 : decide ((k : Int) < ks.length) = true := decide_eq_true (by omega)
      have T0 : (0 : Int) ≤ k := by omega
      have T1 : (k : Int) < ks.length := by omega
      obtain ⟨ad, rfl, c1⟩ := H1.out.cell k0 hlt
      obtain ⟨X, hX⟩ : ∃ y, ks.getD k [] = y := ⟨_, rfl⟩
      rw [hX] at c1
      have hx : (bstr X).size = X.length := by simp [bstr, ByteArray.size]
      have HX := Lib.hid hX
      clear hX
      by_cases h400 : X.length ≤ 400
      · have q2 : decide ((X.length : Int) > 400) = false := decide_eq_false (by omega)
        have HN : Hid (∀ j, j < k + 1 → (ks.getD j []).length ≤ 400) := Lib.hid (fun j hj => by
          by_cases hjk : j = k
          · rw [hjk, HX.out]; exact h400
          · exact HA.out j (by omega))
        go_wp2
        go_round
        case rel => exact ⟨k + 1, by omega, by go_num, HN⟩
        case measure => simp [intOf]; omega
      · have q2 : decide ((X.length : Int) > 400) = true := decide_eq_true (by omega)
        have HF : Hid (smallB ⟨leaf, ks, vs⟩ = false) := Lib.hid (by unfold smallB; rw [lts_no hlt (by rw [HX.out]; omega)]; rfl)
        go_wp2
        go_ret
        exact ⟨by rw [HF.out]; rfl, by first | exact k0 | exact kG⟩
    · obtain rfl : k = ks.length := by omega
      have q1 : decide ((ks.length : Int) < ks.length) = false := by simp
      have HKS := Lib.hid (lts_yes HA.out)
      go_wp2_with fail
      go_loop [4] (fun i => ∃ k : Nat, k ≤ vs.length ∧ i = .int .i64 k ∧ Hid (∀ j, j < k → (vs.getD j []).length ≤ 300)) (fun i => vs.length - (intOf i).toNat)
      case atStart => exact ⟨0, Nat.zero_le _, rfl, Lib.hid (fun j hj => by omega)⟩
      case round =>
        obtain ⟨k, hkn, rfl, HB⟩ := hrel
        by_cases hlt : k < vs.length
        · have q1 : decide ((k : Int) < vs.length) = true := decide_eq_true (by omega)
          have T0 : (0 : Int) ≤ k := by omega
          have T1 : (k : Int) < vs.length := by omega
          obtain ⟨ad, rfl, c1⟩ := H2.out.cell k0 hlt
          obtain ⟨X, hX⟩ : ∃ y, vs.getD k [] = y := ⟨_, rfl⟩
          rw [hX] at c1
          have hx : (bstr X).size = X.length := by simp [bstr, ByteArray.size]
          have HX := Lib.hid hX
          clear hX
          by_cases h400 : X.length ≤ 300
          · have q2 : decide ((X.length : Int) > 300) = false := decide_eq_false (by omega)
            have HN : Hid (∀ j, j < k + 1 → (vs.getD j []).length ≤ 300) := Lib.hid (fun j hj => by
              by_cases hjk : j = k
              · rw [hjk, HX.out]; exact h400
              · exact HB.out j (by omega))
            go_wp2
            go_round
            case rel => exact ⟨k + 1, by omega, by go_num, HN⟩
            case measure => simp [intOf]; omega
          · have q2 : decide ((X.length : Int) > 300) = true := decide_eq_true (by omega)
            have HF : Hid (smallB ⟨leaf, ks, vs⟩ = false) := Lib.hid (by unfold smallB; rw [lts_no hlt (by rw [HX.out]; omega)]; simp)
            go_wp2
            go_ret
            exact ⟨by rw [HF.out]; rfl, by first | exact k0 | exact kG⟩
        · obtain rfl : k = vs.length := by omega
          have q1 : decide ((vs.length : Int) < vs.length) = false := by simp
          have HVS := Lib.hid (lts_yes HB.out)
          by_cases c1 : ks.length ≤ 260
          · have q2 : decide ((ks.length : Int) ≤ 260) = true := decide_eq_true (by omega)
            by_cases c2 : vs.length ≤ 260
            · have q3 : decide ((vs.length : Int) ≤ 260) = true := decide_eq_true (by omega)
              have HF : Hid (smallB ⟨leaf, ks, vs⟩ = true) := Lib.hid (by unfold smallB; rw [HKS.out, HVS.out, decide_eq_true c1, decide_eq_true c2]; rfl)
              go_wp2
              go_ret
              exact ⟨by rw [HF.out]; rfl, by first | exact k0 | exact kG⟩
            · have q3 : decide ((vs.length : Int) ≤ 260) = false := decide_eq_false (by omega)
              have HF : Hid (smallB ⟨leaf, ks, vs⟩ = false) := Lib.hid (by unfold smallB; rw [decide_eq_false c2]; simp)
              go_wp2
              go_ret
              exact ⟨by rw [HF.out]; rfl, by first | exact k0 | exact kG⟩
          · have q2 : decide ((ks.length : Int) ≤ 260) = false := decide_eq_false (by omega)
            have HF : Hid (smallB ⟨leaf, ks, vs⟩ = false) := Lib.hid (by unfold smallB; rw [decide_eq_false c1]; simp)
            go_wp2
            go_ret
            exact ⟨by rw [HF.out]; rfl, by first | exact k0 | exact kG⟩
end Go.Proofs.Ytiodeeliidhbgaa
