/- Nodes of a tree: contracts of Check of package node, and of Key, May, Size, Check, Small of the reference 09. -/
import Derived.Test.YtiodeeliidhbgaaNd2
namespace Go.Proofs.Ytiodeeliidhbgaa
open Go Go.RowKit
set_option linter.unusedSimpArgs false
set_option linter.unnecessarySimpa false
set_option linter.unusedVariables false

theorem size_to {n : Nd} {s : Nat} (hs : sizeN n = s) (v : Value) (w : World) (h : NdV w v n) (hk : n.keys.length ≤ 1000000) (hv : n.vals.length ≤ 1000000) :
    Calls Try.prog 19 #[v] w fun e w' => e = .returned (.int .i64 (s : Nat)) ∧ Below w.heap.size w w' := hs ▸ size_any v n w h hk hv
theorem check_bad {n : Nd} (h : mayB n = false) : checkN n = 1 := by unfold checkN; rw [h]; rfl
theorem check_big {n : Nd} (h : mayB n = true) (h2 : 960 < sizeN n) : checkN n = 13 := by unfold checkN; rw [h, if_pos rfl, if_pos h2]
theorem check_ok {n : Nd} (h : mayB n = true) (h2 : ¬ 960 < sizeN n) : checkN n = 0 := by unfold checkN; rw [h, if_pos rfl, if_neg h2]

set_option maxHeartbeats 1000000 in
theorem check_any (v : Value) (n : Nd) (w : World) (h : NdV w v n) (hk : n.keys.length ≤ 1000000) (hv : n.vals.length ≤ 1000000) :
    Calls Try.prog 17 #[v] w fun e w' => e = .returned (.int .i64 (checkN n)) ∧ Below w.heap.size w w' := by
  have hnn := h
  obtain ⟨vk, vv, rfl, h1, h2⟩ := h
  obtain ⟨A, c, rfl⟩ := h1.form
  obtain ⟨C, d, rfl⟩ := h2.form
  obtain ⟨leaf, ks, vs⟩ := n
  simp only at h1 h2 hk hv hnn ⊢
  obtain ⟨w0, hw0⟩ : ∃ x, w.alloc (.cells #[.bool leaf, .slice A ks.length c, .slice C vs.length d] 30) = x := ⟨_, rfl⟩
  obtain ⟨G, hG⟩ : ∃ x, w.heap.size = x := ⟨_, rfl⟩
  have hb0 : Blk w0 G 30 #[.bool leaf, .slice A ks.length c, .slice C vs.length d] := by rw [← hw0, ← hG]; exact Blk.new _ _ _
  have k0 : Below w.heap.size w w0 := by rw [← hw0]; exact (Below.refl _ _).alloc (Nat.le_refl _) _
  have hN := hnn.below k0
  have y0 := hb0.cell 0
  have y1 := hb0.cell 1
  have y2 := hb0.cell 2
  simp at y0 y1 y2
  clear h1 h2 hnn
  cases hm : mayB ⟨leaf, ks, vs⟩
  · have HZ := Lib.hid (check_bad hm)
    have HM := Lib.hid hm
    clear hm
    go_enter Try.func17, Try.ntmps17
    go_wp2_with fail
    refine (may_to HM.out _ w0 hN hk hv).mono ?_
    rintro e w1 ⟨rfl, k1⟩
    go_wp2
    go_ret
    exact ⟨by rw [HZ.out]; rfl, hthen k0 k1⟩
  · obtain ⟨s, hs⟩ : ∃ s, sizeN ⟨leaf, ks, vs⟩ = s := ⟨_, rfl⟩
    by_cases h960 : 960 < s
    · have HZ := Lib.hid (check_big hm (by rw [hs]; exact h960))
      have HM := Lib.hid hm
      have HS := Lib.hid hs
      have q1 : decide ((s : Int) > 960) = true := decide_eq_true (by omega)
      clear hm hs
      go_enter Try.func17, Try.ntmps17
      go_wp2_with fail
      refine (may_to HM.out _ w0 hN hk hv).mono ?_
      rintro e w1 ⟨rfl, k1⟩
      have hb1 := hb0.below k1 hb0.lt
      have hN1 := hN.below k1
      have z0 := hb1.cell 0
      have z1 := hb1.cell 1
      have z2 := hb1.cell 2
      simp at z0 z1 z2
      have k1' := hthen k0 k1
      clear y0 y1 y2
      go_wp2_with fail
      refine (size_to HS.out _ w1 hN1 hk hv).mono ?_
      rintro e w2 ⟨rfl, k2⟩
      go_wp2
      go_ret
      exact ⟨by rw [HZ.out]; rfl, hthen k1' k2⟩
    · have HZ := Lib.hid (check_ok hm (by rw [hs]; exact h960))
      have HM := Lib.hid hm
      have HS := Lib.hid hs
      have q1 : decide ((s : Int) > 960) = false := decide_eq_false (by omega)
      clear hm hs
      go_enter Try.func17, Try.ntmps17
      go_wp2_with fail
      refine (may_to HM.out _ w0 hN hk hv).mono ?_
      rintro e w1 ⟨rfl, k1⟩
      have hb1 := hb0.below k1 hb0.lt
      have hN1 := hN.below k1
      have z0 := hb1.cell 0
      have z1 := hb1.cell 1
      have z2 := hb1.cell 2
      simp at z0 z1 z2
      have k1' := hthen k0 k1
      clear y0 y1 y2
      go_wp2_with fail
      refine (size_to HS.out _ w1 hN1 hk hv).mono ?_
      rintro e w2 ⟨rfl, k2⟩
      go_wp2
      go_ret
      exact ⟨by rw [HZ.out]; rfl, hthen k1' k2⟩

set_option maxHeartbeats 1000000 in
theorem rkey_any (k : List UInt8) (w : World) : Calls Try.prog 32 #[.string (bstr k)] w fun e w' => e = .returned (.bool (kyB k)) ∧ w' = w := by
  have hk : (bstr k).size = k.length := by simp [bstr, ByteArray.size]
  by_cases h1 : 1 ≤ k.length
  · have q0 : decide ((k.length : Int) ≥ 1) = true := decide_eq_true (by omega)
    by_cases h2 : k.length ≤ 300
    · have q1 : decide ((k.length : Int) ≤ 300) = true := decide_eq_true (by omega)
      go_enter Try.func32, Try.ntmps32
      go_wp2
      go_ret
      exact ⟨ret_bool (by simp [kyB, h1, h2]), rfl⟩
    · have q1 : decide ((k.length : Int) ≤ 300) = false := decide_eq_false (by omega)
      go_enter Try.func32, Try.ntmps32
      go_wp2
      go_ret
      exact ⟨ret_bool (by simp [kyB, h1, h2]), rfl⟩
  · have q0 : decide ((k.length : Int) ≥ 1) = false := decide_eq_false (by omega)
    go_enter Try.func32, Try.ntmps32
    go_wp2
    go_ret
    exact ⟨ret_bool (by simp [kyB, h1]), rfl⟩
theorem rkey_to {k : List UInt8} {b : Bool} (h : kyB k = b) (w : World) : Calls Try.prog 32 #[.string (bstr k)] w fun e w' => e = .returned (.bool b) ∧ w' = w := h ▸ rkey_any k w

set_option maxRecDepth 100000 in
set_option maxHeartbeats 4000000 in
theorem rmay_any (v : Value) (n : Nd) (w : World) (h : NdV w v n) (hk : n.keys.length ≤ 1000000) (hv : n.vals.length ≤ 1000000) :
    Calls Try.prog 31 #[v] w fun e w' => e = .returned (.bool (mayB n)) ∧ Below w.heap.size w w' := by
  obtain ⟨vk, vv, rfl, h1, h2⟩ := h
  obtain ⟨A, c, rfl⟩ := h1.form
  obtain ⟨C, d, rfl⟩ := h2.form
  obtain ⟨leaf, ks, vs⟩ := n
  simp only at h1 h2 hk hv ⊢
  have H1 := Lib.hid h1
  have H2 := Lib.hid h2
  obtain ⟨w0, hw0⟩ : ∃ x, w.alloc (.cells #[.bool leaf, .slice A ks.length c, .slice C vs.length d] 24) = x := ⟨_, rfl⟩
  obtain ⟨G, hG⟩ : ∃ x, w.heap.size = x := ⟨_, rfl⟩
  have hb0 : Blk w0 G 24 #[.bool leaf, .slice A ks.length c, .slice C vs.length d] := by rw [← hw0, ← hG]; exact Blk.new _ _ _
  have k0 : Below w.heap.size w w0 := by rw [← hw0]; exact (Below.refl _ _).alloc (Nat.le_refl _) _
  have y1 := hb0.cell 1
  have y2 := hb0.cell 2
  simp at y1 y2
  have kG : Below G w w0 := hG ▸ k0
  clear h1 h2
  by_cases hl : ks.length = vs.length
  · obtain ⟨n, hn⟩ : ∃ n, ks.length = n := ⟨_, rfl⟩
    have hn2 : vs.length = n := by omega
    have HN := Lib.hid hn
    have HN2 := Lib.hid hn2
    by_cases h255 : n ≤ 255
    · have q0 : decide ((n : Int) > 255) = false := decide_eq_false (by omega)
      have hmay : mayB ⟨leaf, ks, vs⟩ = (List.range n).all (okB ks vs) := by
        unfold mayB
        simp only [hn, hn2, h255, decide_true, Bool.true_and]
      have HM := Lib.hid hmay
      rw [hn, hn2] at hb0
      rw [hn] at y1
      rw [hn2] at y2
      rw [hn, hn2]
      rw [hn, hn2] at hw0
      clear hmay hn hn2 hl
      go_enter Try.func31, Try.ntmps31
      go_wp2_with fail
      clear y1 y2
      go_loopw [3] (fun i wr => ∃ k : Nat, k ≤ n ∧ i = .int .i64 k ∧ Hid (∀ j, j < k → okB ks vs j = true) ∧ Below w0.heap.size w0 wr) (fun i _ => n - (intOf i).toNat)
      case atStart => exact ⟨0, Nat.zero_le _, rfl, Lib.hid (fun j hj => by omega), Below.refl _ _⟩
      case round =>
        obtain ⟨k, hkn, rfl, HA, kr⟩ := hrel
        have hbr := hb0.below kr hb0.lt
        have y1 := hbr.cell 1
        have y2 := hbr.cell 2
        simp at y1 y2
        have kr' := hthen k0 kr
        have krG : Below G w wr := hG ▸ kr'
        by_cases hlt : k < n
        · have q1 : decide ((k : Int) < n) = true := decide_eq_true (by omega)
          have T0 : (0 : Int) ≤ k := by omega
          have T1 : (k : Int) < n := by omega
          obtain ⟨ad, rfl, c1⟩ := H1.out.cell kr' (j := k) (by rw [HN.out]; exact hlt)
          obtain ⟨bd, rfl, c2⟩ := H2.out.cell kr' (j := k) (by rw [HN2.out]; exact hlt)
          have hok : okB ks vs k = (plB (ks.getD k []) (vs.getD k []) && (decide (k = 0) || Op.bytesLess (ks.getD (k - 1) []) (ks.getD k []))) := rfl
          obtain ⟨X, hX⟩ : ∃ y, ks.getD k [] = y := ⟨_, rfl⟩
          obtain ⟨Y, hY⟩ : ∃ y, vs.getD k [] = y := ⟨_, rfl⟩
          rw [hX] at c1 hok
          rw [hY] at c2 hok
          have hx : (bstr X).size = X.length := by simp [bstr, ByteArray.size]
          have hy : (bstr Y).size = Y.length := by simp [bstr, ByteArray.size]
          have HNO : okB ks vs k = false → Hid (mayB ⟨leaf, ks, vs⟩ = false) := fun e => Lib.hid (may_bad (n := ⟨leaf, ks, vs⟩) (by show k < ks.length; rw [HN.out]; exact hlt) e)
          have HNX : okB ks vs k = true → Hid (∀ j, j < k + 1 → okB ks vs j = true) := fun e => Lib.hid (fun j hj => by
            by_cases hjk : j = k
            · rw [hjk]; exact e
            · exact HA.out j (by omega))
          clear hX hY hw0
          cases hky : kyB X
          · have HX := HNO (by rw [hok]; unfold plB; rw [hky]; rfl)
            have HK := Lib.hid hky
            clear HNO HNX hok hky
            go_wp2_with fail
            go_quiet ((go_at_call 32; exact Calls.quiet_of_same (rkey_to HK.out _)))
            go_wp2
            go_ret
            exact ⟨by rw [HX.out]; rfl, by first | exact kr'.dN _ | exact krG.dN _⟩
          · by_cases hv120 : Y.length ≤ 120
            · have q5 : decide ((Y.length : Int) > 120) = false := decide_eq_false (by omega)
              have hp : plB X Y = true := by unfold plB; rw [hky, decide_eq_true hv120]; rfl
              have HK := Lib.hid hky
              clear hky
              by_cases hk0 : k = 0
              · have q2 : decide ((k : Int) > 0) = false := decide_eq_false (by omega)
                have q3 : ¬ 0 < k := by omega
                have HX := HNX (by rw [hok, hp, decide_eq_true hk0]; rfl)
                clear HNO HNX hok hk0 hp
                go_wp2_with fail
                go_quiet ((go_at_call 32; exact Calls.quiet_of_same (rkey_to HK.out _)))
                go_wp2
                go_round
                case rel => exact ⟨k + 1, by omega, by go_num, HX, kr.dN _⟩
                case measure => simp [intOf]; omega
              · have q2 : decide ((k : Int) > 0) = true := decide_eq_true (by omega)
                have q3 : 0 < k := by omega
                have q6 : decide (0 < k) = true := decide_eq_true q3
                have T2 : (0 : Int) ≤ k - 1 := by omega
                have T3 : (1 : Int) ≤ k := by omega
                have T4 : (k : Int) - 1 < n := by omega
                obtain ⟨ad', e', c3⟩ := H1.out.cell kr' (j := k - 1) (by rw [HN.out]; omega)
                cases e'
                have hnn : ((k : Int) - 1).toNat = k - 1 := by omega
                have e1 : IntKind.i64.wrap ((k : Int) - 1) = k - 1 := IntWalk.i64_in _ ⟨by omega, by omega⟩
                obtain ⟨Z, hZ⟩ : ∃ y, ks.getD (k - 1) [] = y := ⟨_, rfl⟩
                rw [hZ] at c3 hok
                clear hZ
                cases hls : Op.bytesLess Z X
                · have HX := HNO (by rw [hok, hp, hls, decide_eq_false hk0]; rfl)
                  clear HNO HNX hok hk0 hp
                  go_wp2_with fail
                  go_quiet ((go_at_call 32; exact Calls.quiet_of_same (rkey_to HK.out _)))
                  go_wp2
                  go_ret
                  exact ⟨by rw [HX.out]; rfl, by first | exact kr'.dN _ | exact krG.dN _⟩
                · have HX := HNX (by rw [hok, hp, hls]; simp)
                  clear HNO HNX hok hk0 hp
                  go_wp2_with fail
                  go_quiet ((go_at_call 32; exact Calls.quiet_of_same (rkey_to HK.out _)))
                  go_wp2
                  go_round
                  case rel => exact ⟨k + 1, by omega, by go_num, HX, kr.dN _⟩
                  case measure => simp [intOf]; omega
            · have q5 : decide ((Y.length : Int) > 120) = true := decide_eq_true (by omega)
              have HX := HNO (by rw [hok]; unfold plB; rw [decide_eq_false hv120]; simp)
              have HK := Lib.hid hky
              clear HNO HNX hok hky
              go_wp2_with fail
              go_quiet ((go_at_call 32; exact Calls.quiet_of_same (rkey_to HK.out _)))
              go_wp2
              go_ret
              exact ⟨by rw [HX.out]; rfl, by first | exact kr'.dN _ | exact krG.dN _⟩
        · obtain rfl : k = n := by omega
          have q1 : decide ((k : Int) < k) = false := by simp
          have HX : Hid (mayB ⟨leaf, ks, vs⟩ = true) := Lib.hid (by rw [HM.out, List.all_eq_true]; intro j hj; exact HA.out j (List.mem_range.1 hj))
          go_wp2
          go_ret
          exact ⟨by rw [HX.out]; rfl, by first | exact kr' | exact krG⟩
    · have q0 : decide ((n : Int) > 255) = true := decide_eq_true (by omega)
      have HX : Hid (mayB ⟨leaf, ks, vs⟩ = false) := Lib.hid (by unfold mayB; simp only [hn, hn2, decide_eq_false h255, decide_true, Bool.and_false, Bool.false_and])
      rw [hn] at y1
      rw [hn2] at y2
      rw [hn, hn2]
      rw [hn, hn2] at hw0
      clear hn hn2 hl hb0
      go_enter Try.func31, Try.ntmps31
      go_wp2
      go_ret
      exact ⟨by rw [HX.out]; rfl, by first | exact k0 | exact kG⟩
  · have q0 : ((ks.length : Int) != vs.length) = true := bne_iff_ne.2 (by omega)
    have HX : Hid (mayB ⟨leaf, ks, vs⟩ = false) := Lib.hid (by unfold mayB; simp only [hl, decide_false, Bool.false_and])
    clear hb0 hl
    go_enter Try.func31, Try.ntmps31
    go_wp2
    go_ret
    exact ⟨by rw [HX.out]; rfl, by first | exact k0 | exact kG⟩
theorem rmay_to {n : Nd} {b : Bool} (hm : mayB n = b) (v : Value) (w : World) (h : NdV w v n) (hk : n.keys.length ≤ 1000000) (hv : n.vals.length ≤ 1000000) :
    Calls Try.prog 31 #[v] w fun e w' => e = .returned (.bool b) ∧ Below w.heap.size w w' := hm ▸ rmay_any v n w h hk hv
end Go.Proofs.Ytiodeeliidhbgaa
