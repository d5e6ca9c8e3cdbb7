/- Package heat's laws: live; HeatNil. -/
import Derived.Test.YtefobchpcdniiaaHw
namespace Go.Proofs.Ytefobchpcdniiaa
open Go Go.RowKit Go.Maps
set_option linter.unusedSimpArgs false
set_option linter.unnecessarySimpa false
set_option linter.unusedVariables false

theorem wf0 : (Lit.int .i64 0).wf = true := by decide
theorem wf1 : (Lit.int .i64 1).wf = true := by decide
theorem wf2 : (Lit.int .i64 2).wf = true := by decide
theorem wf40 : (Lit.int .i64 40).wf = true := by decide
theorem short (k : List UInt8) (h : k.length ≤ 100) : k.length ≤ maxLen := by unfold maxLen; omega
set_option maxRecDepth 100000 in
set_option maxHeartbeats 2000000 in
theorem live_ok (w : World) : Calls Try.prog 9 #[] w fun e w' => e = .returned (.bool true) ∧ Below w.heap.size w w' := by
  go_enter Try.func9, Try.ntmps9
  go_wp2_with fail
  refine (new_heat w).mono ?_
  rintro e w1 ⟨g, b, rfl, h1, hb1, hgw, hbw⟩
  have hs1 := hb1.size
  go_wp2_with fail
  refine (touch_any g b [] [97] 0 (by decide) wf0 (by decide) w1 h1).mono ?_
  rintro e w2 ⟨rfl, h2, k2⟩
  have hb2 := bkeep hb1 hbw hs1 k2
  have hs2 := hb2.size
  go_wp2_with fail
  refine (touch_any g b _ [98] 1 (by decide) wf1 (by decide +kernel) w2 h2).mono ?_
  rintro e w3 ⟨rfl, h3, k3⟩
  have hb3 := bkeep hb2 hbw hs2 k3
  have hs3 := hb3.size
  go_wp2_with fail
  refine (touch_any g b _ [98] 1 (by decide) wf1 (by decide +kernel) w3 h3).mono ?_
  rintro e w4 ⟨rfl, h4, k4⟩
  have hb4 := bkeep hb3 hbw hs3 k4
  have hs4 := hb4.size
  go_wp2_with fail
  refine (touch_any g b _ [99] 1 (by decide) wf1 (by decide +kernel) w4 h4).mono ?_
  rintro e w5 ⟨rfl, h5, k5⟩
  have hb5 := bkeep hb4 hbw hs4 k5
  have hs5 := hb5.size
  have h5 : HeatAt w5 g b liveL4 := h5
  go_wp2_with fail
  refine (hot_any g b liveL4 1 2 wf1 (by decide +kernel) w5 h5).mono ?_
  rintro e w6 ⟨x, rfl, hx6, hb65⟩
  rw [live_hot1] at hx6
  have h6 := h5.below hb65
  have hb6 := hthen hb5 hb65
  have hs6 := hb6.size
  have hxb : ∀ k, x.ownBlock = some k → k ≠ b := fun k e => by have := (hx6.lt k e).1; have := h5.lt.2; omega
  go_wp2_with fail
  refine (hot_any g b liveL4 40 9 wf40 (by decide +kernel) w6 h6).mono ?_
  rintro e w7 ⟨y, rfl, hy7, hb76⟩
  rw [live_hot2] at hy7
  have h7 := h6.below hb76
  have hx7 := row_below hx6 hb76
  have hb7 := hthen hb6 hb76
  have hs7 := hb7.size
  obtain ⟨Ay, cy, rfl⟩ : ∃ A c, y = .slice A 0 c := by
    rcases hy7.2 with ⟨rfl, _⟩ | ⟨g', cap', cur', rfl, _⟩
    · exact ⟨_, _, rfl⟩
    · exact ⟨_, _, rfl⟩
  go_wp2_with fail
  refine (forget_any g b liveL4 [99] (by decide) w7 h7).mono ?_
  rintro e w8 ⟨rfl, h8, k8⟩
  have hb8 := bkeep hb7 hbw hs7 k8
  have hs8 := hb8.size
  have hx8 := row_keep hx7 k8 (fun k e => ⟨(hx7.lt k e).2, hxb k e⟩)
  clear hy7
  go_wp2_with fail
  refine (value_any g b _ [97] 0 (by decide) wf0 w8 h8).mono ?_
  rintro e w9 ⟨rfl, hb98⟩
  rw [live_v1]
  have h9 := h8.below hb98
  have hx9 := row_below hx8 hb98
  have hb9 := hthen hb8 hb98
  go_wp2_with fail
  refine (value_any g b _ [97] 2 (by decide) wf2 w9 h9).mono ?_
  rintro e w10 ⟨rfl, hb109⟩
  rw [live_v2]
  have h10 := h9.below hb109
  have hx10 := row_below hx9 hb109
  have hb10 := hthen hb9 hb109
  go_wp2_with fail
  refine (value_any g b _ [98] 1 (by decide) wf1 w10 h10).mono ?_
  rintro e w11 ⟨rfl, hb1110⟩
  rw [live_v3]
  have h11 := h10.below hb1110
  have hx11 := row_below hx10 hb1110
  have hb11 := hthen hb10 hb1110
  go_wp2_with fail
  refine (value_any g b _ [99] 1 (by decide) wf1 w11 h11).mono ?_
  rintro e w12 ⟨rfl, hb1211⟩
  rw [live_v4]
  have h12 := h11.below hb1211
  have hx12 := row_below hx11 hb1211
  have hb12 := hthen hb11 hb1211
  have hba : Below w12.heap.size w12 (w12.alloc (.cells #[.string (bstr [98]), .string (bstr [99])] 9)) := (Below.refl _ _).alloc (Nat.le_refl _) _
  have hxa := ss_own (row_below hx12 hba)
  have hya : SsAt (w12.alloc (.cells #[.string (bstr [98]), .string (bstr [99])] 9)) (.slice (some ⟨w12.heap.size, 0, none⟩) 2 2) [[98], [99]] := by
    have hk := Blk.new w12 9 #[.string (bstr [98]), .string (bstr [99])]
    refine ⟨_, 2, rfl, fun j hj => ⟨_, rfl, ?_⟩⟩
    have hj : j < 2 := hj
    have : j = 0 ∨ j = 1 := by omega
    rcases this with rfl | rfl
    · exact hk.cell 0
    · exact hk.cell 1
  have hha := h12.below hba
  have hbb := hthen hb12 hba
  have SM := same_any [[98], [99]] [[98], [99]] x _ (by decide) (by decide) _ hxa hya
  have HSM := Lib.hid SM
  clear SM
  go_wp2_with fail
  refine (HSM.out).mono ?_
  rintro e w13 ⟨rfl, hb13⟩
  have h13 := hha.below hb13
  have hb13' := hthen hbb hb13
  go_wp2_with fail
  refine (len_any g b _ w13 h13).mono ?_
  rintro e w14 ⟨rfl, hb14⟩
  rw [live_len]
  have hb14' := hthen hb13' hb14
  go_wp2
  go_ret
  exact ⟨rfl, hb14'⟩

set_option maxRecDepth 100000 in
set_option maxHeartbeats 1000000 in
theorem heatNil_walk (w : World) (a0 : List UInt8) (h0 : a0.length ≤ 140737488351232) (a1 : Int) (h1 : (Lit.int .i64 a1).wf = true) :
    Calls Try.prog 6 #[.string (bstr a0), .int .i64 a1] w fun e w' => e = .returned (.bool true) ∧ Below w.heap.size w w' := by
  go_enter Try.func6, Try.ntmps6
  go_wp2_with fail
  refine (touch_none a0 a1 w).mono ?_
  rintro e w1 ⟨rfl, hw⟩
  rw [hw]
  clear hw
  go_wp2_with fail
  refine (forget_none a0 w).mono ?_
  rintro e w1 ⟨rfl, hw⟩
  rw [hw]
  clear hw
  go_wp2_with fail
  refine (value_none a0 a1 w).mono ?_
  rintro e w1 ⟨rfl, hw⟩
  rw [hw]
  clear hw
  go_wp2_with fail
  refine (hot_none a1 5 w).mono ?_
  rintro e w1 ⟨rfl, hw⟩
  rw [hw]
  clear hw
  go_wp2_with fail
  refine (len_none w).mono ?_
  rintro e w1 ⟨rfl, hw⟩
  rw [hw]
  clear hw
  go_wp2_with fail
  refine (live_ok w).mono ?_
  rintro e w1 ⟨rfl, hb⟩
  go_wp2
  go_ret
  exact ⟨rfl, hb⟩
end Go.Proofs.Ytefobchpcdniiaa
