/- Package heat: Less: its contract; through the interface. -/
import Derived.Test.YtefobchpcdniiaaHp
import Derived.Test.YtefobchpcdniiaaStl
namespace Go.Proofs.Ytefobchpcdniiaa
open Go Go.RowKit Go.Maps
set_option linter.unusedSimpArgs false
set_option linter.unnecessarySimpa false
set_option linter.unusedVariables false

set_option maxHeartbeats 1000000 in
theorem less_any (lb rb cap m : Nat) (c : List It) (rest : List Value) (i k : Nat) (hi : i < m) (hk : k < m) (w : World) (h : HpAt w lb rb cap m c rest) :
    Calls Try.prog 44 #[.slice (some ⟨rb, 0, none⟩) m cap, .int .i64 i, .int .i64 k] w fun e w' => e = .returned (.bool (ltI (c.getD i default) (c.getD k default))) ∧ Below w.heap.size w w' := by
  have hle := h.le
  obtain ⟨a0, a1⟩ := h.cells i (by omega)
  obtain ⟨b0, b1⟩ := h.cells k (by omega)
  obtain ⟨⟨xk, xw⟩, hX⟩ : ∃ y, c.getD i default = y := ⟨_, rfl⟩
  obtain ⟨⟨yk, yw⟩, hY⟩ : ∃ y, c.getD k default = y := ⟨_, rfl⟩
  rw [hX] at a0 a1
  rw [hY] at b0 b1
  rw [hX, hY]
  simp only at a0 a1 b0 b1
  have T0 : (0 : Int) ≤ i := by omega
  have T1 : (i : Int) < m := by omega
  have T2 : (0 : Int) ≤ k := by omega
  have T3 : (k : Int) < m := by omega
  clear hX hY h
  by_cases hw : xw = yw
  · have q1 : (xw != yw) = false := bne_eq_false_iff_eq.2 hw
    have hlt : ltI ⟨xk, xw⟩ ⟨yk, yw⟩ = decide (Lib.compareBytes xk yk < 0) := by unfold ltI; rw [if_pos hw]
    rw [hlt]
    have HL := Lib.hid hlt
    clear hlt hw
    have C := compare_any xk yk
    go_enter Try.func44, Try.ntmps44
    go_wp2_with fail
    refine wp_region_quiet (by kernel_rfl) (by kernel_rfl) ?_
    repeat still_step
    refine wpStill_nil ?_
    go_wp2_with fail
    refine wp_region_quiet (by kernel_rfl) (by kernel_rfl) ?_
    repeat still_step
    still_call (C _)
    repeat still_step
    refine wpStill_nil ?_
    go_wp2
    go_ret
    exact ⟨rfl, ((Below.refl _ _).drew).drew⟩
  · have q1 : (xw != yw) = true := bne_iff_ne.2 hw
    have hlt : ltI ⟨xk, xw⟩ ⟨yk, yw⟩ = decide (yw < xw) := by unfold ltI; rw [if_neg hw]
    rw [hlt]
    clear hlt hw
    go_enter Try.func44, Try.ntmps44
    go_wp2_with fail
    refine wp_region_quiet (by kernel_rfl) (by kernel_rfl) ?_
    repeat still_step
    refine wpStill_nil ?_
    go_wp2_with fail
    refine wp_region_quiet (by kernel_rfl) (by kernel_rfl) ?_
    repeat still_step
    refine wpStill_nil ?_
    go_wp2
    go_ret
    exact ⟨rfl, ((Below.refl _ _).drew).drew⟩
end Go.Proofs.Ytefobchpcdniiaa
