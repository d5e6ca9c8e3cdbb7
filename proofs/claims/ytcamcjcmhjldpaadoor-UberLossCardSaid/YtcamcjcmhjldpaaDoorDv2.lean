/- Package dev: the contract of may. -/
import Derived.Test.YtcamcjcmhjldpaaDoorDv
namespace Go.Proofs.YtcamcjcmhjldpaaDoor
open Go.RowKit
set_option linter.unusedSimpArgs false
set_option linter.unnecessarySimpa false
set_option linter.unusedVariables false

set_option maxHeartbeats 4000000 in
theorem may_any (g b0 b1 : Nat) (v : Value) (d : Dv) (l : Lc) (s : List UInt8) (w : World) (h : DvAt w g b0 b1 v d) :
    Calls Tryd.prog 45 #[.pointer (some ⟨g, 0, none⟩), .agg #[.int .i64 l.dev, .int .i64 l.pos], .string (bstr s)] w fun e w' => e = .returned (.int .i64 (mayE d l s)) ∧ Below w.heap.size w w' := by
  obtain ⟨dev, pos⟩ := l
  simp only
  obtain ⟨k0, k1, hG, hS0, hS1⟩ := h.hx
  have a0 := fun o => (hG.alloc o).cell 0
  have a1 := fun o => (hG.alloc o).cell 1
  have a2 := fun o => (hG.alloc o).cell 2
  have a3 := fun o => (hG.alloc o).cell 3
  simp at a0 a1 a2 a3
  have hbel : ∀ o n, Below w.heap.size w ((w.alloc o).drewN n) := fun o n => ((Below.refl _ _).alloc (Nat.le_refl _) o).dN n
  clear h hG hS0 hS1
  cases hb : isB dev with
  | false =>
    have e : mayE d ⟨dev, pos⟩ s = 1 := by simp [mayE, hb]
    rw [e]
    have HB := Lib.hid hb
    clear hb e
    go_enter Tryd.func45, Tryd.ntmps45
    go_wp2_with fail
    go_quiet ((go_at_call 49; exact quiet_same (is_to HB.out _ _)))
    go_wp2
    go_ret
    exact ⟨rfl, hbel _ _⟩
  | true =>
    have h01 : dev = 0 ∨ dev = 1 := by simpa [isB] using hb
    have HB := Lib.hid hb
    clear hb
    rcases h01 with rfl | rfl
    · by_cases t1 : pos < 0
      · have q1 : decide (pos < 0) = true := decide_eq_true t1
        rw [show mayE d ⟨0, pos⟩ s = 1 by simp [mayE, isB, Dv.sec, t1]]
        go_enter Tryd.func45, Tryd.ntmps45
        go_wp2_with fail
        go_quiet ((go_at_call 49; exact quiet_same (is_to HB.out _ _)))
        go_wp2
        go_ret
        exact ⟨rfl, hbel _ _⟩
      · have q1 : decide (pos < 0) = false := decide_eq_false t1
        by_cases t2 : (d.s0.length : Int) ≤ pos
        · have q2 : decide ((d.s0.length : Int) ≤ pos) = true := decide_eq_true t2
          rw [show mayE d ⟨0, pos⟩ s = 1 by simp [mayE, isB, Dv.sec, t2]]
          go_enter Tryd.func45, Tryd.ntmps45
          go_wp2_with fail
          go_quiet ((go_at_call 49; exact quiet_same (is_to HB.out _ _)))
          go_wp2
          go_ret
          exact ⟨rfl, hbel _ _⟩
        · have q2 : decide ((d.s0.length : Int) ≤ pos) = false := decide_eq_false t2
          by_cases t3 : 1024 < s.length
          · have q3 : decide (1024 < (s.length : Int)) = true := decide_eq_true (by omega)
            rw [show mayE d ⟨0, pos⟩ s = 1 by simp [mayE, isB, Dv.sec, t3]]
            go_enter Tryd.func45, Tryd.ntmps45
            go_wp2_with fail
            go_quiet ((go_at_call 49; exact quiet_same (is_to HB.out _ _)))
            go_wp2
            go_ret
            exact ⟨rfl, hbel _ _⟩
          · have q3 : decide (1024 < (s.length : Int)) = false := decide_eq_false (by omega)
            cases hg : d.l0
            · rw [show mayE d ⟨0, pos⟩ s = 0 by simp [mayE, isB, Dv.sec, Dv.gone, t1, t2, t3, hg]]
              rw [hg] at a2
              go_enter Tryd.func45, Tryd.ntmps45
              go_wp2_with fail
              go_quiet ((go_at_call 49; exact quiet_same (is_to HB.out _ _)))
              go_wp2_with fail
              go_quiet ((fail))
              go_wp2
              go_ret
              exact ⟨rfl, (hbel _ _).dN _⟩
            · rw [show mayE d ⟨0, pos⟩ s = 5 by simp [mayE, isB, Dv.sec, Dv.gone, t1, t2, t3, hg]]
              rw [hg] at a2
              go_enter Tryd.func45, Tryd.ntmps45
              go_wp2_with fail
              go_quiet ((go_at_call 49; exact quiet_same (is_to HB.out _ _)))
              go_wp2_with fail
              go_quiet ((fail))
              go_wp2
              go_ret
              exact ⟨rfl, (hbel _ _).dN _⟩
    · by_cases t1 : pos < 0
      · have q1 : decide (pos < 0) = true := decide_eq_true t1
        rw [show mayE d ⟨1, pos⟩ s = 1 by simp [mayE, isB, Dv.sec, t1]]
        go_enter Tryd.func45, Tryd.ntmps45
        go_wp2_with fail
        go_quiet ((go_at_call 49; exact quiet_same (is_to HB.out _ _)))
        go_wp2
        go_ret
        exact ⟨rfl, hbel _ _⟩
      · have q1 : decide (pos < 0) = false := decide_eq_false t1
        by_cases t2 : (d.s1.length : Int) ≤ pos
        · have q2 : decide ((d.s1.length : Int) ≤ pos) = true := decide_eq_true t2
          rw [show mayE d ⟨1, pos⟩ s = 1 by simp [mayE, isB, Dv.sec, t2]]
          go_enter Tryd.func45, Tryd.ntmps45
          go_wp2_with fail
          go_quiet ((go_at_call 49; exact quiet_same (is_to HB.out _ _)))
          go_wp2
          go_ret
          exact ⟨rfl, hbel _ _⟩
        · have q2 : decide ((d.s1.length : Int) ≤ pos) = false := decide_eq_false t2
          by_cases t3 : 1024 < s.length
          · have q3 : decide (1024 < (s.length : Int)) = true := decide_eq_true (by omega)
            rw [show mayE d ⟨1, pos⟩ s = 1 by simp [mayE, isB, Dv.sec, t3]]
            go_enter Tryd.func45, Tryd.ntmps45
            go_wp2_with fail
            go_quiet ((go_at_call 49; exact quiet_same (is_to HB.out _ _)))
            go_wp2
            go_ret
            exact ⟨rfl, hbel _ _⟩
          · have q3 : decide (1024 < (s.length : Int)) = false := decide_eq_false (by omega)
            cases hg : d.l1
            · rw [show mayE d ⟨1, pos⟩ s = 0 by simp [mayE, isB, Dv.sec, Dv.gone, t1, t2, t3, hg]]
              rw [hg] at a3
              go_enter Tryd.func45, Tryd.ntmps45
              go_wp2_with fail
              go_quiet ((go_at_call 49; exact quiet_same (is_to HB.out _ _)))
              go_wp2_with fail
              go_quiet ((fail))
              go_wp2
              go_ret
              exact ⟨rfl, (hbel _ _).dN _⟩
            · rw [show mayE d ⟨1, pos⟩ s = 5 by simp [mayE, isB, Dv.sec, Dv.gone, t1, t2, t3, hg]]
              rw [hg] at a3
              go_enter Tryd.func45, Tryd.ntmps45
              go_wp2_with fail
              go_quiet ((go_at_call 49; exact quiet_same (is_to HB.out _ _)))
              go_wp2_with fail
              go_quiet ((fail))
              go_wp2
              go_ret
              exact ⟨rfl, (hbel _ _).dN _⟩

theorem may_to {d : Dv} {l : Lc} {s : List UInt8} {e0 : Int} (he : mayE d l s = e0) (g b0 b1 : Nat) (v : Value) (w : World) (h : DvAt w g b0 b1 v d) :
    Calls Tryd.prog 45 #[.pointer (some ⟨g, 0, none⟩), .agg #[.int .i64 l.dev, .int .i64 l.pos], .string (bstr s)] w fun e w' => e = .returned (.int .i64 e0) ∧ Below w.heap.size w w' := by subst he; exact may_any g b0 b1 v d l s w h

set_option maxHeartbeats 1000000 in
theorem may_nil (l : Lc) (s : List UInt8) (w : World) :
    Calls Tryd.prog 45 #[.pointer none, .agg #[.int .i64 l.dev, .int .i64 l.pos], .string (bstr s)] w fun e w' => e = .returned (.int .i64 1) ∧ Below w.heap.size w w' := by
  go_enter Tryd.func45, Tryd.ntmps45
  go_wp2_with fail
  go_quiet ((go_at_call 49; exact quiet_same (is_nil _ _)))
  go_wp2
  go_ret
  exact ⟨rfl, ((Below.refl _ _).alloc (Nat.le_refl _) _).dN _⟩

end Go.Proofs.YtcamcjcmhjldpaaDoor
