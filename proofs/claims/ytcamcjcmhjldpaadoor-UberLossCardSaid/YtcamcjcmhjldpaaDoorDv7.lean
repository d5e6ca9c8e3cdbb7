/- Package dev: done and Flush: contracts. -/
import Derived.Test.YtcamcjcmhjldpaaDoorDv6
namespace Go.Proofs.YtcamcjcmhjldpaaDoor
open Go.RowKit
set_option linter.unusedSimpArgs false
set_option linter.unnecessarySimpa false
set_option linter.unusedVariables false

theorem DvAt.nilled {w : World} {g b0 b1 : Nat} {v : Value} {d : Dv} (h : DvAt w g b0 b1 v d) : DvAt (w.setCell ⟨g, 4, none⟩ (.slice none 0 0)) g b0 b1 (.slice none 0 0) { d with ws := [] } :=
  h.setWs _ [] (Owns.nil _ _ _)

/-- all that wait are done, and none waits -/
def Dv.flush (d : Dv) : Dv := { d.settle (fun _ => true) d.ws.length with ws := [] }
set_option maxHeartbeats 1000000 in
theorem done_all (g b0 b1 : Nat) (v : Value) (d : Dv) (hws : ∀ x ∈ d.ws, d.has x.loc) (hn : d.ws.length ≤ 100000) (w : World) (h : DvAt w g b0 b1 v d) :
    Calls Tryd.prog 41 #[.pointer (some ⟨g, 0, none⟩), .func (.func 42) #[] #[]] w fun e w' => e = .returned (.int .i64 0) ∧ DvAt w' g b0 b1 (.slice none 0 0) d.flush ∧ Keep w.heap.size (fun k => k = g ∨ k = b0 ∨ k = b1) w w' := by
  have y4 := h.cell4.1
  go_enter Tryd.func41, Tryd.ntmps41
  go_wp2_with fail
  refine (settle_all g b0 b1 v d hws hn w h).mono ?_
  rintro e w1 ⟨rfl, h1, k1⟩
  have z4 := h1.cell4.1
  have f4 := h1.cell4.2
  go_wp2
  go_ret
  exact ⟨rfl, h1.nilled, (k1.mono (Nat.le_refl _) (fun _ _ h => .inr h)).setCell (p := ⟨g, 4, none⟩) (.inr (.inl rfl)) _⟩

set_option maxHeartbeats 1000000 in
theorem flush_any (g b0 b1 : Nat) (v : Value) (d : Dv) (hws : ∀ x ∈ d.ws, d.has x.loc) (hn : d.ws.length ≤ 100000) (w : World) (h : DvAt w g b0 b1 v d) :
    Calls Tryd.prog 18 #[.pointer (some ⟨g, 0, none⟩)] w fun e w' => e = .returned (.int .i64 0) ∧ DvAt w' g b0 b1 (.slice none 0 0) d.flush ∧ Keep w.heap.size (fun k => k = g ∨ k = b0 ∨ k = b1) w w' := by
  go_enter Tryd.func18, Tryd.ntmps18
  go_wp2_with fail
  refine (done_all g b0 b1 v d hws hn w h).mono ?_
  rintro e w1 ⟨rfl, h1, k1⟩
  go_wp2
  go_ret
  exact ⟨rfl, h1, k1⟩

end Go.Proofs.YtcamcjcmhjldpaaDoor
