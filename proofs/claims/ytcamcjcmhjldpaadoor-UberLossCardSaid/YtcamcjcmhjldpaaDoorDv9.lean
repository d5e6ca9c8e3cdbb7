/- Package dev: Crash: its contract. -/
import Derived.Test.YtcamcjcmhjldpaaDoorDv8
namespace Go.Proofs.YtcamcjcmhjldpaaDoor
open Go.RowKit
set_option linter.unusedSimpArgs false
set_option linter.unnecessarySimpa false
set_option linter.unusedVariables false

/-- those that are kept are done, and none waits -/
def Dv.crash (d : Dv) (kl : List Bool) : Dv := { d.settle (kpB kl) d.ws.length with ws := [] }
set_option maxHeartbeats 1000000 in
theorem done_cr (g b0 b1 : Nat) (v : Value) (d : Dv) (kb : Nat) (kl : List Bool) (hws : ∀ x ∈ d.ws, d.has x.loc) (hn : d.ws.length ≤ 100000) (w : World) (h : DvAt w g b0 b1 v d) (hk : KpAt b0 b1 w kb kl) :
    Calls Tryd.prog 41 #[.pointer (some ⟨g, 0, none⟩), .func (.func 43) #[] #[.pointer (some ⟨kb, 0, none⟩)]] w fun e w' => e = .returned (.int .i64 0) ∧ DvAt w' g b0 b1 (.slice none 0 0) (d.crash kl) ∧ Keep w.heap.size (fun k => k = g ∨ k = b0 ∨ k = b1) w w' := by
  have y4 := h.cell4.1
  go_enter Tryd.func41, Tryd.ntmps41
  go_wp2_with fail
  refine (settle_cr g b0 b1 v d kb kl hws hn w h hk).mono ?_
  rintro e w1 ⟨rfl, h1, k1⟩
  have z4 := h1.cell4.1
  have f4 := h1.cell4.2
  go_wp2
  go_ret
  exact ⟨rfl, h1.nilled, (k1.mono (Nat.le_refl _) (fun _ _ h => .inr h)).setCell (p := ⟨g, 4, none⟩) (.inr (.inl rfl)) _⟩

set_option maxHeartbeats 1000000 in
theorem crash_any (g b0 b1 : Nat) (v : Value) (d : Dv) (A : Option Addr) (c : Nat) (kl : List Bool) (hws : ∀ x ∈ d.ws, d.has x.loc) (hn : d.ws.length ≤ 100000) (w : World) (h : DvAt w g b0 b1 v d)
    (hk : ∀ i (h : i < kl.length), ∃ ad : Addr, A = some ad ∧ ad.block < w.heap.size ∧ ad.block ≠ b0 ∧ ad.block ≠ b1 ∧ w.cell? (ad.add i) = some (.bool kl[i])) :
    Calls Tryd.prog 19 #[.pointer (some ⟨g, 0, none⟩), .slice A kl.length c] w fun e w' => e = .returned (.int .i64 0) ∧ DvAt w' g b0 b1 (.slice none 0 0) (d.crash kl) ∧ Keep w.heap.size (fun k => k = g ∨ k = b0 ∨ k = b1) w w' := by
  go_enter Tryd.func19, Tryd.ntmps19
  go_wp2_with fail
  obtain ⟨kb, hkb⟩ : ∃ g, w.heap.size = g := ⟨_, rfl⟩
  obtain ⟨w0, hw0⟩ : ∃ x, w.alloc (.cells #[.slice A kl.length c] 38) = x := ⟨_, rfl⟩
  have bx : Below w.heap.size w w0 := by rw [← hw0]; exact (Below.refl _ _).alloc (Nat.le_refl _) _
  have hx : Blk w0 kb 38 #[.slice A kl.length c] := by rw [← hw0, ← hkb]; exact Blk.new _ _ _
  have hkp : KpAt b0 b1 w0 kb kl := by
    refine ⟨A, c, hx, by have := h.lt (k := b0) (.inr (.inl rfl)); omega, by have := h.lt (k := b1) (.inr (.inr (.inl rfl))); omega, fun i hi => ?_⟩
    obtain ⟨ad, rfl, h1, h2, h3, h4⟩ := hk i hi
    have e : (ad.add i).block = ad.block := by unfold Addr.add; split <;> rfl
    exact ⟨ad, rfl, Nat.lt_of_lt_of_le h1 bx.size, h2, h3, by rw [bx.cell (by rw [e]; exact h1)]; exact h4⟩
  rw [hw0]
  try rw [hkb]
  refine (done_cr g b0 b1 v d kb kl hws hn w0 (h.below bx) hkp).mono ?_
  rintro e w1 ⟨rfl, h1, k1⟩
  go_wp2
  go_ret
  exact ⟨rfl, h1, (Keep.of_below bx).trans (k1.mono bx.size (fun _ _ h => h))⟩

end Go.Proofs.YtcamcjcmhjldpaaDoor
