/- Package dev: put: contracts. -/
import Derived.Test.YtcamcjcmhjldpaaDoorDv2
namespace Go.Proofs.YtcamcjcmhjldpaaDoor
open Go.RowKit
set_option linter.unusedSimpArgs false
set_option linter.unnecessarySimpa false
set_option linter.unusedVariables false

set_option maxHeartbeats 2000000 in
theorem put0 (g b0 b1 : Nat) (v : Value) (d : Dv) (k : Nat) (t : List UInt8) (hk : k < d.s0.length) (w : World) (h : DvAt w g b0 b1 v d) :
    Calls Tryd.prog 48 #[.pointer (some ⟨g, 0, none⟩), .agg #[.int .i64 0, .int .i64 k, .string (bstr t)]] w fun e w' => e = .returned (.tuple #[]) ∧ DvAt w' g b0 b1 v { d with s0 := d.s0.set k t } ∧ Keep w.heap.size (· = b0) w w' := by
  have hkl : (k : Int) < d.s0.length := by omega
  have hk0 : (0 : Int) ≤ k := by omega
  go_enter Tryd.func48, Tryd.ntmps48
  go_wp2_with fail
  obtain ⟨G, hG⟩ : ∃ g, w.heap.size = g := ⟨_, rfl⟩
  obtain ⟨w0, hw0⟩ : ∃ x, w.alloc (.cells #[.int .i64 0, .int .i64 k, .string (bstr t)] 82) = x := ⟨_, rfl⟩
  have bx : Below w.heap.size w w0 := by rw [← hw0]; exact (Below.refl _ _).alloc (Nat.le_refl _) _
  have hx : Blk w0 G 82 #[.int .i64 0, .int .i64 k, .string (bstr t)] := by rw [← hw0, ← hG]; exact Blk.new _ _ _
  obtain ⟨c0, c1, p0, q0, q1⟩ := (h.below bx).hx
  have n1 : G ≠ b0 := by have := h.lt (k := b0) (.inr (.inl rfl)); omega
  have n2 : g ≠ b0 := h.ng0
  have n3 := h.ne
  have n4 := h.z0
  have hw0' := (h.below bx).hw
  rw [hw0]
  try rw [hG]
  have x0 := hx.cell 0
  have x1 := hx.cell 1
  have x2 := hx.cell 2
  have y0 := p0.cell 0
  have f0 := q0.frozenAt k
  have f1 : w0.cell? ⟨b0, k, none⟩ = some (.string (bstr d.s0[k])) := by rw [q0.cellAt _ (by omega), secV_get _ _ hk]
  simp at x0 x1 x2 y0
  have z0 : ∀ u, (w0.drew.setCell ⟨b0, k, none⟩ u).cell? ⟨G, 0, none⟩ = some (.int .i64 0) := fun u => by have := ((hx.drew).far (p := ⟨b0, k, none⟩) n1 u).cell 0; simpa using this
  have z1 : ∀ u, (w0.drew.setCell ⟨b0, k, none⟩ u).cell? ⟨G, 1, none⟩ = some (.int .i64 k) := fun u => by have := ((hx.drew).far (p := ⟨b0, k, none⟩) n1 u).cell 1; simpa using this
  have z2 : ∀ u, (w0.drew.setCell ⟨b0, k, none⟩ u).cell? ⟨G, 2, none⟩ = some (.string (bstr t)) := fun u => by have := ((hx.drew).far (p := ⟨b0, k, none⟩) n1 u).cell 2; simpa using this
  have z3 : ∀ u, (w0.drew.setCell ⟨b0, k, none⟩ u).cell? ⟨g, 0, none⟩ = some (.slice (some ⟨b0, 0, none⟩) d.s0.length c0) := fun u => by have := ((p0.drew).far (p := ⟨b0, k, none⟩) n2 u).cell 0; simpa using this
  go_region_held3 (fun w' => w'.cell? ⟨G, 0, none⟩ = some (.int .i64 0) ∧ w'.cell? ⟨G, 1, none⟩ = some (.int .i64 k) ∧ w'.cell? ⟨G, 2, none⟩ = some (.string (bstr t)) ∧ w'.cell? ⟨g, 0, none⟩ = some (.slice (some ⟨b0, 0, none⟩) d.s0.length c0))
    (first | exact ⟨x0, x1, x2, y0⟩ | exact ⟨z0 _, z1 _, z2 _, z3 _⟩ | go_keep)
    (fail)
  go_wp2
  go_end0
  refine ⟨rfl, ⟨⟨c0, c1, ?_, ?_, ?_⟩, (hw0'.set n4 _).drew, n3⟩, ((Keep.of_below bx).set1 k _).drew⟩
  · have := (p0.far (p := ⟨b0, k, none⟩) n2 (.string (bstr t))).drew
    simpa using this
  · have := (q0.stored k (.string (bstr t))).1.drew
    rw [secV_set] at this
    simpa using this
  · have := (row_set (i := k) q1 (g := b0) (by intro e; cases e; exact n3 rfl) (.string (bstr t))).drew
    simpa using this

set_option maxHeartbeats 2000000 in
theorem put1 (g b0 b1 : Nat) (v : Value) (d : Dv) (k : Nat) (t : List UInt8) (hk : k < d.s1.length) (w : World) (h : DvAt w g b0 b1 v d) :
    Calls Tryd.prog 48 #[.pointer (some ⟨g, 0, none⟩), .agg #[.int .i64 1, .int .i64 k, .string (bstr t)]] w fun e w' => e = .returned (.tuple #[]) ∧ DvAt w' g b0 b1 v { d with s1 := d.s1.set k t } ∧ Keep w.heap.size (· = b1) w w' := by
  have hkl : (k : Int) < d.s1.length := by omega
  have hk0 : (0 : Int) ≤ k := by omega
  go_enter Tryd.func48, Tryd.ntmps48
  go_wp2_with fail
  obtain ⟨G, hG⟩ : ∃ g, w.heap.size = g := ⟨_, rfl⟩
  obtain ⟨w0, hw0⟩ : ∃ x, w.alloc (.cells #[.int .i64 1, .int .i64 k, .string (bstr t)] 82) = x := ⟨_, rfl⟩
  have bx : Below w.heap.size w w0 := by rw [← hw0]; exact (Below.refl _ _).alloc (Nat.le_refl _) _
  have hx : Blk w0 G 82 #[.int .i64 1, .int .i64 k, .string (bstr t)] := by rw [← hw0, ← hG]; exact Blk.new _ _ _
  obtain ⟨c0, c1, p0, q0, q1⟩ := (h.below bx).hx
  have n1 : G ≠ b1 := by have := h.lt (k := b1) (.inr (.inr (.inl rfl))); omega
  have n2 : g ≠ b1 := h.ng1
  have n3 := h.ne
  have n4 := h.z1
  have hw0' := (h.below bx).hw
  rw [hw0]
  try rw [hG]
  have x0 := hx.cell 0
  have x1 := hx.cell 1
  have x2 := hx.cell 2
  have y0 := p0.cell 1
  have f0 := q1.frozenAt k
  have f1 : w0.cell? ⟨b1, k, none⟩ = some (.string (bstr d.s1[k])) := by rw [q1.cellAt _ (by omega), secV_get _ _ hk]
  simp at x0 x1 x2 y0
  have z0 : ∀ u, (w0.drew.setCell ⟨b1, k, none⟩ u).cell? ⟨G, 0, none⟩ = some (.int .i64 1) := fun u => by have := ((hx.drew).far (p := ⟨b1, k, none⟩) n1 u).cell 0; simpa using this
  have z1 : ∀ u, (w0.drew.setCell ⟨b1, k, none⟩ u).cell? ⟨G, 1, none⟩ = some (.int .i64 k) := fun u => by have := ((hx.drew).far (p := ⟨b1, k, none⟩) n1 u).cell 1; simpa using this
  have z2 : ∀ u, (w0.drew.setCell ⟨b1, k, none⟩ u).cell? ⟨G, 2, none⟩ = some (.string (bstr t)) := fun u => by have := ((hx.drew).far (p := ⟨b1, k, none⟩) n1 u).cell 2; simpa using this
  have z3 : ∀ u, (w0.drew.setCell ⟨b1, k, none⟩ u).cell? ⟨g, 1, none⟩ = some (.slice (some ⟨b1, 0, none⟩) d.s1.length c1) := fun u => by have := ((p0.drew).far (p := ⟨b1, k, none⟩) n2 u).cell 1; simpa using this
  go_region_held3 (fun w' => w'.cell? ⟨G, 0, none⟩ = some (.int .i64 1) ∧ w'.cell? ⟨G, 1, none⟩ = some (.int .i64 k) ∧ w'.cell? ⟨G, 2, none⟩ = some (.string (bstr t)) ∧ w'.cell? ⟨g, 1, none⟩ = some (.slice (some ⟨b1, 0, none⟩) d.s1.length c1))
    (first | exact ⟨x0, x1, x2, y0⟩ | exact ⟨z0 _, z1 _, z2 _, z3 _⟩ | go_keep)
    (fail)
  go_wp2
  go_end0
  refine ⟨rfl, ⟨⟨c0, c1, ?_, ?_, ?_⟩, (hw0'.set n4 _).drew, n3⟩, ((Keep.of_below bx).set1 k _).drew⟩
  · have := (p0.far (p := ⟨b1, k, none⟩) n2 (.string (bstr t))).drew
    simpa using this
  · have := (row_set (i := k) q0 (g := b1) (by intro e; cases e; exact n3 rfl) (.string (bstr t))).drew
    simpa using this
  · have := (q1.stored k (.string (bstr t))).1.drew
    rw [secV_set] at this
    simpa using this

/-- a write that is done -/
def Dv.put (d : Dv) (x : Wr) : Dv := if x.loc.dev = 0 then { d with s0 := d.s0.set x.loc.pos.toNat x.text } else { d with s1 := d.s1.set x.loc.pos.toNat x.text }
/-- may a write wait: is its place there -/
def Dv.has (d : Dv) (l : Lc) : Prop := isB l.dev = true ∧ 0 ≤ l.pos ∧ l.pos < (d.sec l.dev).length
theorem Dv.put_ws (d : Dv) (x : Wr) : (d.put x).ws = d.ws := by unfold Dv.put; split <;> rfl
theorem Dv.put_has (d : Dv) (x : Wr) (l : Lc) : (d.put x).has l ↔ d.has l := by
  unfold Dv.has Dv.put Dv.sec
  by_cases h : x.loc.dev = 0 <;> by_cases h2 : l.dev = 0 <;> simp [h, h2]

theorem dput_any (g b0 b1 : Nat) (v : Value) (d : Dv) (x : Wr) (hx : d.has x.loc) (w : World) (h : DvAt w g b0 b1 v d) :
    Calls Tryd.prog 48 #[.pointer (some ⟨g, 0, none⟩), .agg #[.int .i64 x.loc.dev, .int .i64 x.loc.pos, .string (bstr x.text)]] w fun e w' => e = .returned (.tuple #[]) ∧ DvAt w' g b0 b1 v (d.put x) ∧ Keep w.heap.size (fun k => k = b0 ∨ k = b1) w w' := by
  obtain ⟨⟨dev, pos⟩, t⟩ := x
  obtain ⟨h1, h2, h3⟩ := hx
  simp only at h1 h2 h3 ⊢
  obtain ⟨k, rfl⟩ : ∃ k : Nat, pos = k := ⟨pos.toNat, by omega⟩
  have h01 : dev = 0 ∨ dev = 1 := by simpa [isB] using h1
  rcases h01 with rfl | rfl
  · refine (put0 g b0 b1 v d k t (by simp [Dv.sec] at h3; omega) w h).mono ?_
    rintro e w' ⟨rfl, h4, h5⟩
    exact ⟨rfl, by simpa [Dv.put] using h4, h5.mono (Nat.le_refl _) (fun j _ e => .inl e)⟩
  · refine (put1 g b0 b1 v d k t (by simp [Dv.sec] at h3; omega) w h).mono ?_
    rintro e w' ⟨rfl, h4, h5⟩
    exact ⟨rfl, by simpa [Dv.put] using h4, h5.mono (Nat.le_refl _) (fun j _ e => .inr e)⟩

end Go.Proofs.YtcamcjcmhjldpaaDoor
