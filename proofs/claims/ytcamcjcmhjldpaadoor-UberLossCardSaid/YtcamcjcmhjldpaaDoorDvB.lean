/- Package dev: the closures of Lose and Spoil: contracts. -/
import Derived.Test.YtcamcjcmhjldpaaDoorDvA
namespace Go.Proofs.YtcamcjcmhjldpaaDoor
open Go.RowKit
set_option linter.unusedSimpArgs false
set_option linter.unnecessarySimpa false
set_option linter.unusedVariables false

theorem alloc_cell {w : World} {g i : Nat} {u : Value} (h : w.cell? ⟨g, i, none⟩ = some u) (hg : g < w.heap.size) (o : Obj) : (w.alloc o).cell? ⟨g, i, none⟩ = some u := by
  rw [(((Below.refl w.heap.size w).alloc (Nat.le_refl _) o).cell (p := ⟨g, i, none⟩) hg)]; exact h

set_option maxHeartbeats 1000000 in
theorem ls1_any (kb : Nat) (dv : Int) (x : Wr) (w : World) (h : Blk w kb 3 #[.int .i64 dv]) :
    Calls Tryd.prog 50 #[.agg #[.int .i64 x.loc.dev, .int .i64 x.loc.pos, .string (bstr x.text)], .pointer (some ⟨kb, 0, none⟩)] w fun e w' => e = .returned (.bool (x.loc.dev == dv)) ∧ Below w.heap.size w w' := by
  have c0 := h.cell 0
  simp at c0
  have c1 := fun o => alloc_cell c0 h.lt o
  go_enter Tryd.func50, Tryd.ntmps50
  go_wp2
  go_ret
  exact ⟨rfl, (Below.refl _ _).alloc (Nat.le_refl _) _⟩

theorem lc_eq (a b : Lc) : a = b ↔ a.dev = b.dev ∧ a.pos = b.pos := by
  cases a; cases b; simp
set_option maxHeartbeats 1000000 in
theorem sp1_any (kb : Nat) (l : Lc) (x : Wr) (w : World) (h : Blk w kb 51 #[.int .i64 l.dev, .int .i64 l.pos]) :
    Calls Tryd.prog 47 #[.agg #[.int .i64 x.loc.dev, .int .i64 x.loc.pos, .string (bstr x.text)], .pointer (some ⟨kb, 0, none⟩)] w fun e w' => e = .returned (.bool (decide (x.loc = l))) ∧ Below w.heap.size w w' := by
  have c0 := h.cell 0
  have d0 := h.cell 1
  simp at c0 d0
  have c1 := fun o => alloc_cell c0 h.lt o
  have d1 := fun o => alloc_cell d0 h.lt o
  go_enter Tryd.func47, Tryd.ntmps47
  go_wp2
  all_goals go_ret
  all_goals exact ⟨ret_bool (by first | (simp_all [lc_eq]; done) | (rw [Bool.eq_iff_iff]; simp_all [lc_eq]; done)), (Below.refl _ _).alloc (Nat.le_refl _) _⟩

end Go.Proofs.YtcamcjcmhjldpaaDoor
