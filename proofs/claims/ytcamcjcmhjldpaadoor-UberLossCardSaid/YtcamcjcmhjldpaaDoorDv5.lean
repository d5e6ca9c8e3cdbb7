/- Package dev: New: its contracts. -/
import Derived.Test.YtcamcjcmhjldpaaDoorDv4
namespace Go.Proofs.YtcamcjcmhjldpaaDoor
open Go.RowKit
set_option linter.unusedSimpArgs false
set_option linter.unnecessarySimpa false
set_option linter.unusedVariables false

theorem secC_zero (n : Nat) : madeCells #[Value.string ⟨#[]⟩] n = (secV (List.replicate n [])).toArray := by
  apply Array.ext'
  have h := toList_madeCells_one (.string ⟨#[]⟩) n
  rw [h]
  simp [secV]
theorem run_make_strs (n : Nat) (hn : n ≤ 4096) (w : World) :
    (Instr.makeSlice 53 (.int .i64 n) (.int .i64 n)).run Tryd.prog w = .ok (.slice (some ⟨w.heap.size, 0, none⟩) n n) (w.alloc (.cells (secV (List.replicate n [])).toArray 9)) := by
  obtain ⟨i0, h1, h2, h3, h4⟩ := info_parts (show (Tryd.prog.info? 9).map (fun i => (i.zero, i.size, i.bytes)) = some (some (.string ⟨#[]⟩), 1, 16) from by kernel_rfl)
  have hr := run_make (P := Tryd.prog) w 53 9 i0 _ Tryd.underlying53 h1 h2 .i64 .i64 n n (by omega) (Int.le_refl _) (by rw [h4]; omega) (by omega)
  rw [hr]
  simp only [Int.toNat_natCast, h3, Nat.mul_one]
  rw [show (Value.string ⟨#[]⟩).cells = #[Value.string ⟨#[]⟩] from rfl, secC_zero]

theorem dv_below (w : World) (a b c : Obj) : Below w.heap.size w (((w.alloc a).alloc b).alloc c).drew := ((((Below.refl _ _).alloc (Nat.le_refl _) a).alloc (by simp) b).alloc (by simp; omega) c).drew
theorem row_zero (w : World) (n : Nat) (hn : n ≤ 4096) {g : Nat} (hg : w.heap.size = g) : (w.alloc (.cells (secV (List.replicate n [])).toArray 9)).ownsRow 0 9 1 (.slice (some ⟨g, 0, none⟩) n n) n (secV (List.replicate n [])) := by
  subst hg
  have := World.ownsRow_lit (w := w) (base := 0) (e := 9) (size := 1) (secV (List.replicate n [])).toArray n (Nat.zero_le _) (by unfold maxLen; omega) (by simp [secV])
  simpa using this
theorem dv_new1 (w : World) (n m : Nat) (hn : n ≤ 4096) (hm : m ≤ 4096) : DvAt (((w.alloc (.cells (secV (List.replicate n [])).toArray 9)).alloc (.cells (secV (List.replicate m [])).toArray 9)).alloc (.cells #[.slice (some ⟨w.heap.size, 0, none⟩) n n, .slice (some ⟨w.heap.size + 1, 0, none⟩) m m, .bool false, .bool false, .slice none 0 0] 75)).drew
    (w.heap.size + 1 + 1) w.heap.size (w.heap.size + 1) (.slice none 0 0) ⟨List.replicate n [], List.replicate m [], false, false, []⟩ := by
  refine ⟨⟨n, m, ?_, ?_, ?_⟩, Owns.nil _ _ _, by omega⟩
  · have := blk_at (w := (w.alloc (.cells (secV (List.replicate n [])).toArray 9)).alloc (.cells (secV (List.replicate m [])).toArray 9)) (t := 75) (cs := #[.slice (some ⟨w.heap.size, 0, none⟩) n n, .slice (some ⟨w.heap.size + 1, 0, none⟩) m m, .bool false, .bool false, .slice none 0 0]) (g := w.heap.size + 1 + 1) (by simp)
    simpa using this.drew
  · have := (((row_zero w n hn rfl).alloc (.cells (secV (List.replicate m [])).toArray 9)).alloc (.cells #[.slice (some ⟨w.heap.size, 0, none⟩) n n, .slice (some ⟨w.heap.size + 1, 0, none⟩) m m, .bool false, .bool false, .slice none 0 0] 75)).drew
    simpa using this
  · have := ((row_zero (w.alloc (.cells (secV (List.replicate n [])).toArray 9)) m hm (g := w.heap.size + 1) (by simp)).alloc (.cells #[.slice (some ⟨w.heap.size, 0, none⟩) n n, .slice (some ⟨w.heap.size + 1, 0, none⟩) m m, .bool false, .bool false, .slice none 0 0] 75)).drew
    simpa using this
theorem dv_new2 (w : World) (n m : Nat) (hn : n ≤ 4096) (hm : m ≤ 4096) : DvAt (((w.alloc (.cells (secV (List.replicate m [])).toArray 9)).alloc (.cells (secV (List.replicate n [])).toArray 9)).alloc (.cells #[.slice (some ⟨w.heap.size + 1, 0, none⟩) n n, .slice (some ⟨w.heap.size, 0, none⟩) m m, .bool false, .bool false, .slice none 0 0] 75)).drew
    (w.heap.size + 1 + 1) (w.heap.size + 1) w.heap.size (.slice none 0 0) ⟨List.replicate n [], List.replicate m [], false, false, []⟩ := by
  refine ⟨⟨n, m, ?_, ?_, ?_⟩, Owns.nil _ _ _, by omega⟩
  · have := blk_at (w := (w.alloc (.cells (secV (List.replicate m [])).toArray 9)).alloc (.cells (secV (List.replicate n [])).toArray 9)) (t := 75) (cs := #[.slice (some ⟨w.heap.size + 1, 0, none⟩) n n, .slice (some ⟨w.heap.size, 0, none⟩) m m, .bool false, .bool false, .slice none 0 0]) (g := w.heap.size + 1 + 1) (by simp)
    simpa using this.drew
  · have := ((row_zero (w.alloc (.cells (secV (List.replicate m [])).toArray 9)) n hn (g := w.heap.size + 1) (by simp)).alloc (.cells #[.slice (some ⟨w.heap.size + 1, 0, none⟩) n n, .slice (some ⟨w.heap.size, 0, none⟩) m m, .bool false, .bool false, .slice none 0 0] 75)).drew
    simpa using this
  · have := (((row_zero w m hm rfl).alloc (.cells (secV (List.replicate n [])).toArray 9)).alloc (.cells #[.slice (some ⟨w.heap.size + 1, 0, none⟩) n n, .slice (some ⟨w.heap.size, 0, none⟩) m m, .bool false, .bool false, .slice none 0 0] 75)).drew
    simpa using this

def Dv.new (n m : Nat) : Dv := ⟨List.replicate n [], List.replicate m [], false, false, []⟩
set_option maxHeartbeats 2000000 in
theorem new_ok (n m : Nat) (h1 : 1 ≤ n) (h2 : n ≤ 512) (h3 : 1 ≤ m) (h4 : m ≤ 512) (w : World) :
    Calls Tryd.prog 16 #[.int .i64 n, .int .i64 m] w fun e w' => (∃ g b0 b1, e = .returned (.pointer (some ⟨g, 0, none⟩)) ∧ w.heap.size ≤ g ∧ w.heap.size ≤ b0 ∧ w.heap.size ≤ b1 ∧ DvAt w' g b0 b1 (.slice none 0 0) (Dv.new n m)) ∧ Below w.heap.size w w' := by
  have m1 : ∀ w, (Instr.makeSlice 53 (.int .i64 n) (.int .i64 n)).run Tryd.prog w = .ok (.slice (some ⟨w.heap.size, 0, none⟩) n n) (w.alloc (.cells (secV (List.replicate n [])).toArray 9)) := run_make_strs n (by omega)
  have m2 : ∀ w, (Instr.makeSlice 53 (.int .i64 m) (.int .i64 m)).run Tryd.prog w = .ok (.slice (some ⟨w.heap.size, 0, none⟩) m m) (w.alloc (.cells (secV (List.replicate m [])).toArray 9)) := run_make_strs m (by omega)
  unfold Dv.new
  go_enter Tryd.func16, Tryd.ntmps16
  go_wp2_with fail
  all_goals go_region_held3 (fun _ => True) (trivial) (fail)
  all_goals
    go_wp2
    go_ret
    first
      | exact ⟨⟨_, _, _, rfl, by omega, Nat.le_refl _, by omega, dv_new1 w n m (by omega) (by omega)⟩, dv_below w _ _ _⟩
      | exact ⟨⟨_, _, _, rfl, by omega, by omega, Nat.le_refl _, dv_new2 w n m (by omega) (by omega)⟩, dv_below w _ _ _⟩

set_option maxHeartbeats 2000000 in
theorem new_bad (n m : Int) (h : n < 1 ∨ m < 1 ∨ 512 < n ∨ 512 < m) (w : World) :
    Calls Tryd.prog 16 #[.int .i64 n, .int .i64 m] w fun e w' => e = .returned (.pointer none) ∧ w = w' := by
  go_enter Tryd.func16, Tryd.ntmps16
  go_wp2_with fail
  all_goals first | (exfalso; omega) | skip
  all_goals go_ret
  all_goals exact ⟨rfl, rfl⟩

end Go.Proofs.YtcamcjcmhjldpaaDoor
