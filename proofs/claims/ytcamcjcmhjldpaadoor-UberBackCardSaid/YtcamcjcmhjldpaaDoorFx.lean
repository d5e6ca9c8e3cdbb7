/- Contracts of package fixed: Most and Put: what they return for every number and width. -/
import Derived.Test.YtcamcjcmhjldpaaDoorMem
namespace Go.Proofs.YtcamcjcmhjldpaaDoor
open Go.RowKit
set_option linter.unusedSimpArgs false
set_option linter.unnecessarySimpa false
set_option linter.unusedVariables false

set_option maxHeartbeats 400000 in
theorem most_any (n : Int) (w : World) :
    Calls Tryd.prog 51 #[.int .i64 n] w fun e w' => e = .returned (.int .i64 (mostI n)) ∧ w = w' := by
  by_cases h1 : n < 1
  · go_enter Tryd.func51, Tryd.ntmps51
    go_wp2
    go_ret
    exact ⟨by simp [mostI, h1], rfl⟩
  · by_cases h7 : 7 < n
    · go_enter Tryd.func51, Tryd.ntmps51
      go_wp2
      go_ret
      exact ⟨by simp [mostI, h1, h7], rfl⟩
    · have h : n = 1 ∨ n = 2 ∨ n = 3 ∨ n = 4 ∨ n = 5 ∨ n = 6 ∨ n = 7 := by omega
      clear h1 h7
      rcases h with rfl | rfl | rfl | rfl | rfl | rfl | rfl <;>
      · go_enter Tryd.func51, Tryd.ntmps51
        go_wp2
        go_ret
        exact ⟨by simp [mostI], rfl⟩

theorem Tryd.info5_ : (Tryd.prog.info? 5).map (fun i => (i.zero, i.size, i.bytes)) = some (some (.int .u8 0), 1, 1) := by kernel_rfl

set_option maxHeartbeats 400000 in
theorem put_any (n wd : Int) (w : World) :
    Calls Tryd.prog 23 #[.int .i64 n, .int .i64 wd] w fun e w' => e = .returned (.string (bstr (putL n wd))) ∧ Below w.heap.size w w' := by
  by_cases h1 : n < 0
  · go_enter Tryd.func23, Tryd.ntmps23
    go_wp2
    go_ret
    exact ⟨ret_str (by simp [putL, h1]), Below.refl _ _⟩
  · by_cases h2 : mostI wd < n
    · go_enter Tryd.func23, Tryd.ntmps23
      go_wp2_with (go_at_call 51; refine (most_any _ _).mono ?_; rintro e w' ⟨rfl, rfl⟩)
      go_ret
      exact ⟨ret_str (by simp [putL, h1, h2]), Below.refl _ _⟩
    · obtain ⟨hw, hw'⟩ := mostI_ok h1 h2
      obtain ⟨m, rfl⟩ : ∃ m : Nat, wd = m := ⟨wd.toNat, by omega⟩
      have hm1 : 1 ≤ m := by omega
      have hm7 : m ≤ 7 := by omega
      clear hw hw'
      have hmk := run_make_bytes 62 5 Tryd.info5_ Tryd.underlying62 m (by omega)
      go_enter Tryd.func23, Tryd.ntmps23
      go_wp2_with (go_at_call 51; refine (most_any _ _).mono ?_; rintro e w' ⟨rfl, rfl⟩)
      go_loopw [18] (fun i wr => ∃ k : Nat, k ≤ m ∧ i = .int .i64 k ∧ Blk wr w.heap.size 5 (bcells (leB n.toNat k ++ List.replicate (m - k) 0)) ∧ Below w.heap.size w wr) (fun i _ => m - (intOf i).toNat)
      case atStart => exact ⟨0, by omega, rfl, by simpa [leB] using Blk.new _ _ _, (Below.refl _ _).alloc (Nat.le_refl _) _⟩
      case round =>
        obtain ⟨k, hk, rfl, hb, hbl⟩ := hrel
        by_cases hlt : k < m
        · have hc := hb.cell k
          have hf := hb.frozen k
          rw [get_bcells, List.getElem?_append_right (by simp [length_leB]), length_leB, List.getElem?_replicate] at hc
          go_wp2
          go_roundw
          case rel => exact ⟨k + 1, by omega, by go_num, leB_set n h1 k m hlt _ _ _ hb, hbl.setCell (Nat.le_refl _) _⟩
          case measure => simp [intOf]; omega
        · obtain rfl : k = m := by omega
          have hcv := run_convert_bcells (P := Tryd.prog) hb Tryd.underlying62 Tryd.underlying5 Tryd.underlying9 k k (length_leB _ _)
          go_wp2
          go_ret
          exact ⟨ret_str (by have a1 : ¬ n < 0 := by omega
                             have a2 : ¬ mostI k < n := by omega
                             simp [putL, a1, a2]), hbl⟩

end Go.Proofs.YtcamcjcmhjldpaaDoor
