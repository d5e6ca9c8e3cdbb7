/- Contracts of the reader of package fixed: take, Bytes, Left, End: what they return and leave, for a reader that is known. -/
import Derived.Test.YtcamcjcmhjldpaaDoorFx
namespace Go.Proofs.YtcamcjcmhjldpaaDoor
open Go.RowKit
set_option linter.unusedSimpArgs false
set_option linter.unnecessarySimpa false
set_option linter.unusedVariables false

def RdAt (w : World) (g : Nat) (r : Rd) : Prop := Blk w g 93 #[.string (bstr r.s), .int .i64 r.e]

set_option maxHeartbeats 400000 in
theorem take_any (r : Rd) (n e : Int) (g : Nat) (w : World) (hr : RdAt w g r) (hn : r.e = 0 → e = 0 → 0 ≤ n) (hl : r.s.length ≤ 9223372036854775807) :
    Calls Tryd.prog 61 #[.pointer (some ⟨g, 0, none⟩), .int .i64 n, .int .i64 e] w fun en w' => en = .returned (.string (bstr (r.take n e).1)) ∧ RdAt w' g (r.take n e).2 ∧ Keep w.heap.size (· = g) w w' := by
  obtain ⟨s, e0⟩ := r
  have hc0 := hr.cell 0
  have hc1 := hr.cell 1
  have hf0 := hr.frozen 0
  have hf1 := hr.frozen 1
  simp at hc0 hc1 hl hn
  by_cases h0 : e0 = 0
  · subst h0
    by_cases h1 : e = 0
    · subst h1
      simp at hn
      by_cases h2 : (s.length : Int) < n
      · rw [show Rd.take ⟨s, 0⟩ n 0 = ([], ⟨s, 2⟩) by simp [Rd.take, h2]]
        go_enter Tryd.func61, Tryd.ntmps61
        go_wp2
        go_ret
        exact ⟨rfl, by simpa [RdAt] using hr.set_ 1 _, (Keep.refl _ _ _).set1 _ _⟩
      · rw [show Rd.take ⟨s, 0⟩ n 0 = (s.take n.toNat, ⟨s.drop n.toNat, 0⟩) by simp [Rd.take, h2]]
        go_enter Tryd.func61, Tryd.ntmps61
        go_wp2
        go_ret
        exact ⟨ret_str (by simp [bstr_extract]), by simpa [RdAt, bstr_extract] using hr.set_ 0 _, (Keep.refl _ _ _).set1 _ _⟩
    · have h1b : (e == 0) = false := by simp [h1]
      rw [show Rd.take ⟨s, 0⟩ n e = ([], ⟨s, e⟩) by simp [Rd.take, h1]]
      go_enter Tryd.func61, Tryd.ntmps61
      go_wp2
      go_ret
      exact ⟨rfl, by simpa [RdAt] using hr.set_ 1 _, (Keep.refl _ _ _).set1 _ _⟩
  · have h0b : (e0 == 0) = false := by simp [h0]
    rw [show Rd.take ⟨s, e0⟩ n e = ([], ⟨s, e0⟩) by simp [Rd.take, h0]]
    go_enter Tryd.func61, Tryd.ntmps61
    go_wp2
    go_ret
    exact ⟨rfl, hr, Keep.refl _ _ _⟩

theorem Rd.take_len (r : Rd) (n e : Int) : (r.take n e).1.length ≤ n.toNat ∧ (r.take n e).2.s.length ≤ r.s.length := by
  unfold Rd.take
  split
  · simp
  · split
    · simp
    · split
      · simp
      · simp; omega

set_option maxHeartbeats 400000 in
theorem bytes_any (r : Rd) (n : Int) (g : Nat) (w : World) (hr : RdAt w g r) (hl : r.s.length ≤ 9223372036854775807) :
    Calls Tryd.prog 33 #[.pointer (some ⟨g, 0, none⟩), .int .i64 n] w fun en w' => en = .returned (.string (bstr (r.bytes n).1)) ∧ RdAt w' g (r.bytes n).2 ∧ Keep w.heap.size (· = g) w w' := by
  unfold Rd.bytes
  by_cases h : n < 0
  · rw [if_pos h]
    go_enter Tryd.func33, Tryd.ntmps33
    go_wp2_with (go_at_call 61; refine (take_any r _ _ _ _ hr (fun _ h => by cases h) hl).mono ?_; rintro e w' ⟨rfl, h1, h2⟩)
    go_ret
    exact ⟨rfl, h1, h2⟩
  · rw [if_neg h]
    go_enter Tryd.func33, Tryd.ntmps33
    go_wp2_with (go_at_call 61; refine (take_any r _ _ _ _ hr (fun _ _ => by omega) hl).mono ?_; rintro e w' ⟨rfl, h1, h2⟩)
    go_ret
    exact ⟨rfl, h1, h2⟩


set_option maxHeartbeats 400000 in
theorem end_any (r : Rd) (g : Nat) (w : World) (hr : RdAt w g r) :
    Calls Tryd.prog 36 #[.pointer (some ⟨g, 0, none⟩)] w fun en w' => en = .returned (.int .i64 r.fin) ∧ w = w' := by
  obtain ⟨s, e0⟩ := r
  have hc0 := hr.cell 0
  have hc1 := hr.cell 1
  simp at hc0 hc1
  by_cases h : e0 = 0
  · subst h
    cases s with
    | nil =>
      go_enter Tryd.func36, Tryd.ntmps36
      go_wp2
      go_ret
      exact ⟨ret_int (by simp [Rd.fin]), rfl⟩
    | cons c s =>
      go_enter Tryd.func36, Tryd.ntmps36
      go_wp2
      go_ret
      exact ⟨ret_int (by simp [Rd.fin]), rfl⟩
  · have h0b : (e0 == 0) = false := by simp [h]
    go_enter Tryd.func36, Tryd.ntmps36
    go_wp2
    go_ret
    exact ⟨ret_int (by simp [Rd.fin, h]), rfl⟩

end Go.Proofs.YtcamcjcmhjldpaaDoor
