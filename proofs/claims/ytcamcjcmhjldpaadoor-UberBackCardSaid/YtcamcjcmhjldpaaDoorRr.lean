/- What the reader of the reference 01 computes: contracts of its calls. -/
import Derived.Test.YtcamcjcmhjldpaaDoorFr
namespace Go.Proofs.YtcamcjcmhjldpaaDoor
open Go.RowKit
set_option linter.unusedSimpArgs false
set_option linter.unnecessarySimpa false
set_option linter.unusedVariables false

def RrAt (w : World) (g : Nat) (r : Rd) : Prop := Blk w g 70 #[.string (bstr r.s), .int .i64 r.e]

set_option maxHeartbeats 400000 in
theorem rbytes_any (r : Rd) (n : Int) (g : Nat) (w : World) (hr : RrAt w g r) (hl : r.s.length ≤ 9223372036854775807) :
    Calls Tryd.prog 62 #[.pointer (some ⟨g, 0, none⟩), .int .i64 n] w fun en w' => en = .returned (.string (bstr (r.bytes n).1)) ∧ RrAt w' g (r.bytes n).2 ∧ Keep w.heap.size (· = g) w w' := by
  obtain ⟨s, e0⟩ := r
  have hc0 := hr.cell 0
  have hc1 := hr.cell 1
  have hf0 := hr.frozen 0
  have hf1 := hr.frozen 1
  simp at hc0 hc1 hl
  unfold Rd.bytes
  by_cases h0 : e0 = 0
  · subst h0
    by_cases h1 : n < 0
    · rw [show Rd.take ⟨s, 0⟩ n (if n < 0 then 1 else 0) = ([], ⟨s, 1⟩) by simp [Rd.take, h1]]
      go_enter Tryd.func62, Tryd.ntmps62
      go_wp2
      go_ret
      exact ⟨rfl, by simpa [RrAt] using hr.set_ 1 _, (Keep.refl _ _ _).set1 _ _⟩
    · by_cases h2 : (s.length : Int) < n
      · rw [show Rd.take ⟨s, 0⟩ n (if n < 0 then 1 else 0) = ([], ⟨s, 2⟩) by simp [Rd.take, h1, h2]]
        go_enter Tryd.func62, Tryd.ntmps62
        go_wp2
        go_ret
        exact ⟨rfl, by simpa [RrAt] using hr.set_ 1 _, (Keep.refl _ _ _).set1 _ _⟩
      · rw [show Rd.take ⟨s, 0⟩ n (if n < 0 then 1 else 0) = (s.take n.toNat, ⟨s.drop n.toNat, 0⟩) by simp [Rd.take, h1, h2]]
        go_enter Tryd.func62, Tryd.ntmps62
        go_wp2
        go_ret
        exact ⟨ret_str (by simp [bstr_extract]), by simpa [RrAt, bstr_extract] using hr.set_ 0 _, (Keep.refl _ _ _).set1 _ _⟩
  · have h0b : (e0 == 0) = false := by simp [h0]
    rw [show ∀ e, Rd.take ⟨s, e0⟩ n e = ([], ⟨s, e0⟩) from fun e => by simp [Rd.take, h0]]
    go_enter Tryd.func62, Tryd.ntmps62
    go_wp2
    go_ret
    exact ⟨rfl, hr, Keep.refl _ _ _⟩
theorem rbytes_to {r r' : Rd} {n : Int} {q : List UInt8} (ht : r.bytes n = (q, r')) (g : Nat) (w : World) (hr : RrAt w g r) (hl : r.s.length ≤ 9223372036854775807) :
    Calls Tryd.prog 62 #[.pointer (some ⟨g, 0, none⟩), .int .i64 n] w fun en w' => en = .returned (.string (bstr q)) ∧ RrAt w' g r' ∧ Keep w.heap.size (· = g) w w' := by
  have h := rbytes_any r n g w hr hl
  rw [ht] at h
  exact h

set_option maxHeartbeats 800000 in
theorem rnumber_any (r : Rd) (wd : Int) (g : Nat) (w : World) (hr : RrAt w g r) (hl : r.s.length ≤ 9223372036854775807) :
    Calls Tryd.prog 37 #[.pointer (some ⟨g, 0, none⟩), .int .i64 wd] w fun en w' => en = .returned (.int .i64 (r.number wd).1) ∧ RrAt w' g (r.number wd).2 ∧ Keep w.heap.size (· = g) w w' := by
  obtain ⟨s, e0⟩ := r
  have hc0 := hr.cell 0
  have hc1 := hr.cell 1
  have hf0 := hr.frozen 0
  have hf1 := hr.frozen 1
  simp at hc0 hc1
  by_cases h0 : e0 = 0
  · subst h0
    by_cases h : mostI wd < 0
    · have e : Rd.number ⟨s, 0⟩ wd = (0, ⟨s, 1⟩) := by unfold Rd.number Rd.take; rw [if_pos h]; rfl
      rw [e]
      go_enter Tryd.func37, Tryd.ntmps37
      go_wp2_with (go_at_call 55; refine (rmost_any _ _).mono ?_; rintro e w' ⟨rfl, rfl⟩)
      go_ret
      exact ⟨rfl, by simpa [RrAt] using hr.set_ 1 _, (Keep.refl _ _ _).set1 _ _⟩
    · have hw : 1 ≤ wd ∧ wd ≤ 7 := mostI_ok (n := 0) (by omega) h
      have hb : Rd.bytes ⟨s, 0⟩ wd = Rd.take ⟨s, 0⟩ wd 0 := by unfold Rd.bytes; rw [if_neg (by omega)]
      unfold Rd.number
      rw [if_neg h]
      have hlen : (Rd.take ⟨s, 0⟩ wd 0).1.length ≤ 7 := by
        unfold Rd.take
        simp only [ne_eq, not_true_eq_false, if_false]
        split
        · simp
        · simp; omega
      obtain ⟨⟨q, r'⟩, ht⟩ : ∃ t, Rd.take ⟨s, 0⟩ wd 0 = t := ⟨_, rfl⟩
      rw [ht] at hb hlen ⊢
      have HT := Lib.hid hb
      have hq : q.length ≤ 7 := hlen
      clear ht hb hlen
      go_enter Tryd.func37, Tryd.ntmps37
      go_wp2_with (first | (go_at_call 55; refine (rmost_any _ _).mono ?_; rintro e w' ⟨rfl, rfl⟩) | (go_at_call 62; refine (rbytes_to HT.out _ _ hr hl).mono ?_; rintro e w1 ⟨rfl, h1, h2⟩))
      go_loop [6, 7] (fun n i => ∃ j : Nat, j ≤ q.length ∧ i = .int .i64 ((j : Int) - 1) ∧ n = .int .i64 (leN (q.drop j) : Nat)) (fun _ i => (intOf i + 1).toNat)
      case atStart => exact ⟨q.length, by omega, rfl, by simp [leN]⟩
      case round =>
        obtain ⟨j, hj, rfl, rfl⟩ := hrel
        cases j with
        | zero =>
          go_wp2
          go_ret
          exact ⟨rfl, h1, h2⟩
        | succ j =>
          have e1 : (((j + 1 : Nat) : Int) - 1) = (j : Int) := by omega
          rw [e1]
          have hlt : j < q.length := by omega
          have hb := q[j].toNat_lt
          have hn := leN_lt (q.drop (j + 1))
          have hp : (256 : Nat) ^ (q.drop (j + 1)).length ≤ 256 ^ 6 := Nat.pow_le_pow_right (by decide) (by simp; omega)
          have hn2 : leN (q.drop (j + 1)) ≤ 281474976710656 := by omega
          have hd := leN_drop q j hlt
          have HD := Lib.hid hd
          clear hn hp hd e1
          go_wp2
          go_round
          case rel => exact ⟨j, by omega, rfl, by rw [HD.out]; go_num⟩
          case measure => simp [intOf]
  · have h0b : (e0 == 0) = false := by simp [h0]
    rw [Rd.number_err s e0 wd h0]
    go_enter Tryd.func37, Tryd.ntmps37
    go_wp2
    go_ret
    exact ⟨rfl, hr, Keep.refl _ _ _⟩
theorem rnumber_to {r r' : Rd} {wd n : Int} (ht : r.number wd = (n, r')) (g : Nat) (w : World) (hr : RrAt w g r) (hl : r.s.length ≤ 9223372036854775807) :
    Calls Tryd.prog 37 #[.pointer (some ⟨g, 0, none⟩), .int .i64 wd] w fun en w' => en = .returned (.int .i64 n) ∧ RrAt w' g r' ∧ Keep w.heap.size (· = g) w w' := by
  have h := rnumber_any r wd g w hr hl
  rw [ht] at h
  exact h

end Go.Proofs.YtcamcjcmhjldpaaDoor
