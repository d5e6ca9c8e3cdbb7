/- Contracts of the reader of package fixed: Number, Text, Read, and of Text: what they return and leave, for a reader that is known. -/
import Derived.Test.YtcamcjcmhjldpaaDoorRd
namespace Go.Proofs.YtcamcjcmhjldpaaDoor
open Go.RowKit
set_option linter.unusedSimpArgs false
set_option linter.unnecessarySimpa false
set_option linter.unusedVariables false

theorem take_to {r r' : Rd} {n e : Int} {q : List UInt8} (ht : r.take n e = (q, r')) (g : Nat) (w : World) (hr : RdAt w g r) (hn : r.e = 0 → e = 0 → 0 ≤ n) (hl : r.s.length ≤ 9223372036854775807) :
    Calls Tryd.prog 61 #[.pointer (some ⟨g, 0, none⟩), .int .i64 n, .int .i64 e] w fun en w' => en = .returned (.string (bstr q)) ∧ RdAt w' g r' ∧ Keep w.heap.size (· = g) w w' := by
  have h := take_any r n e g w hr hn hl
  rw [ht] at h
  exact h

set_option maxHeartbeats 800000 in
theorem number_any (r : Rd) (wd : Int) (g : Nat) (w : World) (hr : RdAt w g r) (hl : r.s.length ≤ 9223372036854775807) :
    Calls Tryd.prog 34 #[.pointer (some ⟨g, 0, none⟩), .int .i64 wd] w fun en w' => en = .returned (.int .i64 (r.number wd).1) ∧ RdAt w' g (r.number wd).2 ∧ Keep w.heap.size (· = g) w w' := by
  unfold Rd.number
  have hle := Rd.take_len r wd (if mostI wd < 0 then 1 else 0)
  by_cases h : mostI wd < 0
  · rw [if_pos h]
    obtain ⟨⟨q, r'⟩, ht⟩ : ∃ t, r.take wd 1 = t := ⟨_, rfl⟩
    have hq : q = [] := by
      unfold Rd.take at ht
      split at ht
      · injection ht with a b; exact a.symm
      · rw [if_pos (by decide)] at ht; injection ht with a b; exact a.symm
    subst hq
    rw [ht]
    have HT := Lib.hid ht
    clear ht hle
    go_enter Tryd.func34, Tryd.ntmps34
    go_wp2_with (first | (go_at_call 51; refine (most_any _ _).mono ?_; rintro e w' ⟨rfl, rfl⟩) | (go_at_call 61; refine (take_to HT.out _ _ hr (fun _ h => by cases h) hl).mono ?_; rintro e w1 ⟨rfl, h1, h2⟩))
    go_loop [7, 20] (fun n i => n = .int .i64 0 ∧ i = .int .i64 0) (fun _ _ => 0)
    case atStart => exact ⟨rfl, rfl⟩
    case round =>
      obtain ⟨rfl, rfl⟩ := hrel
      go_wp2
      go_ret
      exact ⟨rfl, h1, h2⟩
  · rw [if_neg h] at hle ⊢
    have hw : 1 ≤ wd ∧ wd ≤ 7 := mostI_ok (n := 0) (by omega) h
    obtain ⟨⟨q, r'⟩, ht⟩ : ∃ t, r.take wd 0 = t := ⟨_, rfl⟩
    rw [ht] at hle ⊢
    have hq : q.length ≤ 7 := by have := hle.1; simp only at this; omega
    have hn : 0 ≤ wd := by omega
    have HT := Lib.hid ht
    clear ht hle
    go_enter Tryd.func34, Tryd.ntmps34
    go_wp2_with (first | (go_at_call 51; refine (most_any _ _).mono ?_; rintro e w' ⟨rfl, rfl⟩) | (go_at_call 61; go_must (refine (take_to HT.out _ _ hr (fun _ _ => hn) hl).mono ?_); rintro e w1 ⟨rfl, h1, h2⟩))
    go_loop [7, 20] (fun n i => ∃ k : Nat, k ≤ q.length ∧ i = .int .i64 k ∧ n = .int .i64 (leN (q.take k) : Nat)) (fun _ i => q.length - (intOf i).toNat)
    case atStart => exact ⟨0, by omega, rfl, by simp [leN]⟩
    case round =>
      obtain ⟨k, hk, rfl, rfl⟩ := hrel
      by_cases hlt : k < q.length
      · go_wp2
        go_round
        case rel => exact ⟨k + 1, by omega, by go_num, by rw [leN_step q k hlt hq]⟩
        case measure => simp [intOf]; omega
      · go_wp2
        go_ret
        exact ⟨ret_int (by rw [List.take_of_length_le (by omega)]), h1, h2⟩

theorem number_to {r r' : Rd} {wd n : Int} (ht : r.number wd = (n, r')) (g : Nat) (w : World) (hr : RdAt w g r) (hl : r.s.length ≤ 9223372036854775807) :
    Calls Tryd.prog 34 #[.pointer (some ⟨g, 0, none⟩), .int .i64 wd] w fun en w' => en = .returned (.int .i64 n) ∧ RdAt w' g r' ∧ Keep w.heap.size (· = g) w w' := by
  have h := number_any r wd g w hr hl
  rw [ht] at h
  exact h
theorem bytes_to {r r' : Rd} {n : Int} {q : List UInt8} (ht : r.bytes n = (q, r')) (g : Nat) (w : World) (hr : RdAt w g r) (hl : r.s.length ≤ 9223372036854775807) :
    Calls Tryd.prog 33 #[.pointer (some ⟨g, 0, none⟩), .int .i64 n] w fun en w' => en = .returned (.string (bstr q)) ∧ RdAt w' g r' ∧ Keep w.heap.size (· = g) w w' := by
  have h := bytes_any r n g w hr hl
  rw [ht] at h
  exact h

set_option maxHeartbeats 400000 in
theorem rtext_any (r : Rd) (wd : Int) (g : Nat) (w : World) (hr : RdAt w g r) (hl : r.s.length ≤ 9223372036854775807) :
    Calls Tryd.prog 35 #[.pointer (some ⟨g, 0, none⟩), .int .i64 wd] w fun en w' => en = .returned (.string (bstr (r.text wd).1)) ∧ RdAt w' g (r.text wd).2 ∧ Keep w.heap.size (· = g) w w' := by
  unfold Rd.text
  have hle : (r.number wd).2.s.length ≤ r.s.length := (Rd.take_len r wd _).2
  obtain ⟨⟨n, r1⟩, h1⟩ : ∃ t, r.number wd = t := ⟨_, rfl⟩
  rw [h1] at hle ⊢
  obtain ⟨⟨q, r2⟩, h2⟩ : ∃ t, r1.bytes n = t := ⟨_, rfl⟩
  rw [h2]
  have hl1 : r1.s.length ≤ 9223372036854775807 := by simp only at hle; omega
  have H1 := Lib.hid h1
  have H2 := Lib.hid h2
  clear h1 h2 hle
  go_enter Tryd.func35, Tryd.ntmps35
  go_wp2_with (first | (go_at_call 34; refine (number_to H1.out _ _ hr hl).mono ?_; rintro e w1 ⟨rfl, h1, k1⟩) | (go_at_call 33; refine (bytes_to H2.out _ _ h1 hl1).mono ?_; rintro e w2 ⟨rfl, h2, k2⟩))
  go_ret
  exact ⟨rfl, h2, k1.trans (k2.mono k1.size (fun _ _ h => h))⟩

theorem rtext_to {r r' : Rd} {n : Int} {q : List UInt8} (ht : r.text n = (q, r')) (g : Nat) (w : World) (hr : RdAt w g r) (hl : r.s.length ≤ 9223372036854775807) :
    Calls Tryd.prog 35 #[.pointer (some ⟨g, 0, none⟩), .int .i64 n] w fun en w' => en = .returned (.string (bstr q)) ∧ RdAt w' g r' ∧ Keep w.heap.size (· = g) w w' := by
  have h := rtext_any r n g w hr hl
  rw [ht] at h
  exact h

set_option maxHeartbeats 400000 in
theorem read_any (s : List UInt8) (w : World) :
    Calls Tryd.prog 32 #[.string (bstr s)] w fun en w' => en = .returned (.pointer (some ⟨w.heap.size, 0, none⟩)) ∧ RdAt w' w.heap.size ⟨s, 0⟩ ∧ Below w.heap.size w w' := by
  go_enter Tryd.func32, Tryd.ntmps32
  go_wp2
  go_ret
  exact ⟨rfl, Blk.new _ _ _, (Below.refl _ _).alloc (Nat.le_refl _) _⟩

set_option maxHeartbeats 400000 in
theorem text_any (s : List UInt8) (wd : Int) (w : World) (hs : s.length ≤ 140737488355328) :
    Calls Tryd.prog 24 #[.string (bstr s), .int .i64 wd] w fun e w' => e = .returned (.string (bstr (textL s wd))) ∧ Below w.heap.size w w' := by
  unfold textL
  by_cases h : mostI wd < s.length
  · rw [if_pos h]
    go_enter Tryd.func24, Tryd.ntmps24
    go_wp2_with (go_at_call 51; refine (most_any _ _).mono ?_; rintro e w' ⟨rfl, rfl⟩)
    go_ret
    exact ⟨rfl, Below.refl _ _⟩
  · rw [if_neg h]
    have hp := putL_len s.length wd
    go_enter Tryd.func24, Tryd.ntmps24
    go_wp2_with (first | (go_at_call 51; refine (most_any _ _).mono ?_; rintro e w' ⟨rfl, rfl⟩) | (go_at_call 23; refine (put_any _ _ _).mono ?_; rintro e w' ⟨rfl, hb⟩))
    go_ret
    exact ⟨ret_str (by rfl), hb⟩

theorem put_to {n wd : Int} {q : List UInt8} (h : putL n wd = q) (w : World) :
    Calls Tryd.prog 23 #[.int .i64 n, .int .i64 wd] w fun e w' => e = .returned (.string (bstr q)) ∧ Below w.heap.size w w' := by
  subst h; exact put_any n wd w
theorem text_to {s : List UInt8} {wd : Int} {q : List UInt8} (h : textL s wd = q) (w : World) (hs : s.length ≤ 140737488355328) :
    Calls Tryd.prog 24 #[.string (bstr s), .int .i64 wd] w fun e w' => e = .returned (.string (bstr q)) ∧ Below w.heap.size w w' := by
  subst h; exact text_any s wd w hs

theorem most_to {n m : Int} (h : mostI n = m) (w : World) :
    Calls Tryd.prog 51 #[.int .i64 n] w fun e w' => e = .returned (.int .i64 m) ∧ w = w' := by
  subst h; exact most_any n w

theorem end_to {r : Rd} {n : Int} (h : r.fin = n) (g : Nat) (w : World) (hr : RdAt w g r) :
    Calls Tryd.prog 36 #[.pointer (some ⟨g, 0, none⟩)] w fun en w' => en = .returned (.int .i64 n) ∧ w = w' := by
  subst h; exact end_any r g w hr

end Go.Proofs.YtcamcjcmhjldpaaDoor
