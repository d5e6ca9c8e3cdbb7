/- What the functions of package inode compute, and those of the reference 15: contracts of their calls. -/
import Derived.Test.YtjbnhofdpklfoaaRd2
import Derived.Test.YtjbnhofdpklfoaaFr
namespace Go.Proofs.Ytjbnhofdpklfoaa
open Go.RowKit
set_option linter.unusedSimpArgs false
set_option linter.unnecessarySimpa false
set_option linter.unusedVariables false

set_option maxHeartbeats 400000 in
theorem word_any (n : Int) (h0 : 0 ≤ n) (h1 : n ≤ 2147483648) (w : World) :
    Calls Try.prog 25 #[.int .i64 n] w fun e w' => e = .returned (.string (bstr (be4 n.toNat))) ∧ Below w.heap.size w w' := by
  have hp : putL n 4 = leB n.toNat 4 := by
    unfold putL
    rw [if_neg (by omega), if_neg (by simp [mostI]; omega)]
    rfl
  have h4 := length_leB n.toNat 4
  unfold be4
  obtain ⟨x0, x1, x2, x3, hx⟩ : ∃ x0 x1 x2 x3, leB n.toNat 4 = [x0, x1, x2, x3] := ⟨_, _, _, _, rfl⟩
  rw [hx] at hp ⊢
  have HP := Lib.hid hp
  clear hp hx h4
  go_enter Try.func25, Try.ntmps25
  go_wp2_with fail
  refine (put_to HP.out _).mono ?_
  rintro e w1 ⟨rfl, b1⟩
  obtain ⟨c, w2, hcv, hc, hz2, b2, hcell, hfr⟩ := run_str_bytes (P := Try.prog) w1 9 58 5 [x0, x1, x2, x3] Try.underlying9 Try.underlying58 Try.underlying5
  have c0 := hcell 0 (by simp)
  have c1 := hcell 1 (by simp)
  have c2 := hcell 2 (by simp)
  have c3 := hcell 3 (by simp)
  have f0 := hfr 0 (by simp)
  have f1 := hfr 1 (by simp)
  have f2 := hfr 2 (by simp)
  have f3 := hfr 3 (by simp)
  simp at c0 c1 c2 c3
  clear hcell hfr
  go_wp2_with fail
  clear hcv
  obtain ⟨g, hg⟩ : ∃ g, w1.heap.size = g := ⟨_, rfl⟩
  rw [hg] at c0 c1 c2 c3 f0 f1 f2 f3 hz2 b2 ⊢
  go_region
  have d0 : (((((w2.setCell ⟨g, 0, none⟩ (.int .u8 x3.toNat)).setCell ⟨g, 1, none⟩ (.int .u8 x2.toNat)).setCell ⟨g, 2, none⟩ (.int .u8 x1.toNat)).setCell ⟨g, 3, none⟩ (.int .u8 x0.toNat)).drew).cell? ⟨g, 0, none⟩ = some (.int .u8 x3.toNat) := by go_simp
  have d1 : (((((w2.setCell ⟨g, 0, none⟩ (.int .u8 x3.toNat)).setCell ⟨g, 1, none⟩ (.int .u8 x2.toNat)).setCell ⟨g, 2, none⟩ (.int .u8 x1.toNat)).setCell ⟨g, 3, none⟩ (.int .u8 x0.toNat)).drew).cell? ⟨g, 1, none⟩ = some (.int .u8 x2.toNat) := by go_simp
  have d2 : (((((w2.setCell ⟨g, 0, none⟩ (.int .u8 x3.toNat)).setCell ⟨g, 1, none⟩ (.int .u8 x2.toNat)).setCell ⟨g, 2, none⟩ (.int .u8 x1.toNat)).setCell ⟨g, 3, none⟩ (.int .u8 x0.toNat)).drew).cell? ⟨g, 2, none⟩ = some (.int .u8 x1.toNat) := by go_simp
  have d3 : (((((w2.setCell ⟨g, 0, none⟩ (.int .u8 x3.toNat)).setCell ⟨g, 1, none⟩ (.int .u8 x2.toNat)).setCell ⟨g, 2, none⟩ (.int .u8 x1.toNat)).setCell ⟨g, 3, none⟩ (.int .u8 x0.toNat)).drew).cell? ⟨g, 3, none⟩ = some (.int .u8 x0.toNat) := by go_simp
  obtain ⟨w3, hw3⟩ : ∃ w3, ((((w2.setCell ⟨g, 0, none⟩ (.int .u8 x3.toNat)).setCell ⟨g, 1, none⟩ (.int .u8 x2.toNat)).setCell ⟨g, 2, none⟩ (.int .u8 x1.toNat)).setCell ⟨g, 3, none⟩ (.int .u8 x0.toNat)).drew = w3 := ⟨_, rfl⟩
  rw [hw3] at d0 d1 d2 d3 ⊢
  have hs : w.heap.size ≤ g := by have := b1.size; omega
  have b3 : Below w.heap.size w w3 := by
    rw [← hw3]
    exact (((((b1.trans (b2.mono hs)).setCell (p := ⟨g, 0, none⟩) hs _).setCell (p := ⟨g, 1, none⟩) hs _).setCell (p := ⟨g, 2, none⟩) hs _).setCell (p := ⟨g, 3, none⟩) hs _).drew
  have hcv := run_bytes_four (P := Try.prog) Try.underlying58 Try.underlying5 Try.underlying9 _ _ _ _ c d0 d1 d2 d3
  clear hw3 d0 d1 d2 d3 c0 c1 c2 c3 f0 f1 f2 f3
  go_wp2
  go_ret
  exact ⟨rfl, b3⟩

set_option maxHeartbeats 400000 in
theorem in_any (n : Int) (w : World) :
    Calls Try.prog 24 #[.int .i64 n] w fun e w' => e = .returned (.bool (inB n)) ∧ w = w' := by
  unfold inB
  by_cases h0 : 0 ≤ n
  · by_cases h1 : n ≤ 2147483648
    · go_enter Try.func24, Try.ntmps24
      go_wp2
      go_ret
      exact ⟨ret_bool (by simp [h0, h1]), rfl⟩
    · go_enter Try.func24, Try.ntmps24
      go_wp2
      go_ret
      exact ⟨ret_bool (by simp; omega), rfl⟩
  · go_enter Try.func24, Try.ntmps24
    go_wp2
    go_ret
    exact ⟨ret_bool (by simp; omega), rfl⟩
theorem in_to {n : Int} {b : Bool} (h : inB n = b) (w : World) :
    Calls Try.prog 24 #[.int .i64 n] w fun e w' => e = .returned (.bool b) ∧ w = w' := by subst h; exact in_any n w

set_option maxHeartbeats 400000 in
theorem inum_any (q : List UInt8) (hq : q.length = 4) (w : World) :
    Calls Try.prog 22 #[.string (bstr q)] w fun e w' => e = .returned (.tuple #[.int .i64 (beN q : Nat), .bool (inB (beN q : Nat))]) ∧ w = w' := by
  have hq1 : q.length ≤ 4 := by omega
  have hq2 : 4 ≤ q.length := by omega
  clear hq
  go_enter Try.func22, Try.ntmps22
  go_wp2_with fail
  go_loop [4, 6] (fun n i => ∃ k : Nat, k ≤ 4 ∧ i = .int .i64 k ∧ n = .int .i64 (beN (q.take k) : Nat)) (fun _ i => 4 - (intOf i).toNat)
  case atStart => exact ⟨0, by omega, rfl, by simp [beN]⟩
  case round =>
    obtain ⟨k, hk, rfl, rfl⟩ := hrel
    by_cases hlt : k < 4
    · have hkq : k < q.length := by omega
      go_wp2
      go_round
      case rel => exact ⟨k + 1, by omega, by go_num, by rw [beN_step q k hkq (by omega)]⟩
      case measure => simp [intOf]; omega
    · obtain rfl : k = 4 := by omega
      rw [List.take_of_length_le hq1]
      go_wp2_with (go_at_call 24; refine (in_any _ _).mono ?_; rintro e w' ⟨rfl, rfl⟩)
      go_ret2
      exact ⟨rfl, rfl⟩

set_option maxHeartbeats 400000 in
theorem rinum_any (q : List UInt8) (hq : q.length = 4) (w : World) :
    Calls Try.prog 23 #[.string (bstr q)] w fun e w' => e = .returned (.int .i64 (if 2147483648 < beN q then -1 else (beN q : Nat))) ∧ w = w' := by
  have hq1 : q.length ≤ 4 := by omega
  have hq2 : 4 ≤ q.length := by omega
  have hlt4 := beN_lt q 4 hq2
  rw [List.take_of_length_le hq1] at hlt4
  clear hq
  go_enter Try.func23, Try.ntmps23
  go_wp2_with fail
  go_loop [3, 4] (fun n i => ∃ k : Nat, k ≤ 4 ∧ i = .int .i64 k ∧ n = .int .i64 (beN (q.take k) : Nat)) (fun _ i => 4 - (intOf i).toNat)
  case atStart => exact ⟨0, by omega, rfl, by simp [beN]⟩
  case round =>
    obtain ⟨k, hk, rfl, rfl⟩ := hrel
    by_cases hlt : k < 4
    · have hkq : k < q.length := by omega
      have hp := beN_lt q k (by omega)
      have hpp : (256 : Nat) ^ k ≤ 256 ^ 3 := Nat.pow_le_pow_right (by decide) (by omega)
      have hp2 : beN (q.take k) ≤ 16777216 := by omega
      have hb := q[k].toNat_lt
      clear hp hpp
      go_wp2
      go_round
      case rel => exact ⟨k + 1, by omega, by go_num, by rw [beN_take q k hkq]; go_num⟩
      case measure => simp [intOf]; omega
    · obtain rfl : k = 4 := by omega
      rw [List.take_of_length_le hq1]
      by_cases hbig : 2147483648 < beN q
      · go_wp2
        go_ret
        exact ⟨ret_int (by first | rfl | rw [if_pos hbig]), rfl⟩
      · go_wp2
        go_ret
        exact ⟨ret_int (by first | rfl | rw [if_neg hbig]), rfl⟩

theorem word_to {n : Int} {q : List UInt8} (h : be4 n.toNat = q) (h0 : 0 ≤ n) (h1 : n ≤ 2147483648) (w : World) :
    Calls Try.prog 25 #[.int .i64 n] w fun e w' => e = .returned (.string (bstr q)) ∧ Below w.heap.size w w' := by subst h; exact word_any n h0 h1 w
theorem inB_true {n : Int} : inB n = true ↔ 0 ≤ n ∧ n ≤ 2147483648 := by simp [inB]
theorem length_be4 (n : Nat) : (be4 n).length = 4 := by simp [be4, length_leB]

set_option maxHeartbeats 400000 in
theorem key_any (n : Int) (w : World) :
    Calls Try.prog 11 #[.int .i64 n] w fun e w' => e = .returned (.string (bstr (keyL n))) ∧ Below w.heap.size w w' := by
  unfold keyL
  cases hi : inB n with
  | true =>
    have hi2 := inB_true.1 hi
    have h1 := hi2.1
    have h2 := hi2.2
    have hl := length_be4 n.toNat
    obtain ⟨q, hq⟩ : ∃ q, be4 n.toNat = q := ⟨_, rfl⟩
    rw [hq] at hl ⊢
    have HI := Lib.hid hi
    have HQ := Lib.hid hq
    have hl4 : q.length ≤ 4 := by omega
    clear hi hi2 hq hl
    go_enter Try.func11, Try.ntmps11
    go_wp2_with (first | (go_at_call 24; refine (in_to HI.out _).mono ?_; rintro e w' ⟨rfl, rfl⟩) | (go_at_call 25; refine (word_to HQ.out h1 h2 _).mono ?_; rintro e w' ⟨rfl, hb⟩))
    go_ret
    exact ⟨rfl, hb⟩
  | false =>
    have HI := Lib.hid hi
    clear hi
    go_enter Try.func11, Try.ntmps11
    go_wp2_with (go_at_call 24; refine (in_to HI.out _).mono ?_; rintro e w' ⟨rfl, rfl⟩)
    go_ret
    exact ⟨rfl, Below.refl _ _⟩

set_option maxHeartbeats 400000 in
theorem chunk_any (n k : Int) (w : World) :
    Calls Try.prog 15 #[.int .i64 n, .int .i64 k] w fun e w' => e = .returned (.string (bstr (chunkL n k))) ∧ Below w.heap.size w w' := by
  unfold chunkL
  cases hi : inB n with
  | false =>
    have HI := Lib.hid hi
    clear hi
    go_enter Try.func15, Try.ntmps15
    go_wp2_with (go_at_call 24; refine (in_to HI.out _).mono ?_; rintro e w' ⟨rfl, rfl⟩)
    go_ret
    exact ⟨rfl, Below.refl _ _⟩
  | true =>
    have hi2 := inB_true.1 hi
    have h1 := hi2.1
    have h2 := hi2.2
    have hl := length_be4 n.toNat
    obtain ⟨q, hq⟩ : ∃ q, be4 n.toNat = q := ⟨_, rfl⟩
    rw [hq] at hl ⊢
    have HI := Lib.hid hi
    have HQ := Lib.hid hq
    have hl4 : q.length ≤ 4 := by omega
    clear hi hi2 hq hl
    cases hj : inB k with
    | false =>
      have HJ := Lib.hid hj
      clear hj
      go_enter Try.func15, Try.ntmps15
      go_wp2_with fail
      refine (in_to HI.out _).mono ?_
      rintro e _ ⟨rfl, rfl⟩
      go_wp2_with fail
      refine (in_to HJ.out _).mono ?_
      rintro e _ ⟨rfl, rfl⟩
      go_wp2
      go_ret
      exact ⟨rfl, Below.refl _ _⟩
    | true =>
      have hj2 := inB_true.1 hj
      have h3 := hj2.1
      have h4 := hj2.2
      have hl := length_be4 k.toNat
      obtain ⟨p, hp⟩ : ∃ p, be4 k.toNat = p := ⟨_, rfl⟩
      rw [hp] at hl ⊢
      have HJ := Lib.hid hj
      have HP := Lib.hid hp
      have hl5 : p.length ≤ 4 := by omega
      clear hj hj2 hp hl
      go_enter Try.func15, Try.ntmps15
      go_wp2_with fail
      refine (in_to HI.out _).mono ?_
      rintro e _ ⟨rfl, rfl⟩
      go_wp2_with fail
      refine (in_to HJ.out _).mono ?_
      rintro e _ ⟨rfl, rfl⟩
      go_wp2_with fail
      refine (word_to HQ.out h1 h2 _).mono ?_
      rintro e w1 ⟨rfl, b1⟩
      go_wp2_with fail
      refine (word_to HP.out h3 h4 _).mono ?_
      rintro e w2 ⟨rfl, b2⟩
      go_wp2
      go_ret
      exact ⟨rfl, b1.trans (b2.mono b1.size)⟩

set_option maxHeartbeats 400000 in
theorem entry_any (d : Int) (s : List UInt8) (hs : s.length ≤ 140737488351232) (w : World) :
    Calls Try.prog 13 #[.int .i64 d, .string (bstr s)] w fun e w' => e = .returned (.string (bstr (entryL d s))) ∧ Below w.heap.size w w' := by
  unfold entryL
  cases hi : inB d with
  | false =>
    have HI := Lib.hid hi
    clear hi
    go_enter Try.func13, Try.ntmps13
    go_wp2_with (go_at_call 24; refine (in_to HI.out _).mono ?_; rintro e w' ⟨rfl, rfl⟩)
    go_ret
    exact ⟨rfl, Below.refl _ _⟩
  | true =>
    have hi2 := inB_true.1 hi
    have h1 := hi2.1
    have h2 := hi2.2
    have hl := length_be4 d.toNat
    obtain ⟨q, hq⟩ : ∃ q, be4 d.toNat = q := ⟨_, rfl⟩
    rw [hq] at hl ⊢
    have HI := Lib.hid hi
    have HQ := Lib.hid hq
    have hl4 : q.length ≤ 4 := by omega
    clear hi hi2 hq hl
    by_cases hne : s = []
    · subst hne
      go_enter Try.func13, Try.ntmps13
      go_wp2_with fail
      refine (in_to HI.out _).mono ?_
      rintro e _ ⟨rfl, rfl⟩
      go_wp2
      go_ret
      exact ⟨rfl, Below.refl _ _⟩
    · have e1 : s.isEmpty = false := by simp [hne]
      rw [e1]
      by_cases hbig : 255 < s.length
      · rw [show decide (s.length ≤ 255) = false by simp; omega]
        go_enter Try.func13, Try.ntmps13
        go_wp2_with fail
        refine (in_to HI.out _).mono ?_
        rintro e _ ⟨rfl, rfl⟩
        go_wp2
        go_ret
        exact ⟨rfl, Below.refl _ _⟩
      · rw [show decide (s.length ≤ 255) = true by simp; omega]
        go_enter Try.func13, Try.ntmps13
        go_wp2_with fail
        refine (in_to HI.out _).mono ?_
        rintro e _ ⟨rfl, rfl⟩
        go_wp2_with fail
        refine (word_to HQ.out h1 h2 _).mono ?_
        rintro e w1 ⟨rfl, b1⟩
        go_wp2
        go_ret
        exact ⟨rfl, b1⟩

end Go.Proofs.Ytjbnhofdpklfoaa
