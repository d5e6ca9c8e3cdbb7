/- What the functions of the reference 15 compute: contracts of their calls. -/
import Derived.Test.YtjbnhofdpklfoaaIn
namespace Go.Proofs.Ytjbnhofdpklfoaa
open Go.RowKit
set_option linter.unusedSimpArgs false
set_option linter.unnecessarySimpa false
set_option linter.unusedVariables false

def wordL (n : Int) : List UInt8 := if inB n then be4 n.toNat else []

set_option maxHeartbeats 400000 in
theorem rword_any (n : Int) (w : World) :
    Calls Try.prog 26 #[.int .i64 n] w fun e w' => e = .returned (.string (bstr (wordL n))) ∧ Below w.heap.size w w' := by
  unfold wordL
  by_cases h0 : n < 0
  · rw [show inB n = false by simp [inB]; omega]
    go_enter Try.func26, Try.ntmps26
    go_wp2
    go_ret
    exact ⟨rfl, Below.refl _ _⟩
  · by_cases h1 : 2147483648 < n
    · rw [show inB n = false by simp [inB]; omega]
      go_enter Try.func26, Try.ntmps26
      go_wp2
      go_ret
      exact ⟨rfl, Below.refl _ _⟩
    · rw [show inB n = true by simp [inB]; omega]
      obtain ⟨m, rfl⟩ : ∃ m : Nat, n = m := ⟨n.toNat, by omega⟩
      have hcv := run_bytes_four_new (P := Try.prog) w Try.underlying58 Try.underlying5 Try.underlying9 ((m : Int) / 16777216) ((m : Int) / 65536 % 256) ((m : Int) / 256 % 256) ((m : Int) % 256)
        (UInt8.ofNat (m / 16777216 % 256)) (UInt8.ofNat (m / 65536 % 256)) (UInt8.ofNat (m / 256 % 256)) (UInt8.ofNat (m % 256)) (by simp; omega) (by simp) (by simp) (by simp)
      rw [← be4_eq] at hcv
      go_enter Try.func26, Try.ntmps26
      go_wp2
      go_ret
      exact ⟨rfl, (Below.refl _ _).alloc (Nat.le_refl _) _⟩

theorem rword_to {n : Int} {q : List UInt8} (h : wordL n = q) (w : World) :
    Calls Try.prog 26 #[.int .i64 n] w fun e w' => e = .returned (.string (bstr q)) ∧ Below w.heap.size w w' := by subst h; exact rword_any n w
theorem wordL_in {n : Int} (h : inB n = true) : ∃ a b c d, wordL n = [a, b, c, d] ∧ be4 n.toNat = [a, b, c, d] := ⟨_, _, _, _, by unfold wordL; rw [if_pos h, be4_eq], be4_eq _⟩
theorem wordL_out {n : Int} (h : inB n = false) : wordL n = [] := by unfold wordL; rw [h]; rfl

set_option maxHeartbeats 400000 in
theorem rkey_any (n : Int) (w : World) :
    Calls Try.prog 12 #[.int .i64 n] w fun e w' => e = .returned (.string (bstr (keyL n))) ∧ Below w.heap.size w w' := by
  unfold keyL
  cases hi : inB n with
  | true =>
    obtain ⟨a, b, c, d, h1, h2⟩ := wordL_in hi
    rw [h2]
    have H1 := Lib.hid h1
    clear h1 h2 hi
    go_enter Try.func12, Try.ntmps12
    go_wp2_with fail
    refine (rword_to H1.out _).mono ?_
    rintro e w1 ⟨rfl, b1⟩
    go_wp2_with fail
    refine (rword_to H1.out _).mono ?_
    rintro e w2 ⟨rfl, b2⟩
    go_wp2
    go_ret
    exact ⟨rfl, b1.trans (b2.mono b1.size)⟩
  | false =>
    have H1 := Lib.hid (wordL_out hi)
    clear hi
    go_enter Try.func12, Try.ntmps12
    go_wp2_with fail
    refine (rword_to H1.out _).mono ?_
    rintro e w1 ⟨rfl, b1⟩
    go_wp2
    go_ret
    exact ⟨rfl, b1⟩

set_option maxHeartbeats 400000 in
theorem rchunk_any (n k : Int) (w : World) :
    Calls Try.prog 16 #[.int .i64 n, .int .i64 k] w fun e w' => e = .returned (.string (bstr (chunkL n k))) ∧ Below w.heap.size w w' := by
  unfold chunkL
  cases hi : inB n with
  | false =>
    have H1 := Lib.hid (wordL_out hi)
    clear hi
    go_enter Try.func16, Try.ntmps16
    go_wp2_with fail
    refine (rword_to H1.out _).mono ?_
    rintro e w1 ⟨rfl, b1⟩
    go_wp2
    go_ret
    exact ⟨rfl, b1⟩
  | true =>
    obtain ⟨a, b, c, d, h1, h2⟩ := wordL_in hi
    rw [h2]
    have H1 := Lib.hid h1
    clear h1 h2 hi
    cases hj : inB k with
    | false =>
      have H2 := Lib.hid (wordL_out hj)
      clear hj
      go_enter Try.func16, Try.ntmps16
      go_wp2_with fail
      refine (rword_to H1.out _).mono ?_
      rintro e w1 ⟨rfl, b1⟩
      go_wp2_with fail
      refine (rword_to H2.out _).mono ?_
      rintro e w2 ⟨rfl, b2⟩
      go_wp2
      go_ret
      exact ⟨rfl, b1.trans (b2.mono b1.size)⟩
    | true =>
      obtain ⟨a', b', c', d', h3, h4⟩ := wordL_in hj
      rw [h4]
      have H2 := Lib.hid h3
      clear h3 h4 hj
      go_enter Try.func16, Try.ntmps16
      go_wp2_with fail
      refine (rword_to H1.out _).mono ?_
      rintro e w1 ⟨rfl, b1⟩
      go_wp2_with fail
      refine (rword_to H2.out _).mono ?_
      rintro e w2 ⟨rfl, b2⟩
      go_wp2_with fail
      refine (rword_to H1.out _).mono ?_
      rintro e w3 ⟨rfl, b3⟩
      go_wp2_with fail
      refine (rword_to H2.out _).mono ?_
      rintro e w4 ⟨rfl, b4⟩
      go_wp2
      go_ret
      have s1 := b1.size
      have s2 := b2.size
      have s3 := b3.size
      exact ⟨rfl, b1.trans ((b2.mono s1).trans ((b3.mono (by omega)).trans (b4.mono (by omega))))⟩

set_option maxHeartbeats 400000 in
theorem rentry_any (d : Int) (s : List UInt8) (hs : s.length ≤ 140737488351232) (w : World) :
    Calls Try.prog 14 #[.int .i64 d, .string (bstr s)] w fun e w' => e = .returned (.string (bstr (entryL d s))) ∧ Below w.heap.size w w' := by
  unfold entryL
  cases hi : inB d with
  | false =>
    have H1 := Lib.hid (wordL_out hi)
    clear hi
    go_enter Try.func14, Try.ntmps14
    go_wp2_with fail
    refine (rword_to H1.out _).mono ?_
    rintro e w1 ⟨rfl, b1⟩
    go_wp2
    go_ret
    exact ⟨rfl, b1⟩
  | true =>
    obtain ⟨x0, x1, x2, x3, h1, h2⟩ := wordL_in hi
    rw [h2]
    have H1 := Lib.hid h1
    clear h1 h2 hi
    by_cases hne : s = []
    · subst hne
      go_enter Try.func14, Try.ntmps14
      go_wp2_with fail
      refine (rword_to H1.out _).mono ?_
      rintro e w1 ⟨rfl, b1⟩
      go_wp2
      go_ret
      exact ⟨rfl, b1⟩
    · have e1 : s.isEmpty = false := by simp [hne]
      rw [e1]
      by_cases hbig : 255 < s.length
      · rw [show decide (s.length ≤ 255) = false by simp; omega]
        go_enter Try.func14, Try.ntmps14
        go_wp2_with fail
        refine (rword_to H1.out _).mono ?_
        rintro e w1 ⟨rfl, b1⟩
        go_wp2
        go_ret
        exact ⟨rfl, b1⟩
      · rw [show decide (s.length ≤ 255) = true by simp; omega]
        go_enter Try.func14, Try.ntmps14
        go_wp2_with fail
        refine (rword_to H1.out _).mono ?_
        rintro e w1 ⟨rfl, b1⟩
        go_wp2_with fail
        refine (rword_to H1.out _).mono ?_
        rintro e w2 ⟨rfl, b2⟩
        go_wp2
        go_ret
        exact ⟨rfl, b1.trans (b2.mono b1.size)⟩

end Go.Proofs.Ytjbnhofdpklfoaa
