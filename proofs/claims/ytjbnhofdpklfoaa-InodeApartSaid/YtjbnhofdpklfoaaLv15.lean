/- The law package's own helper functions of layer 15: contracts of their calls. -/
import Derived.Test.YtjbnhofdpklfoaaDeR
import Derived.Test.YtjbnhofdpklfoaaWh
namespace Go.Proofs.Ytjbnhofdpklfoaa
open Go.RowKit
set_option linter.unusedSimpArgs false
set_option linter.unnecessarySimpa false
set_option linter.unusedVariables false

theorem which_to {key : List UInt8} {k n : Int} {r : List UInt8} {b : Bool} (h : whichL key = ⟨k, n, r, b⟩) (hk : key.length ≤ 140737488351232) (w : World) :
    Calls Try.prog 9 #[.string (bstr key)] w fun e w' => e = .returned (.tuple #[.int .i64 k, .int .i64 n, .string (bstr r), .bool b]) ∧ w = w' := by
  have := which_any key hk w; rw [h] at this; exact this
theorem rwhich_to {key : List UInt8} {k n : Int} {r : List UInt8} {b : Bool} (h : whichL key = ⟨k, n, r, b⟩) (hk : key.length ≤ 140737488351232) (w : World) :
    Calls Try.prog 10 #[.string (bstr key)] w fun e w' => e = .returned (.tuple #[.int .i64 k, .int .i64 n, .string (bstr r), .bool b]) ∧ w = w' := by
  have := rwhich_any key hk w; rw [h] at this; exact this
theorem enc_to {d : Bool} {s l : Int} {v : Value} (h : encV d s l = v) (w : World) :
    Calls Try.prog 17 #[.agg #[.bool d, .int .i64 s, .int .i64 l]] w fun e w' => e = .returned v ∧ Below w.heap.size w w' := by subst h; exact enc_any d s l w
theorem dec_to {s : List UInt8} {d : Bool} {x y e0 : Int} (h : decL s = ⟨d, x, y, e0⟩) (hs : s.length ≤ 140737488351232) (w : World) :
    Calls Try.prog 19 #[.string (bstr s)] w fun e w' => e = .returned (.tuple #[.agg #[.bool d, .int .i64 x, .int .i64 y], .int .i64 e0]) ∧ Below w.heap.size w w' := by
  have := dec_any s hs w; rw [h] at this; exact this
theorem rdec_to {s : List UInt8} {d : Bool} {x y e0 : Int} (h : decL s = ⟨d, x, y, e0⟩) (hs : s.length ≤ 140737488351232) (w : World) :
    Calls Try.prog 20 #[.string (bstr s)] w fun e w' => e = .returned (.tuple #[.agg #[.bool d, .int .i64 x, .int .i64 y], .int .i64 e0]) ∧ Below w.heap.size w w' := by
  have := rdec_any s hs w; rw [h] at this; exact this
theorem key_to {n : Int} {q : List UInt8} (h : keyL n = q) (w : World) :
    Calls Try.prog 11 #[.int .i64 n] w fun e w' => e = .returned (.string (bstr q)) ∧ Below w.heap.size w w' := by subst h; exact key_any n w
theorem chunk_to {n k : Int} {q : List UInt8} (h : chunkL n k = q) (w : World) :
    Calls Try.prog 15 #[.int .i64 n, .int .i64 k] w fun e w' => e = .returned (.string (bstr q)) ∧ Below w.heap.size w w' := by subst h; exact chunk_any n k w
theorem entry_to {d : Int} {s q : List UInt8} (h : entryL d s = q) (hs : s.length ≤ 140737488351232) (w : World) :
    Calls Try.prog 13 #[.int .i64 d, .string (bstr s)] w fun e w' => e = .returned (.string (bstr q)) ∧ Below w.heap.size w w' := by subst h; exact entry_any d s hs w

set_option maxHeartbeats 400000 in
theorem told_any (d : Bool) (s l : Int) (w : World) :
    Calls Try.prog 21 #[.agg #[.bool d, .int .i64 s, .int .i64 l]] w fun e w' => e = .returned (.agg #[.bool d, .int .i64 s, .int .i64 l]) ∧ Below w.heap.size w w' := by
  go_enter Try.func21, Try.ntmps21
  go_wp2
  exact bodyPost_ret (v := .agg #[.bool d, .int .i64 s, .int .i64 l]) (by simp [results, Try.results21, go_sem]) rfl ⟨rfl, by
    repeat (first | exact Below.refl _ _ | refine below_at ?_ (by simp) _ _ | refine Below.alloc ?_ (by simp) _)⟩

set_option maxHeartbeats 2000000 in
theorem live_any (w : World) :
    Calls Try.prog 8 #[] w fun e w' => e = .returned (.bool true) ∧ Below w.heap.size w w' := by
  have K1 : Hid (whichL [100, 0, 0, 1, 2, 97, 98] = ⟨1, 258, [97, 98], true⟩) := by show _ = _; rfl
  have K2 : Hid (whichL [105, 0, 0, 1] = ⟨0, 0, [], false⟩) := by show _ = _; rfl
  have K3 : Hid (encV true 258 3 = .tuple #[.string (bstr [1, 2, 1, 0, 0, 3, 0, 0, 0]), .int .i64 0]) := by show _ = _; rfl
  have K4 : Hid (decL [1, 2, 1, 0, 0, 3, 0, 0, 0] = ⟨true, 258, 3, 0⟩) := by show _ = _; rfl
  have K5 : Hid (decL [115, 104, 111, 114, 116] = ⟨false, 0, 0, 2⟩) := by show _ = _; rfl
  have K6 : Hid (encV false (-1) 0 = .tuple #[.string (bstr []), .int .i64 1]) := by show _ = _; rfl
  have K7 : Hid (keyL 258 = [105, 0, 0, 1, 2]) := by show _ = _; rfl
  have K8 : Hid (keyL (-1) = []) := by show _ = _; rfl
  have K9 : Hid (entryL 1 [] = []) := by show _ = _; rfl
  have K0 : Hid (chunkL 0 2 = [99, 0, 0, 0, 0, 0, 0, 0, 2]) := by show _ = _; rfl
  go_enter Try.func8, Try.ntmps8
  go_wp2_with fail
  refine (which_to K1.out (by decide) _).mono ?_
  rintro e _ ⟨rfl, rfl⟩
  go_wp2_with fail
  refine (which_to K2.out (by decide) _).mono ?_
  rintro e _ ⟨rfl, rfl⟩
  go_wp2_with fail
  refine (enc_to K3.out _).mono ?_
  rintro e w1 ⟨rfl, b1⟩
  go_wp2_with fail
  refine (dec_to K4.out (by decide) _).mono ?_
  rintro e w2 ⟨rfl, b2⟩
  go_wp2_with fail
  have z1 := b1.size
  have z2 := b2.size
  have q2 := b1.trans (b2.mono z1)
  have y2 := q2.size
  obtain ⟨g, hg⟩ : ∃ g, w2.heap.size = g := ⟨_, rfl⟩
  obtain ⟨w3, hw3⟩ : ∃ w3, w2.alloc (.cells #[.bool true, .int .i64 258, .int .i64 3] 34) = w3 := ⟨_, rfl⟩
  have hb3 : Blk w3 g 34 #[.bool true, .int .i64 258, .int .i64 3] := by rw [← hw3, ← hg]; exact Blk.new _ _ _
  have q3 : Below w.heap.size w w3 := by rw [← hw3]; exact q2.alloc y2 _
  have y3 := q3.size
  rw [hw3, hg]
  clear hw3 hg q2 y2 z1 z2 b1 b2
  refine (dec_to K5.out (by decide) _).mono ?_
  rintro e w4 ⟨rfl, b4⟩
  have hb4 := hb3.below b4 hb3.lt
  have q4 := q3.trans (b4.mono y3)
  have y4 := q4.size
  clear hb3 q3 y3 b4
  go_wp2_with fail
  obtain ⟨w5, hw5⟩ : ∃ w5, w4.alloc (.cells #[.bool false, .int .i64 0, .int .i64 0] 34) = w5 := ⟨_, rfl⟩
  have hb5 : Blk w5 g 34 #[.bool true, .int .i64 258, .int .i64 3] := by rw [← hw5]; exact hb4.alloc _
  have q5 : Below w.heap.size w w5 := by rw [← hw5]; exact q4.alloc y4 _
  have y5 := q5.size
  rw [hw5]
  clear hw5 q4 y4 hb4
  refine (enc_to K6.out _).mono ?_
  rintro e w6 ⟨rfl, b6⟩
  have hb6 := hb5.below b6 hb5.lt
  have q6 := q5.trans (b6.mono y5)
  have y6 := q6.size
  clear hb5 q5 y5 b6
  go_wp2_with fail
  refine (key_to K7.out _).mono ?_
  rintro e w7 ⟨rfl, b7⟩
  have hb7 := hb6.below b7 hb6.lt
  have q7 := q6.trans (b7.mono y6)
  have y7 := q7.size
  clear hb6 q6 y6 b7
  go_wp2_with fail
  refine (key_to K8.out _).mono ?_
  rintro e w8 ⟨rfl, b8⟩
  have hb8 := hb7.below b8 hb7.lt
  have q8 := q7.trans (b8.mono y7)
  have y8 := q8.size
  clear hb7 q7 y7 b8
  go_wp2_with fail
  refine (entry_to (s := []) K9.out (by decide) _).mono ?_
  rintro e w9 ⟨rfl, b9⟩
  have hb9 := hb8.below b9 hb8.lt
  have q9 := q8.trans (b9.mono y8)
  have y9 := q9.size
  clear hb8 q8 y8 b9
  go_wp2_with fail
  refine (chunk_to K0.out _).mono ?_
  rintro e w10 ⟨rfl, b10⟩
  have hb10 := hb9.below b10 hb9.lt
  have q10 := q9.trans (b10.mono y9)
  have c0 := hb10.cell 0
  have c1 := hb10.cell 1
  have c2 := hb10.cell 2
  simp at c0 c1 c2
  clear hb9 q9 y9 b10
  go_wp2
  go_ret
  exact ⟨rfl, q10⟩

end Go.Proofs.Ytjbnhofdpklfoaa
