import Derived.Test.YtpjkkhciokheiaaRd2
import Derived.Test.YtpjkkhciokheiaaFr
namespace Go.Proofs.Ytpjkkhciokheiaa
open Go.RowKit
set_option linter.unusedSimpArgs false
set_option linter.unusedVariables false

set_option maxHeartbeats 1000000 in
theorem live_any (w : World) :
    Calls Try.prog 8 #[] w fun e w' => e = .returned (.bool true) ∧ Below w.heap.size w w' := by
  go_enter Try.func8, Try.ntmps8
  go_wp2_with fail
  refine (read_any [2, 1, 2, 104, 105, 33] _).mono ?_
  rintro e w1 ⟨rfl, r1, b1⟩
  go_wp2_with fail
  refine (number_to (r' := ⟨[2, 104, 105, 33], 0⟩) (n := 258) (by rfl) _ _ r1 (by decide)).mono ?_
  rintro e w2 ⟨rfl, r2, b2⟩
  go_wp2_with fail
  refine (rtext_to (r' := ⟨[33], 0⟩) (q := [104, 105]) (by rfl) _ _ r2 (by decide)).mono ?_
  rintro e w3 ⟨rfl, r3, b3⟩
  go_wp2_with fail
  refine (left_to (n := 1) (by decide) _ _ r3 (by decide)).mono ?_
  rintro e _ ⟨rfl, rfl⟩
  go_wp2_with fail
  refine (end_to (n := 3) (by decide) _ _ r3).mono ?_
  rintro e _ ⟨rfl, rfl⟩
  go_wp2_with fail
  refine (bytes_to (r' := ⟨[33], 2⟩) (q := []) (by rfl) _ _ r3 (by decide)).mono ?_
  rintro e w4 ⟨rfl, r4, b4⟩
  go_wp2_with fail
  refine (end_to (n := 2) (by decide) _ _ r4).mono ?_
  rintro e _ ⟨rfl, rfl⟩
  go_wp2_with fail
  refine (bytes_to (r' := ⟨[33], 2⟩) (q := []) (by rfl) _ _ r4 (by decide)).mono ?_
  rintro e w5 ⟨rfl, r5, b5⟩
  go_wp2_with fail
  refine (put_to (q := [2, 1]) (by decide) _).mono ?_
  rintro e w6 ⟨rfl, b6⟩
  go_wp2_with fail
  refine (put_to (q := []) (by decide) _).mono ?_
  rintro e w7 ⟨rfl, b7⟩
  go_wp2_with fail
  refine (put_to (q := []) (by decide) _).mono ?_
  rintro e w8 ⟨rfl, b8⟩
  go_wp2_with fail
  refine (text_to (s := [97, 98]) (q := [2, 97, 98]) (by decide) _ (by decide)).mono ?_
  rintro e w9 ⟨rfl, b9⟩
  go_wp2_with fail
  refine (most_to (m := 65535) (by decide) _).mono ?_
  rintro e _ ⟨rfl, rfl⟩
  go_wp2_with fail
  refine (most_to (m := -1) (by decide) _).mono ?_
  rintro e _ ⟨rfl, rfl⟩
  go_wp2
  go_ret
  have s1 := b1.size
  have s2 := b2.size
  have s3 := b3.size
  have s4 := b4.size
  have s5 := b5.size
  have s6 := b6.size
  have s7 := b7.size
  have s8 := b8.size
  have k2 := (b2.mono (B' := w.heap.size) (S' := fun _ => False) (by omega) (fun k hk e => by omega)).below
  have k3 := (b3.mono (B' := w.heap.size) (S' := fun _ => False) (by omega) (fun k hk e => by omega)).below
  have k4 := (b4.mono (B' := w.heap.size) (S' := fun _ => False) (by omega) (fun k hk e => by omega)).below
  have k5 := (b5.mono (B' := w.heap.size) (S' := fun _ => False) (by omega) (fun k hk e => by omega)).below
  exact ⟨rfl, b1.trans (k2.trans (k3.trans (k4.trans (k5.trans ((b6.mono (by omega)).trans ((b7.mono (by omega)).trans ((b8.mono (by omega)).trans (b9.mono (by omega)))))))))⟩

end Go.Proofs.Ytpjkkhciokheiaa
