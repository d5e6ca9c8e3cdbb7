/- The laws of uber: own, told; the reference 06: contracts. -/
import Derived.Test.YtcamcjcmhjldpaaDoorUf
import Derived.Test.YtcamcjcmhjldpaaDoorOfb
import Derived.Test.YtcamcjcmhjldpaaDoorRr
import Derived.Test.YtcamcjcmhjldpaaDoorFr
namespace Go.Proofs.YtcamcjcmhjldpaaDoor
open Go Go.RowKit
set_option linter.unusedSimpArgs false
set_option linter.unnecessarySimpa false
set_option linter.unusedVariables false

set_option maxHeartbeats 400000 in
theorem rrtext_any (r : Rd) (wd : Int) (g : Nat) (w : World) (hr : RrAt w g r) (hl : r.s.length ≤ 9223372036854775807) :
    Calls Tryd.prog 38 #[.pointer (some ⟨g, 0, none⟩), .int .i64 wd] w fun en w' => en = .returned (.string (bstr (r.text wd).1)) ∧ RrAt w' g (r.text wd).2 ∧ Keep w.heap.size (· = g) w w' := by
  unfold Rd.text
  have hle : (r.number wd).2.s.length ≤ r.s.length := (Rd.take_len r wd _).2
  obtain ⟨⟨n, r1⟩, h1⟩ : ∃ t, r.number wd = t := ⟨_, rfl⟩
  rw [h1] at hle ⊢
  obtain ⟨⟨q, r2⟩, h2⟩ : ∃ t, r1.bytes n = t := ⟨_, rfl⟩
  rw [h2]
  have hl1 : r1.s.length ≤ 9223372036854775807 := by simp only at hle; omega
  have H1 := Lib.hid h1
  have H2 := Lib.hid h2
  clear h1 h2 hle
  go_enter Tryd.func38, Tryd.ntmps38
  go_wp2_with (first | (go_at_call 37; refine (rnumber_to H1.out _ _ hr hl).mono ?_; rintro e w1 ⟨rfl, h1, k1⟩) | (go_at_call 62; refine (rbytes_to H2.out _ _ h1 hl1).mono ?_; rintro e w2 ⟨rfl, h2, k2⟩))
  go_ret
  exact ⟨rfl, h2, k1.trans (k2.mono k1.size (fun _ _ h => h))⟩
theorem rrtext_to {r r' : Rd} {n : Int} {q : List UInt8} (ht : r.text n = (q, r')) (g : Nat) (w : World) (hr : RrAt w g r) (hl : r.s.length ≤ 9223372036854775807) :
    Calls Tryd.prog 38 #[.pointer (some ⟨g, 0, none⟩), .int .i64 n] w fun en w' => en = .returned (.string (bstr q)) ∧ RrAt w' g r' ∧ Keep w.heap.size (· = g) w w' := by
  have h := rrtext_any r n g w hr hl
  rw [ht] at h
  exact h
set_option maxHeartbeats 400000 in
theorem rend_any (r : Rd) (g : Nat) (w : World) (hr : RrAt w g r) :
    Calls Tryd.prog 39 #[.pointer (some ⟨g, 0, none⟩)] w fun en w' => en = .returned (.int .i64 r.fin) ∧ w = w' := by
  obtain ⟨s, e0⟩ := r
  have hc0 := hr.cell 0
  have hc1 := hr.cell 1
  simp at hc0 hc1
  by_cases h : e0 = 0
  · subst h
    cases s with
    | nil =>
      go_enter Tryd.func39, Tryd.ntmps39
      go_wp2
      go_ret
      exact ⟨ret_int (by simp [Rd.fin]), rfl⟩
    | cons c s =>
      go_enter Tryd.func39, Tryd.ntmps39
      go_wp2
      go_ret
      exact ⟨ret_int (by simp [Rd.fin]), rfl⟩
  · have h0b : (e0 == 0) = false := by simp [h]
    go_enter Tryd.func39, Tryd.ntmps39
    go_wp2
    go_ret
    exact ⟨ret_int (by simp [Rd.fin, h]), rfl⟩
theorem rend_to {r : Rd} {n : Int} (h : r.fin = n) (g : Nat) (w : World) (hr : RrAt w g r) :
    Calls Tryd.prog 39 #[.pointer (some ⟨g, 0, none⟩)] w fun en w' => en = .returned (.int .i64 n) ∧ w = w' := by subst h; exact rend_any r g w hr

theorem rput_to {n wd : Int} {q : List UInt8} (h : putL n wd = q) (w : World) :
    Calls Tryd.prog 26 #[.int .i64 n, .int .i64 wd] w fun e w' => e = .returned (.string (bstr q)) ∧ Below w.heap.size w w' := by subst h; exact rput_any n wd w
theorem rftext_to {s q : List UInt8} {wd : Int} (h : textL s wd = q) (w : World) (hs : s.length ≤ 140737488355328) :
    Calls Tryd.prog 27 #[.string (bstr s), .int .i64 wd] w fun e w' => e = .returned (.string (bstr q)) ∧ Below w.heap.size w w' := by subst h; exact rftext_any s wd w hs
theorem rof_to {s q : List UInt8} (h : shaL s = q) (hs : s.length ≤ 8000) (w : World) :
    Calls Tryd.prog 12 #[.string (bstr s)] w fun e w' => e = .returned (.string (bstr q)) ∧ Below w.heap.size w w' := by subst h; exact of_ref s hs w

section
attribute [local go_sem] undef
set_option maxRecDepth 100000 in
set_option maxHeartbeats 4000000 in
theorem own_any (t : Int) (l : List UInt8) (w : World) :
    Calls Tryd.prog 10 #[.agg #[.int .i64 t, .string (bstr l)]] w fun e w' => e = .returned (.agg #[.int .i64 t, .string (bstr l)]) ∧ Below w.heap.size w w' := by
  have bel : Below w.heap.size w w := Below.refl _ _
  obtain ⟨B, hB0⟩ : ∃ B, w.heap.size = B := ⟨_, rfl⟩
  have HW := Lib.hid hB0
  rw [hB0]
  clear hB0
  go_enter Tryd.func10, Tryd.ntmps10
  go_wp2_with fail
  obtain ⟨w1, hw1⟩ : ∃ x, w.alloc (.cells #[.int .i64 t, .string (bstr l)] 23) = x := ⟨_, rfl⟩
  obtain ⟨ib0, hib0⟩ : ∃ i, w.heap.size = i := ⟨_, rfl⟩
  have b0 : Blk w1 ib0 23 #[.int .i64 t, .string (bstr l)] := by rw [← hw1, ← hib0]; exact Blk.new _ _ _
  have k1 : Below w.heap.size w w1 := by rw [← hw1]; exact (Below.refl _ _).alloc (Nat.le_refl _) _
  have zb0 : w1.heap.size = ib0 + 1 := by rw [← hw1, ← hib0]; simp
  rw [hw1, hib0]
  have ob0 : w.heap.size ≤ ib0 := by rw [← hib0]; exact bel.size
  have bel := hthen bel k1
  clear k1
  clear hw1 hib0
  have b0c0 := b0.cell 0
  have b0c1 := b0.cell 1
  simp at b0c0 b0c1
  have b0lt := b0.lt
  clear b0c0 b0c1 b0lt
  obtain ⟨w2, hw2⟩ : ∃ x, w1.alloc (.cells #[.int .i64 t, .string (bstr l)] 28) = x := ⟨_, rfl⟩
  obtain ⟨ir0, hir0⟩ : ∃ i, w1.heap.size = i := ⟨_, rfl⟩
  have r0 : Blk w2 ir0 28 #[.int .i64 t, .string (bstr l)] := by rw [← hw2, ← hir0]; exact Blk.new _ _ _
  have k2 : Below w1.heap.size w1 w2 := by rw [← hw2]; exact (Below.refl _ _).alloc (Nat.le_refl _) _
  have zr0 : w2.heap.size = ir0 + 1 := by rw [← hw2, ← hir0]; simp
  rw [hw2, ← zb0, hir0]
  have or0 : w.heap.size ≤ ir0 := by rw [← hir0]; exact bel.size
  have nb0r0 : ib0 ≠ ir0 := by have := b0.lt; omega
  have b0 := b0.below k2 b0.lt
  have bel := hthen bel k2
  clear k2
  clear hw2 hir0
  have b0c0 := b0.cell 0
  have b0c1 := b0.cell 1
  simp at b0c0 b0c1
  have b0lt := b0.lt
  have r0c0 := r0.cell 0
  have r0c1 := r0.cell 1
  simp at r0c0 r0c1
  have r0lt := r0.lt
  have xx0 := r0.cell 0
  have xx1 := r0.cell 1
  simp at xx0 xx1
  refine bodyPost_ret (v := .agg #[.int .i64 t, .string (bstr l)]) ?h1 rfl ?h2
  case h1 => simp [results, Tryd.results10, go_sem, xx0, xx1]
  case h2 => exact ⟨rfl, HW.out ▸ bel⟩
end

section
attribute [local go_sem] undef
set_option maxRecDepth 100000 in
set_option maxHeartbeats 4000000 in
theorem told_any (t : Int) (l : List UInt8) (w : World) :
    Calls Tryd.prog 15 #[.agg #[.int .i64 t, .string (bstr l)]] w fun e w' => e = .returned (.agg #[.int .i64 t, .string (bstr l)]) ∧ Below w.heap.size w w' := by
  have bel : Below w.heap.size w w := Below.refl _ _
  obtain ⟨B, hB0⟩ : ∃ B, w.heap.size = B := ⟨_, rfl⟩
  have HW := Lib.hid hB0
  rw [hB0]
  clear hB0
  go_enter Tryd.func15, Tryd.ntmps15
  go_wp2_with fail
  obtain ⟨w1, hw1⟩ : ∃ x, w.alloc (.cells #[.int .i64 t, .string (bstr l)] 28) = x := ⟨_, rfl⟩
  obtain ⟨ib0, hib0⟩ : ∃ i, w.heap.size = i := ⟨_, rfl⟩
  have b0 : Blk w1 ib0 28 #[.int .i64 t, .string (bstr l)] := by rw [← hw1, ← hib0]; exact Blk.new _ _ _
  have k1 : Below w.heap.size w w1 := by rw [← hw1]; exact (Below.refl _ _).alloc (Nat.le_refl _) _
  have zb0 : w1.heap.size = ib0 + 1 := by rw [← hw1, ← hib0]; simp
  rw [hw1, hib0]
  have ob0 : w.heap.size ≤ ib0 := by rw [← hib0]; exact bel.size
  have bel := hthen bel k1
  clear k1
  clear hw1 hib0
  have b0c0 := b0.cell 0
  have b0c1 := b0.cell 1
  simp at b0c0 b0c1
  have b0lt := b0.lt
  clear b0c0 b0c1 b0lt
  obtain ⟨w2, hw2⟩ : ∃ x, w1.alloc (.cells #[.int .i64 t, .string (bstr l)] 23) = x := ⟨_, rfl⟩
  obtain ⟨ir0, hir0⟩ : ∃ i, w1.heap.size = i := ⟨_, rfl⟩
  have r0 : Blk w2 ir0 23 #[.int .i64 t, .string (bstr l)] := by rw [← hw2, ← hir0]; exact Blk.new _ _ _
  have k2 : Below w1.heap.size w1 w2 := by rw [← hw2]; exact (Below.refl _ _).alloc (Nat.le_refl _) _
  have zr0 : w2.heap.size = ir0 + 1 := by rw [← hw2, ← hir0]; simp
  rw [hw2, ← zb0, hir0]
  have or0 : w.heap.size ≤ ir0 := by rw [← hir0]; exact bel.size
  have nb0r0 : ib0 ≠ ir0 := by have := b0.lt; omega
  have b0 := b0.below k2 b0.lt
  have bel := hthen bel k2
  clear k2
  clear hw2 hir0
  have b0c0 := b0.cell 0
  have b0c1 := b0.cell 1
  simp at b0c0 b0c1
  have b0lt := b0.lt
  have r0c0 := r0.cell 0
  have r0c1 := r0.cell 1
  simp at r0c0 r0c1
  have r0lt := r0.lt
  have xx0 := r0.cell 0
  have xx1 := r0.cell 1
  simp at xx0 xx1
  refine bodyPost_ret (v := .agg #[.int .i64 t, .string (bstr l)]) ?h1 rfl ?h2
  case h1 => simp [results, Tryd.results15, go_sem, xx0, xx1]
  case h2 => exact ⟨rfl, HW.out ▸ bel⟩
end

set_option maxRecDepth 100000 in
set_option maxHeartbeats 4000000 in
theorem renc_any (u : Ub) (hl : u.load.length ≤ 140737488351232) (w : World) :
    Calls Tryd.prog 11 #[.agg #[.int .i64 u.txg, .string (bstr u.load)]] w fun e w' => e = .returned (.tuple #[.string (bstr (ubL u)), .int .i64 (ubE u)]) ∧ Below w.heap.size w w' := by
  obtain ⟨t, l⟩ := u
  simp only at hl ⊢
  have bel : Below w.heap.size w w := Below.refl _ _
  obtain ⟨B, hB0⟩ : ∃ B, w.heap.size = B := ⟨_, rfl⟩
  have HW := Lib.hid hB0
  rw [hB0]
  clear hB0
  have szl : (bstr l).size = l.length := by simp [bstr, ByteArray.size]
  by_cases h1 : t < 0
  · have HE : Hid (ubE ⟨t, l⟩ = 1) := Lib.hid (by unfold ubE; rw [if_pos (by simp only; omega)])
    have HL : Hid (ubL ⟨t, l⟩ = []) := Lib.hid (by unfold ubL; rw [HE.out]; rfl)
    rw [HE.out, HL.out]
    have q1 : decide (t < 0) = true := decide_eq_true h1
    go_enter Tryd.func11, Tryd.ntmps11
    go_wp2_with fail
    obtain ⟨w1, hw1⟩ : ∃ x, w.alloc (.cells #[.int .i64 t, .string (bstr l)] 23) = x := ⟨_, rfl⟩
    obtain ⟨ib0, hib0⟩ : ∃ i, w.heap.size = i := ⟨_, rfl⟩
    have b0 : Blk w1 ib0 23 #[.int .i64 t, .string (bstr l)] := by rw [← hw1, ← hib0]; exact Blk.new _ _ _
    have k1 : Below w.heap.size w w1 := by rw [← hw1]; exact (Below.refl _ _).alloc (Nat.le_refl _) _
    have zb0 : w1.heap.size = ib0 + 1 := by rw [← hw1, ← hib0]; simp
    rw [hw1, hib0]
    have bel := hthen bel k1
    clear k1
    clear hw1 hib0
    have b0c0 := b0.cell 0
    have b0c1 := b0.cell 1
    simp at b0c0 b0c1
    have b0lt := b0.lt
    go_wp2
    go_ret2
    exact ⟨rfl, HW.out ▸ bel⟩
  have q1 : decide (t < 0) = false := decide_eq_false h1
  by_cases h2 : 1099511627776 < t
  · have HE : Hid (ubE ⟨t, l⟩ = 1) := Lib.hid (by unfold ubE; rw [if_pos (by simp only; omega)])
    have HL : Hid (ubL ⟨t, l⟩ = []) := Lib.hid (by unfold ubL; rw [HE.out]; rfl)
    rw [HE.out, HL.out]
    have q2 : decide (t > 1099511627776) = true := decide_eq_true h2
    go_enter Tryd.func11, Tryd.ntmps11
    go_wp2_with fail
    obtain ⟨w1, hw1⟩ : ∃ x, w.alloc (.cells #[.int .i64 t, .string (bstr l)] 23) = x := ⟨_, rfl⟩
    obtain ⟨ib0, hib0⟩ : ∃ i, w.heap.size = i := ⟨_, rfl⟩
    have b0 : Blk w1 ib0 23 #[.int .i64 t, .string (bstr l)] := by rw [← hw1, ← hib0]; exact Blk.new _ _ _
    have k1 : Below w.heap.size w w1 := by rw [← hw1]; exact (Below.refl _ _).alloc (Nat.le_refl _) _
    have zb0 : w1.heap.size = ib0 + 1 := by rw [← hw1, ← hib0]; simp
    rw [hw1, hib0]
    have bel := hthen bel k1
    clear k1
    clear hw1 hib0
    have b0c0 := b0.cell 0
    have b0c1 := b0.cell 1
    simp at b0c0 b0c1
    have b0lt := b0.lt
    go_wp2
    go_ret2
    exact ⟨rfl, HW.out ▸ bel⟩
  have q2 : decide (t > 1099511627776) = false := decide_eq_false h2
  by_cases h3 : 960 < l.length
  · have HE : Hid (ubE ⟨t, l⟩ = 1) := Lib.hid (by unfold ubE; rw [if_pos (by simp only; omega)])
    have HL : Hid (ubL ⟨t, l⟩ = []) := Lib.hid (by unfold ubL; rw [HE.out]; rfl)
    rw [HE.out, HL.out]
    have q3 : decide ((l.length : Int) > 960) = true := decide_eq_true (by omega)
    go_enter Tryd.func11, Tryd.ntmps11
    go_wp2_with fail
    obtain ⟨w1, hw1⟩ : ∃ x, w.alloc (.cells #[.int .i64 t, .string (bstr l)] 23) = x := ⟨_, rfl⟩
    obtain ⟨ib0, hib0⟩ : ∃ i, w.heap.size = i := ⟨_, rfl⟩
    have b0 : Blk w1 ib0 23 #[.int .i64 t, .string (bstr l)] := by rw [← hw1, ← hib0]; exact Blk.new _ _ _
    have k1 : Below w.heap.size w w1 := by rw [← hw1]; exact (Below.refl _ _).alloc (Nat.le_refl _) _
    have zb0 : w1.heap.size = ib0 + 1 := by rw [← hw1, ← hib0]; simp
    rw [hw1, hib0]
    have bel := hthen bel k1
    clear k1
    clear hw1 hib0
    have b0c0 := b0.cell 0
    have b0c1 := b0.cell 1
    simp at b0c0 b0c1
    have b0lt := b0.lt
    go_wp2
    go_ret2
    exact ⟨rfl, HW.out ▸ bel⟩
  have q3 : decide ((l.length : Int) > 960) = false := decide_eq_false (by omega)
  have HE : Hid (ubE ⟨t, l⟩ = 0) := Lib.hid (by unfold ubE; rw [if_neg (by simp only; omega)])
  have hL := ubL_ok HE.out
  have hbl := ubv_len ⟨t, l⟩
  have hB : ubB ⟨t, l⟩ = [80, 70] ++ putL t 6 ++ textL l 2 := rfl
  simp only at hbl
  obtain ⟨R, hR0⟩ : ∃ R, ubL ⟨t, l⟩ = R := ⟨_, rfl⟩
  obtain ⟨BB, hBB⟩ : ∃ R, ubB ⟨t, l⟩ = R := ⟨_, rfl⟩
  obtain ⟨SH, hSH⟩ : ∃ R, shaL BB = R := ⟨_, rfl⟩
  have hsl : SH.length = 32 := by rw [← hSH, sha_len]
  rw [hBB] at hB hL hbl
  rw [hR0, hSH] at hL
  rw [HE.out, hR0]
  obtain ⟨P, hP⟩ : ∃ R, putL t 6 = R := ⟨_, rfl⟩
  obtain ⟨TX, hTX⟩ : ∃ R, textL l 2 = R := ⟨_, rfl⟩
  have hpl := putL_len t 6
  rw [hP] at hpl hB
  rw [hTX] at hB
  have htl : 2 + P.length + TX.length ≤ 16 + l.length := by rw [hB] at hbl; simpa [Nat.add_assoc, Nat.add_comm, Nat.add_left_comm] using hbl
  have HP := Lib.hid hP
  have HTX := Lib.hid hTX
  have HSH := Lib.hid hSH
  have hB2 : 80 :: 70 :: (P ++ TX) = BB := by rw [hB]; simp
  have HB := Lib.hid hB2
  have HL := Lib.hid hL
  have n1 : ¬ 9223372036854775807 < 2 + P.length := by omega
  have n2 : ¬ 9223372036854775807 < P.length + 1 + 1 + TX.length := by omega
  have n3 : ¬ 9223372036854775807 < BB.length + SH.length := by omega
  have H8K := Lib.hid (show BB.length ≤ 8000 by omega)
  clear h1 h2 h3 hP hTX hSH hB hB2 hL hR0 hBB htl
  go_enter Tryd.func11, Tryd.ntmps11
  go_wp2_with fail
  obtain ⟨w1, hw1⟩ : ∃ x, w.alloc (.cells #[.int .i64 t, .string (bstr l)] 23) = x := ⟨_, rfl⟩
  obtain ⟨ib0, hib0⟩ : ∃ i, w.heap.size = i := ⟨_, rfl⟩
  have b0 : Blk w1 ib0 23 #[.int .i64 t, .string (bstr l)] := by rw [← hw1, ← hib0]; exact Blk.new _ _ _
  have k1 : Below w.heap.size w w1 := by rw [← hw1]; exact (Below.refl _ _).alloc (Nat.le_refl _) _
  have zb0 : w1.heap.size = ib0 + 1 := by rw [← hw1, ← hib0]; simp
  rw [hw1, hib0]
  have bel := hthen bel k1
  clear k1
  clear hw1 hib0
  have b0c0 := b0.cell 0
  have b0c1 := b0.cell 1
  simp at b0c0 b0c1
  have b0lt := b0.lt
  try (go_wp2_with fail)
  clear b0c0 b0c1 b0lt
  have bel := bel.drew
  have b0 := b0.drew
  refine wp_region_noPanic ?_
  refine wp_region_held_drew (S := (fun w' => w'.cell? ⟨ib0, 0, none⟩ = some (.int .i64 t) ∧ w'.cell? ⟨ib0, 1, none⟩ = some (.string (bstr l)))) (by kernel_rfl) ?hS0 (fun hHeld => ?_)
  case hS0 => (have q0 := b0.cell 0; have q1 := b0.cell 1; simp at q0 q1; exact ⟨q0, q1⟩)
  generalize hZ : w1.drew = wd2 at *
  clear hZ
  refine wpAnyH_take (i := 0) (oi := ⟨some 19, _, _, _, _, _⟩) (v := ?_) rfl (by kernel_rfl) (by kernel_rfl) (by kernel_rfl) (fun _ _ _ h => h) (Or.inl ⟨by kernel_rfl, ?_⟩) hHeld ?_
  rotate_left
  · (intro w hSw; (try dsimp only at hSw); go_simp; try with_reducible rfl)
  try simp only [Act.put, List.getElem_toArray, List.getElem_cons_succ, List.getElem_cons_zero, List.setIfInBounds_toArray, List.set_cons_zero, List.set_cons_succ]
  refine wpAnyH_take (i := 1) (oi := ⟨some 20, _, _, _, _, _⟩) (v := ?_) rfl (by kernel_rfl) (by kernel_rfl) (by kernel_rfl) (fun _ _ _ h => h) (Or.inl ⟨by kernel_rfl, ?_⟩) hHeld ?_
  rotate_left
  · (intro w hSw; (try dsimp only at hSw); go_simp; try with_reducible rfl)
  try simp only [Act.put, List.getElem_toArray, List.getElem_cons_succ, List.getElem_cons_zero, List.setIfInBounds_toArray, List.set_cons_zero, List.set_cons_succ]
  refine wpAnyH_take (i := 4) (oi := ⟨some 23, _, _, _, _, _⟩) (v := ?_) rfl (by kernel_rfl) (by kernel_rfl) (by kernel_rfl) (fun _ _ _ h => h) (Or.inl ⟨by kernel_rfl, ?_⟩) hHeld ?_
  rotate_left
  · (intro w hSw; (try dsimp only at hSw); go_simp; try with_reducible rfl)
  try simp only [Act.put, List.getElem_toArray, List.getElem_cons_succ, List.getElem_cons_zero, List.setIfInBounds_toArray, List.set_cons_zero, List.set_cons_succ]
  refine wpAnyH_take (i := 5) (oi := ⟨some 24, _, _, _, _, _⟩) (v := ?_) rfl (by kernel_rfl) (by kernel_rfl) (by kernel_rfl) (fun _ _ _ h => h) (Or.inl ⟨by kernel_rfl, ?_⟩) hHeld ?_
  rotate_left
  · (intro w hSw; (try dsimp only at hSw); go_simp; try with_reducible rfl)
  try simp only [Act.put, List.getElem_toArray, List.getElem_cons_succ, List.getElem_cons_zero, List.setIfInBounds_toArray, List.set_cons_zero, List.set_cons_succ]
  refine wpAnyH_ready (rs := [2]) (by kernel_rfl) (by simp) ?_
  refine (AllReadyH.cons rfl (fun K hK => ?_) AllReadyH.nil)
  try rw [if_pos (by kernel_rfl)]
  go_simp
  go_at_call 26
  refine (rput_to HP.out _).mono ?_
  rintro e w3 ⟨rfl, k3⟩
  have b0 := b0.below k3 b0.lt
  have bel := hthen bel k3
  clear k3
  try dsimp only
  refine hK.out _ _ (by have q0 := b0.cell 0; have q1 := b0.cell 1; simp at q0 q1; exact ⟨q0, q1⟩) (fun hHeld => ?_)
  clear hK K
  try simp only [Act.put, List.getElem_toArray, List.getElem_cons_succ, List.getElem_cons_zero, List.setIfInBounds_toArray, List.set_cons_zero, List.set_cons_succ]
  refine wpAnyH_take (i := 3) (oi := ⟨some 22, _, _, _, _, _⟩) (v := ?_) rfl (by kernel_rfl) (by kernel_rfl) (by kernel_rfl) (fun _ _ _ h => h) (Or.inl ⟨by kernel_rfl, ?_⟩) hHeld ?_
  rotate_left
  · (intro w hSw; (try dsimp only at hSw); go_simp; try with_reducible rfl)
  try simp only [Act.put, List.getElem_toArray, List.getElem_cons_succ, List.getElem_cons_zero, List.setIfInBounds_toArray, List.set_cons_zero, List.set_cons_succ]
  refine wpAnyH_ready (rs := [6]) (by kernel_rfl) (by simp) ?_
  refine (AllReadyH.cons rfl (fun K hK => ?_) AllReadyH.nil)
  try rw [if_pos (by kernel_rfl)]
  go_simp
  go_at_call 27
  refine (rftext_to HTX.out _ (by omega)).mono ?_
  rintro e w4 ⟨rfl, k4⟩
  have b0 := b0.below k4 b0.lt
  have bel := hthen bel k4
  clear k4
  try dsimp only
  refine hK.out _ _ (by have q0 := b0.cell 0; have q1 := b0.cell 1; simp at q0 q1; exact ⟨q0, q1⟩) (fun hHeld => ?_)
  clear hK K
  try simp only [Act.put, List.getElem_toArray, List.getElem_cons_succ, List.getElem_cons_zero, List.setIfInBounds_toArray, List.set_cons_zero, List.set_cons_succ]
  refine wpAnyH_take (i := 7) (oi := ⟨some 26, _, _, _, _, _⟩) (v := ?_) rfl (by kernel_rfl) (by kernel_rfl) (by kernel_rfl) (fun _ _ _ h => h) (Or.inl ⟨by kernel_rfl, ?_⟩) hHeld ?_
  rotate_left
  · (intro w hSw; (try dsimp only at hSw); go_simp; try with_reducible rfl)
  try simp only [Act.put, List.getElem_toArray, List.getElem_cons_succ, List.getElem_cons_zero, List.setIfInBounds_toArray, List.set_cons_zero, List.set_cons_succ]
  refine wpAnyH_take (i := 8) (oi := ⟨some 4, _, _, _, _, _⟩) (v := ?_) rfl (by kernel_rfl) (by kernel_rfl) (by kernel_rfl) (fun _ _ _ h => h) (Or.inl ⟨by kernel_rfl, ?_⟩) hHeld ?_
  rotate_left
  · (intro w hSw; (try dsimp only at hSw); go_simp; try with_reducible rfl)
  try simp only [Act.put, List.getElem_toArray, List.getElem_cons_succ, List.getElem_cons_zero, List.setIfInBounds_toArray, List.set_cons_zero, List.set_cons_succ]
  refine wpAnyH_done (by kernel_rfl) ?_ _
  refine NoPanic.normal ?_
  go_wp2_with fail
  rw [HB.out]
  refine (rof_to HSH.out H8K.out _).mono ?_
  rintro e w5 ⟨rfl, k5⟩
  have b0 := b0.below k5 b0.lt
  have bel := hthen bel k5
  clear k5
  go_wp2
  go_ret2
  exact ⟨by rw [HL.out]; rfl, HW.out ▸ bel⟩
theorem renc_to {u : Ub} {q : List UInt8} {e0 : Int} (hq : ubL u = q) (he : ubE u = e0) (hl : u.load.length ≤ 140737488351232) (w : World) :
    Calls Tryd.prog 11 #[.agg #[.int .i64 u.txg, .string (bstr u.load)]] w fun e w' => e = .returned (.tuple #[.string (bstr q), .int .i64 e0]) ∧ Below w.heap.size w w' := by
  subst hq; subst he; exact renc_any u hl w
end Go.Proofs.YtcamcjcmhjldpaaDoor
