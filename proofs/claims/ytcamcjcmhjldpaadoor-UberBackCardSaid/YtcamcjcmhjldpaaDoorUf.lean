/- Encode and Decode of package uber: contracts. -/
import Derived.Test.YtcamcjcmhjldpaaDoorUb
import Derived.Test.YtcamcjcmhjldpaaDoorRd2
namespace Go.Proofs.YtcamcjcmhjldpaaDoor
open Go Go.RowKit
set_option linter.unusedSimpArgs false
set_option linter.unnecessarySimpa false
set_option linter.unusedVariables false

theorem hthen {w w1 w2 : World} (h : Below w.heap.size w w1) (k : Below w1.heap.size w1 w2) : Below w.heap.size w w2 := h.trans (k.mono h.size)
theorem below_keep {B : Nat} {S : Nat → Prop} {w X X' : World} (h : Below B w X) (k : Keep X.heap.size S X X') (hB : B ≤ X.heap.size) (hS : ∀ j, S j → B ≤ j) : Below B w X' :=
  h.trans (k.mono (S' := fun _ => False) hB (fun j _ h2 => by have := hS j h2; omega)).below
/-- the table of package sum, whatever was made since -/
theorem RootsAt.moved {w w' : World} (h : RootsAt w) (k : Below w.heap.size w w') : RootsAt w' := h.below k h.1
theorem of_to {s q : List UInt8} (h : shaL s = q) (hs : s.length < 288230376151711744) (w : World) (hR : RootsAt w) :
    Calls Tryd.prog 25 #[.string (bstr s)] w fun e w' => e = .returned (.string (bstr q)) ∧ Below w.heap.size w w' := h ▸ of_any s hs w hR
theorem ubv_len (u : Ub) : (ubB u).length ≤ 16 + u.load.length := by
  unfold ubB textL
  have h1 := putL_len u.txg 6
  have h2 := putL_len u.load.length 2
  rw [List.length_append, List.length_append]
  split
  · simp; omega
  · rw [List.length_append]; simp; omega

set_option maxRecDepth 100000 in
set_option maxHeartbeats 4000000 in
theorem uenc_any (u : Ub) (hl : u.load.length ≤ 140737488351232) (w : World) (hR : RootsAt w) :
    Calls Tryd.prog 9 #[.agg #[.int .i64 u.txg, .string (bstr u.load)]] w fun e w' => e = .returned (.tuple #[.string (bstr (ubL u)), .int .i64 (ubE u)]) ∧ Below w.heap.size w w' := by
  obtain ⟨t, l⟩ := u
  simp only at hl ⊢
  have bel : Below w.heap.size w w := Below.refl _ _
  obtain ⟨B, hB0⟩ : ∃ B, w.heap.size = B := ⟨_, rfl⟩
  have HW := Lib.hid hB0
  rw [hB0]
  clear hB0
  have szl : (bstr l).size = l.length := by simp [bstr, ByteArray.size]
  by_cases h1 : t < 0
  · have HE : Hid (ubE ⟨t, l⟩ = 1) := Lib.hid (by unfold ubE; rw [if_pos (by simp only; omega)])
    have HL : Hid (ubL ⟨t, l⟩ = []) := Lib.hid (by unfold ubL; rw [HE.out]; rfl)
    rw [HE.out, HL.out]
    have q1 : decide (t < 0) = true := decide_eq_true h1
    go_enter Tryd.func9, Tryd.ntmps9
    go_wp2_with fail
    obtain ⟨w1, hw1⟩ : ∃ x, w.alloc (.cells #[.int .i64 t, .string (bstr l)] 28) = x := ⟨_, rfl⟩
    obtain ⟨ib0, hib0⟩ : ∃ i, w.heap.size = i := ⟨_, rfl⟩
    have b0 : Blk w1 ib0 28 #[.int .i64 t, .string (bstr l)] := by rw [← hw1, ← hib0]; exact Blk.new _ _ _
    have k1 : Below w.heap.size w w1 := by rw [← hw1]; exact (Below.refl _ _).alloc (Nat.le_refl _) _
    have zb0 : w1.heap.size = ib0 + 1 := by rw [← hw1, ← hib0]; simp
    rw [hw1, hib0]
    have bel := hthen bel k1
    clear k1
    clear hw1 hib0
    have b0c0 := b0.cell 0
    have b0c1 := b0.cell 1
    simp at b0c0 b0c1
    have b0lt := b0.lt
    go_wp2
    go_ret2
    exact ⟨rfl, HW.out ▸ bel⟩
  have q1 : decide (t < 0) = false := decide_eq_false h1
  by_cases h2 : 1099511627776 < t
  · have HE : Hid (ubE ⟨t, l⟩ = 1) := Lib.hid (by unfold ubE; rw [if_pos (by simp only; omega)])
    have HL : Hid (ubL ⟨t, l⟩ = []) := Lib.hid (by unfold ubL; rw [HE.out]; rfl)
    rw [HE.out, HL.out]
    have q2 : decide (t > 1099511627776) = true := decide_eq_true h2
    go_enter Tryd.func9, Tryd.ntmps9
    go_wp2_with fail
    obtain ⟨w1, hw1⟩ : ∃ x, w.alloc (.cells #[.int .i64 t, .string (bstr l)] 28) = x := ⟨_, rfl⟩
    obtain ⟨ib0, hib0⟩ : ∃ i, w.heap.size = i := ⟨_, rfl⟩
    have b0 : Blk w1 ib0 28 #[.int .i64 t, .string (bstr l)] := by rw [← hw1, ← hib0]; exact Blk.new _ _ _
    have k1 : Below w.heap.size w w1 := by rw [← hw1]; exact (Below.refl _ _).alloc (Nat.le_refl _) _
    have zb0 : w1.heap.size = ib0 + 1 := by rw [← hw1, ← hib0]; simp
    rw [hw1, hib0]
    have bel := hthen bel k1
    clear k1
    clear hw1 hib0
    have b0c0 := b0.cell 0
    have b0c1 := b0.cell 1
    simp at b0c0 b0c1
    have b0lt := b0.lt
    go_wp2
    go_ret2
    exact ⟨rfl, HW.out ▸ bel⟩
  have q2 : decide (t > 1099511627776) = false := decide_eq_false h2
  by_cases h3 : 960 < l.length
  · have HE : Hid (ubE ⟨t, l⟩ = 1) := Lib.hid (by unfold ubE; rw [if_pos (by simp only; omega)])
    have HL : Hid (ubL ⟨t, l⟩ = []) := Lib.hid (by unfold ubL; rw [HE.out]; rfl)
    rw [HE.out, HL.out]
    have q3 : decide ((l.length : Int) > 960) = true := decide_eq_true (by omega)
    go_enter Tryd.func9, Tryd.ntmps9
    go_wp2_with fail
    obtain ⟨w1, hw1⟩ : ∃ x, w.alloc (.cells #[.int .i64 t, .string (bstr l)] 28) = x := ⟨_, rfl⟩
    obtain ⟨ib0, hib0⟩ : ∃ i, w.heap.size = i := ⟨_, rfl⟩
    have b0 : Blk w1 ib0 28 #[.int .i64 t, .string (bstr l)] := by rw [← hw1, ← hib0]; exact Blk.new _ _ _
    have k1 : Below w.heap.size w w1 := by rw [← hw1]; exact (Below.refl _ _).alloc (Nat.le_refl _) _
    have zb0 : w1.heap.size = ib0 + 1 := by rw [← hw1, ← hib0]; simp
    rw [hw1, hib0]
    have bel := hthen bel k1
    clear k1
    clear hw1 hib0
    have b0c0 := b0.cell 0
    have b0c1 := b0.cell 1
    simp at b0c0 b0c1
    have b0lt := b0.lt
    go_wp2
    go_ret2
    exact ⟨rfl, HW.out ▸ bel⟩
  have q3 : decide ((l.length : Int) > 960) = false := decide_eq_false (by omega)
  have HE : Hid (ubE ⟨t, l⟩ = 0) := Lib.hid (by unfold ubE; rw [if_neg (by simp only; omega)])
  have hL := ubL_ok HE.out
  have hbl := ubv_len ⟨t, l⟩
  have hB : ubB ⟨t, l⟩ = [80, 70] ++ putL t 6 ++ textL l 2 := rfl
  simp only at hbl
  obtain ⟨R, hR0⟩ : ∃ R, ubL ⟨t, l⟩ = R := ⟨_, rfl⟩
  obtain ⟨BB, hBB⟩ : ∃ R, ubB ⟨t, l⟩ = R := ⟨_, rfl⟩
  obtain ⟨SH, hSH⟩ : ∃ R, shaL BB = R := ⟨_, rfl⟩
  have hsl : SH.length = 32 := by rw [← hSH, sha_len]
  rw [hBB] at hB hL hbl
  rw [hR0, hSH] at hL
  rw [HE.out, hR0]
  obtain ⟨P, hP⟩ : ∃ R, putL t 6 = R := ⟨_, rfl⟩
  obtain ⟨TX, hTX⟩ : ∃ R, textL l 2 = R := ⟨_, rfl⟩
  have hpl := putL_len t 6
  rw [hP] at hpl hB
  rw [hTX] at hB
  have htl : 2 + P.length + TX.length ≤ 16 + l.length := by rw [hB] at hbl; simpa [Nat.add_assoc, Nat.add_comm, Nat.add_left_comm] using hbl
  have HP := Lib.hid hP
  have HTX := Lib.hid hTX
  have HSH := Lib.hid hSH
  have hB2 : 80 :: 70 :: (P ++ TX) = BB := by rw [hB]; simp
  have HB := Lib.hid hB2
  have HL := Lib.hid hL
  have n1 : ¬ 9223372036854775807 < 2 + P.length := by omega
  have n2 : ¬ 9223372036854775807 < P.length + 1 + 1 + TX.length := by omega
  have n3 : ¬ 9223372036854775807 < BB.length + SH.length := by omega
  clear h1 h2 h3 hP hTX hSH hB hB2 hL hR0 hBB htl
  go_enter Tryd.func9, Tryd.ntmps9
  go_wp2_with fail
  obtain ⟨w1, hw1⟩ : ∃ x, w.alloc (.cells #[.int .i64 t, .string (bstr l)] 28) = x := ⟨_, rfl⟩
  obtain ⟨ib0, hib0⟩ : ∃ i, w.heap.size = i := ⟨_, rfl⟩
  have b0 : Blk w1 ib0 28 #[.int .i64 t, .string (bstr l)] := by rw [← hw1, ← hib0]; exact Blk.new _ _ _
  have k1 : Below w.heap.size w w1 := by rw [← hw1]; exact (Below.refl _ _).alloc (Nat.le_refl _) _
  have zb0 : w1.heap.size = ib0 + 1 := by rw [← hw1, ← hib0]; simp
  rw [hw1, hib0]
  have hR := hR.moved k1
  have bel := hthen bel k1
  clear k1
  clear hw1 hib0
  have b0c0 := b0.cell 0
  have b0c1 := b0.cell 1
  simp at b0c0 b0c1
  have b0lt := b0.lt
  try (go_wp2_with fail)
  clear b0c0 b0c1 b0lt
  have hR := hR.moved (Below.refl _ _).drew
  have bel := bel.drew
  have b0 := b0.drew
  refine wp_region_noPanic ?_
  refine wp_region_held_drew (S := (fun w' => w'.cell? ⟨ib0, 0, none⟩ = some (.int .i64 t) ∧ w'.cell? ⟨ib0, 1, none⟩ = some (.string (bstr l)))) (by kernel_rfl) ?hS0 (fun hHeld => ?_)
  case hS0 => (have q0 := b0.cell 0; have q1 := b0.cell 1; simp at q0 q1; exact ⟨q0, q1⟩)
  generalize hZ : w1.drew = wd2 at *
  clear hZ
  refine wpAnyH_take (i := 0) (oi := ⟨some 19, _, _, _, _, _⟩) (v := ?_) rfl (by kernel_rfl) (by kernel_rfl) (by kernel_rfl) (fun _ _ _ h => h) (Or.inl ⟨by kernel_rfl, ?_⟩) hHeld ?_
  rotate_left
  · (intro w hSw; (try dsimp only at hSw); go_simp; try with_reducible rfl)
  try simp only [Act.put, List.getElem_toArray, List.getElem_cons_succ, List.getElem_cons_zero, List.setIfInBounds_toArray, List.set_cons_zero, List.set_cons_succ]
  refine wpAnyH_take (i := 1) (oi := ⟨some 20, _, _, _, _, _⟩) (v := ?_) rfl (by kernel_rfl) (by kernel_rfl) (by kernel_rfl) (fun _ _ _ h => h) (Or.inl ⟨by kernel_rfl, ?_⟩) hHeld ?_
  rotate_left
  · (intro w hSw; (try dsimp only at hSw); go_simp; try with_reducible rfl)
  try simp only [Act.put, List.getElem_toArray, List.getElem_cons_succ, List.getElem_cons_zero, List.setIfInBounds_toArray, List.set_cons_zero, List.set_cons_succ]
  refine wpAnyH_take (i := 4) (oi := ⟨some 23, _, _, _, _, _⟩) (v := ?_) rfl (by kernel_rfl) (by kernel_rfl) (by kernel_rfl) (fun _ _ _ h => h) (Or.inl ⟨by kernel_rfl, ?_⟩) hHeld ?_
  rotate_left
  · (intro w hSw; (try dsimp only at hSw); go_simp; try with_reducible rfl)
  try simp only [Act.put, List.getElem_toArray, List.getElem_cons_succ, List.getElem_cons_zero, List.setIfInBounds_toArray, List.set_cons_zero, List.set_cons_succ]
  refine wpAnyH_take (i := 5) (oi := ⟨some 24, _, _, _, _, _⟩) (v := ?_) rfl (by kernel_rfl) (by kernel_rfl) (by kernel_rfl) (fun _ _ _ h => h) (Or.inl ⟨by kernel_rfl, ?_⟩) hHeld ?_
  rotate_left
  · (intro w hSw; (try dsimp only at hSw); go_simp; try with_reducible rfl)
  try simp only [Act.put, List.getElem_toArray, List.getElem_cons_succ, List.getElem_cons_zero, List.setIfInBounds_toArray, List.set_cons_zero, List.set_cons_succ]
  refine wpAnyH_ready (rs := [2]) (by kernel_rfl) (by simp) ?_
  refine (AllReadyH.cons rfl (fun K hK => ?_) AllReadyH.nil)
  try rw [if_pos (by kernel_rfl)]
  go_simp
  go_at_call 23
  refine (put_to HP.out _).mono ?_
  rintro e w3 ⟨rfl, k3⟩
  have b0 := b0.below k3 b0.lt
  have hR := hR.moved k3
  have bel := hthen bel k3
  clear k3
  try dsimp only
  refine hK.out _ _ (by have q0 := b0.cell 0; have q1 := b0.cell 1; simp at q0 q1; exact ⟨q0, q1⟩) (fun hHeld => ?_)
  clear hK K
  try simp only [Act.put, List.getElem_toArray, List.getElem_cons_succ, List.getElem_cons_zero, List.setIfInBounds_toArray, List.set_cons_zero, List.set_cons_succ]
  refine wpAnyH_take (i := 3) (oi := ⟨some 22, _, _, _, _, _⟩) (v := ?_) rfl (by kernel_rfl) (by kernel_rfl) (by kernel_rfl) (fun _ _ _ h => h) (Or.inl ⟨by kernel_rfl, ?_⟩) hHeld ?_
  rotate_left
  · (intro w hSw; (try dsimp only at hSw); go_simp; try with_reducible rfl)
  try simp only [Act.put, List.getElem_toArray, List.getElem_cons_succ, List.getElem_cons_zero, List.setIfInBounds_toArray, List.set_cons_zero, List.set_cons_succ]
  refine wpAnyH_ready (rs := [6]) (by kernel_rfl) (by simp) ?_
  refine (AllReadyH.cons rfl (fun K hK => ?_) AllReadyH.nil)
  try rw [if_pos (by kernel_rfl)]
  go_simp
  go_at_call 24
  refine (text_to HTX.out _ (by omega)).mono ?_
  rintro e w4 ⟨rfl, k4⟩
  have b0 := b0.below k4 b0.lt
  have hR := hR.moved k4
  have bel := hthen bel k4
  clear k4
  try dsimp only
  refine hK.out _ _ (by have q0 := b0.cell 0; have q1 := b0.cell 1; simp at q0 q1; exact ⟨q0, q1⟩) (fun hHeld => ?_)
  clear hK K
  try simp only [Act.put, List.getElem_toArray, List.getElem_cons_succ, List.getElem_cons_zero, List.setIfInBounds_toArray, List.set_cons_zero, List.set_cons_succ]
  refine wpAnyH_take (i := 7) (oi := ⟨some 26, _, _, _, _, _⟩) (v := ?_) rfl (by kernel_rfl) (by kernel_rfl) (by kernel_rfl) (fun _ _ _ h => h) (Or.inl ⟨by kernel_rfl, ?_⟩) hHeld ?_
  rotate_left
  · (intro w hSw; (try dsimp only at hSw); go_simp; try with_reducible rfl)
  try simp only [Act.put, List.getElem_toArray, List.getElem_cons_succ, List.getElem_cons_zero, List.setIfInBounds_toArray, List.set_cons_zero, List.set_cons_succ]
  refine wpAnyH_take (i := 8) (oi := ⟨some 4, _, _, _, _, _⟩) (v := ?_) rfl (by kernel_rfl) (by kernel_rfl) (by kernel_rfl) (fun _ _ _ h => h) (Or.inl ⟨by kernel_rfl, ?_⟩) hHeld ?_
  rotate_left
  · (intro w hSw; (try dsimp only at hSw); go_simp; try with_reducible rfl)
  try simp only [Act.put, List.getElem_toArray, List.getElem_cons_succ, List.getElem_cons_zero, List.setIfInBounds_toArray, List.set_cons_zero, List.set_cons_succ]
  refine wpAnyH_done (by kernel_rfl) ?_ _
  refine NoPanic.normal ?_
  go_wp2_with fail
  rw [HB.out]
  refine (of_to HSH.out (by omega) _ hR).mono ?_
  rintro e w5 ⟨rfl, k5⟩
  have b0 := b0.below k5 b0.lt
  have hR := hR.moved k5
  have bel := hthen bel k5
  clear k5
  go_wp2
  go_ret2
  exact ⟨by rw [HL.out]; rfl, HW.out ▸ bel⟩

theorem rd_take_le (r : Rd) (n e : Int) : (r.take n e).1.length ≤ r.s.length := by
  unfold Rd.take
  split
  · exact Nat.zero_le _
  · split
    · exact Nat.zero_le _
    · split
      · exact Nat.zero_le _
      · show (r.s.take n.toNat).length ≤ _
        rw [List.length_take]; omega
theorem Blk.put2 {w : World} {g : Nat} {t : TypeId} {a0 b0 : Value} (h : Blk w g t #[a0, b0]) (a b : Value) : Blk ((w.setCell ⟨g, 0, none⟩ a).setCell ⟨g, 1, none⟩ b) g t #[a, b] := by
  simpa using (h.set_ 0 a).set_ 1 b
section
attribute [local go_sem] undef
set_option maxRecDepth 100000 in
set_option maxHeartbeats 4000000 in
theorem udec_any (s : List UInt8) (hs : s.length ≤ 140737488351232) (w : World) (hR : RootsAt w) :
    Calls Tryd.prog 13 #[.string (bstr s)] w fun e w' => e = .returned (.tuple #[.agg #[.int .i64 (ubD s).1.txg, .string (bstr (ubD s).1.load)], .int .i64 (ubD s).2]) ∧ Below w.heap.size w w' := by
  have bel : Below w.heap.size w w := Below.refl _ _
  obtain ⟨B, hB0⟩ : ∃ B, w.heap.size = B := ⟨_, rfl⟩
  have HW := Lib.hid hB0
  rw [hB0]
  clear hB0
  have szl : (bstr s).size = s.length := by simp [bstr, ByteArray.size]
  obtain ⟨⟨⟨T, L⟩, E⟩, hD⟩ : ∃ x, ubD s = x := ⟨_, rfl⟩
  rw [hD]
  simp only
  by_cases h1 : s.length < 42
  · have q1 : decide ((s.length : Int) < 42) = true := decide_eq_true (by omega)
    have hE : (⟨⟨T, L⟩, E⟩ : Ub × Int) = (zUb, 2) := by rw [← hD]; unfold ubD; rw [if_pos h1]
    cases hE
    clear hD h1
    go_enter Tryd.func13, Tryd.ntmps13
    go_wp2_with fail
    obtain ⟨w1, hw1⟩ : ∃ x, w.alloc (.cells #[.int .i64 0, .string ⟨#[]⟩] 28) = x := ⟨_, rfl⟩
    obtain ⟨ir0, hir0⟩ : ∃ i, w.heap.size = i := ⟨_, rfl⟩
    have r0 : Blk w1 ir0 28 #[.int .i64 0, .string ⟨#[]⟩] := by rw [← hw1, ← hir0]; exact Blk.new _ _ _
    have k1 : Below w.heap.size w w1 := by rw [← hw1]; exact (Below.refl _ _).alloc (Nat.le_refl _) _
    have zr0 : w1.heap.size = ir0 + 1 := by rw [← hw1, ← hir0]; simp
    rw [hw1, hir0]
    have or0 : w.heap.size ≤ ir0 := by rw [← hir0]; exact bel.size
    have hR := hR.moved k1
    have bel := hthen bel k1
    clear k1
    clear hw1 hir0
    have r0c0 := r0.cell 0
    have r0c1 := r0.cell 1
    simp at r0c0 r0c1
    have r0lt := r0.lt
    have rf0 := r0.frozen 0
    have rf1 := r0.frozen 1
    go_wp2
    have xx0 := r0.cell 0
    have xx1 := r0.cell 1
    simp at xx0 xx1
    refine bodyPost_ret (v := .tuple #[.agg #[.int .i64 0, .string ⟨#[]⟩], .int .i64 2]) ?h1 rfl ?h2
    case h1 => simp [results, Tryd.results13, go_sem, xx0, xx1]
    case h2 => exact ⟨rfl, HW.out ▸ bel⟩
  have q1 : decide ((s.length : Int) < 42) = false := decide_eq_false (by omega)
  obtain ⟨n, hn⟩ : ∃ n, s.length = n + 32 := ⟨s.length - 32, by omega⟩
  have hn10 : 10 ≤ n := by omega
  have hn2 : s.length - 32 = n := by omega
  have ww : IntKind.i64.wrap (n : Int) = n := IntWalk.i64_in _ ⟨by omega, by omega⟩
  have T1 : (0 : Int) ≤ n := by omega
  have T2 : (n : Int) ≤ (n : Int) + 32 := by omega
  go_enter Tryd.func13, Tryd.ntmps13
  go_wp2_with fail
  obtain ⟨w1, hw1⟩ : ∃ x, w.alloc (.cells #[.int .i64 0, .string ⟨#[]⟩] 28) = x := ⟨_, rfl⟩
  obtain ⟨ir0, hir0⟩ : ∃ i, w.heap.size = i := ⟨_, rfl⟩
  have r0 : Blk w1 ir0 28 #[.int .i64 0, .string ⟨#[]⟩] := by rw [← hw1, ← hir0]; exact Blk.new _ _ _
  have k1 : Below w.heap.size w w1 := by rw [← hw1]; exact (Below.refl _ _).alloc (Nat.le_refl _) _
  have zr0 : w1.heap.size = ir0 + 1 := by rw [← hw1, ← hir0]; simp
  rw [hw1, hir0]
  have or0 : w.heap.size ≤ ir0 := by rw [← hir0]; exact bel.size
  have hR := hR.moved k1
  have bel := hthen bel k1
  clear k1
  clear hw1 hir0
  have r0c0 := r0.cell 0
  have r0c1 := r0.cell 1
  simp at r0c0 r0c1
  have r0lt := r0.lt
  try (go_wp2_with fail)
  clear r0c0 r0c1 r0lt
  have hR := hR.moved (Below.refl _ _).drew
  have bel := bel.drew
  have r0 := r0.drew
  refine wp_region_noPanic ?_
  refine wp_region_held_drew (S := (fun _ => True)) (by kernel_rfl) ?hS0 (fun hHeld => ?_)
  case hS0 => (exact trivial)
  generalize hZ : w1.drew = wd2 at *
  clear hZ
  refine wpAnyH_take (i := 0) (oi := ⟨some 13, _, _, _, _, _⟩) (v := ?_) rfl (by kernel_rfl) (by kernel_rfl) (by kernel_rfl) (fun _ _ _ h => h) (Or.inl ⟨by kernel_rfl, ?_⟩) hHeld ?_
  rotate_left
  · (intro w hSw; (try dsimp only at hSw); go_simp; try with_reducible rfl)
  try simp only [Act.put, List.getElem_toArray, List.getElem_cons_succ, List.getElem_cons_zero, List.setIfInBounds_toArray, List.set_cons_zero, List.set_cons_succ]
  refine wpAnyH_take (i := 1) (oi := ⟨some 14, _, _, _, _, _⟩) (v := ?_) rfl (by kernel_rfl) (by kernel_rfl) (by kernel_rfl) (fun _ _ _ h => h) (Or.inl ⟨by kernel_rfl, ?_⟩) hHeld ?_
  rotate_left
  · (intro w hSw; (try dsimp only at hSw); go_simp; try with_reducible rfl)
  try simp only [Act.put, List.getElem_toArray, List.getElem_cons_succ, List.getElem_cons_zero, List.setIfInBounds_toArray, List.set_cons_zero, List.set_cons_succ]
  refine wpAnyH_take (i := 2) (oi := ⟨some 15, _, _, _, _, _⟩) (v := ?_) rfl (by kernel_rfl) (by kernel_rfl) (by kernel_rfl) (fun _ _ _ h => h) (Or.inl ⟨by kernel_rfl, ?_⟩) hHeld ?_
  rotate_left
  · (intro w hSw; (try dsimp only at hSw); go_simp; try with_reducible rfl)
  try simp only [Act.put, List.getElem_toArray, List.getElem_cons_succ, List.getElem_cons_zero, List.setIfInBounds_toArray, List.set_cons_zero, List.set_cons_succ]
  refine wpAnyH_take (i := 3) (oi := ⟨some 16, _, _, _, _, _⟩) (v := ?_) rfl (by kernel_rfl) (by kernel_rfl) (by kernel_rfl) (fun _ _ _ h => h) (Or.inl ⟨by kernel_rfl, ?_⟩) hHeld ?_
  rotate_left
  · (intro w hSw; (try dsimp only at hSw); go_simp; try with_reducible rfl)
  try simp only [Act.put, List.getElem_toArray, List.getElem_cons_succ, List.getElem_cons_zero, List.setIfInBounds_toArray, List.set_cons_zero, List.set_cons_succ]
  refine wpAnyH_take (i := 4) (oi := ⟨some 17, _, _, _, _, _⟩) (v := ?_) rfl (by kernel_rfl) (by kernel_rfl) (by kernel_rfl) (fun _ _ _ h => h) (Or.inl ⟨by kernel_rfl, ?_⟩) hHeld ?_
  rotate_left
  · (intro w hSw; (try dsimp only at hSw); go_simp; try with_reducible rfl)
  try simp only [Act.put, List.getElem_toArray, List.getElem_cons_succ, List.getElem_cons_zero, List.setIfInBounds_toArray, List.set_cons_zero, List.set_cons_succ]
  refine wpAnyH_take (i := 5) (oi := ⟨some 18, _, _, _, _, _⟩) (v := ?_) rfl (by kernel_rfl) (by kernel_rfl) (by kernel_rfl) (fun _ _ _ h => h) (Or.inl ⟨by kernel_rfl, ?_⟩) hHeld ?_
  rotate_left
  · (intro w hSw; (try dsimp only at hSw); go_simp; try with_reducible rfl)
  try simp only [Act.put, List.getElem_toArray, List.getElem_cons_succ, List.getElem_cons_zero, List.setIfInBounds_toArray, List.set_cons_zero, List.set_cons_succ]
  refine wpAnyH_take (i := 6) (oi := ⟨some 19, _, _, _, _, _⟩) (v := ?_) rfl (by kernel_rfl) (by kernel_rfl) (by kernel_rfl) (fun _ _ _ h => h) (Or.inl ⟨by kernel_rfl, ?_⟩) hHeld ?_
  rotate_left
  · (intro w hSw; (try dsimp only at hSw); go_simp; try with_reducible rfl)
  try simp only [Act.put, List.getElem_toArray, List.getElem_cons_succ, List.getElem_cons_zero, List.setIfInBounds_toArray, List.set_cons_zero, List.set_cons_succ]
  refine wpAnyH_take (i := 7) (oi := ⟨some 20, _, _, _, _, _⟩) (v := ?_) rfl (by kernel_rfl) (by kernel_rfl) (by kernel_rfl) (fun _ _ _ h => h) (Or.inl ⟨by kernel_rfl, ?_⟩) hHeld ?_
  rotate_left
  · (intro w hSw; (try dsimp only at hSw); go_simp; try with_reducible rfl)
  try simp only [Act.put, List.getElem_toArray, List.getElem_cons_succ, List.getElem_cons_zero, List.setIfInBounds_toArray, List.set_cons_zero, List.set_cons_succ]
  refine wpAnyH_take (i := 8) (oi := ⟨some 21, _, _, _, _, _⟩) (v := ?_) rfl (by kernel_rfl) (by kernel_rfl) (by kernel_rfl) (fun _ _ _ h => h) (Or.inl ⟨by kernel_rfl, ?_⟩) hHeld ?_
  rotate_left
  · (intro w hSw; (try dsimp only at hSw); go_simp; try with_reducible rfl)
  try simp only [Act.put, List.getElem_toArray, List.getElem_cons_succ, List.getElem_cons_zero, List.setIfInBounds_toArray, List.set_cons_zero, List.set_cons_succ]
  refine wpAnyH_take (i := 9) (oi := ⟨some 22, _, _, _, _, _⟩) (v := ?_) rfl (by kernel_rfl) (by kernel_rfl) (by kernel_rfl) (fun _ _ _ h => h) (Or.inl ⟨by kernel_rfl, ?_⟩) hHeld ?_
  rotate_left
  · (intro w hSw; (try dsimp only at hSw); go_simp; try with_reducible rfl)
  try simp only [Act.put, List.getElem_toArray, List.getElem_cons_succ, List.getElem_cons_zero, List.setIfInBounds_toArray, List.set_cons_zero, List.set_cons_succ]
  refine wpAnyH_take (i := 10) (oi := ⟨some 4, _, _, _, _, _⟩) (v := ?_) rfl (by kernel_rfl) (by kernel_rfl) (by kernel_rfl) (fun _ _ _ h => h) (Or.inl ⟨by kernel_rfl, ?_⟩) hHeld ?_
  rotate_left
  · (intro w hSw; (try dsimp only at hSw); go_simp; try with_reducible rfl)
  try simp only [Act.put, List.getElem_toArray, List.getElem_cons_succ, List.getElem_cons_zero, List.setIfInBounds_toArray, List.set_cons_zero, List.set_cons_succ]
  refine wpAnyH_take (i := 11) (oi := ⟨some 5, _, _, _, _, _⟩) (v := ?_) rfl (by kernel_rfl) (by kernel_rfl) (by kernel_rfl) (fun _ _ _ h => h) (Or.inl ⟨by kernel_rfl, ?_⟩) hHeld ?_
  rotate_left
  · (intro w hSw; (try dsimp only at hSw); go_simp; try with_reducible rfl)
  try simp only [Act.put, List.getElem_toArray, List.getElem_cons_succ, List.getElem_cons_zero, List.setIfInBounds_toArray, List.set_cons_zero, List.set_cons_succ]
  refine wpAnyH_done (by kernel_rfl) ?_ _
  refine NoPanic.normal ?_
  have e9 : List.take (n + 32) s = s := List.take_of_length_le (by omega)
  rw [e9]
  clear e9
  obtain ⟨tt, htt⟩ : ∃ x, s.take n = x := ⟨_, rfl⟩
  obtain ⟨dd, hdd⟩ : ∃ x, s.drop n = x := ⟨_, rfl⟩
  rw [htt, hdd]
  have htl : tt.length = n := by rw [← htt, List.length_take]; omega
  have hD2 : (⟨⟨T, L⟩, E⟩ : Ub × Int) = if shaL tt ≠ dd then (zUb, 4) else if (ubR tt).kind ≠ [80, 70] ∨ (ubR tt).fin ≠ 0 ∨ 1099511627776 < (ubR tt).u.txg ∨ 960 < (ubR tt).u.load.length then (zUb, 3) else ((ubR tt).u, 0) := by
    rw [← hD]
    unfold ubD
    rw [if_neg h1, hn2, htt, hdd]
  obtain ⟨SH, hSH⟩ : ∃ x, shaL tt = x := ⟨_, rfl⟩
  rw [hSH] at hD2
  have HSH := Lib.hid hSH
  have HD := Lib.hid hD2
  have hnn : n ≤ 140737488351232 := by omega
  clear hD hD2 hSH htt hdd hn2 hn h1 szl
  go_wp2_with fail
  refine (of_to HSH.out (by omega) _ hR).mono ?_
  rintro e w3 ⟨rfl, k3⟩
  have r0 := r0.below k3 r0.lt
  have hR := hR.moved k3
  have bel := hthen bel k3
  clear k3
  by_cases hq : SH = dd
  · have qq : (SH == dd) = true := by simp [hq]
    have hD3 := HD.out
    rw [if_neg (by simp [hq])] at hD3
    obtain ⟨⟨kk, r1⟩, h1⟩ : ∃ t, Rd.bytes ⟨tt, 0⟩ 2 = t := ⟨_, rfl⟩
    obtain ⟨⟨tn, r2⟩, h2⟩ : ∃ t, r1.number 6 = t := ⟨_, rfl⟩
    obtain ⟨⟨tl, r3⟩, h3⟩ : ∃ t, r2.text 2 = t := ⟨_, rfl⟩
    obtain ⟨F, h4⟩ : ∃ t, r3.fin = t := ⟨_, rfl⟩
    have hRR : ubR tt = ⟨kk, ⟨tn, tl⟩, F⟩ := by simp only [ubR, h1, h2, h3, h4]
    rw [hRR] at hD3
    simp only at hD3
    have l1 : r1.s.length ≤ n := by have := (Rd.take_len ⟨tt, 0⟩ 2 (if (2 : Int) < 0 then 1 else 0)).2; rw [show (Rd.take ⟨tt, 0⟩ 2 (if (2 : Int) < 0 then 1 else 0)).2 = r1 from congrArg Prod.snd h1] at this; have e : (⟨tt, 0⟩ : Rd).s.length = n := htl; omega
    have l2 : r2.s.length ≤ n := by have := (Rd.take_len r1 6 (if mostI 6 < 0 then 1 else 0)).2; rw [show (Rd.take r1 6 (if mostI 6 < 0 then 1 else 0)).2 = r2 from congrArg Prod.snd h2] at this; omega
    have l3 : tl.length ≤ n := by
      have e1 : (r2.text 2).1 = tl := congrArg Prod.fst h3
      unfold Rd.text Rd.bytes at e1
      have h6 := rd_take_le (r2.number 2).2 (r2.number 2).1 (if (r2.number 2).1 < 0 then 1 else 0)
      rw [e1] at h6
      have h7 : (r2.number 2).2.s.length ≤ r2.s.length := (Rd.take_len r2 2 _).2
      omega
    have szt : (bstr tl).size = tl.length := by simp [bstr, ByteArray.size]
    have H1 := Lib.hid h1
    have H2 := Lib.hid h2
    have H3 := Lib.hid h3
    have H4 := Lib.hid h4
    have HD3 := Lib.hid hD3
    clear hq HD hD3 h1 h2 h3 h4 hRR
    have r0c0 := r0.cell 0
    have r0c1 := r0.cell 1
    simp at r0c0 r0c1
    have r0lt := r0.lt
    go_wp2_with fail
    refine (read_any tt w3).mono ?_
    rintro e w4 ⟨rfl, rd, kr⟩
    clear r0c0 r0c1 r0lt
    obtain ⟨ird, hg⟩ : ∃ g, w3.heap.size = g := ⟨_, rfl⟩
    rw [hg] at rd
    have hgr : ir0 ≠ ird := by have := r0.lt; omega
    have hlg : w.heap.size ≤ ird := by have := bel.size; omega
    have r0 := r0.below kr r0.lt
    have bel := hthen bel kr
    clear kr
    go_wp2_with fail
    refine (bytes_to H1.out ird _ rd (by show tt.length ≤ _; omega)).mono ?_
    rintro e y1 ⟨rfl, rdn, kk2⟩
    have r0 := r0.keep kk2 r0.lt hgr
    have bel := below_keep bel kk2 bel.size (fun j e => by rw [e]; exact hlg)
    have rd : RdAt y1 ird r1 := rdn
    clear rdn kk2
    clear hg
    go_wp2_with fail
    refine (number_to H2.out ird _ rd (by omega)).mono ?_
    rintro e y2 ⟨rfl, rdn, kk2⟩
    have r0 := r0.keep kk2 r0.lt hgr
    have bel := below_keep bel kk2 bel.size (fun j e => by rw [e]; exact hlg)
    have rd : RdAt y2 ird r2 := rdn
    clear rdn kk2
    go_wp2_with fail
    refine (rtext_to H3.out ird _ rd (by omega)).mono ?_
    rintro e y3 ⟨rfl, rdn, kk2⟩
    have r0 := r0.keep kk2 r0.lt hgr
    have bel := below_keep bel kk2 bel.size (fun j e => by rw [e]; exact hlg)
    have rd : RdAt y3 ird r3 := rdn
    clear rdn kk2
    by_cases hk : kk = [80, 70]
    · by_cases hF : F = 0
      · by_cases ht : 1099511627776 < tn
        · have qk : (kk == [80, 70]) = true := by simp [hk]
          have qF : (F != 0) = false := by simp [hF]
          have qF2 : (F == 0) = true := by simp [hF]
          have qt : decide (tn > 1099511627776) = true := decide_eq_true ht
          have hE := HD3.out
          rw [if_pos (.inr (.inr (.inl ht)))] at hE
          cases hE
          clear HD3 hk
          have r0c0 := r0.cell 0
          have r0c1 := r0.cell 1
          simp at r0c0 r0c1
          have r0lt := r0.lt
          have rdlt := rd.lt
          go_wp2_with fail
          clear r0c0 r0c1 r0lt rdlt
          obtain ⟨w5, hw5⟩ : ∃ x, y3.alloc (.cells #[.int .i64 tn, .string (bstr tl)] 28) = x := ⟨_, rfl⟩
          obtain ⟨iub, hiub⟩ : ∃ i, y3.heap.size = i := ⟨_, rfl⟩
          have ub : Blk w5 iub 28 #[.int .i64 tn, .string (bstr tl)] := by rw [← hw5, ← hiub]; exact Blk.new _ _ _
          have k5 : Below y3.heap.size y3 w5 := by rw [← hw5]; exact (Below.refl _ _).alloc (Nat.le_refl _) _
          have zub : w5.heap.size = iub + 1 := by rw [← hw5, ← hiub]; simp
          rw [hw5, hiub]
          have oub : w.heap.size ≤ iub := by rw [← hiub]; exact bel.size
          have nr0ub : ir0 ≠ iub := by have := r0.lt; omega
          have nrdub : ird ≠ iub := by have := rd.lt; omega
          have r0 := r0.below k5 r0.lt
          have rd := rd.below k5 rd.lt
          have bel := hthen bel k5
          clear k5
          clear hw5 hiub
          have r0c0 := r0.cell 0
          have r0c1 := r0.cell 1
          simp at r0c0 r0c1
          have r0lt := r0.lt
          have rdlt := rd.lt
          have ubc0 := ub.cell 0
          have ubc1 := ub.cell 1
          simp at ubc0 ubc1
          have ublt := ub.lt
          go_wp2_with fail
          refine (end_to H4.out ird _ rd).mono ?_
          rintro e y9 ⟨rfl, rfl⟩
          clear r0c0 r0c1 r0lt rdlt ubc0 ubc1 ublt
          have r0c0 := r0.cell 0
          have r0c1 := r0.cell 1
          simp at r0c0 r0c1
          have r0lt := r0.lt
          have rdlt := rd.lt
          have ubc0 := ub.cell 0
          have ubc1 := ub.cell 1
          simp at ubc0 ubc1
          have ublt := ub.lt
          have rf0 := r0.frozen 0
          have rf1 := r0.frozen 1
          go_wp2
          have xx := r0.put2 (.int .i64 0) (.string ⟨#[]⟩)
          have xx0 := xx.cell 0
          have xx1 := xx.cell 1
          simp at xx0 xx1
          refine bodyPost_ret (v := .tuple #[.agg #[.int .i64 0, .string ⟨#[]⟩], .int .i64 3]) ?h1 rfl ?h2
          case h1 => simp [results, Tryd.results13, go_sem, xx0, xx1]
          case h2 => exact ⟨rfl, HW.out ▸ (below_at (below_at bel or0 _ _) or0 _ _)⟩
        · by_cases hl : 960 < tl.length
          · have qk : (kk == [80, 70]) = true := by simp [hk]
            have qF : (F != 0) = false := by simp [hF]
            have qF2 : (F == 0) = true := by simp [hF]
            have qt : decide (tn > 1099511627776) = false := decide_eq_false ht
            have ql : decide ((tl.length : Int) > 960) = true := decide_eq_true (by omega)
            have hE := HD3.out
            rw [if_pos (.inr (.inr (.inr hl)))] at hE
            cases hE
            clear HD3 hk
            have r0c0 := r0.cell 0
            have r0c1 := r0.cell 1
            simp at r0c0 r0c1
            have r0lt := r0.lt
            have rdlt := rd.lt
            go_wp2_with fail
            clear r0c0 r0c1 r0lt rdlt
            obtain ⟨w5, hw5⟩ : ∃ x, y3.alloc (.cells #[.int .i64 tn, .string (bstr tl)] 28) = x := ⟨_, rfl⟩
            obtain ⟨iub, hiub⟩ : ∃ i, y3.heap.size = i := ⟨_, rfl⟩
            have ub : Blk w5 iub 28 #[.int .i64 tn, .string (bstr tl)] := by rw [← hw5, ← hiub]; exact Blk.new _ _ _
            have k5 : Below y3.heap.size y3 w5 := by rw [← hw5]; exact (Below.refl _ _).alloc (Nat.le_refl _) _
            have zub : w5.heap.size = iub + 1 := by rw [← hw5, ← hiub]; simp
            rw [hw5, hiub]
            have oub : w.heap.size ≤ iub := by rw [← hiub]; exact bel.size
            have nr0ub : ir0 ≠ iub := by have := r0.lt; omega
            have nrdub : ird ≠ iub := by have := rd.lt; omega
            have r0 := r0.below k5 r0.lt
            have rd := rd.below k5 rd.lt
            have bel := hthen bel k5
            clear k5
            clear hw5 hiub
            have r0c0 := r0.cell 0
            have r0c1 := r0.cell 1
            simp at r0c0 r0c1
            have r0lt := r0.lt
            have rdlt := rd.lt
            have ubc0 := ub.cell 0
            have ubc1 := ub.cell 1
            simp at ubc0 ubc1
            have ublt := ub.lt
            go_wp2_with fail
            refine (end_to H4.out ird _ rd).mono ?_
            rintro e y9 ⟨rfl, rfl⟩
            clear r0c0 r0c1 r0lt rdlt ubc0 ubc1 ublt
            have r0c0 := r0.cell 0
            have r0c1 := r0.cell 1
            simp at r0c0 r0c1
            have r0lt := r0.lt
            have rdlt := rd.lt
            have ubc0 := ub.cell 0
            have ubc1 := ub.cell 1
            simp at ubc0 ubc1
            have ublt := ub.lt
            have rf0 := r0.frozen 0
            have rf1 := r0.frozen 1
            go_wp2
            have xx := r0.put2 (.int .i64 0) (.string ⟨#[]⟩)
            have xx0 := xx.cell 0
            have xx1 := xx.cell 1
            simp at xx0 xx1
            refine bodyPost_ret (v := .tuple #[.agg #[.int .i64 0, .string ⟨#[]⟩], .int .i64 3]) ?h1 rfl ?h2
            case h1 => simp [results, Tryd.results13, go_sem, xx0, xx1]
            case h2 => exact ⟨rfl, HW.out ▸ (below_at (below_at bel or0 _ _) or0 _ _)⟩
          · have qk : (kk == [80, 70]) = true := by simp [hk]
            have qF : (F != 0) = false := by simp [hF]
            have qF2 : (F == 0) = true := by simp [hF]
            have qt : decide (tn > 1099511627776) = false := decide_eq_false ht
            have ql : decide ((tl.length : Int) > 960) = false := decide_eq_false (by omega)
            have hE := HD3.out
            rw [if_neg (by simp [hk, hF]; omega)] at hE
            cases hE
            clear HD3 hk
            have r0c0 := r0.cell 0
            have r0c1 := r0.cell 1
            simp at r0c0 r0c1
            have r0lt := r0.lt
            have rdlt := rd.lt
            go_wp2_with fail
            clear r0c0 r0c1 r0lt rdlt
            obtain ⟨w5, hw5⟩ : ∃ x, y3.alloc (.cells #[.int .i64 T, .string (bstr L)] 28) = x := ⟨_, rfl⟩
            obtain ⟨iub, hiub⟩ : ∃ i, y3.heap.size = i := ⟨_, rfl⟩
            have ub : Blk w5 iub 28 #[.int .i64 T, .string (bstr L)] := by rw [← hw5, ← hiub]; exact Blk.new _ _ _
            have k5 : Below y3.heap.size y3 w5 := by rw [← hw5]; exact (Below.refl _ _).alloc (Nat.le_refl _) _
            have zub : w5.heap.size = iub + 1 := by rw [← hw5, ← hiub]; simp
            rw [hw5, hiub]
            have oub : w.heap.size ≤ iub := by rw [← hiub]; exact bel.size
            have nr0ub : ir0 ≠ iub := by have := r0.lt; omega
            have nrdub : ird ≠ iub := by have := rd.lt; omega
            have r0 := r0.below k5 r0.lt
            have rd := rd.below k5 rd.lt
            have bel := hthen bel k5
            clear k5
            clear hw5 hiub
            have r0c0 := r0.cell 0
            have r0c1 := r0.cell 1
            simp at r0c0 r0c1
            have r0lt := r0.lt
            have rdlt := rd.lt
            have ubc0 := ub.cell 0
            have ubc1 := ub.cell 1
            simp at ubc0 ubc1
            have ublt := ub.lt
            go_wp2_with fail
            refine (end_to H4.out ird _ rd).mono ?_
            rintro e y9 ⟨rfl, rfl⟩
            clear r0c0 r0c1 r0lt rdlt ubc0 ubc1 ublt
            have r0c0 := r0.cell 0
            have r0c1 := r0.cell 1
            simp at r0c0 r0c1
            have r0lt := r0.lt
            have rdlt := rd.lt
            have ubc0 := ub.cell 0
            have ubc1 := ub.cell 1
            simp at ubc0 ubc1
            have ublt := ub.lt
            have rf0 := r0.frozen 0
            have rf1 := r0.frozen 1
            go_wp2
            have xx := r0.put2 (.int .i64 T) (.string (bstr L))
            have xx0 := xx.cell 0
            have xx1 := xx.cell 1
            simp at xx0 xx1
            refine bodyPost_ret (v := .tuple #[.agg #[.int .i64 T, .string (bstr L)], .int .i64 0]) ?h1 rfl ?h2
            case h1 => simp [results, Tryd.results13, go_sem, xx0, xx1]
            case h2 => exact ⟨rfl, HW.out ▸ (below_at (below_at bel or0 _ _) or0 _ _)⟩
      · have qk : (kk == [80, 70]) = true := by simp [hk]
        have qF : (F != 0) = true := bne_iff_ne.2 hF
        have qF2 : (F == 0) = false := beq_eq_false_iff_ne.2 hF
        have hE := HD3.out
        rw [if_pos (.inr (.inl hF))] at hE
        cases hE
        clear HD3 hk
        have r0c0 := r0.cell 0
        have r0c1 := r0.cell 1
        simp at r0c0 r0c1
        have r0lt := r0.lt
        have rdlt := rd.lt
        go_wp2_with fail
        clear r0c0 r0c1 r0lt rdlt
        obtain ⟨w5, hw5⟩ : ∃ x, y3.alloc (.cells #[.int .i64 tn, .string (bstr tl)] 28) = x := ⟨_, rfl⟩
        obtain ⟨iub, hiub⟩ : ∃ i, y3.heap.size = i := ⟨_, rfl⟩
        have ub : Blk w5 iub 28 #[.int .i64 tn, .string (bstr tl)] := by rw [← hw5, ← hiub]; exact Blk.new _ _ _
        have k5 : Below y3.heap.size y3 w5 := by rw [← hw5]; exact (Below.refl _ _).alloc (Nat.le_refl _) _
        have zub : w5.heap.size = iub + 1 := by rw [← hw5, ← hiub]; simp
        rw [hw5, hiub]
        have oub : w.heap.size ≤ iub := by rw [← hiub]; exact bel.size
        have nr0ub : ir0 ≠ iub := by have := r0.lt; omega
        have nrdub : ird ≠ iub := by have := rd.lt; omega
        have r0 := r0.below k5 r0.lt
        have rd := rd.below k5 rd.lt
        have bel := hthen bel k5
        clear k5
        clear hw5 hiub
        have r0c0 := r0.cell 0
        have r0c1 := r0.cell 1
        simp at r0c0 r0c1
        have r0lt := r0.lt
        have rdlt := rd.lt
        have ubc0 := ub.cell 0
        have ubc1 := ub.cell 1
        simp at ubc0 ubc1
        have ublt := ub.lt
        go_wp2_with fail
        refine (end_to H4.out ird _ rd).mono ?_
        rintro e y9 ⟨rfl, rfl⟩
        clear r0c0 r0c1 r0lt rdlt ubc0 ubc1 ublt
        have r0c0 := r0.cell 0
        have r0c1 := r0.cell 1
        simp at r0c0 r0c1
        have r0lt := r0.lt
        have rdlt := rd.lt
        have ubc0 := ub.cell 0
        have ubc1 := ub.cell 1
        simp at ubc0 ubc1
        have ublt := ub.lt
        have rf0 := r0.frozen 0
        have rf1 := r0.frozen 1
        go_wp2
        have xx := r0.put2 (.int .i64 0) (.string ⟨#[]⟩)
        have xx0 := xx.cell 0
        have xx1 := xx.cell 1
        simp at xx0 xx1
        refine bodyPost_ret (v := .tuple #[.agg #[.int .i64 0, .string ⟨#[]⟩], .int .i64 3]) ?h1 rfl ?h2
        case h1 => simp [results, Tryd.results13, go_sem, xx0, xx1]
        case h2 => exact ⟨rfl, HW.out ▸ (below_at (below_at bel or0 _ _) or0 _ _)⟩
    · have qk : (kk == [80, 70]) = false := beq_eq_false_iff_ne.2 hk
      have hE := HD3.out
      rw [if_pos (.inl hk)] at hE
      cases hE
      clear HD3 hk
      have r0c0 := r0.cell 0
      have r0c1 := r0.cell 1
      simp at r0c0 r0c1
      have r0lt := r0.lt
      have rdlt := rd.lt
      have rf0 := r0.frozen 0
      have rf1 := r0.frozen 1
      go_wp2
      have xx := r0.put2 (.int .i64 0) (.string ⟨#[]⟩)
      have xx := xx.alloc (.cells #[.int .i64 tn, .string (bstr tl)] 28)
      have xx0 := xx.cell 0
      have xx1 := xx.cell 1
      simp at xx0 xx1
      refine bodyPost_ret (v := .tuple #[.agg #[.int .i64 0, .string ⟨#[]⟩], .int .i64 3]) ?h1 rfl ?h2
      case h1 => simp [results, Tryd.results13, go_sem, xx0, xx1]
      case h2 => exact ⟨rfl, HW.out ▸ ((below_at (below_at bel or0 _ _) or0 _ _).alloc (by simpa using bel.size) _)⟩
  · have qq : (SH == dd) = false := beq_eq_false_iff_ne.2 hq
    have hE := HD.out
    rw [if_pos hq] at hE
    cases hE
    clear hq HD
    have r0c0 := r0.cell 0
    have r0c1 := r0.cell 1
    simp at r0c0 r0c1
    have r0lt := r0.lt
    have rf0 := r0.frozen 0
    have rf1 := r0.frozen 1
    go_wp2
    have xx := r0.put2 (.int .i64 0) (.string ⟨#[]⟩)
    have xx0 := xx.cell 0
    have xx1 := xx.cell 1
    simp at xx0 xx1
    refine bodyPost_ret (v := .tuple #[.agg #[.int .i64 0, .string ⟨#[]⟩], .int .i64 4]) ?h1 rfl ?h2
    case h1 => simp [results, Tryd.results13, go_sem, xx0, xx1]
    case h2 => exact ⟨rfl, HW.out ▸ (below_at (below_at bel or0 _ _) or0 _ _)⟩
end
theorem uenc_to {u : Ub} {q : List UInt8} {e0 : Int} (hq : ubL u = q) (he : ubE u = e0) (hl : u.load.length ≤ 140737488351232) (w : World) (hR : RootsAt w) :
    Calls Tryd.prog 9 #[.agg #[.int .i64 u.txg, .string (bstr u.load)]] w fun e w' => e = .returned (.tuple #[.string (bstr q), .int .i64 e0]) ∧ Below w.heap.size w w' := by
  subst hq; subst he; exact uenc_any u hl w hR
theorem udec_to {s : List UInt8} {t : Int} {l : List UInt8} {e0 : Int} (hd : ubD s = (⟨t, l⟩, e0)) (hs : s.length ≤ 140737488351232) (w : World) (hR : RootsAt w) :
    Calls Tryd.prog 13 #[.string (bstr s)] w fun e w' => e = .returned (.tuple #[.agg #[.int .i64 t, .string (bstr l)], .int .i64 e0]) ∧ Below w.heap.size w w' := by
  have := udec_any s hs w hR
  rwa [hd] at this
end Go.Proofs.YtcamcjcmhjldpaaDoor
