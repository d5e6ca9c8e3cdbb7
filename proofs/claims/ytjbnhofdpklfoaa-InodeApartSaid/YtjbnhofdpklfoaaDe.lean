/- What Decode computes, of package inode: a contract of its call. -/
import Derived.Test.YtjbnhofdpklfoaaIn
namespace Go.Proofs.Ytjbnhofdpklfoaa
open Go.RowKit
set_option linter.unusedSimpArgs false
set_option linter.unnecessarySimpa false
set_option linter.unusedVariables false

def inoV (i : Ino) : Value := .tuple #[.agg #[.bool i.d, .int .i64 i.s, .int .i64 i.l], .int .i64 i.e]

set_option maxHeartbeats 1000000 in
theorem dec_short (s : List UInt8) (hs : s.length < 9) (w : World) :
    Calls Try.prog 19 #[.string (bstr s)] w fun e w' => e = .returned (inoV (decL s)) ∧ Below w.heap.size w w' := by
  rw [decL_short hs]
  go_enter Try.func19, Try.ntmps19
  go_wp2
  exact bodyPost_ret (v := inoV ⟨false, 0, 0, 2⟩) (by simp [results, Try.results19, go_sem, inoV]) rfl ⟨rfl, (Below.refl _ _).alloc (Nat.le_refl _) _⟩

set_option maxHeartbeats 2000000 in
theorem dec_long (k a0 a1 a2 a3 b0 b1 b2 b3 : UInt8) (rest : List UInt8) (hr : rest.length ≤ 140737488351232) (w : World) :
    Calls Try.prog 19 #[.string (bstr (k :: a0 :: a1 :: a2 :: a3 :: b0 :: b1 :: b2 :: b3 :: rest))] w fun e w' => e = .returned (inoV (decL (k :: a0 :: a1 :: a2 :: a3 :: b0 :: b1 :: b2 :: b3 :: rest))) ∧ Below w.heap.size w w' := by
  rw [decL_long]
  have L1 : (k :: a0 :: a1 :: a2 :: a3 :: b0 :: b1 :: b2 :: b3 :: rest).length ≤ 9223372036854775807 := by simp; omega
  have L2 : (a0 :: a1 :: a2 :: a3 :: b0 :: b1 :: b2 :: b3 :: rest).length ≤ 9223372036854775807 := by simp; omega
  have L3 : (b0 :: b1 :: b2 :: b3 :: rest).length ≤ 9223372036854775807 := by simp; omega
  replace L1 := Lib.hid L1
  replace L2 := Lib.hid L2
  replace L3 := Lib.hid L3
  have n1 := Rd.number_app [k] (a0 :: a1 :: a2 :: a3 :: b0 :: b1 :: b2 :: b3 :: rest) 1 rfl (by decide) (by decide)
  have n2 := Rd.number_app [a0, a1, a2, a3] (b0 :: b1 :: b2 :: b3 :: rest) 4 rfl (by decide) (by decide)
  have n3 := Rd.number_app [b0, b1, b2, b3] rest 4 rfl (by decide) (by decide)
  have hk := k.toNat_lt
  have ek : leN [k] = k.toNat := by simp [leN]
  rw [ek] at n1
  have hA := leN_lt [a0, a1, a2, a3]
  have hB := leN_lt [b0, b1, b2, b3]
  simp only [List.length_cons, List.length_nil] at hA hB
  obtain ⟨x, hx⟩ : ∃ x, leN [a0, a1, a2, a3] = x := ⟨_, rfl⟩
  obtain ⟨y, hy⟩ : ∃ y, leN [b0, b1, b2, b3] = y := ⟨_, rfl⟩
  obtain ⟨c, hc⟩ : ∃ c, k.toNat = c := ⟨_, rfl⟩
  rw [hx] at n2 hA ⊢
  rw [hy] at n3 hB ⊢
  rw [hc] at n1 hk ⊢
  have hx4 : x ≤ 4294967295 := by simp at hA; omega
  have hy4 : y ≤ 4294967295 := by simp at hB; omega
  have hc4 : c ≤ 255 := by simp at hk; omega
  have N1 := Lib.hid n1
  have N2 := Lib.hid n2
  have N3 := Lib.hid n3
  clear n1 n2 n3 ek hx hy hc hA hB hk
  by_cases g0 : rest = []
  · subst g0
    by_cases g1 : c ≤ 1
    · cases hX : inB (x : Int) with
      | true =>
        have hX2 := inB_true.1 hX
        have HX := Lib.hid hX
        clear hX
        cases hY : inB (y : Int) with
        | true =>
          have hY2 := inB_true.1 hY
          rw [if_pos ⟨rfl, g1, by omega, by omega⟩]
          have HY := Lib.hid hY
          clear hY hX2 hY2
          by_cases g2 : c = 1
          · subst g2
            go_enter Try.func19, Try.ntmps19
            go_wp2_with fail
            refine (read_any _ _).mono ?_
            rintro e w1 ⟨rfl, r1, b1⟩
            have e0 : (w.alloc (.cells #[.bool false, .int .i64 0, .int .i64 0] 34)).heap.size = w.heap.size + 1 := by simp
            rw [e0] at r1 b1
            try rw [e0]
            have hb1 : Blk w1 w.heap.size 34 #[.bool false, .int .i64 0, .int .i64 0] := (Blk.new w _ _).below b1 (by omega)
            have hk1 : Below w.heap.size w w1 := ((Below.refl _ _).alloc (Nat.le_refl _) _).trans (b1.mono (by omega))
            obtain ⟨g, hg⟩ : ∃ g, w.heap.size + 1 = g := ⟨_, rfl⟩
            have hgw : w.heap.size < g := by omega
            have hz1 : w.heap.size < w1.heap.size := hb1.lt
            rw [hg] at r1 ⊢
            clear b1 hg e0
            go_wp2_with fail
            refine (number_to N1.out _ _ r1 L1.out).mono ?_
            rintro e w2 ⟨rfl, r2, b2⟩
            go_wp2_with fail
            refine (number_to N2.out _ _ r2 L2.out).mono ?_
            rintro e w3 ⟨rfl, r3, b3⟩
            go_wp2_with fail
            refine (number_to N3.out _ _ r3 L3.out).mono ?_
            rintro e w4 ⟨rfl, r4, b4⟩
            have z2 := b2.size
            have z3 := b3.size
            have k2 := b2.mono (B' := w1.heap.size) (S' := (· = g)) (Nat.le_refl _) (fun _ _ h => h)
            have k3 := b3.mono (B' := w1.heap.size) (S' := (· = g)) z2 (fun _ _ h => h)
            have k4 := b4.mono (B' := w1.heap.size) (S' := (· = g)) (Nat.le_trans z2 z3) (fun _ _ h => h)
            have kk := (k2.trans k3).trans k4
            have hb4 := hb1.keep kk hz1 (by omega)
            have hk4 := hk1.trans (kk.mono (B' := w.heap.size) (S' := fun _ => False) (by omega) (fun j hj e => by omega)).below
            have c0 := hb4.cell 0
            have c1 := hb4.cell 1
            have c2 := hb4.cell 2
            have f0 := hb4.frozen 0
            have f1 := hb4.frozen 1
            have f2 := hb4.frozen 2
            simp at c0 c1 c2
            obtain ⟨R, hR⟩ : ∃ R, w.heap.size = R := ⟨_, rfl⟩
            have hz4 : w.heap.size < w4.heap.size := hb4.lt
            rw [hR] at c0 c1 c2 f0 f1 f2 hk4 hz4 ⊢
            have HR := Lib.hid hR
            clear hb4 hk1 hb1 b2 b3 b4 k2 k3 k4 kk hz1 z2 z3 r1 r2 r3 hgw hR
            go_wp2_with fail
            refine (end_to (r := ⟨[], 0⟩) (n := 0) rfl _ _ (Blk.alloc r4 _)).mono ?_
            rintro e _ ⟨rfl, rfl⟩
            go_wp2_with fail
            refine (in_to HX.out _).mono ?_
            rintro e _ ⟨rfl, rfl⟩
            go_wp2_with fail
            refine (in_to HY.out _).mono ?_
            rintro e _ ⟨rfl, rfl⟩
            go_wp2
            exact bodyPost_ret (v := inoV ⟨true, x, y, 0⟩) (by simp [results, Try.results19, go_sem, inoV, *]) rfl ⟨rfl, by rw [HR.out]; repeat (first | exact hk4 | refine below_at ?_ (Nat.le_refl _) _ _ | refine Below.alloc ?_ (by simp; omega) _)⟩
          · obtain rfl : c = 0 := by omega
            go_enter Try.func19, Try.ntmps19
            go_wp2_with fail
            refine (read_any _ _).mono ?_
            rintro e w1 ⟨rfl, r1, b1⟩
            have e0 : (w.alloc (.cells #[.bool false, .int .i64 0, .int .i64 0] 34)).heap.size = w.heap.size + 1 := by simp
            rw [e0] at r1 b1
            try rw [e0]
            have hb1 : Blk w1 w.heap.size 34 #[.bool false, .int .i64 0, .int .i64 0] := (Blk.new w _ _).below b1 (by omega)
            have hk1 : Below w.heap.size w w1 := ((Below.refl _ _).alloc (Nat.le_refl _) _).trans (b1.mono (by omega))
            obtain ⟨g, hg⟩ : ∃ g, w.heap.size + 1 = g := ⟨_, rfl⟩
            have hgw : w.heap.size < g := by omega
            have hz1 : w.heap.size < w1.heap.size := hb1.lt
            rw [hg] at r1 ⊢
            clear b1 hg e0
            go_wp2_with fail
            refine (number_to N1.out _ _ r1 L1.out).mono ?_
            rintro e w2 ⟨rfl, r2, b2⟩
            go_wp2_with fail
            refine (number_to N2.out _ _ r2 L2.out).mono ?_
            rintro e w3 ⟨rfl, r3, b3⟩
            go_wp2_with fail
            refine (number_to N3.out _ _ r3 L3.out).mono ?_
            rintro e w4 ⟨rfl, r4, b4⟩
            have z2 := b2.size
            have z3 := b3.size
            have k2 := b2.mono (B' := w1.heap.size) (S' := (· = g)) (Nat.le_refl _) (fun _ _ h => h)
            have k3 := b3.mono (B' := w1.heap.size) (S' := (· = g)) z2 (fun _ _ h => h)
            have k4 := b4.mono (B' := w1.heap.size) (S' := (· = g)) (Nat.le_trans z2 z3) (fun _ _ h => h)
            have kk := (k2.trans k3).trans k4
            have hb4 := hb1.keep kk hz1 (by omega)
            have hk4 := hk1.trans (kk.mono (B' := w.heap.size) (S' := fun _ => False) (by omega) (fun j hj e => by omega)).below
            have c0 := hb4.cell 0
            have c1 := hb4.cell 1
            have c2 := hb4.cell 2
            have f0 := hb4.frozen 0
            have f1 := hb4.frozen 1
            have f2 := hb4.frozen 2
            simp at c0 c1 c2
            obtain ⟨R, hR⟩ : ∃ R, w.heap.size = R := ⟨_, rfl⟩
            have hz4 : w.heap.size < w4.heap.size := hb4.lt
            rw [hR] at c0 c1 c2 f0 f1 f2 hk4 hz4 ⊢
            have HR := Lib.hid hR
            clear hb4 hk1 hb1 b2 b3 b4 k2 k3 k4 kk hz1 z2 z3 r1 r2 r3 hgw hR
            go_wp2_with fail
            refine (end_to (r := ⟨[], 0⟩) (n := 0) rfl _ _ (Blk.alloc r4 _)).mono ?_
            rintro e _ ⟨rfl, rfl⟩
            go_wp2_with fail
            refine (in_to HX.out _).mono ?_
            rintro e _ ⟨rfl, rfl⟩
            go_wp2_with fail
            refine (in_to HY.out _).mono ?_
            rintro e _ ⟨rfl, rfl⟩
            go_wp2
            exact bodyPost_ret (v := inoV ⟨false, x, y, 0⟩) (by simp [results, Try.results19, go_sem, inoV, *]) rfl ⟨rfl, by rw [HR.out]; repeat (first | exact hk4 | refine below_at ?_ (Nat.le_refl _) _ _ | refine Below.alloc ?_ (by simp; omega) _)⟩
        | false =>
          have hY2 : ¬ (y : Nat) ≤ 2147483648 := by intro h; have := inB_true.2 (show 0 ≤ (y : Int) ∧ (y : Int) ≤ 2147483648 by omega); rw [this] at hY; cases hY
          rw [if_neg (fun h => hY2 h.2.2.2)]
          have HY := Lib.hid hY
          clear hY hX2 hY2
          go_enter Try.func19, Try.ntmps19
          go_wp2_with fail
          refine (read_any _ _).mono ?_
          rintro e w1 ⟨rfl, r1, b1⟩
          have e0 : (w.alloc (.cells #[.bool false, .int .i64 0, .int .i64 0] 34)).heap.size = w.heap.size + 1 := by simp
          rw [e0] at r1 b1
          try rw [e0]
          have hb1 : Blk w1 w.heap.size 34 #[.bool false, .int .i64 0, .int .i64 0] := (Blk.new w _ _).below b1 (by omega)
          have hk1 : Below w.heap.size w w1 := ((Below.refl _ _).alloc (Nat.le_refl _) _).trans (b1.mono (by omega))
          obtain ⟨g, hg⟩ : ∃ g, w.heap.size + 1 = g := ⟨_, rfl⟩
          have hgw : w.heap.size < g := by omega
          have hz1 : w.heap.size < w1.heap.size := hb1.lt
          rw [hg] at r1 ⊢
          clear b1 hg e0
          go_wp2_with fail
          refine (number_to N1.out _ _ r1 L1.out).mono ?_
          rintro e w2 ⟨rfl, r2, b2⟩
          go_wp2_with fail
          refine (number_to N2.out _ _ r2 L2.out).mono ?_
          rintro e w3 ⟨rfl, r3, b3⟩
          go_wp2_with fail
          refine (number_to N3.out _ _ r3 L3.out).mono ?_
          rintro e w4 ⟨rfl, r4, b4⟩
          have z2 := b2.size
          have z3 := b3.size
          have k2 := b2.mono (B' := w1.heap.size) (S' := (· = g)) (Nat.le_refl _) (fun _ _ h => h)
          have k3 := b3.mono (B' := w1.heap.size) (S' := (· = g)) z2 (fun _ _ h => h)
          have k4 := b4.mono (B' := w1.heap.size) (S' := (· = g)) (Nat.le_trans z2 z3) (fun _ _ h => h)
          have kk := (k2.trans k3).trans k4
          have hb4 := hb1.keep kk hz1 (by omega)
          have hk4 := hk1.trans (kk.mono (B' := w.heap.size) (S' := fun _ => False) (by omega) (fun j hj e => by omega)).below
          have c0 := hb4.cell 0
          have c1 := hb4.cell 1
          have c2 := hb4.cell 2
          have f0 := hb4.frozen 0
          have f1 := hb4.frozen 1
          have f2 := hb4.frozen 2
          simp at c0 c1 c2
          obtain ⟨R, hR⟩ : ∃ R, w.heap.size = R := ⟨_, rfl⟩
          have hz4 : w.heap.size < w4.heap.size := hb4.lt
          rw [hR] at c0 c1 c2 f0 f1 f2 hk4 hz4 ⊢
          have HR := Lib.hid hR
          clear hb4 hk1 hb1 b2 b3 b4 k2 k3 k4 kk hz1 z2 z3 r1 r2 r3 hgw hR
          go_wp2_with fail
          refine (end_to (r := ⟨[], 0⟩) (n := 0) rfl _ _ (Blk.alloc r4 _)).mono ?_
          rintro e _ ⟨rfl, rfl⟩
          go_wp2_with fail
          refine (in_to HX.out _).mono ?_
          rintro e _ ⟨rfl, rfl⟩
          go_wp2_with fail
          refine (in_to HY.out _).mono ?_
          rintro e _ ⟨rfl, rfl⟩
          go_wp2
          exact bodyPost_ret (v := inoV ⟨false, 0, 0, 3⟩) (by simp [results, Try.results19, go_sem, inoV, *]) rfl ⟨rfl, by rw [HR.out]; repeat (first | exact hk4 | refine below_at ?_ (Nat.le_refl _) _ _ | refine Below.alloc ?_ (by simp; omega) _)⟩
      | false =>
        have hX2 : ¬ (x : Nat) ≤ 2147483648 := by intro h; have := inB_true.2 (show 0 ≤ (x : Int) ∧ (x : Int) ≤ 2147483648 by omega); rw [this] at hX; cases hX
        rw [if_neg (fun h => hX2 h.2.2.1)]
        have HX := Lib.hid hX
        clear hX hX2
        go_enter Try.func19, Try.ntmps19
        go_wp2_with fail
        refine (read_any _ _).mono ?_
        rintro e w1 ⟨rfl, r1, b1⟩
        have e0 : (w.alloc (.cells #[.bool false, .int .i64 0, .int .i64 0] 34)).heap.size = w.heap.size + 1 := by simp
        rw [e0] at r1 b1
        try rw [e0]
        have hb1 : Blk w1 w.heap.size 34 #[.bool false, .int .i64 0, .int .i64 0] := (Blk.new w _ _).below b1 (by omega)
        have hk1 : Below w.heap.size w w1 := ((Below.refl _ _).alloc (Nat.le_refl _) _).trans (b1.mono (by omega))
        obtain ⟨g, hg⟩ : ∃ g, w.heap.size + 1 = g := ⟨_, rfl⟩
        have hgw : w.heap.size < g := by omega
        have hz1 : w.heap.size < w1.heap.size := hb1.lt
        rw [hg] at r1 ⊢
        clear b1 hg e0
        go_wp2_with fail
        refine (number_to N1.out _ _ r1 L1.out).mono ?_
        rintro e w2 ⟨rfl, r2, b2⟩
        go_wp2_with fail
        refine (number_to N2.out _ _ r2 L2.out).mono ?_
        rintro e w3 ⟨rfl, r3, b3⟩
        go_wp2_with fail
        refine (number_to N3.out _ _ r3 L3.out).mono ?_
        rintro e w4 ⟨rfl, r4, b4⟩
        have z2 := b2.size
        have z3 := b3.size
        have k2 := b2.mono (B' := w1.heap.size) (S' := (· = g)) (Nat.le_refl _) (fun _ _ h => h)
        have k3 := b3.mono (B' := w1.heap.size) (S' := (· = g)) z2 (fun _ _ h => h)
        have k4 := b4.mono (B' := w1.heap.size) (S' := (· = g)) (Nat.le_trans z2 z3) (fun _ _ h => h)
        have kk := (k2.trans k3).trans k4
        have hb4 := hb1.keep kk hz1 (by omega)
        have hk4 := hk1.trans (kk.mono (B' := w.heap.size) (S' := fun _ => False) (by omega) (fun j hj e => by omega)).below
        have c0 := hb4.cell 0
        have c1 := hb4.cell 1
        have c2 := hb4.cell 2
        have f0 := hb4.frozen 0
        have f1 := hb4.frozen 1
        have f2 := hb4.frozen 2
        simp at c0 c1 c2
        obtain ⟨R, hR⟩ : ∃ R, w.heap.size = R := ⟨_, rfl⟩
        have hz4 : w.heap.size < w4.heap.size := hb4.lt
        rw [hR] at c0 c1 c2 f0 f1 f2 hk4 hz4 ⊢
        have HR := Lib.hid hR
        clear hb4 hk1 hb1 b2 b3 b4 k2 k3 k4 kk hz1 z2 z3 r1 r2 r3 hgw hR
        go_wp2_with fail
        refine (end_to (r := ⟨[], 0⟩) (n := 0) rfl _ _ (Blk.alloc r4 _)).mono ?_
        rintro e _ ⟨rfl, rfl⟩
        go_wp2_with fail
        refine (in_to HX.out _).mono ?_
        rintro e _ ⟨rfl, rfl⟩
        go_wp2
        exact bodyPost_ret (v := inoV ⟨false, 0, 0, 3⟩) (by simp [results, Try.results19, go_sem, inoV, *]) rfl ⟨rfl, by rw [HR.out]; repeat (first | exact hk4 | refine below_at ?_ (Nat.le_refl _) _ _ | refine Below.alloc ?_ (by simp; omega) _)⟩
    · rw [if_neg (fun h => g1 h.2.1)]
      go_enter Try.func19, Try.ntmps19
      go_wp2_with fail
      refine (read_any _ _).mono ?_
      rintro e w1 ⟨rfl, r1, b1⟩
      have e0 : (w.alloc (.cells #[.bool false, .int .i64 0, .int .i64 0] 34)).heap.size = w.heap.size + 1 := by simp
      rw [e0] at r1 b1
      try rw [e0]
      have hb1 : Blk w1 w.heap.size 34 #[.bool false, .int .i64 0, .int .i64 0] := (Blk.new w _ _).below b1 (by omega)
      have hk1 : Below w.heap.size w w1 := ((Below.refl _ _).alloc (Nat.le_refl _) _).trans (b1.mono (by omega))
      obtain ⟨g, hg⟩ : ∃ g, w.heap.size + 1 = g := ⟨_, rfl⟩
      have hgw : w.heap.size < g := by omega
      have hz1 : w.heap.size < w1.heap.size := hb1.lt
      rw [hg] at r1 ⊢
      clear b1 hg e0
      go_wp2_with fail
      refine (number_to N1.out _ _ r1 L1.out).mono ?_
      rintro e w2 ⟨rfl, r2, b2⟩
      go_wp2_with fail
      refine (number_to N2.out _ _ r2 L2.out).mono ?_
      rintro e w3 ⟨rfl, r3, b3⟩
      go_wp2_with fail
      refine (number_to N3.out _ _ r3 L3.out).mono ?_
      rintro e w4 ⟨rfl, r4, b4⟩
      have z2 := b2.size
      have z3 := b3.size
      have k2 := b2.mono (B' := w1.heap.size) (S' := (· = g)) (Nat.le_refl _) (fun _ _ h => h)
      have k3 := b3.mono (B' := w1.heap.size) (S' := (· = g)) z2 (fun _ _ h => h)
      have k4 := b4.mono (B' := w1.heap.size) (S' := (· = g)) (Nat.le_trans z2 z3) (fun _ _ h => h)
      have kk := (k2.trans k3).trans k4
      have hb4 := hb1.keep kk hz1 (by omega)
      have hk4 := hk1.trans (kk.mono (B' := w.heap.size) (S' := fun _ => False) (by omega) (fun j hj e => by omega)).below
      have c0 := hb4.cell 0
      have c1 := hb4.cell 1
      have c2 := hb4.cell 2
      have f0 := hb4.frozen 0
      have f1 := hb4.frozen 1
      have f2 := hb4.frozen 2
      simp at c0 c1 c2
      obtain ⟨R, hR⟩ : ∃ R, w.heap.size = R := ⟨_, rfl⟩
      have hz4 : w.heap.size < w4.heap.size := hb4.lt
      rw [hR] at c0 c1 c2 f0 f1 f2 hk4 hz4 ⊢
      have HR := Lib.hid hR
      clear hb4 hk1 hb1 b2 b3 b4 k2 k3 k4 kk hz1 z2 z3 r1 r2 r3 hgw hR
      go_wp2_with fail
      refine (end_to (r := ⟨[], 0⟩) (n := 0) rfl _ _ (Blk.alloc r4 _)).mono ?_
      rintro e _ ⟨rfl, rfl⟩
      go_wp2
      exact bodyPost_ret (v := inoV ⟨false, 0, 0, 3⟩) (by simp [results, Try.results19, go_sem, inoV, *]) rfl ⟨rfl, by rw [HR.out]; repeat (first | exact hk4 | refine below_at ?_ (Nat.le_refl _) _ _ | refine Below.alloc ?_ (by simp; omega) _)⟩
  · rw [if_neg (fun h => g0 h.1)]
    have FE : Hid (Rd.fin ⟨rest, 0⟩ = 3) := by show Rd.fin _ = 3; simp [Rd.fin, g0]
    go_enter Try.func19, Try.ntmps19
    go_wp2_with fail
    refine (read_any _ _).mono ?_
    rintro e w1 ⟨rfl, r1, b1⟩
    have e0 : (w.alloc (.cells #[.bool false, .int .i64 0, .int .i64 0] 34)).heap.size = w.heap.size + 1 := by simp
    rw [e0] at r1 b1
    try rw [e0]
    have hb1 : Blk w1 w.heap.size 34 #[.bool false, .int .i64 0, .int .i64 0] := (Blk.new w _ _).below b1 (by omega)
    have hk1 : Below w.heap.size w w1 := ((Below.refl _ _).alloc (Nat.le_refl _) _).trans (b1.mono (by omega))
    obtain ⟨g, hg⟩ : ∃ g, w.heap.size + 1 = g := ⟨_, rfl⟩
    have hgw : w.heap.size < g := by omega
    have hz1 : w.heap.size < w1.heap.size := hb1.lt
    rw [hg] at r1 ⊢
    clear b1 hg e0
    go_wp2_with fail
    refine (number_to N1.out _ _ r1 L1.out).mono ?_
    rintro e w2 ⟨rfl, r2, b2⟩
    go_wp2_with fail
    refine (number_to N2.out _ _ r2 L2.out).mono ?_
    rintro e w3 ⟨rfl, r3, b3⟩
    go_wp2_with fail
    refine (number_to N3.out _ _ r3 L3.out).mono ?_
    rintro e w4 ⟨rfl, r4, b4⟩
    have z2 := b2.size
    have z3 := b3.size
    have k2 := b2.mono (B' := w1.heap.size) (S' := (· = g)) (Nat.le_refl _) (fun _ _ h => h)
    have k3 := b3.mono (B' := w1.heap.size) (S' := (· = g)) z2 (fun _ _ h => h)
    have k4 := b4.mono (B' := w1.heap.size) (S' := (· = g)) (Nat.le_trans z2 z3) (fun _ _ h => h)
    have kk := (k2.trans k3).trans k4
    have hb4 := hb1.keep kk hz1 (by omega)
    have hk4 := hk1.trans (kk.mono (B' := w.heap.size) (S' := fun _ => False) (by omega) (fun j hj e => by omega)).below
    have c0 := hb4.cell 0
    have c1 := hb4.cell 1
    have c2 := hb4.cell 2
    have f0 := hb4.frozen 0
    have f1 := hb4.frozen 1
    have f2 := hb4.frozen 2
    simp at c0 c1 c2
    obtain ⟨R, hR⟩ : ∃ R, w.heap.size = R := ⟨_, rfl⟩
    have hz4 : w.heap.size < w4.heap.size := hb4.lt
    rw [hR] at c0 c1 c2 f0 f1 f2 hk4 hz4 ⊢
    have HR := Lib.hid hR
    clear hb4 hk1 hb1 b2 b3 b4 k2 k3 k4 kk hz1 z2 z3 r1 r2 r3 hgw hR
    go_wp2_with fail
    refine (end_to (r := ⟨rest, 0⟩) (n := 3) FE.out _ _ (Blk.alloc r4 _)).mono ?_
    rintro e _ ⟨rfl, rfl⟩
    go_wp2
    exact bodyPost_ret (v := inoV ⟨false, 0, 0, 3⟩) (by simp [results, Try.results19, go_sem, inoV, *]) rfl ⟨rfl, by rw [HR.out]; repeat (first | exact hk4 | refine below_at ?_ (Nat.le_refl _) _ _ | refine Below.alloc ?_ (by simp; omega) _)⟩

theorem dec_any (s : List UInt8) (hs : s.length ≤ 140737488351232) (w : World) :
    Calls Try.prog 19 #[.string (bstr s)] w fun e w' => e = .returned (inoV (decL s)) ∧ Below w.heap.size w w' := by
  by_cases h : s.length < 9
  · exact dec_short s h w
  · obtain ⟨k, a0, a1, a2, a3, b0, b1, b2, b3, rest, rfl⟩ := nine h
    exact dec_long k a0 a1 a2 a3 b0 b1 b2 b3 rest (by simp at hs; omega) w

end Go.Proofs.Ytjbnhofdpklfoaa
